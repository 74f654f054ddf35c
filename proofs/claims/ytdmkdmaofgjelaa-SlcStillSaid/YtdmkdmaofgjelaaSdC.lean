/- Special characters: what is heard. -/
import Derived.Test.YtdmkdmaofgjelaaScC
set_option linter.unusedSimpArgs false
set_option linter.unusedVariables false
set_option maxRecDepth 100000
namespace Go.Proofs.Ytdmkdmaofgjelaa
open Go.Sx

def ans (l v ol ov : Int) : Int × Int × Bool :=
  if l = 0 then (l, v, true) else if l = 3 then (ol, ov, false) else if ol = 2 then (l, v, true) else if l = 2 then (ol, ov, false) else (0, 0, false)
def rightT (f l v : Int) : Bool := decide (1 ≤ f) && decide (f ≤ 18) && fineB l v
def told (f l v : Int) (a : Bool) (hL hV : Ix → Int) : Bool := rightT f l v && !(a || (l == hL [f.toNat] && v == hV [f.toNat]))
abbrev Heard := (Int × Int × Int × Bool) × Bool
def hearR (f l v : Int) (a : Bool) (hL hV oL oV : Ix → Int) : Heard :=
  if told f l v a hL hV = true then ((f, (ans l v (oL [f.toNat]) (oV [f.toNat])).1, (ans l v (oL [f.toNat]) (oV [f.toNat])).2.1, (ans l v (oL [f.toNat]) (oV [f.toNat])).2.2), true) else ((0, 0, 0, false), false)
def hearS (f l v : Int) (a : Bool) (hL hV oL oV : Ix → Int) : (Ix → Int) × (Ix → Int) :=
  if told f l v a hL hV = true then (upd hL [f.toNat] (ans l v (oL [f.toNat]) (oV [f.toNat])).1, upd hV [f.toNat] (ans l v (oL [f.toNat]) (oV [f.toNat])).2.1) else (hL, hV)
def hearW (f l v : Int) (wt : Ix → Bool) : Ix → Bool := if rightT f l v = true then upd wt [f.toNat] false else wt
def hearSV (r : Heard) : SV := .tup [(true, triT r.1.1 r.1.2.1 r.1.2.2.1 r.1.2.2.2), (false, .vb fun _ => r.2)]

theorem hr_lo (f l v : Int) (a : Bool) (hL hV oL oV : Ix → Int) (wt : Ix → Bool) :
    isEnd (evTill Try.prog sums4 100 99 100 6 [.code (bodyOf Try.f6)] (envOf [.v (.vp 120 (fun _ => 0) []), .agg (triT f l v a)] 50) (sideE hL hV oL oV wt) ⟨[.s false, .t], 130⟩) (endP [] (hearSV ((0, 0, 0, false), false)) (sideE hL hV oL oV wt) 160) =
    (OkL [(decide (f ≥ (1 : Int)), false)] ∧
  (((0 : Int) = (0 : Int) ∧ ((0 : Int) = (0 : Int) ∧ (0 : Int) = (0 : Int)) ∧ false = false) ∧ false = false ∧ True) ∧
    (19 : Nat) = (19 : Nat) ∧
      ((∀ (i : Nat), i < (19 : Nat) → hL [i] = hL [i]) ∧ ∀ (i : Nat), i < (19 : Nat) → hV [i] = hV [i]) ∧
        ((∀ (i : Nat), i < (19 : Nat) → oL [i] = oL [i]) ∧ ∀ (i : Nat), i < (19 : Nat) → oV [i] = oV [i]) ∧
          ∀ (i : Nat), i < (19 : Nat) → wt [i] = wt [i]) := by kernel_rfl

theorem hr_hi (f l v : Int) (a : Bool) (hL hV oL oV : Ix → Int) (wt : Ix → Bool) :
    isEnd (evTill Try.prog sums4 100 99 100 6 [.code (bodyOf Try.f6)] (envOf [.v (.vp 120 (fun _ => 0) []), .agg (triT f l v a)] 50) (sideE hL hV oL oV wt) ⟨[.s true, .s false, .t], 130⟩) (endP [] (hearSV ((0, 0, 0, false), false)) (sideE hL hV oL oV wt) 160) =
    (OkL [(decide (f ≥ (1 : Int)), true), (decide (f ≤ (18 : Int)), false)] ∧
  (((0 : Int) = (0 : Int) ∧ ((0 : Int) = (0 : Int) ∧ (0 : Int) = (0 : Int)) ∧ false = false) ∧ false = false ∧ True) ∧
    (19 : Nat) = (19 : Nat) ∧
      ((∀ (i : Nat), i < (19 : Nat) → hL [i] = hL [i]) ∧ ∀ (i : Nat), i < (19 : Nat) → hV [i] = hV [i]) ∧
        ((∀ (i : Nat), i < (19 : Nat) → oL [i] = oL [i]) ∧ ∀ (i : Nat), i < (19 : Nat) → oV [i] = oV [i]) ∧
          ∀ (i : Nat), i < (19 : Nat) → wt [i] = wt [i]) := by kernel_rfl

theorem hr_bad (f l v : Int) (a : Bool) (hL hV oL oV : Ix → Int) (wt : Ix → Bool) :
    isEnd (evTill Try.prog sums4 100 99 100 6 [.code (bodyOf Try.f6)] (envOf [.v (.vp 120 (fun _ => 0) []), .agg (triT f l v a)] 50) (sideE hL hV oL oV wt) ⟨[.s true, .s true, .s true], 130⟩) (endP [] (hearSV ((0, 0, 0, false), false)) (sideE hL hV oL oV wt) 160) =
    (OkL [(decide (f ≥ (1 : Int)), true), (decide (f ≤ (18 : Int)), true), (!fineB l v, true)] ∧
  (((0 : Int) = (0 : Int) ∧ ((0 : Int) = (0 : Int) ∧ (0 : Int) = (0 : Int)) ∧ false = false) ∧ false = false ∧ True) ∧
    (19 : Nat) = (19 : Nat) ∧
      ((∀ (i : Nat), i < (19 : Nat) → hL [i] = hL [i]) ∧ ∀ (i : Nat), i < (19 : Nat) → hV [i] = hV [i]) ∧
        ((∀ (i : Nat), i < (19 : Nat) → oL [i] = oL [i]) ∧ ∀ (i : Nat), i < (19 : Nat) → oV [i] = oV [i]) ∧
          ∀ (i : Nat), i < (19 : Nat) → wt [i] = wt [i]) := by kernel_rfl

theorem hr_ack (f l v : Int) (a : Bool) (hL hV oL oV : Ix → Int) (wt : Ix → Bool) :
    isEnd (evTill Try.prog sums4 100 99 100 6 [.code (bodyOf Try.f6)] (envOf [.v (.vp 120 (fun _ => 0) []), .agg (triT f l v a)] 50) (sideE hL hV oL oV wt) ⟨[.s true, .s true, .s false, .s true, .s true, .s true], 130⟩) (endP [] (hearSV ((0, 0, 0, false), false)) (sideE hL hV oL oV (upd wt [f.toNat] false)) 160) =
    (OkL
    [(decide (f ≥ (1 : Int)), true), (decide (f ≤ (18 : Int)), true), (!fineB l v, false),
      (decide ((0 : Int) ≤ f ∧ f < (↑(19 : Nat) : Int)), true), (f.toNat.blt (19 : Nat), true), (a, true)] ∧
  (((0 : Int) = (0 : Int) ∧ ((0 : Int) = (0 : Int) ∧ (0 : Int) = (0 : Int)) ∧ false = false) ∧ false = false ∧ True) ∧
    (19 : Nat) = (19 : Nat) ∧
      ((∀ (i : Nat), i < (19 : Nat) → hL [i] = hL [i]) ∧ ∀ (i : Nat), i < (19 : Nat) → hV [i] = hV [i]) ∧
        ((∀ (i : Nat), i < (19 : Nat) → oL [i] = oL [i]) ∧ ∀ (i : Nat), i < (19 : Nat) → oV [i] = oV [i]) ∧
          ∀ (i : Nat), i < (19 : Nat) → upd wt [f.toNat] false [i] = upd wt [f.toNat] false [i]) := by kernel_rfl

theorem hr_same (f l v : Int) (a : Bool) (hL hV oL oV : Ix → Int) (wt : Ix → Bool) :
    isEnd (evTill Try.prog sums4 100 99 100 6 [.code (bodyOf Try.f6)] (envOf [.v (.vp 120 (fun _ => 0) []), .agg (triT f l v a)] 50) (sideE hL hV oL oV wt) ⟨[.s true, .s true, .s false, .s true, .s true, .s false, .s true, .s true], 130⟩) (endP [] (hearSV ((0, 0, 0, false), false)) (sideE hL hV oL oV (upd wt [f.toNat] false)) 160) =
    (OkL
    [(decide (f ≥ (1 : Int)), true), (decide (f ≤ (18 : Int)), true), (!fineB l v, false),
      (decide ((0 : Int) ≤ f ∧ f < (↑(19 : Nat) : Int)), true), (f.toNat.blt (19 : Nat), true), (a, false),
      (f.toNat.blt (19 : Nat), true), (l == hL [f.toNat] && (v == hV [f.toNat] && true), true)] ∧
  (((0 : Int) = (0 : Int) ∧ ((0 : Int) = (0 : Int) ∧ (0 : Int) = (0 : Int)) ∧ false = false) ∧ false = false ∧ True) ∧
    (19 : Nat) = (19 : Nat) ∧
      ((∀ (i : Nat), i < (19 : Nat) → hL [i] = hL [i]) ∧ ∀ (i : Nat), i < (19 : Nat) → hV [i] = hV [i]) ∧
        ((∀ (i : Nat), i < (19 : Nat) → oL [i] = oL [i]) ∧ ∀ (i : Nat), i < (19 : Nat) → oV [i] = oV [i]) ∧
          ∀ (i : Nat), i < (19 : Nat) → upd wt [f.toNat] false [i] = upd wt [f.toNat] false [i]) := by kernel_rfl

theorem hr_none (f l v : Int) (a : Bool) (hL hV oL oV : Ix → Int) (wt : Ix → Bool) :
    isEnd (evTill Try.prog sums4 100 99 100 6 [.code (bodyOf Try.f6)] (envOf [.v (.vp 120 (fun _ => 0) []), .agg (triT f l v a)] 50) (sideE hL hV oL oV wt) ⟨[.s true, .s true, .s false, .s true, .s true, .s false, .s true, .s false, .s true, .s true, .s true], 130⟩) (endP [] (hearSV ((f, l, v, true), true)) (sideE (upd hL [f.toNat] l) (upd hV [f.toNat] v) oL oV (upd wt [f.toNat] false)) 160) =
    (OkL
    [(decide (f ≥ (1 : Int)), true), (decide (f ≤ (18 : Int)), true), (!fineB l v, false),
      (decide ((0 : Int) ≤ f ∧ f < (↑(19 : Nat) : Int)), true), (f.toNat.blt (19 : Nat), true), (a, false),
      (f.toNat.blt (19 : Nat), true), (l == hL [f.toNat] && (v == hV [f.toNat] && true), false),
      (f.toNat.blt (19 : Nat), true), (l == (0 : Int), true), (f.toNat.blt (19 : Nat), true)] ∧
  ((f = f ∧ (l = l ∧ v = v) ∧ true = true) ∧ true = true ∧ True) ∧
    (19 : Nat) = (19 : Nat) ∧
      ((∀ (i : Nat), i < (19 : Nat) → upd hL [f.toNat] l [i] = upd hL [f.toNat] l [i]) ∧
          ∀ (i : Nat), i < (19 : Nat) → upd hV [f.toNat] v [i] = upd hV [f.toNat] v [i]) ∧
        ((∀ (i : Nat), i < (19 : Nat) → oL [i] = oL [i]) ∧ ∀ (i : Nat), i < (19 : Nat) → oV [i] = oV [i]) ∧
          ∀ (i : Nat), i < (19 : Nat) → upd wt [f.toNat] false [i] = upd wt [f.toNat] false [i]) := by kernel_rfl

theorem hr_dflt (f l v : Int) (a : Bool) (hL hV oL oV : Ix → Int) (wt : Ix → Bool) :
    isEnd (evTill Try.prog sums4 100 99 100 6 [.code (bodyOf Try.f6)] (envOf [.v (.vp 120 (fun _ => 0) []), .agg (triT f l v a)] 50) (sideE hL hV oL oV wt) ⟨[.s true, .s true, .s false, .s true, .s true, .s false, .s true, .s false, .s true, .s false, .s true, .s true, .s true], 130⟩) (endP [] (hearSV ((f, oL [f.toNat], oV [f.toNat], false), true)) (sideE (upd hL [f.toNat] (oL [f.toNat])) (upd hV [f.toNat] (oV [f.toNat])) oL oV (upd wt [f.toNat] false)) 160) =
    (OkL
    [(decide (f ≥ (1 : Int)), true), (decide (f ≤ (18 : Int)), true), (!fineB l v, false),
      (decide ((0 : Int) ≤ f ∧ f < (↑(19 : Nat) : Int)), true), (f.toNat.blt (19 : Nat), true), (a, false),
      (f.toNat.blt (19 : Nat), true), (l == hL [f.toNat] && (v == hV [f.toNat] && true), false),
      (f.toNat.blt (19 : Nat), true), (l == (0 : Int), false), (l == (3 : Int), true), (f.toNat.blt (19 : Nat), true),
      (f.toNat.blt (19 : Nat), true)] ∧
  ((f = f ∧ (oL [f.toNat] = oL [f.toNat] ∧ oV [f.toNat] = oV [f.toNat]) ∧ false = false) ∧ true = true ∧ True) ∧
    (19 : Nat) = (19 : Nat) ∧
      ((∀ (i : Nat), i < (19 : Nat) → upd hL [f.toNat] (oL [f.toNat]) [i] = upd hL [f.toNat] (oL [f.toNat]) [i]) ∧
          ∀ (i : Nat), i < (19 : Nat) → upd hV [f.toNat] (oV [f.toNat]) [i] = upd hV [f.toNat] (oV [f.toNat]) [i]) ∧
        ((∀ (i : Nat), i < (19 : Nat) → oL [i] = oL [i]) ∧ ∀ (i : Nat), i < (19 : Nat) → oV [i] = oV [i]) ∧
          ∀ (i : Nat), i < (19 : Nat) → upd wt [f.toNat] false [i] = upd wt [f.toNat] false [i]) := by kernel_rfl

theorem hr_free (f l v : Int) (a : Bool) (hL hV oL oV : Ix → Int) (wt : Ix → Bool) :
    isEnd (evTill Try.prog sums4 100 99 100 6 [.code (bodyOf Try.f6)] (envOf [.v (.vp 120 (fun _ => 0) []), .agg (triT f l v a)] 50) (sideE hL hV oL oV wt) ⟨[.s true, .s true, .s false, .s true, .s true, .s false, .s true, .s false, .s true, .s false, .s false, .s true, .s true], 130⟩) (endP [] (hearSV ((f, l, v, true), true)) (sideE (upd hL [f.toNat] l) (upd hV [f.toNat] v) oL oV (upd wt [f.toNat] false)) 160) =
    (OkL
    [(decide (f ≥ (1 : Int)), true), (decide (f ≤ (18 : Int)), true), (!fineB l v, false),
      (decide ((0 : Int) ≤ f ∧ f < (↑(19 : Nat) : Int)), true), (f.toNat.blt (19 : Nat), true), (a, false),
      (f.toNat.blt (19 : Nat), true), (l == hL [f.toNat] && (v == hV [f.toNat] && true), false),
      (f.toNat.blt (19 : Nat), true), (l == (0 : Int), false), (l == (3 : Int), false),
      (oL [f.toNat] == (2 : Int), true), (f.toNat.blt (19 : Nat), true)] ∧
  ((f = f ∧ (l = l ∧ v = v) ∧ true = true) ∧ true = true ∧ True) ∧
    (19 : Nat) = (19 : Nat) ∧
      ((∀ (i : Nat), i < (19 : Nat) → upd hL [f.toNat] l [i] = upd hL [f.toNat] l [i]) ∧
          ∀ (i : Nat), i < (19 : Nat) → upd hV [f.toNat] v [i] = upd hV [f.toNat] v [i]) ∧
        ((∀ (i : Nat), i < (19 : Nat) → oL [i] = oL [i]) ∧ ∀ (i : Nat), i < (19 : Nat) → oV [i] = oV [i]) ∧
          ∀ (i : Nat), i < (19 : Nat) → upd wt [f.toNat] false [i] = upd wt [f.toNat] false [i]) := by kernel_rfl

theorem hr_value (f l v : Int) (a : Bool) (hL hV oL oV : Ix → Int) (wt : Ix → Bool) :
    isEnd (evTill Try.prog sums4 100 99 100 6 [.code (bodyOf Try.f6)] (envOf [.v (.vp 120 (fun _ => 0) []), .agg (triT f l v a)] 50) (sideE hL hV oL oV wt) ⟨[.s true, .s true, .s false, .s true, .s true, .s false, .s true, .s false, .s true, .s false, .s false, .s false, .s true, .s true, .s true], 130⟩) (endP [] (hearSV ((f, oL [f.toNat], oV [f.toNat], false), true)) (sideE (upd hL [f.toNat] (oL [f.toNat])) (upd hV [f.toNat] (oV [f.toNat])) oL oV (upd wt [f.toNat] false)) 160) =
    (OkL
    [(decide (f ≥ (1 : Int)), true), (decide (f ≤ (18 : Int)), true), (!fineB l v, false),
      (decide ((0 : Int) ≤ f ∧ f < (↑(19 : Nat) : Int)), true), (f.toNat.blt (19 : Nat), true), (a, false),
      (f.toNat.blt (19 : Nat), true), (l == hL [f.toNat] && (v == hV [f.toNat] && true), false),
      (f.toNat.blt (19 : Nat), true), (l == (0 : Int), false), (l == (3 : Int), false),
      (oL [f.toNat] == (2 : Int), false), (l == (2 : Int), true), (f.toNat.blt (19 : Nat), true),
      (f.toNat.blt (19 : Nat), true)] ∧
  ((f = f ∧ (oL [f.toNat] = oL [f.toNat] ∧ oV [f.toNat] = oV [f.toNat]) ∧ false = false) ∧ true = true ∧ True) ∧
    (19 : Nat) = (19 : Nat) ∧
      ((∀ (i : Nat), i < (19 : Nat) → upd hL [f.toNat] (oL [f.toNat]) [i] = upd hL [f.toNat] (oL [f.toNat]) [i]) ∧
          ∀ (i : Nat), i < (19 : Nat) → upd hV [f.toNat] (oV [f.toNat]) [i] = upd hV [f.toNat] (oV [f.toNat]) [i]) ∧
        ((∀ (i : Nat), i < (19 : Nat) → oL [i] = oL [i]) ∧ ∀ (i : Nat), i < (19 : Nat) → oV [i] = oV [i]) ∧
          ∀ (i : Nat), i < (19 : Nat) → upd wt [f.toNat] false [i] = upd wt [f.toNat] false [i]) := by kernel_rfl

theorem hr_cant (f l v : Int) (a : Bool) (hL hV oL oV : Ix → Int) (wt : Ix → Bool) :
    isEnd (evTill Try.prog sums4 100 99 100 6 [.code (bodyOf Try.f6)] (envOf [.v (.vp 120 (fun _ => 0) []), .agg (triT f l v a)] 50) (sideE hL hV oL oV wt) ⟨[.s true, .s true, .s false, .s true, .s true, .s false, .s true, .s false, .s true, .s false, .s false, .s false, .s false, .s true], 130⟩) (endP [] (hearSV ((f, 0, 0, false), true)) (sideE (upd hL [f.toNat] 0) (upd hV [f.toNat] 0) oL oV (upd wt [f.toNat] false)) 160) =
    (OkL
    [(decide (f ≥ (1 : Int)), true), (decide (f ≤ (18 : Int)), true), (!fineB l v, false),
      (decide ((0 : Int) ≤ f ∧ f < (↑(19 : Nat) : Int)), true), (f.toNat.blt (19 : Nat), true), (a, false),
      (f.toNat.blt (19 : Nat), true), (l == hL [f.toNat] && (v == hV [f.toNat] && true), false),
      (f.toNat.blt (19 : Nat), true), (l == (0 : Int), false), (l == (3 : Int), false),
      (oL [f.toNat] == (2 : Int), false), (l == (2 : Int), false), (f.toNat.blt (19 : Nat), true)] ∧
  ((f = f ∧ ((0 : Int) = (0 : Int) ∧ (0 : Int) = (0 : Int)) ∧ false = false) ∧ true = true ∧ True) ∧
    (19 : Nat) = (19 : Nat) ∧
      ((∀ (i : Nat), i < (19 : Nat) → upd hL [f.toNat] (0 : Int) [i] = upd hL [f.toNat] (0 : Int) [i]) ∧
          ∀ (i : Nat), i < (19 : Nat) → upd hV [f.toNat] (0 : Int) [i] = upd hV [f.toNat] (0 : Int) [i]) ∧
        ((∀ (i : Nat), i < (19 : Nat) → oL [i] = oL [i]) ∧ ∀ (i : Nat), i < (19 : Nat) → oV [i] = oV [i]) ∧
          ∀ (i : Nat), i < (19 : Nat) → upd wt [f.toNat] false [i] = upd wt [f.toNat] false [i]) := by kernel_rfl


theorem hear_runs (f l v : Int) (a : Bool) (hL hV oL oV : Ix → Int) (wt : Ix → Bool) :
    RunsTo Try.prog 6 [.code (bodyOf Try.f6)] (envOf [.v (.vp 120 (fun _ => 0) []), .agg (triT f l v a)] 50) (Sx.look (sideE hL hV oL oV wt)) 125 (hearSV (hearR f l v a hL hV oL oV)) (Sx.look (sideE (hearS f l v a hL hV oL oV).1 (hearS f l v a hL hV oL oV).2 oL oV (hearW f l v wt))) 160 := by
  have fin : ∀ {o : List Hint} {r : Heard} {s1 s2 : Ix → Int} {w' : Ix → Bool}, hearR f l v a hL hV oL oV = r → hearS f l v a hL hV oL oV = (s1, s2) → hearW f l v wt = w' →
      Sx.Ends Try.prog sums4 100 99 100 6 [.code (bodyOf Try.f6)] (envOf [.v (.vp 120 (fun _ => 0) []), .agg (triT f l v a)] 50) (sideE hL hV oL oV wt) o 130 [] (hearSV r) (sideE s1 s2 oL oV w') 160 →
      RunsTo Try.prog 6 [.code (bodyOf Try.f6)] (envOf [.v (.vp 120 (fun _ => 0) []), .agg (triT f l v a)] 50) (Sx.look (sideE hL hV oL oV wt)) 125 (hearSV (hearR f l v a hL hV oL oV)) (Sx.look (sideE (hearS f l v a hL hV oL oV).1 (hearS f l v a hL hV oL oV).2 oL oV (hearW f l v wt))) 160 := fun h1 h2 h3 h => by
    rw [h1, h2, h3]
    exact runs_last base4 h (by kernel_rfl) rfl gtopN (by decide)
  have tree : ∀ {p q : Ix → Int} {w : Ix → Bool}, (19 : Nat) = 19 ∧ ((∀ (i : Nat), i < 19 → p [i] = p [i]) ∧ ∀ (i : Nat), i < 19 → q [i] = q [i]) ∧ ((∀ (i : Nat), i < 19 → oL [i] = oL [i]) ∧ ∀ (i : Nat), i < 19 → oV [i] = oV [i]) ∧ ∀ (i : Nat), i < 19 → w [i] = w [i] :=
    fun {p q w} => ⟨rfl, ⟨fun _ _ => rfl, fun _ _ => rfl⟩, ⟨fun _ _ => rfl, fun _ _ => rfl⟩, fun _ _ => rfl⟩
  have res : ∀ {x y z : Int} {b c : Bool}, (x = x ∧ (y = y ∧ z = z) ∧ b = b) ∧ c = c ∧ True := fun {x y z b c} => ⟨⟨rfl, ⟨rfl, rfl⟩, rfl⟩, rfl, trivial⟩
  have silent : told f l v a hL hV = false → hearR f l v a hL hV oL oV = ((0, 0, 0, false), false) ∧ hearS f l v a hL hV oL oV = (hL, hV) := fun h => by
    refine ⟨by unfold hearR; rw [h]; rfl, by unfold hearS; rw [h]; rfl⟩
  have wrong : rightT f l v = false → told f l v a hL hV = false ∧ hearW f l v wt = wt := fun h => by
    refine ⟨by unfold told; rw [h]; rfl, by unfold hearW; rw [h]; rfl⟩
  by_cases h1 : f ≥ 1
  · by_cases h2 : f ≤ 18
    · cases h3 : fineB l v with
      | false =>
        obtain ⟨w1, w2⟩ := wrong (by simp [rightT, h3])
        obtain ⟨s1, s2⟩ := silent w1
        exact fin s1 s2 w2 (Sx.Ends.of (hr_bad f l v a hL hV oL oV wt) ⟨okc (yes h1) (okc (yes h2) (okc (by rw [h3]; rfl) okn)), res, tree⟩)
      | true =>
        have hr : rightT f l v = true := by simp [rightT, h3, h2, show 1 ≤ f by omega]
        have hw : hearW f l v wt = upd wt [f.toNat] false := by unfold hearW; rw [if_pos hr]
        have c3 : (!fineB l v) = false := by rw [h3]; rfl
        have c4 : decide ((0 : Int) ≤ f ∧ f < ((19 : Nat) : Int)) = true := yes ⟨by omega, by omega⟩
        have c5 : Nat.blt f.toNat 19 = true := blt (by omega)
        cases h4 : a with
        | true =>
          subst h4
          obtain ⟨s1, s2⟩ := silent (by simp [told])
          exact fin s1 s2 hw (Sx.Ends.of (hr_ack f l v true hL hV oL oV wt) ⟨okc (yes h1) (okc (yes h2) (okc c3 (okc c4 (okc c5 (okc rfl okn))))), res, tree⟩)
        | false =>
          subst h4
          cases h5 : (l == hL [f.toNat] && (v == hV [f.toNat] && true)) with
          | true =>
            obtain ⟨s1, s2⟩ := silent (by simp only [Bool.and_true] at h5; simp [told, h5])
            exact fin s1 s2 hw (Sx.Ends.of (hr_same f l v false hL hV oL oV wt) ⟨okc (yes h1) (okc (yes h2) (okc c3 (okc c4 (okc c5 (okc rfl (okc c5 (okc h5 okn))))))), res, tree⟩)
          | false =>
            have ht : told f l v false hL hV = true := by simp only [Bool.and_true] at h5; simp [told, hr, h5]
            have go : ∀ {A : Int × Int × Bool}, ans l v (oL [f.toNat]) (oV [f.toNat]) = A → hearR f l v false hL hV oL oV = ((f, A.1, A.2.1, A.2.2), true) ∧ hearS f l v false hL hV oL oV = (upd hL [f.toNat] A.1, upd hV [f.toNat] A.2.1) := fun hA => by
              refine ⟨by unfold hearR; rw [if_pos ht, hA], by unfold hearS; rw [if_pos ht, hA]⟩
            by_cases k0 : l = 0
            · obtain ⟨s1, s2⟩ := go (A := (l, v, true)) (by unfold ans; rw [if_pos k0])
              exact fin s1 s2 hw (Sx.Ends.of (hr_none f l v false hL hV oL oV wt) ⟨okc (yes h1) (okc (yes h2) (okc c3 (okc c4 (okc c5 (okc rfl (okc c5 (okc h5 (okc c5 (okc (eqb k0) (okc c5 okn)))))))))), res, tree⟩)
            by_cases k3 : l = 3
            · obtain ⟨s1, s2⟩ := go (A := (oL [f.toNat], oV [f.toNat], false)) (by unfold ans; rw [if_neg k0, if_pos k3])
              exact fin s1 s2 hw (Sx.Ends.of (hr_dflt f l v false hL hV oL oV wt) ⟨okc (yes h1) (okc (yes h2) (okc c3 (okc c4 (okc c5 (okc rfl (okc c5 (okc h5 (okc c5 (okc (neb k0) (okc (eqb k3) (okc c5 (okc c5 okn)))))))))))), res, tree⟩)
            by_cases k2 : oL [f.toNat] = 2
            · obtain ⟨s1, s2⟩ := go (A := (l, v, true)) (by unfold ans; rw [if_neg k0, if_neg k3, if_pos k2])
              exact fin s1 s2 hw (Sx.Ends.of (hr_free f l v false hL hV oL oV wt) ⟨okc (yes h1) (okc (yes h2) (okc c3 (okc c4 (okc c5 (okc rfl (okc c5 (okc h5 (okc c5 (okc (neb k0) (okc (neb k3) (okc (eqb k2) (okc c5 okn)))))))))))), res, tree⟩)
            by_cases k1 : l = 2
            · obtain ⟨s1, s2⟩ := go (A := (oL [f.toNat], oV [f.toNat], false)) (by unfold ans; rw [if_neg k0, if_neg k3, if_neg k2, if_pos k1])
              exact fin s1 s2 hw (Sx.Ends.of (hr_value f l v false hL hV oL oV wt) ⟨okc (yes h1) (okc (yes h2) (okc c3 (okc c4 (okc c5 (okc rfl (okc c5 (okc h5 (okc c5 (okc (neb k0) (okc (neb k3) (okc (neb k2) (okc (eqb k1) (okc c5 (okc c5 okn)))))))))))))), res, tree⟩)
            · obtain ⟨s1, s2⟩ := go (A := (0, 0, false)) (by unfold ans; rw [if_neg k0, if_neg k3, if_neg k2, if_neg k1])
              exact fin s1 s2 hw (Sx.Ends.of (hr_cant f l v false hL hV oL oV wt) ⟨okc (yes h1) (okc (yes h2) (okc c3 (okc c4 (okc c5 (okc rfl (okc c5 (okc h5 (okc c5 (okc (neb k0) (okc (neb k3) (okc (neb k2) (okc (neb k1) (okc c5 okn))))))))))))), res, tree⟩)
    · obtain ⟨w1, w2⟩ := wrong (by simp [rightT, h2])
      obtain ⟨s1, s2⟩ := silent w1
      exact fin s1 s2 w2 (Sx.Ends.of (hr_hi f l v a hL hV oL oV wt) ⟨okc (yes h1) (okc (no h2) okn), res, tree⟩)
  · obtain ⟨w1, w2⟩ := wrong (by simp [rightT, show ¬ 1 ≤ f by omega])
    obtain ⟨s1, s2⟩ := silent w1
    exact fin s1 s2 w2 (Sx.Ends.of (hr_lo f l v a hL hV oL oV wt) ⟨okc (no h1) okn, res, tree⟩)

end Go.Proofs.Ytdmkdmaofgjelaa
