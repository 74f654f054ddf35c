/- Special characters: a new side. -/
import Derived.Test.YtdmkdmaofgjelaaSaC
set_option linter.unusedSimpArgs false
set_option linter.unusedVariables false
set_option maxRecDepth 100000
namespace Go.Proofs.Ytdmkdmaofgjelaa
open Go.Sx

def setE (N : Nat) (L V : Ix → Int) : List Ent := [⟨100, false, none, 2, .ta N (.tc (.vi .i64 L) (.tc (.vi .i64 V) .t0))⟩]
def setV (N : Nat) : SV := .v (.vl 100 (fun _ => 0) 2 [] (fun _ => N))
def sideT (hL hV oL oV : Ix → Int) (wt : Ix → Bool) : Tr := .tc (.ta 19 (.tc (.tc (.vi .i64 hL) (.tc (.vi .i64 hV) .t0)) (.tc (.tc (.vi .i64 oL) (.tc (.vi .i64 oV) .t0)) (.tc (.vb wt) .t0)))) .t0
def sideE (hL hV oL oV : Ix → Int) (wt : Ix → Bool) : List Ent := [⟨120, true, none, 95, sideT hL hV oL oV wt⟩]
def zI : Ix → Int := fun _ => 0
def zB : Ix → Bool := fun _ => false
def nwE (N i : Nat) : List (Nat × SV) := [(3, .v (.vp 120 (fun _ => 0) [])), (8, setV N), (9, .v (.vi .i64 fun _ => N)), (10, .v (.vi .i64 fun _ => i))]
def sums2 : List (FuncId × Summ) := [(9, rightS)]
theorem base2 : Base0 Try.prog sums2 := (Base0.nil goodP).cons Try.func9 (by kernel_rfl) rightS_ok

theorem nw_start (N : Nat) (L V : Ix → Int) :
    isMore (evTill Try.prog sums2 100 (behind Try.f5 0) 100 5 [.code (bodyOf Try.f5)] (envOf [setV N] 36) (setE N L V ++ []) ⟨[], 110⟩) (moreP (headOf Try.f5 0) [(120, .to 110)] 36 (nwE N 0) (sideE zI zI zI zI zB) 150) =
    (OkL [] ∧
  headOf Try.f5 (0 : Nat) = headOf Try.f5 (0 : Nat) ∧
    ((0 : Nat) = (0 : Nat) ∧
        ((0 : Nat) = (0 : Nat) ∧ N = N) ∧ (↑N : Int) = (↑N : Int) ∧ (↑(0 : Nat) : Int) = (0 : Int)) ∧
      (19 : Nat) = (19 : Nat) ∧
        ((∀ (i : Nat), i < (19 : Nat) → zI [i] = (0 : Int)) ∧ ∀ (i : Nat), i < (19 : Nat) → zI [i] = (0 : Int)) ∧
          ((∀ (i : Nat), i < (19 : Nat) → zI [i] = (0 : Int)) ∧ ∀ (i : Nat), i < (19 : Nat) → zI [i] = (0 : Int)) ∧
            ∀ (i : Nat), i < (19 : Nat) → zB [i] = false) := by kernel_rfl


theorem nw_done (N i : Nat) (L V oL oV : Ix → Int) :
    isEnd (evTill Try.prog sums2 100 (behind Try.f5 0) 100 5 (headOf Try.f5 0) (envAt 36 (nwE N i)) (setE N L V ++ sideE zI zI oL oV zB) ⟨[.s false], 130⟩) (endP [] (.v (.vp 120 (fun _ => 0) [])) (sideE zI zI oL oV zB) 150) =
    (OkL [(decide ((↑i : Int) < (↑N : Int)), false)] ∧
  (0 : Nat) = (0 : Nat) ∧
    (19 : Nat) = (19 : Nat) ∧
      ((∀ (i : Nat), i < (19 : Nat) → zI [i] = zI [i]) ∧ ∀ (i : Nat), i < (19 : Nat) → zI [i] = zI [i]) ∧
        ((∀ (i : Nat), i < (19 : Nat) → oL [i] = oL [i]) ∧ ∀ (i : Nat), i < (19 : Nat) → oV [i] = oV [i]) ∧
          ∀ (i : Nat), i < (19 : Nat) → zB [i] = zB [i]) := by kernel_rfl


theorem nw_late (N i : Nat) (L V oL oV : Ix → Int) :
    isMore (evTill Try.prog sums2 100 (behind Try.f5 0) 100 5 (headOf Try.f5 0) (envAt 36 (nwE N i)) (setE N L V ++ sideE zI zI oL oV zB) ⟨[.s true, .s true, .s true, .s true, .s false], 130⟩) (moreP (headOf Try.f5 0) [] 36 (nwE N (i + 1)) (sideE zI zI oL oV zB) 150) =
    (OkL
    [(decide ((↑i : Int) < (↑N : Int)), true), (decide ((0 : Int) ≤ (↑i : Int) ∧ (↑i : Int) < (↑N : Int)), true),
      (((0 : Nat) + (↑i : Int).toNat).blt N, true), (((0 : Nat) + (↑i : Int).toNat).blt N, true),
      (decide ((↑i : Int) < (18 : Int)), false)] ∧
  headOf Try.f5 (0 : Nat) = headOf Try.f5 (0 : Nat) ∧
    ((0 : Nat) = (0 : Nat) ∧
        ((0 : Nat) = (0 : Nat) ∧ N = N) ∧
          (↑N : Int) = (↑N : Int) ∧ (↑(i + (1 : Nat)) : Int) = IntKind.i64.wrap ((↑i : Int) + (1 : Int))) ∧
      (19 : Nat) = (19 : Nat) ∧
        ((∀ (i : Nat), i < (19 : Nat) → zI [i] = zI [i]) ∧ ∀ (i : Nat), i < (19 : Nat) → zI [i] = zI [i]) ∧
          ((∀ (i : Nat), i < (19 : Nat) → oL [i] = oL [i]) ∧ ∀ (i : Nat), i < (19 : Nat) → oV [i] = oV [i]) ∧
            ∀ (i : Nat), i < (19 : Nat) → zB [i] = zB [i]) := by kernel_rfl


theorem nw_wrong (N i : Nat) (L V oL oV : Ix → Int) :
    isMore (evTill Try.prog sums2 100 (behind Try.f5 0) 100 5 (headOf Try.f5 0) (envAt 36 (nwE N i)) (setE N L V ++ sideE zI zI oL oV zB) ⟨[.s true, .s true, .s true, .s true, .s true, .s false], 130⟩) (moreP (headOf Try.f5 0) [] 36 (nwE N (i + 1)) (sideE zI zI oL oV zB) 150) =
    (OkL
    [(decide ((↑i : Int) < (↑N : Int)), true), (decide ((0 : Int) ≤ (↑i : Int) ∧ (↑i : Int) < (↑N : Int)), true),
      (((0 : Nat) + (↑i : Int).toNat).blt N, true), (((0 : Nat) + (↑i : Int).toNat).blt N, true),
      (decide ((↑i : Int) < (18 : Int)), true),
      (fineB (L [(0 : Nat) + (↑i : Int).toNat]) (V [(0 : Nat) + (↑i : Int).toNat]), false)] ∧
  headOf Try.f5 (0 : Nat) = headOf Try.f5 (0 : Nat) ∧
    ((0 : Nat) = (0 : Nat) ∧
        ((0 : Nat) = (0 : Nat) ∧ N = N) ∧
          (↑N : Int) = (↑N : Int) ∧ (↑(i + (1 : Nat)) : Int) = IntKind.i64.wrap ((↑i : Int) + (1 : Int))) ∧
      (19 : Nat) = (19 : Nat) ∧
        ((∀ (i : Nat), i < (19 : Nat) → zI [i] = zI [i]) ∧ ∀ (i : Nat), i < (19 : Nat) → zI [i] = zI [i]) ∧
          ((∀ (i : Nat), i < (19 : Nat) → oL [i] = oL [i]) ∧ ∀ (i : Nat), i < (19 : Nat) → oV [i] = oV [i]) ∧
            ∀ (i : Nat), i < (19 : Nat) → zB [i] = zB [i]) := by kernel_rfl


theorem nw_dflt (N i : Nat) (L V oL oV : Ix → Int) :
    isMore (evTill Try.prog sums2 100 (behind Try.f5 0) 100 5 (headOf Try.f5 0) (envAt 36 (nwE N i)) (setE N L V ++ sideE zI zI oL oV zB) ⟨[.s true, .s true, .s true, .s true, .s true, .s true, .s false], 130⟩) (moreP (headOf Try.f5 0) [] 36 (nwE N (i + 1)) (sideE zI zI oL oV zB) 150) =
    (OkL
    [(decide ((↑i : Int) < (↑N : Int)), true), (decide ((0 : Int) ≤ (↑i : Int) ∧ (↑i : Int) < (↑N : Int)), true),
      (((0 : Nat) + (↑i : Int).toNat).blt N, true), (((0 : Nat) + (↑i : Int).toNat).blt N, true),
      (decide ((↑i : Int) < (18 : Int)), true),
      (fineB (L [(0 : Nat) + (↑i : Int).toNat]) (V [(0 : Nat) + (↑i : Int).toNat]), true),
      (L [(0 : Nat) + (↑i : Int).toNat] != (3 : Int), false)] ∧
  headOf Try.f5 (0 : Nat) = headOf Try.f5 (0 : Nat) ∧
    ((0 : Nat) = (0 : Nat) ∧
        ((0 : Nat) = (0 : Nat) ∧ N = N) ∧
          (↑N : Int) = (↑N : Int) ∧ (↑(i + (1 : Nat)) : Int) = IntKind.i64.wrap ((↑i : Int) + (1 : Int))) ∧
      (19 : Nat) = (19 : Nat) ∧
        ((∀ (i : Nat), i < (19 : Nat) → zI [i] = zI [i]) ∧ ∀ (i : Nat), i < (19 : Nat) → zI [i] = zI [i]) ∧
          ((∀ (i : Nat), i < (19 : Nat) → oL [i] = oL [i]) ∧ ∀ (i : Nat), i < (19 : Nat) → oV [i] = oV [i]) ∧
            ∀ (i : Nat), i < (19 : Nat) → zB [i] = zB [i]) := by kernel_rfl


theorem nw_set (N i : Nat) (L V oL oV : Ix → Int) :
    isMore (evTill Try.prog sums2 100 (behind Try.f5 0) 100 5 (headOf Try.f5 0) (envAt 36 (nwE N i)) (setE N L V ++ sideE zI zI oL oV zB) ⟨[.s true, .s true, .s true, .s true, .s true, .s true, .s true, .s true, .s true], 130⟩) (moreP (headOf Try.f5 0) [] 36 (nwE N (i + 1)) (sideE zI zI (upd oL [(IntKind.i64.wrap ((i : Int) + 1)).toNat] (L [0 + (i : Int).toNat])) (upd oV [(IntKind.i64.wrap ((i : Int) + 1)).toNat] (V [0 + (i : Int).toNat])) zB) 150) =
    (OkL
    [(decide ((↑i : Int) < (↑N : Int)), true), (decide ((0 : Int) ≤ (↑i : Int) ∧ (↑i : Int) < (↑N : Int)), true),
      (((0 : Nat) + (↑i : Int).toNat).blt N, true), (((0 : Nat) + (↑i : Int).toNat).blt N, true),
      (decide ((↑i : Int) < (18 : Int)), true),
      (fineB (L [(0 : Nat) + (↑i : Int).toNat]) (V [(0 : Nat) + (↑i : Int).toNat]), true),
      (L [(0 : Nat) + (↑i : Int).toNat] != (3 : Int), true),
      (decide
          ((0 : Int) ≤ IntKind.i64.wrap ((↑i : Int) + (1 : Int)) ∧
            IntKind.i64.wrap ((↑i : Int) + (1 : Int)) < (↑(19 : Nat) : Int)),
        true),
      ((IntKind.i64.wrap ((↑i : Int) + (1 : Int))).toNat.blt (19 : Nat), true)] ∧
  headOf Try.f5 (0 : Nat) = headOf Try.f5 (0 : Nat) ∧
    ((0 : Nat) = (0 : Nat) ∧
        ((0 : Nat) = (0 : Nat) ∧ N = N) ∧
          (↑N : Int) = (↑N : Int) ∧ (↑(i + (1 : Nat)) : Int) = IntKind.i64.wrap ((↑i : Int) + (1 : Int))) ∧
      (19 : Nat) = (19 : Nat) ∧
        ((∀ (i : Nat), i < (19 : Nat) → zI [i] = zI [i]) ∧ ∀ (i : Nat), i < (19 : Nat) → zI [i] = zI [i]) ∧
          ((∀ (i_1 : Nat),
                i_1 < (19 : Nat) →
                  upd oL [(IntKind.i64.wrap ((↑i : Int) + (1 : Int))).toNat] (L [(0 : Nat) + (↑i : Int).toNat]) [i_1] =
                    upd oL [(IntKind.i64.wrap ((↑i : Int) + (1 : Int))).toNat] (L [(0 : Nat) + (↑i : Int).toNat])
                      [i_1]) ∧
              ∀ (i_1 : Nat),
                i_1 < (19 : Nat) →
                  upd oV [(IntKind.i64.wrap ((↑i : Int) + (1 : Int))).toNat] (V [(0 : Nat) + (↑i : Int).toNat]) [i_1] =
                    upd oV [(IntKind.i64.wrap ((↑i : Int) + (1 : Int))).toNat] (V [(0 : Nat) + (↑i : Int).toNat])
                      [i_1]) ∧
            ∀ (i : Nat), i < (19 : Nat) → zB [i] = zB [i]) := by kernel_rfl



def stepH (L V : Ix → Int) (i : Nat) (s : (Ix → Int) × (Ix → Int)) : (Ix → Int) × (Ix → Int) :=
  if i < 18 ∧ fineB (L [i]) (V [i]) = true ∧ L [i] ≠ 3 then (upd s.1 [i + 1] (L [i]), upd s.2 [i + 1] (V [i])) else s

def nwL (L V : Ix → Int) : Nat → Nat → (Ix → Int) × (Ix → Int) → (Ix → Int) × (Ix → Int)
  | 0, _, s => s
  | k + 1, i, s => nwL L V k (i + 1) (stepH L V i s)

theorem nw_loop (N : Nat) (L V : Ix → Int) (hN : N ≤ 1000) : ∀ k i oL oV, N = i + k →
    RunsTo Try.prog 5 (headOf Try.f5 0) (envAt 36 (nwE N i)) (Sx.look (setE N L V ++ sideE zI zI oL oV zB)) 110 (.v (.vp 120 (fun _ => 0) [])) (Sx.look (sideE zI zI (nwL L V k i (oL, oV)).1 (nwL L V k i (oL, oV)).2 zB)) 150
  | 0, i, oL, oV, h => runs_last base2 (Sx.Ends.of (nw_done N i L V oL oV) ⟨okc (no (by omega)) okn, rfl, rfl, ⟨fun _ _ => rfl, fun _ _ => rfl⟩, ⟨fun _ _ => rfl, fun _ _ => rfl⟩, fun _ _ => rfl⟩) (by kernel_rfl) rfl gtopN (by decide)
  | k + 1, i, oL, oV, h => by
    have hi0 : (0 : Nat) + (i : Int).toNat = i := by omega
    have hw : IntKind.i64.wrap ((i : Int) + 1) = ((i + 1 : Nat) : Int) := by rw [wr64 (by omega)]; rfl
    have wf : wfState 130 (envAt 36 (nwE N i)) (setE N L V ++ sideE zI zI oL oV zB) = true := by kernel_rfl
    have sh : sharedB 110 (setE N L V) = true := by kernel_rfl
    have c1 : decide ((i : Int) < (N : Int)) = true := yes (by omega)
    have c2 : decide ((0 : Int) ≤ (i : Int) ∧ (i : Int) < (N : Int)) = true := yes (by omega)
    have c3 : Nat.blt i N = true := blt (by omega)
    have skip : ¬ (i < 18 ∧ fineB (L [i]) (V [i]) = true ∧ L [i] ≠ 3) → nwL L V (k + 1) i (oL, oV) = nwL L V k (i + 1) (oL, oV) := fun hn => by simp only [nwL, stepH, if_neg hn]
    by_cases h1 : i < 18
    · cases h2 : fineB (L [i]) (V [i]) with
      | true =>
        by_cases h3 : L [i] = 3
        · rw [skip (fun hh => hh.2.2 h3)]
          refine runs_more base2 (More.of (nw_dflt N i L V oL oV) ?_) sh wf rfl gtopN (by decide) (nw_loop N L V hN k (i + 1) oL oV (by omega))
          rw [hi0, hw]
          exact ⟨okc c1 (okc c2 (okc c3 (okc c3 (okc (yes (by omega)) (okc h2 (okc (by simp [h3]) okn)))))), rfl, ⟨rfl, ⟨rfl, rfl⟩, rfl, rfl⟩, rfl, ⟨fun _ _ => rfl, fun _ _ => rfl⟩, ⟨fun _ _ => rfl, fun _ _ => rfl⟩, fun _ _ => rfl⟩
        · have hs : nwL L V (k + 1) i (oL, oV) = nwL L V k (i + 1) (upd oL [i + 1] (L [i]), upd oV [i + 1] (V [i])) := by simp only [nwL, stepH]; rw [if_pos ⟨h1, h2, h3⟩]
          rw [hs]
          have next := nw_loop N L V hN k (i + 1) (upd oL [i + 1] (L [i])) (upd oV [i + 1] (V [i])) (by omega)
          have m := nw_set N i L V oL oV
          rw [hi0, hw, Int.toNat_natCast] at m
          refine runs_more base2 (More.of m ?_) sh wf rfl gtopN (by decide) next
          exact ⟨okc c1 (okc c2 (okc c3 (okc c3 (okc (yes (by omega)) (okc h2 (okc (by simp [h3]) (okc (yes (by omega)) (okc (blt (by omega)) okn)))))))), rfl, ⟨rfl, ⟨rfl, rfl⟩, rfl, rfl⟩, rfl, ⟨fun _ _ => rfl, fun _ _ => rfl⟩, ⟨fun _ _ => rfl, fun _ _ => rfl⟩, fun _ _ => rfl⟩
      | false =>
        rw [skip (fun hh => by rw [h2] at hh; cases hh.2.1)]
        refine runs_more base2 (More.of (nw_wrong N i L V oL oV) ?_) sh wf rfl gtopN (by decide) (nw_loop N L V hN k (i + 1) oL oV (by omega))
        rw [hi0, hw]
        exact ⟨okc c1 (okc c2 (okc c3 (okc c3 (okc (yes (by omega)) (okc h2 okn))))), rfl, ⟨rfl, ⟨rfl, rfl⟩, rfl, rfl⟩, rfl, ⟨fun _ _ => rfl, fun _ _ => rfl⟩, ⟨fun _ _ => rfl, fun _ _ => rfl⟩, fun _ _ => rfl⟩
    · rw [skip (fun hh => h1 hh.1)]
      refine runs_more base2 (More.of (nw_late N i L V oL oV) ?_) sh wf rfl gtopN (by decide) (nw_loop N L V hN k (i + 1) oL oV (by omega))
      rw [hi0, hw]
      exact ⟨okc c1 (okc c2 (okc c3 (okc c3 (okc (no (by omega)) okn)))), rfl, ⟨rfl, ⟨rfl, rfl⟩, rfl, rfl⟩, rfl, ⟨fun _ _ => rfl, fun _ _ => rfl⟩, ⟨fun _ _ => rfl, fun _ _ => rfl⟩, fun _ _ => rfl⟩

def newL (N : Nat) (L V : Ix → Int) : (Ix → Int) × (Ix → Int) := nwL L V N 0 (zI, zI)

theorem new_runs (N : Nat) (L V : Ix → Int) (hN : N ≤ 1000) : RunsTo Try.prog 5 [.code (bodyOf Try.f5)] (envOf [setV N] 36) (Sx.look (setE N L V ++ [])) 110 (.v (.vp 120 (fun _ => 0) [])) (Sx.look (sideE zI zI (newL N L V).1 (newL N L V).2 zB)) 150 :=
  runs_more base2 (More.of (nw_start N L V) ⟨okn, rfl, ⟨rfl, ⟨rfl, rfl⟩, rfl, rfl⟩, rfl, ⟨fun _ _ => rfl, fun _ _ => rfl⟩, ⟨fun _ _ => rfl, fun _ _ => rfl⟩, fun _ _ => rfl⟩) (by kernel_rfl) (by kernel_rfl) rfl gtopN (by decide) (nw_loop N L V hN N 0 zI zI (by omega))

def rowSet : Tr → Option (Nat × (Ix → Int) × (Ix → Int))
  | .ta N (.tc (.vi .i64 L) (.tc (.vi .i64 V) .t0)) => some (N, L, V)
  | _ => none
theorem rowSet_ok {t : Tr} {N : Nat} {L V : Ix → Int} (h : rowSet t = some (N, L, V)) : t = .ta N (.tc (.vi .i64 L) (.tc (.vi .i64 V) .t0)) := by
  unfold rowSet at h
  split at h
  · simp only [Option.some.injEq, Prod.mk.injEq] at h
    obtain ⟨rfl, rfl, rfl⟩ := h
    rfl
  · cases h

def newS : Summ := fun args H =>
  match args with
  | [.v (.vl lab mem sz cuts len)] => do
    let e ← opt (Sx.look H lab)
    let r ← opt (rowSet e.t)
    chk (noFam e.fam)
    chk (Nat.beq e.wid 2)
    chk (Nat.beq sz 2)
    chk cuts.isEmpty
    chk (Nat.beq (mem []) 0)
    need (Nat.beq (len []) r.1)
    need (Nat.ble r.1 1000)
    let n ← nlOf
    chk (Nat.blt lab n)
    bump 40
    pure ⟨.v (.vp (n + 10) (fun _ => 0) []), [⟨n + 10, true, none, 95, sideT zI zI (newL r.1 r.2.1 r.2.2).1 (newL r.1 r.2.1 r.2.2).2 zB⟩], [], [lab]⟩
  | _ => M.fail

theorem newS_ok : ∀ args H x e d y, newS args H x = .ok e d y → OkL d → (∀ a ∈ args, ∀ l ∈ a.labs, l < x.nl) → WFh (Sx.look H) x.nl → gtop Try.prog ≤ x.nl → CallOK Try.prog 5 args H x.nl e y.nl := by
  intro args H x e d y h hd h3 h4 h5
  unfold newS at h
  split at h
  · rename_i lab mem sz cuts len
    obtain ⟨en, hl, h⟩ := opt_bind h
    obtain ⟨⟨N, L, V⟩, ht, h⟩ := opt_bind h
    have ht := rowSet_ok ht
    obtain ⟨e2, h⟩ := chk_bind h
    obtain ⟨e3, h⟩ := chk_bind h
    obtain ⟨e4, h⟩ := chk_bind h
    obtain ⟨e5, h⟩ := chk_bind h
    obtain ⟨e6, h⟩ := chk_bind h
    obtain ⟨e7, x7, d7, n7, hd, h⟩ := need_bind h hd
    obtain ⟨e8, x8, d8, n8, hd, h⟩ := need_bind h hd
    have h := nlOf_bind h
    obtain ⟨e9, h⟩ := chk_bind h
    obtain ⟨x9, n9, h⟩ := bump_bind h
    obtain ⟨rfl, rfl, rfl⟩ := pure_ok h
    have e9 : lab < x.nl := by rw [Nat.blt_eq, n8, n7] at e9; exact e9
    have e7 := Nat.eq_of_beq_eq_true e7
    have e8 : N ≤ 1000 := by rw [Nat.ble_eq] at e8; exact e8
    have e6 := Nat.eq_of_beq_eq_true e6
    have e5 : cuts = [] := List.isEmpty_iff.1 e5
    have e4 := Nat.eq_of_beq_eq_true e4
    have e3 := Nat.eq_of_beq_eq_true e3
    have e2 := noFam_ok e2
    subst e5; subst e4
    rw [n9, n8, n7]
    have hlook := look_part1 hl
    refine useC_ok (σ := [(100, .to lab)]) Try.func5 (body := bodyOf Try.f5) (by kernel_rfl) (cargs := [setV N]) (C := setE N L V ++ []) (C' := sideE zI zI (newL N L V).1 (newL N L V).2 zB) (n := 110) (n' := 150) (new_runs N L V e8) (by kernel_rfl) rfl ?_ ?_ (by kernel_rfl) rfl rfl rfl
    · refine ⟨?_, trivial⟩
      simp [fitS, setV, fitT, fitL, sgOf, onB_true, cutsP_nil, allB, e6, e7]
    · simp [fitH, sepH, sepFrom, fitEs, setE, fitEnt, sgOf, srcsOf, srcL, hlook, e3, sameB, fitTo, e2, ht, fitT, sameK, allB, onB_true, cutsP_nil]
  · exact (fail_ok h).elim

end Go.Proofs.Ytdmkdmaofgjelaa
