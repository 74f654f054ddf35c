/- SlcStill: the steps of the law, by the kernel. -/
import Derived.Test.YtdmkdmaofgjelaaSeC
set_option linter.unusedSimpArgs false
set_option linter.unusedVariables false
set_option maxRecDepth 100000
namespace Go.Proofs.Ytdmkdmaofgjelaa
open Go.Sx

theorem s_many1 (N M : Nat) (L V K F Lv Vv : Ix → Int) (A : Ix → Bool) (f l v : Int) (a : Bool) :
    isEnd (evTill Try.prog sums5 100 (behind Try.f3 0) 100 3 [.code (bodyOf Try.f3)] (envOf [setV N, actV M, .agg (triT f l v a)] 125) (X3 N M L V K F Lv Vv A ++ []) ⟨[.f, .s true], 110⟩) (endP [] (.v (.vb fun _ => true)) [] 300) =
    (OkL [(decide ((↑N : Int) > (40 : Int)), true)] ∧ true = true ∧ True) := by kernel_rfl


theorem s_many2 (N M : Nat) (L V K F Lv Vv : Ix → Int) (A : Ix → Bool) (f l v : Int) (a : Bool) :
    isEnd (evTill Try.prog sums5 100 (behind Try.f3 0) 100 3 [.code (bodyOf Try.f3)] (envOf [setV N, actV M, .agg (triT f l v a)] 125) (X3 N M L V K F Lv Vv A ++ []) ⟨[.f, .s false, .s true], 110⟩) (endP [] (.v (.vb fun _ => true)) [] 300) =
    (OkL [(decide ((↑N : Int) > (40 : Int)), false), (decide ((↑M : Int) > (60 : Int)), true)] ∧ true = true ∧ True) := by kernel_rfl


theorem s_start (N M : Nat) (L V K F Lv Vv : Ix → Int) (A : Ix → Bool) (f l v : Int) (a : Bool) :
    isMore (evTill Try.prog sums5 100 (behind Try.f3 0) 100 3 [.code (bodyOf Try.f3)] (envOf [setV N, actV M, .agg (triT f l v a)] 125) (X3 N M L V K F Lv Vv A ++ []) ⟨[.f, .s false, .s false, .s true, .s true, .f], 110⟩) (moreP (headOf Try.f3 0) [(119, .to 110), (120, .to 221)] 125 (slE M 0) (triE f l v a ++ sideE zI zI (newL N L V).1 (newL N L V).2 zB) 300) =
    (OkL
    [(decide ((↑N : Int) > (40 : Int)), false), (decide ((↑M : Int) > (60 : Int)), false), (N.beq N, true),
      (N.ble (1000 : Nat), true)] ∧
  headOf Try.f3 (0 : Nat) = headOf Try.f3 (0 : Nat) ∧
    ((0 : Nat) = (0 : Nat) ∧
        (0 : Nat) = (0 : Nat) ∧
          ((0 : Nat) = (0 : Nat) ∧ M = M) ∧ (↑M : Int) = (↑M : Int) ∧ (↑(0 : Nat) : Int) = (0 : Int)) ∧
      (f = f ∧ (l = l ∧ v = v) ∧ a = a) ∧
        (19 : Nat) = (19 : Nat) ∧
          ((∀ (i : Nat), i < (19 : Nat) → zI [i] = zI [i]) ∧ ∀ (i : Nat), i < (19 : Nat) → zI [i] = zI [i]) ∧
            ((∀ (i : Nat), i < (19 : Nat) → (newL N L V).1 [i] = (newL N L V).1 [i]) ∧
                ∀ (i : Nat), i < (19 : Nat) → (newL N L V).2 [i] = (newL N L V).2 [i]) ∧
              ∀ (i : Nat), i < (19 : Nat) → zB [i] = zB [i]) := by kernel_rfl


theorem it_other (N M i : Nat) (L V K F Lv Vv : Ix → Int) (A : Ix → Bool) (f l v : Int) (a : Bool) (hL hV oL oV : Ix → Int) (wt : Ix → Bool) :
    isMore (evTill Try.prog sums5 100 (behind Try.f3 0) 100 3 (headOf Try.f3 0) (envAt 125 (slE M i)) (X3 N M L V K F Lv Vv A ++ (triE f l v a ++ sideE hL hV oL oV wt)) ⟨[.s true, .s true, .s true, .s true, .s false], 130⟩) (moreP (headOf Try.f3 0) [] 125 (slE M (i + 1)) (triE f l v a ++ sideE hL hV oL oV wt) 300) =
    (OkL
    [(decide ((↑i : Int) < (↑M : Int)), true), (decide ((0 : Int) ≤ (↑i : Int) ∧ (↑i : Int) < (↑M : Int)), true),
      (((0 : Nat) + (↑i : Int).toNat).blt M, true), (((0 : Nat) + (↑i : Int).toNat).blt M, true),
      (K [(0 : Nat) + (↑i : Int).toNat] == (0 : Int), false)] ∧
  headOf Try.f3 (0 : Nat) = headOf Try.f3 (0 : Nat) ∧
    ((0 : Nat) = (0 : Nat) ∧
        (0 : Nat) = (0 : Nat) ∧
          ((0 : Nat) = (0 : Nat) ∧ M = M) ∧
            (↑M : Int) = (↑M : Int) ∧ (↑(i + (1 : Nat)) : Int) = IntKind.i64.wrap ((↑i : Int) + (1 : Int))) ∧
      (f = f ∧ (l = l ∧ v = v) ∧ a = a) ∧
        (19 : Nat) = (19 : Nat) ∧
          ((∀ (i : Nat), i < (19 : Nat) → hL [i] = hL [i]) ∧ ∀ (i : Nat), i < (19 : Nat) → hV [i] = hV [i]) ∧
            ((∀ (i : Nat), i < (19 : Nat) → oL [i] = oL [i]) ∧ ∀ (i : Nat), i < (19 : Nat) → oV [i] = oV [i]) ∧
              ∀ (i : Nat), i < (19 : Nat) → wt [i] = wt [i]) := by kernel_rfl


theorem it_quiet (N M i : Nat) (L V K F Lv Vv : Ix → Int) (A : Ix → Bool) (f l v : Int) (a : Bool) (hL hV oL oV : Ix → Int) (wt : Ix → Bool) :
    isMore (evTill Try.prog sums5 100 (behind Try.f3 0) 100 3 (headOf Try.f3 0) (envAt 125 (slE M i)) (X3 N M L V K F Lv Vv A ++ (triE f l v a ++ sideE hL hV oL oV wt)) ⟨[.s true, .s true, .s true, .s true, .s true, .s false], 130⟩) (moreP (headOf Try.f3 0) [] 125 (slE M (i + 1)) (triE f l v a ++ sideE (hearS (F [0 + (i : Int).toNat]) (Lv [0 + (i : Int).toNat]) (Vv [0 + (i : Int).toNat]) (A [0 + (i : Int).toNat]) hL hV oL oV).1 (hearS (F [0 + (i : Int).toNat]) (Lv [0 + (i : Int).toNat]) (Vv [0 + (i : Int).toNat]) (A [0 + (i : Int).toNat]) hL hV oL oV).2 oL oV (hearW (F [0 + (i : Int).toNat]) (Lv [0 + (i : Int).toNat]) (Vv [0 + (i : Int).toNat]) wt)) 300) =
    (OkL
    [(decide ((↑i : Int) < (↑M : Int)), true), (decide ((0 : Int) ≤ (↑i : Int) ∧ (↑i : Int) < (↑M : Int)), true),
      (((0 : Nat) + (↑i : Int).toNat).blt M, true), (((0 : Nat) + (↑i : Int).toNat).blt M, true),
      (K [(0 : Nat) + (↑i : Int).toNat] == (0 : Int), true),
      ((hearR (F [(0 : Nat) + (↑i : Int).toNat]) (Lv [(0 : Nat) + (↑i : Int).toNat]) (Vv [(0 : Nat) + (↑i : Int).toNat])
            (A [(0 : Nat) + (↑i : Int).toNat]) hL hV oL oV).2,
        false)] ∧
  headOf Try.f3 (0 : Nat) = headOf Try.f3 (0 : Nat) ∧
    ((0 : Nat) = (0 : Nat) ∧
        (0 : Nat) = (0 : Nat) ∧
          ((0 : Nat) = (0 : Nat) ∧ M = M) ∧
            (↑M : Int) = (↑M : Int) ∧ (↑(i + (1 : Nat)) : Int) = IntKind.i64.wrap ((↑i : Int) + (1 : Int))) ∧
      (f = f ∧ (l = l ∧ v = v) ∧ a = a) ∧
        (19 : Nat) = (19 : Nat) ∧
          ((∀ (i_1 : Nat),
                i_1 < (19 : Nat) →
                  (hearS (F [(0 : Nat) + (↑i : Int).toNat]) (Lv [(0 : Nat) + (↑i : Int).toNat])
                          (Vv [(0 : Nat) + (↑i : Int).toNat]) (A [(0 : Nat) + (↑i : Int).toNat]) hL hV oL oV).1
                      [i_1] =
                    (hearS (F [(0 : Nat) + (↑i : Int).toNat]) (Lv [(0 : Nat) + (↑i : Int).toNat])
                          (Vv [(0 : Nat) + (↑i : Int).toNat]) (A [(0 : Nat) + (↑i : Int).toNat]) hL hV oL oV).1
                      [i_1]) ∧
              ∀ (i_1 : Nat),
                i_1 < (19 : Nat) →
                  (hearS (F [(0 : Nat) + (↑i : Int).toNat]) (Lv [(0 : Nat) + (↑i : Int).toNat])
                          (Vv [(0 : Nat) + (↑i : Int).toNat]) (A [(0 : Nat) + (↑i : Int).toNat]) hL hV oL oV).2
                      [i_1] =
                    (hearS (F [(0 : Nat) + (↑i : Int).toNat]) (Lv [(0 : Nat) + (↑i : Int).toNat])
                          (Vv [(0 : Nat) + (↑i : Int).toNat]) (A [(0 : Nat) + (↑i : Int).toNat]) hL hV oL oV).2
                      [i_1]) ∧
            ((∀ (i : Nat), i < (19 : Nat) → oL [i] = oL [i]) ∧ ∀ (i : Nat), i < (19 : Nat) → oV [i] = oV [i]) ∧
              ∀ (i_1 : Nat),
                i_1 < (19 : Nat) →
                  hearW (F [(0 : Nat) + (↑i : Int).toNat]) (Lv [(0 : Nat) + (↑i : Int).toNat])
                      (Vv [(0 : Nat) + (↑i : Int).toNat]) wt [i_1] =
                    hearW (F [(0 : Nat) + (↑i : Int).toNat]) (Lv [(0 : Nat) + (↑i : Int).toNat])
                      (Vv [(0 : Nat) + (↑i : Int).toNat]) wt [i_1]) := by kernel_rfl


theorem it_told (N M i : Nat) (L V K F Lv Vv : Ix → Int) (A : Ix → Bool) (f l v : Int) (a : Bool) (hL hV oL oV : Ix → Int) (wt : Ix → Bool) :
    isMore (evTill Try.prog sums5 100 (behind Try.f3 0) 100 3 (headOf Try.f3 0) (envAt 125 (slE M i)) (X3 N M L V K F Lv Vv A ++ (triE f l v a ++ sideE hL hV oL oV wt)) ⟨[.s true, .s true, .s true, .s true, .s true, .s true, .s false, .s false, .s false, .s true, .s true, .s false, .s true, .s true, .s false], 130⟩) (moreP (headOf Try.f3 0) [] 125 (slE M (i + 1)) (triE f l v a ++ sideE (hearS (F [0 + (i : Int).toNat]) (Lv [0 + (i : Int).toNat]) (Vv [0 + (i : Int).toNat]) (A [0 + (i : Int).toNat]) hL hV oL oV).1 (hearS (F [0 + (i : Int).toNat]) (Lv [0 + (i : Int).toNat]) (Vv [0 + (i : Int).toNat]) (A [0 + (i : Int).toNat]) hL hV oL oV).2 oL oV (hearW (F [0 + (i : Int).toNat]) (Lv [0 + (i : Int).toNat]) (Vv [0 + (i : Int).toNat]) wt)) 300) =
    (OkL
    [(decide ((↑i : Int) < (↑M : Int)), true), (decide ((0 : Int) ≤ (↑i : Int) ∧ (↑i : Int) < (↑M : Int)), true),
      (((0 : Nat) + (↑i : Int).toNat).blt M, true), (((0 : Nat) + (↑i : Int).toNat).blt M, true),
      (K [(0 : Nat) + (↑i : Int).toNat] == (0 : Int), true),
      ((hearR (F [(0 : Nat) + (↑i : Int).toNat]) (Lv [(0 : Nat) + (↑i : Int).toNat]) (Vv [(0 : Nat) + (↑i : Int).toNat])
            (A [(0 : Nat) + (↑i : Int).toNat]) hL hV oL oV).2,
        true),
      ((hearR (F [(0 : Nat) + (↑i : Int).toNat]) (Lv [(0 : Nat) + (↑i : Int).toNat]) (Vv [(0 : Nat) + (↑i : Int).toNat])
                (A [(0 : Nat) + (↑i : Int).toNat]) hL hV oL oV).1.1 !=
          F [(0 : Nat) + (↑i : Int).toNat],
        false),
      (decide
          ((hearR (F [(0 : Nat) + (↑i : Int).toNat]) (Lv [(0 : Nat) + (↑i : Int).toNat])
                  (Vv [(0 : Nat) + (↑i : Int).toNat]) (A [(0 : Nat) + (↑i : Int).toNat]) hL hV oL oV).1.1 <
            (1 : Int)),
        false),
      (decide
          ((hearR (F [(0 : Nat) + (↑i : Int).toNat]) (Lv [(0 : Nat) + (↑i : Int).toNat])
                  (Vv [(0 : Nat) + (↑i : Int).toNat]) (A [(0 : Nat) + (↑i : Int).toNat]) hL hV oL oV).1.1 >
            (18 : Int)),
        false),
      (decide
          ((0 : Int) ≤
              (hearR (F [(0 : Nat) + (↑i : Int).toNat]) (Lv [(0 : Nat) + (↑i : Int).toNat])
                    (Vv [(0 : Nat) + (↑i : Int).toNat]) (A [(0 : Nat) + (↑i : Int).toNat]) hL hV oL oV).1.1 ∧
            (hearR (F [(0 : Nat) + (↑i : Int).toNat]) (Lv [(0 : Nat) + (↑i : Int).toNat])
                    (Vv [(0 : Nat) + (↑i : Int).toNat]) (A [(0 : Nat) + (↑i : Int).toNat]) hL hV oL oV).1.1 <
              (↑(19 : Nat) : Int)),
        true),
      ((hearR (F [(0 : Nat) + (↑i : Int).toNat]) (Lv [(0 : Nat) + (↑i : Int).toNat]) (Vv [(0 : Nat) + (↑i : Int).toNat])
                    (A [(0 : Nat) + (↑i : Int).toNat]) hL hV oL oV).1.1.toNat.blt
          (19 : Nat),
        true),
      (!((hearS (F [(0 : Nat) + (↑i : Int).toNat]) (Lv [(0 : Nat) + (↑i : Int).toNat])
                    (Vv [(0 : Nat) + (↑i : Int).toNat]) (A [(0 : Nat) + (↑i : Int).toNat]) hL hV oL oV).1
                [(hearR (F [(0 : Nat) + (↑i : Int).toNat]) (Lv [(0 : Nat) + (↑i : Int).toNat])
                          (Vv [(0 : Nat) + (↑i : Int).toNat]) (A [(0 : Nat) + (↑i : Int).toNat]) hL hV oL
                          oV).1.1.toNat] ==
              (hearR (F [(0 : Nat) + (↑i : Int).toNat]) (Lv [(0 : Nat) + (↑i : Int).toNat])
                      (Vv [(0 : Nat) + (↑i : Int).toNat]) (A [(0 : Nat) + (↑i : Int).toNat]) hL hV oL oV).1.2.1 &&
            ((hearS (F [(0 : Nat) + (↑i : Int).toNat]) (Lv [(0 : Nat) + (↑i : Int).toNat])
                      (Vv [(0 : Nat) + (↑i : Int).toNat]) (A [(0 : Nat) + (↑i : Int).toNat]) hL hV oL oV).2
                  [(hearR (F [(0 : Nat) + (↑i : Int).toNat]) (Lv [(0 : Nat) + (↑i : Int).toNat])
                            (Vv [(0 : Nat) + (↑i : Int).toNat]) (A [(0 : Nat) + (↑i : Int).toNat]) hL hV oL
                            oV).1.1.toNat] ==
                (hearR (F [(0 : Nat) + (↑i : Int).toNat]) (Lv [(0 : Nat) + (↑i : Int).toNat])
                          (Vv [(0 : Nat) + (↑i : Int).toNat]) (A [(0 : Nat) + (↑i : Int).toNat]) hL hV oL oV).1.2.2.1 &&
              true)),
        false),
      (decide
          ((hearR (F [(0 : Nat) + (↑i : Int).toNat]) (Lv [(0 : Nat) + (↑i : Int).toNat])
                  (Vv [(0 : Nat) + (↑i : Int).toNat]) (A [(0 : Nat) + (↑i : Int).toNat]) hL hV oL oV).1.1 ≥
            (1 : Int)),
        true),
      (decide
          ((hearR (F [(0 : Nat) + (↑i : Int).toNat]) (Lv [(0 : Nat) + (↑i : Int).toNat])
                  (Vv [(0 : Nat) + (↑i : Int).toNat]) (A [(0 : Nat) + (↑i : Int).toNat]) hL hV oL oV).1.1 ≤
            (18 : Int)),
        true),
      (!fineB
            (hearR (F [(0 : Nat) + (↑i : Int).toNat]) (Lv [(0 : Nat) + (↑i : Int).toNat])
                    (Vv [(0 : Nat) + (↑i : Int).toNat]) (A [(0 : Nat) + (↑i : Int).toNat]) hL hV oL oV).1.2.1
            (hearR (F [(0 : Nat) + (↑i : Int).toNat]) (Lv [(0 : Nat) + (↑i : Int).toNat])
                      (Vv [(0 : Nat) + (↑i : Int).toNat]) (A [(0 : Nat) + (↑i : Int).toNat]) hL hV oL oV).1.2.2.1,
        false)] ∧
  headOf Try.f3 (0 : Nat) = headOf Try.f3 (0 : Nat) ∧
    ((0 : Nat) = (0 : Nat) ∧
        (0 : Nat) = (0 : Nat) ∧
          ((0 : Nat) = (0 : Nat) ∧ M = M) ∧
            (↑M : Int) = (↑M : Int) ∧ (↑(i + (1 : Nat)) : Int) = IntKind.i64.wrap ((↑i : Int) + (1 : Int))) ∧
      (f = f ∧ (l = l ∧ v = v) ∧ a = a) ∧
        (19 : Nat) = (19 : Nat) ∧
          ((∀ (i_1 : Nat),
                i_1 < (19 : Nat) →
                  (hearS (F [(0 : Nat) + (↑i : Int).toNat]) (Lv [(0 : Nat) + (↑i : Int).toNat])
                          (Vv [(0 : Nat) + (↑i : Int).toNat]) (A [(0 : Nat) + (↑i : Int).toNat]) hL hV oL oV).1
                      [i_1] =
                    (hearS (F [(0 : Nat) + (↑i : Int).toNat]) (Lv [(0 : Nat) + (↑i : Int).toNat])
                          (Vv [(0 : Nat) + (↑i : Int).toNat]) (A [(0 : Nat) + (↑i : Int).toNat]) hL hV oL oV).1
                      [i_1]) ∧
              ∀ (i_1 : Nat),
                i_1 < (19 : Nat) →
                  (hearS (F [(0 : Nat) + (↑i : Int).toNat]) (Lv [(0 : Nat) + (↑i : Int).toNat])
                          (Vv [(0 : Nat) + (↑i : Int).toNat]) (A [(0 : Nat) + (↑i : Int).toNat]) hL hV oL oV).2
                      [i_1] =
                    (hearS (F [(0 : Nat) + (↑i : Int).toNat]) (Lv [(0 : Nat) + (↑i : Int).toNat])
                          (Vv [(0 : Nat) + (↑i : Int).toNat]) (A [(0 : Nat) + (↑i : Int).toNat]) hL hV oL oV).2
                      [i_1]) ∧
            ((∀ (i : Nat), i < (19 : Nat) → oL [i] = oL [i]) ∧ ∀ (i : Nat), i < (19 : Nat) → oV [i] = oV [i]) ∧
              ∀ (i_1 : Nat),
                i_1 < (19 : Nat) →
                  hearW (F [(0 : Nat) + (↑i : Int).toNat]) (Lv [(0 : Nat) + (↑i : Int).toNat])
                      (Vv [(0 : Nat) + (↑i : Int).toNat]) wt [i_1] =
                    hearW (F [(0 : Nat) + (↑i : Int).toNat]) (Lv [(0 : Nat) + (↑i : Int).toNat])
                      (Vv [(0 : Nat) + (↑i : Int).toNat]) wt [i_1]) := by kernel_rfl


theorem e_lo (N M i : Nat) (L V K F Lv Vv : Ix → Int) (A : Ix → Bool) (f l v : Int) (a : Bool) (hL hV oL oV : Ix → Int) (wt : Ix → Bool) :
    isEnd (evTill Try.prog sums5 100 (behind Try.f3 0) 100 3 (headOf Try.f3 0) (envAt 125 (slE M i)) (X3 N M L V K F Lv Vv A ++ (triE f l v a ++ sideE hL hV oL oV wt)) ⟨[.s false, .s true, .s false, .t, .s true, .s true, .s true], 130⟩) (endP [] (.v (.vb fun _ => true)) [] 300) =
    (OkL
    [(decide ((↑i : Int) < (↑M : Int)), false), (decide (f < (1 : Int)), true), (decide (f ≥ (1 : Int)), false),
      (!(hearR f l v a hL hV oL oV).2, true),
      ((hearR f l v a hL hV oL oV).1.1 == (0 : Int) &&
          ((hearR f l v a hL hV oL oV).1.2.1 == (0 : Int) &&
              ((hearR f l v a hL hV oL oV).1.2.2.1 == (0 : Int) && true) &&
            ((hearR f l v a hL hV oL oV).1.2.2.2 == false && true)),
        true),
      (decide (f < (1 : Int)), true)] ∧
  true = true ∧ True) := by kernel_rfl


theorem e_hi (N M i : Nat) (L V K F Lv Vv : Ix → Int) (A : Ix → Bool) (f l v : Int) (a : Bool) (hL hV oL oV : Ix → Int) (wt : Ix → Bool) :
    isEnd (evTill Try.prog sums5 100 (behind Try.f3 0) 100 3 (headOf Try.f3 0) (envAt 125 (slE M i)) (X3 N M L V K F Lv Vv A ++ (triE f l v a ++ sideE hL hV oL oV wt)) ⟨[.s false, .s false, .s true, .s true, .s false, .t, .s true, .s true, .s false, .s true], 130⟩) (endP [] (.v (.vb fun _ => true)) [] 300) =
    (OkL
    [(decide ((↑i : Int) < (↑M : Int)), false), (decide (f < (1 : Int)), false), (decide (f > (18 : Int)), true),
      (decide (f ≥ (1 : Int)), true), (decide (f ≤ (18 : Int)), false), (!(hearR f l v a hL hV oL oV).2, true),
      ((hearR f l v a hL hV oL oV).1.1 == (0 : Int) &&
          ((hearR f l v a hL hV oL oV).1.2.1 == (0 : Int) &&
              ((hearR f l v a hL hV oL oV).1.2.2.1 == (0 : Int) && true) &&
            ((hearR f l v a hL hV oL oV).1.2.2.2 == false && true)),
        true),
      (decide (f < (1 : Int)), false), (decide (f > (18 : Int)), true)] ∧
  true = true ∧ True) := by kernel_rfl


theorem e_bad (N M i : Nat) (L V K F Lv Vv : Ix → Int) (A : Ix → Bool) (f l v : Int) (a : Bool) (hL hV oL oV : Ix → Int) (wt : Ix → Bool) :
    isEnd (evTill Try.prog sums5 100 (behind Try.f3 0) 100 3 (headOf Try.f3 0) (envAt 125 (slE M i)) (X3 N M L V K F Lv Vv A ++ (triE f l v a ++ sideE hL hV oL oV wt)) ⟨[.s false, .s false, .s false, .s true, .s true, .s true, .s true, .s true, .s true, .s true, .s false, .s false, .s true, .s true], 130⟩) (endP [] (.v (.vb fun _ => true)) [] 300) =
    (OkL
    [(decide ((↑i : Int) < (↑M : Int)), false), (decide (f < (1 : Int)), false), (decide (f > (18 : Int)), false),
      (decide ((0 : Int) ≤ f ∧ f < (↑(19 : Nat) : Int)), true), (f.toNat.blt (19 : Nat), true),
      (decide (f ≥ (1 : Int)), true), (decide (f ≤ (18 : Int)), true), (!fineB l v, true),
      (!(hearR f l v a hL hV oL oV).2, true),
      ((hearR f l v a hL hV oL oV).1.1 == (0 : Int) &&
          ((hearR f l v a hL hV oL oV).1.2.1 == (0 : Int) &&
              ((hearR f l v a hL hV oL oV).1.2.2.1 == (0 : Int) && true) &&
            ((hearR f l v a hL hV oL oV).1.2.2.2 == false && true)),
        true),
      (decide (f < (1 : Int)), false), (decide (f > (18 : Int)), false),
      (decide ((0 : Int) ≤ f ∧ f < (↑(19 : Nat) : Int)), true), (f.toNat.blt (19 : Nat), true)] ∧
  true =
      ((hearS f l v a hL hV oL oV).1 [f.toNat] == hL [f.toNat] &&
        ((hearS f l v a hL hV oL oV).2 [f.toNat] == hV [f.toNat] && true)) ∧
    True) := by kernel_rfl


theorem e_ack (N M i : Nat) (L V K F Lv Vv : Ix → Int) (A : Ix → Bool) (f l v : Int) (a : Bool) (hL hV oL oV : Ix → Int) (wt : Ix → Bool) :
    isEnd (evTill Try.prog sums5 100 (behind Try.f3 0) 100 3 (headOf Try.f3 0) (envAt 125 (slE M i)) (X3 N M L V K F Lv Vv A ++ (triE f l v a ++ sideE hL hV oL oV wt)) ⟨[.s false, .s false, .s false, .s true, .s true, .s true, .s true, .s false, .s true, .s true, .s true, .s false, .s false, .s true, .s true], 130⟩) (endP [] (.v (.vb fun _ => true)) [] 300) =
    (OkL
    [(decide ((↑i : Int) < (↑M : Int)), false), (decide (f < (1 : Int)), false), (decide (f > (18 : Int)), false),
      (decide ((0 : Int) ≤ f ∧ f < (↑(19 : Nat) : Int)), true), (f.toNat.blt (19 : Nat), true),
      (decide (f ≥ (1 : Int)), true), (decide (f ≤ (18 : Int)), true), (!fineB l v, false), (a, true),
      (!(hearR f l v a hL hV oL oV).2, true),
      ((hearR f l v a hL hV oL oV).1.1 == (0 : Int) &&
          ((hearR f l v a hL hV oL oV).1.2.1 == (0 : Int) &&
              ((hearR f l v a hL hV oL oV).1.2.2.1 == (0 : Int) && true) &&
            ((hearR f l v a hL hV oL oV).1.2.2.2 == false && true)),
        true),
      (decide (f < (1 : Int)), false), (decide (f > (18 : Int)), false),
      (decide ((0 : Int) ≤ f ∧ f < (↑(19 : Nat) : Int)), true), (f.toNat.blt (19 : Nat), true)] ∧
  true =
      ((hearS f l v a hL hV oL oV).1 [f.toNat] == hL [f.toNat] &&
        ((hearS f l v a hL hV oL oV).2 [f.toNat] == hV [f.toNat] && true)) ∧
    True) := by kernel_rfl


theorem e_same (N M i : Nat) (L V K F Lv Vv : Ix → Int) (A : Ix → Bool) (f l v : Int) (a : Bool) (hL hV oL oV : Ix → Int) (wt : Ix → Bool) :
    isEnd (evTill Try.prog sums5 100 (behind Try.f3 0) 100 3 (headOf Try.f3 0) (envAt 125 (slE M i)) (X3 N M L V K F Lv Vv A ++ (triE f l v a ++ sideE hL hV oL oV wt)) ⟨[.s false, .s false, .s false, .s true, .s true, .s true, .s true, .s false, .s false, .s true, .s true, .s true, .s false, .s false, .s true, .s true], 130⟩) (endP [] (.v (.vb fun _ => true)) [] 300) =
    (OkL
    [(decide ((↑i : Int) < (↑M : Int)), false), (decide (f < (1 : Int)), false), (decide (f > (18 : Int)), false),
      (decide ((0 : Int) ≤ f ∧ f < (↑(19 : Nat) : Int)), true), (f.toNat.blt (19 : Nat), true),
      (decide (f ≥ (1 : Int)), true), (decide (f ≤ (18 : Int)), true), (!fineB l v, false), (a, false),
      (l == hL [f.toNat] && (v == hV [f.toNat] && true), true), (!(hearR f l v a hL hV oL oV).2, true),
      ((hearR f l v a hL hV oL oV).1.1 == (0 : Int) &&
          ((hearR f l v a hL hV oL oV).1.2.1 == (0 : Int) &&
              ((hearR f l v a hL hV oL oV).1.2.2.1 == (0 : Int) && true) &&
            ((hearR f l v a hL hV oL oV).1.2.2.2 == false && true)),
        true),
      (decide (f < (1 : Int)), false), (decide (f > (18 : Int)), false),
      (decide ((0 : Int) ≤ f ∧ f < (↑(19 : Nat) : Int)), true), (f.toNat.blt (19 : Nat), true)] ∧
  true =
      ((hearS f l v a hL hV oL oV).1 [f.toNat] == hL [f.toNat] &&
        ((hearS f l v a hL hV oL oV).2 [f.toNat] == hV [f.toNat] && true)) ∧
    True) := by kernel_rfl


theorem e_told (N M i : Nat) (L V K F Lv Vv : Ix → Int) (A : Ix → Bool) (f l v : Int) (a : Bool) (hL hV oL oV : Ix → Int) (wt : Ix → Bool) :
    isEnd (evTill Try.prog sums5 100 (behind Try.f3 0) 100 3 (headOf Try.f3 0) (envAt 125 (slE M i)) (X3 N M L V K F Lv Vv A ++ (triE f l v a ++ sideE hL hV oL oV wt)) ⟨[.s false, .s false, .s false, .s true, .s true, .s true, .s true, .s false, .s false, .s false, .s true, .s false, .s false, .s true, .s true], 130⟩) (endP [] (.v (.vb fun _ => true)) [] 300) =
    (OkL
    [(decide ((↑i : Int) < (↑M : Int)), false), (decide (f < (1 : Int)), false), (decide (f > (18 : Int)), false),
      (decide ((0 : Int) ≤ f ∧ f < (↑(19 : Nat) : Int)), true), (f.toNat.blt (19 : Nat), true),
      (decide (f ≥ (1 : Int)), true), (decide (f ≤ (18 : Int)), true), (!fineB l v, false), (a, false),
      (l == hL [f.toNat] && (v == hV [f.toNat] && true), false), ((hearR f l v a hL hV oL oV).2, true),
      (decide (f < (1 : Int)), false), (decide (f > (18 : Int)), false),
      (decide ((0 : Int) ≤ f ∧ f < (↑(19 : Nat) : Int)), true), (f.toNat.blt (19 : Nat), true)] ∧
  true =
      ((hearS f l v a hL hV oL oV).1 [f.toNat] == (hearR f l v a hL hV oL oV).1.2.1 &&
        ((hearS f l v a hL hV oL oV).2 [f.toNat] == (hearR f l v a hL hV oL oV).1.2.2.1 && true)) ∧
    True) := by kernel_rfl


end Go.Proofs.Ytdmkdmaofgjelaa
