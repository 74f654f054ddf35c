/- SlcStill: the plain facts, and the loop. -/
import Derived.Test.YtdmkdmaofgjelaaSfC
set_option linter.unusedSimpArgs false
set_option linter.unusedVariables false
set_option maxRecDepth 100000
namespace Go.Proofs.Ytdmkdmaofgjelaa
open Go.Sx

def Fine (oL oV : Ix → Int) : Prop := ∀ p, p < 19 → fineB (oL [p]) (oV [p]) = true

theorem nwL_fine {L V : Ix → Int} : ∀ {k i : Nat} {s : (Ix → Int) × (Ix → Int)}, Fine s.1 s.2 → Fine (nwL L V k i s).1 (nwL L V k i s).2
  | 0, i, s, h => h
  | k + 1, i, s, h => by
    refine nwL_fine (k := k) (i := i + 1) (s := stepH L V i s) ?_
    unfold stepH
    split
    · rename_i hc
      intro p hp
      simp only [upd]
      by_cases hpi : p = i + 1
      · subst hpi
        simp only [if_true]; exact hc.2.1
      · have : ¬ ([p] : Ix) = [i + 1] := by simp [hpi]
        simp only [if_neg this]; exact h p hp
    · exact h

theorem newL_fine (N : Nat) (L V : Ix → Int) : Fine (newL N L V).1 (newL N L V).2 := nwL_fine (fun p _ => rfl)

theorem ans_fine {l v ol ov : Int} (h1 : fineB l v = true) (h2 : fineB ol ov = true) : fineB (ans l v ol ov).1 (ans l v ol ov).2.1 = true := by
  unfold ans
  repeat' split
  all_goals first | exact h1 | exact h2 | rfl

theorem told_ok {f l v : Int} {a : Bool} {hL hV : Ix → Int} (h : told f l v a hL hV = true) : 1 ≤ f ∧ f ≤ 18 ∧ fineB l v = true := by
  simp only [told, rightT, Bool.and_eq_true, decide_eq_true_eq] at h
  exact ⟨h.1.1.1, h.1.1.2, h.1.2⟩

section
variable {f l v : Int} {a : Bool} {hL hV oL oV : Ix → Int}
theorem hear_yes (h : told f l v a hL hV = true) : hearR f l v a hL hV oL oV = ((f, (ans l v (oL [f.toNat]) (oV [f.toNat])).1, (ans l v (oL [f.toNat]) (oV [f.toNat])).2.1, (ans l v (oL [f.toNat]) (oV [f.toNat])).2.2), true) ∧
    hearS f l v a hL hV oL oV = (upd hL [f.toNat] (ans l v (oL [f.toNat]) (oV [f.toNat])).1, upd hV [f.toNat] (ans l v (oL [f.toNat]) (oV [f.toNat])).2.1) :=
  ⟨by unfold hearR; rw [if_pos h], by unfold hearS; rw [if_pos h]⟩
theorem hear_no (h : told f l v a hL hV = false) : hearR f l v a hL hV oL oV = ((0, 0, 0, false), false) ∧ hearS f l v a hL hV oL oV = (hL, hV) :=
  ⟨by unfold hearR; rw [h]; rfl, by unfold hearS; rw [h]; rfl⟩
end

abbrev YES : SV := .v (.vb fun _ => true)

theorem sl_loop (N M : Nat) (L V K F Lv Vv : Ix → Int) (A : Ix → Bool) (f l v : Int) (a : Bool) (oL oV : Ix → Int) (hf : Fine oL oV) (hM : M ≤ 60) : ∀ k i hL hV wt, M = i + k →
    RunsTo Try.prog 3 (headOf Try.f3 0) (envAt 125 (slE M i)) (Sx.look (X3 N M L V K F Lv Vv A ++ (triE f l v a ++ sideE hL hV oL oV wt))) 110 YES (Sx.look []) 300
  | 0, i, hL, hV, wt, h => by
    have wf : wfState 130 (envAt 125 (slE M i)) (X3 N M L V K F Lv Vv A ++ (triE f l v a ++ sideE hL hV oL oV wt)) = true := by kernel_rfl
    have c0 : decide ((i : Int) < (M : Int)) = false := no (by omega)
    by_cases h1 : f < 1
    · have ht : told f l v a hL hV = false := by simp [told, rightT, show ¬ 1 ≤ f by omega]
      obtain ⟨r1, r2⟩ := hear_no (oL := oL) (oV := oV) ht
      refine runs_last base5 (Sx.Ends.of (e_lo N M i L V K F Lv Vv A f l v a hL hV oL oV wt) ?_) wf rfl gtopN (by decide)
      rw [r1]
      exact ⟨okc c0 (okc (yes h1) (okc (no (by omega)) (okc rfl (okc rfl (okc (yes h1) okn))))), rfl, trivial⟩
    by_cases h2 : f > 18
    · have ht : told f l v a hL hV = false := by simp [told, rightT, show ¬ f ≤ 18 by omega]
      obtain ⟨r1, r2⟩ := hear_no (oL := oL) (oV := oV) ht
      refine runs_last base5 (Sx.Ends.of (e_hi N M i L V K F Lv Vv A f l v a hL hV oL oV wt) ?_) wf rfl gtopN (by decide)
      rw [r1]
      exact ⟨okc c0 (okc (no h1) (okc (yes h2) (okc (yes (by omega)) (okc (no (by omega)) (okc rfl (okc rfl (okc (no h1) (okc (yes h2) okn)))))))), rfl, trivial⟩
    have c1 : decide ((0 : Int) ≤ f ∧ f < ((19 : Nat) : Int)) = true := yes ⟨by omega, by omega⟩
    have c2 : Nat.blt f.toNat 19 = true := blt (by omega)
    cases h3 : fineB l v with
    | false =>
      have ht : told f l v a hL hV = false := by simp [told, rightT, h3]
      obtain ⟨r1, r2⟩ := hear_no (oL := oL) (oV := oV) ht
      refine runs_last base5 (Sx.Ends.of (e_bad N M i L V K F Lv Vv A f l v a hL hV oL oV wt) ?_) wf rfl gtopN (by decide)
      rw [r1, r2]
      exact ⟨okc c0 (okc (no h1) (okc (no h2) (okc c1 (okc c2 (okc (yes (by omega)) (okc (yes (by omega)) (okc (by rw [h3]; rfl) (okc rfl (okc rfl (okc (no h1) (okc (no h2) (okc c1 (okc c2 okn))))))))))))), by simp, trivial⟩
    | true =>
      have c3 : (!fineB l v) = false := by rw [h3]; rfl
      have hr : rightT f l v = true := by simp [rightT, h3, show 1 ≤ f by omega, show f ≤ 18 by omega]
      cases h4 : a with
      | true =>
        subst h4
        have ht : told f l v true hL hV = false := by simp [told]
        obtain ⟨r1, r2⟩ := hear_no (oL := oL) (oV := oV) ht
        refine runs_last base5 (Sx.Ends.of (e_ack N M i L V K F Lv Vv A f l v true hL hV oL oV wt) ?_) wf rfl gtopN (by decide)
        rw [r1, r2]
        exact ⟨okc c0 (okc (no h1) (okc (no h2) (okc c1 (okc c2 (okc (yes (by omega)) (okc (yes (by omega)) (okc c3 (okc rfl (okc rfl (okc rfl (okc (no h1) (okc (no h2) (okc c1 (okc c2 okn)))))))))))))), by simp, trivial⟩
      | false =>
        subst h4
        cases h5 : (l == hL [f.toNat] && (v == hV [f.toNat] && true)) with
        | true =>
          have ht : told f l v false hL hV = false := by simp only [Bool.and_true] at h5; simp [told, h5]
          obtain ⟨r1, r2⟩ := hear_no (oL := oL) (oV := oV) ht
          refine runs_last base5 (Sx.Ends.of (e_same N M i L V K F Lv Vv A f l v false hL hV oL oV wt) ?_) wf rfl gtopN (by decide)
          rw [r1, r2]
          exact ⟨okc c0 (okc (no h1) (okc (no h2) (okc c1 (okc c2 (okc (yes (by omega)) (okc (yes (by omega)) (okc c3 (okc rfl (okc h5 (okc rfl (okc rfl (okc (no h1) (okc (no h2) (okc c1 (okc c2 okn))))))))))))))), by simp, trivial⟩
        | false =>
          have ht : told f l v false hL hV = true := by simp only [Bool.and_true] at h5; simp [told, hr, h5]
          obtain ⟨r1, r2⟩ := hear_yes (oL := oL) (oV := oV) ht
          refine runs_last base5 (Sx.Ends.of (e_told N M i L V K F Lv Vv A f l v false hL hV oL oV wt) ?_) wf rfl gtopN (by decide)
          rw [r1, r2]
          exact ⟨okc c0 (okc (no h1) (okc (no h2) (okc c1 (okc c2 (okc (yes (by omega)) (okc (yes (by omega)) (okc c3 (okc rfl (okc h5 (okc rfl (okc (no h1) (okc (no h2) (okc c1 (okc c2 okn)))))))))))))), by simp [upd_same], trivial⟩
  | k + 1, i, hL, hV, wt, h => by
    have wf : wfState 130 (envAt 125 (slE M i)) (X3 N M L V K F Lv Vv A ++ (triE f l v a ++ sideE hL hV oL oV wt)) = true := by kernel_rfl
    have sh : sharedB 110 (X3 N M L V K F Lv Vv A) = true := by kernel_rfl
    have hi0 : (0 : Nat) + (i : Int).toNat = i := by omega
    have hw : ((i + 1 : Nat) : Int) = IntKind.i64.wrap ((i : Int) + 1) := by rw [wr64 (by omega)]; rfl
    have c1 : decide ((i : Int) < (M : Int)) = true := yes (by omega)
    have c2 : decide ((0 : Int) ≤ (i : Int) ∧ (i : Int) < (M : Int)) = true := yes (by omega)
    have c3 : Nat.blt i M = true := blt (by omega)
    by_cases k0 : K [i] = 0
    · have next := fun hL hV wt => sl_loop N M L V K F Lv Vv A f l v a oL oV hf hM k (i + 1) hL hV wt (by omega)
      cases ht : told (F [i]) (Lv [i]) (Vv [i]) (A [i]) hL hV with
      | true =>
        obtain ⟨r1, r2⟩ := hear_yes (oL := oL) (oV := oV) ht
        obtain ⟨t1, t2, t3⟩ := told_ok ht
        have hfn := ans_fine t3 (hf (F [i]).toNat (by omega))
        have m := it_told N M i L V K F Lv Vv A f l v a hL hV oL oV wt
        rw [hi0] at m
        refine runs_more base5 (More.of m ?_) sh wf rfl gtopN (by decide) (next _ _ _)
        rw [r1, r2]
        exact ⟨okc c1 (okc c2 (okc c3 (okc c3 (okc (eqb k0) (okc rfl (okc (by simp) (okc (no (by simp only; omega)) (okc (no (by simp only; omega)) (okc (yes ⟨by simp only; omega, by simp only; omega⟩) (okc (blt (by simp only; omega)) (okc (by simp [upd_same]) (okc (yes (by simp only; omega)) (okc (yes (by simp only; omega)) (okc (by simp only; rw [hfn]; rfl) okn)))))))))))))), rfl,
          ⟨rfl, rfl, ⟨rfl, rfl⟩, rfl, hw⟩, ⟨rfl, ⟨rfl, rfl⟩, rfl⟩, rfl, ⟨fun _ _ => rfl, fun _ _ => rfl⟩, ⟨fun _ _ => rfl, fun _ _ => rfl⟩, fun _ _ => rfl⟩
      | false =>
        obtain ⟨r1, r2⟩ := hear_no (oL := oL) (oV := oV) ht
        have m := it_quiet N M i L V K F Lv Vv A f l v a hL hV oL oV wt
        rw [hi0] at m
        refine runs_more base5 (More.of m ?_) sh wf rfl gtopN (by decide) (next _ _ _)
        rw [r1]
        exact ⟨okc c1 (okc c2 (okc c3 (okc c3 (okc (eqb k0) (okc rfl okn))))), rfl,
          ⟨rfl, rfl, ⟨rfl, rfl⟩, rfl, hw⟩, ⟨rfl, ⟨rfl, rfl⟩, rfl⟩, rfl, ⟨fun _ _ => rfl, fun _ _ => rfl⟩, ⟨fun _ _ => rfl, fun _ _ => rfl⟩, fun _ _ => rfl⟩
    · refine runs_more base5 (More.of (it_other N M i L V K F Lv Vv A f l v a hL hV oL oV wt) ?_) sh wf rfl gtopN (by decide) (sl_loop N M L V K F Lv Vv A f l v a oL oV hf hM k (i + 1) hL hV wt (by omega))
      rw [hi0]
      exact ⟨okc c1 (okc c2 (okc c3 (okc c3 (okc (neb k0) okn)))), rfl,
        ⟨rfl, rfl, ⟨rfl, rfl⟩, rfl, hw⟩, ⟨rfl, ⟨rfl, rfl⟩, rfl⟩, rfl, ⟨fun _ _ => rfl, fun _ _ => rfl⟩, ⟨fun _ _ => rfl, fun _ _ => rfl⟩, fun _ _ => rfl⟩

theorem law_runs (N M : Nat) (L V K F Lv Vv : Ix → Int) (A : Ix → Bool) (f l v : Int) (a : Bool) :
    RunsTo Try.prog 3 [.code (bodyOf Try.f3)] (envOf [setV N, actV M, .agg (triT f l v a)] 125) (Sx.look (X3 N M L V K F Lv Vv A ++ [])) 110 YES (Sx.look []) 300 := by
  have wf : wfState 110 (envOf [setV N, actV M, .agg (triT f l v a)] 125) (X3 N M L V K F Lv Vv A ++ []) = true := by kernel_rfl
  have sh : sharedB 110 (X3 N M L V K F Lv Vv A) = true := by kernel_rfl
  by_cases h1 : N > 40
  · exact runs_last base5 (Sx.Ends.of (s_many1 N M L V K F Lv Vv A f l v a) ⟨okc (yes (by omega)) okn, rfl, trivial⟩) wf rfl gtopN (by decide)
  by_cases h2 : M > 60
  · exact runs_last base5 (Sx.Ends.of (s_many2 N M L V K F Lv Vv A f l v a) ⟨okc (no (by omega)) (okc (yes (by omega)) okn), rfl, trivial⟩) wf rfl gtopN (by decide)
  refine runs_more base5 (More.of (s_start N M L V K F Lv Vv A f l v a) ?_) sh wf rfl gtopN (by decide) (sl_loop N M L V K F Lv Vv A f l v a (newL N L V).1 (newL N L V).2 (newL_fine N L V) (by omega) M 0 zI zI zB (by omega))
  exact ⟨okc (no (by omega)) (okc (no (by omega)) (okc (beqT rfl) (okc (ble (by omega)) okn))), rfl, ⟨rfl, rfl, ⟨rfl, rfl⟩, rfl, rfl⟩, ⟨rfl, ⟨rfl, rfl⟩, rfl⟩, rfl, ⟨fun _ _ => rfl, fun _ _ => rfl⟩, ⟨fun _ _ => rfl, fun _ _ => rfl⟩, fun _ _ => rfl⟩

end Go.Proofs.Ytdmkdmaofgjelaa
