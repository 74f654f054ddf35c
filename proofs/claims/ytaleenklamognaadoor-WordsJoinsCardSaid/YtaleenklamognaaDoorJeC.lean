/- Words: all tokens of a text. -/
import Derived.Test.YtaleenklamognaaDoorJdC
set_option linter.unusedSimpArgs false
set_option linter.unusedVariables false
set_option maxRecDepth 100000
namespace Go.Proofs.YtaleenklamognaaDoor
open Go.Sx

open WordR
def zW : Wt := ⟨0, [], 0, [], 0⟩
def wK (T : List Wt) : Ix → Int := fun is => ((T.getD (is.headD 0) zW).kind : Int)
def wX (T : List Wt) : Ix → List UInt8 := fun is => (T.getD (is.headD 0) zW).text
def wN (T : List Wt) : Ix → Int := fun is => (T.getD (is.headD 0) zW).num
def wP (T : List Wt) : Ix → Int := fun is => ((T.getD (is.headD 0) zW).pos : Int)
def wM (T : List Wt) : Ix → Nat := fun is => T.length - 1 - is.headD 0
def wL (T : List Wt) : Ix → Nat := fun is => (T.getD (is.headD 0) zW).ps.length
def gpL (T : List Wt) : Nat → Nat := fun m => (T.getD (T.length - 1 - m) zW).ps.length
def gpV (T : List Wt) : Ix → List UInt8 := fun is => ((T.getD (T.length - 1 - is.headD 0) zW).ps.getD (is.tail.headD 0) zP).var
def gpT (T : List Wt) : Ix → List UInt8 := fun is => ((T.getD (T.length - 1 - is.headD 0) zW).ps.getD (is.tail.headD 0) zP).lit
def wtE (l f : Nat) (T : List Wt) : List Ent := [⟨l, true, none, 5, .ta T.length (.tc (.vi .i64 (wK T)) (.tc (.vs (wX T)) (.tc (.vi .i64 (wN T)) (.tc (.vl f (wM T) 2 [] (wL T)) (.tc (.vi .i64 (wP T)) .t0)))))⟩, ⟨f, true, some (T.length, gpL T), 2, .tc (.vs (gpV T)) (.tc (.vs (gpT T)) .t0)⟩]
def atW (t : Wt) (a : Nat) : Wt := ⟨t.kind, t.text, t.num, t.ps, a⟩
theorem wt_app {β : Type} (f : Wt → β) (T : List Wt) (t : Wt) (g : Ix → β) (hg : g [0] = f t) : ∀ k, k < T.length + 1 → f ((T ++ [t]).getD k zW) = appF T.length 0 (fun is => f (T.getD (is.headD 0) zW)) g [k] := fun k hk =>
  app_get f zW T [t] g (fun j hj => by
    have : j = 0 := by simp at hj; omega
    subst this; exact hg) k (by simpa using hk)
theorem wK_app (T : List Wt) (t : Wt) (g : Ix → Int) (hg : g [0] = (t.kind : Int)) : ∀ k, k < T.length + 1 → wK (T ++ [t]) [k] = appF T.length 0 (wK T) g [k] := wt_app (fun t => (t.kind : Int)) T t g hg
theorem wX_app (T : List Wt) (t : Wt) (g : Ix → List UInt8) (hg : g [0] = t.text) : ∀ k, k < T.length + 1 → wX (T ++ [t]) [k] = appF T.length 0 (wX T) g [k] := wt_app (fun t => t.text) T t g hg
theorem wN_app (T : List Wt) (t : Wt) (g : Ix → Int) (hg : g [0] = t.num) : ∀ k, k < T.length + 1 → wN (T ++ [t]) [k] = appF T.length 0 (wN T) g [k] := wt_app (fun t => t.num) T t g hg
theorem wP_app (T : List Wt) (t : Wt) (g : Ix → Int) (hg : g [0] = (t.pos : Int)) : ∀ k, k < T.length + 1 → wP (T ++ [t]) [k] = appF T.length 0 (wP T) g [k] := wt_app (fun t => (t.pos : Int)) T t g hg
theorem wL_app (T : List Wt) (t : Wt) (g : Ix → Nat) (hg : g [0] = t.ps.length) : ∀ k, k < T.length + 1 → wL (T ++ [t]) [k] = appF T.length 0 (wL T) g [k] := wt_app (fun t => t.ps.length) T t g hg
theorem wM_app (T : List Wt) (t : Wt) (f g : Ix → Nat) (hf : ∀ k, k < T.length → f [k] = T.length - 1 - k + 1) (hg : g [0] = 0) : ∀ k, k < T.length + 1 → wM (T ++ [t]) [k] = appF T.length 0 f g [k] := fun k hk => by
  simp only [wM, appF, List.length_append, List.length_cons, List.length_nil, List.headD, Nat.zero_add]
  split
  · rename_i h; have := hf k h; omega
  · have : k = T.length := by omega
    subst this; simp [hg]
theorem wgetD_last (T : List Wt) (t : Wt) : (T ++ [t]).getD T.length zW = t := by simp
theorem wgetD_pre (T : List Wt) (t : Wt) {k : Nat} (h : k < T.length) : (T ++ [t]).getD k zW = T.getD k zW := by simp [List.getD_eq_getElem?_getD, List.getElem?_append_left h]
theorem gpL_cons (T : List Wt) (t : Wt) (n : Nat) (hn : n = t.ps.length) : ∀ m, m < T.length + 1 → gpL (T ++ [t]) m = consN n (gpL T) m
  | 0, _ => by simp [gpL, consN, hn]
  | m + 1, h => by
    simp only [gpL, consN, List.length_append, List.length_cons, List.length_nil]
    rw [show T.length + (0 + 1) - 1 - (m + 1) = T.length - 1 - m by omega, wgetD_pre T t (by omega)]
theorem gpV_cons (T : List Wt) (t : Wt) (g : Ix → List UInt8) : ∀ m, m < T.length + 1 → ∀ j, (∀ j, j < t.ps.length → g [j] = (t.ps.getD j zP).var) → j < gpL (T ++ [t]) m → gpV (T ++ [t]) [m, j] = consF g (gpV T) [m, j]
  | 0, _, j, hg, hj => by
    have hj2 : j < t.ps.length := by simpa [gpL] using hj
    simp only [gpV, consF, List.headD, List.tail, List.length_append, List.length_cons, List.length_nil]
    rw [show T.length + (0 + 1) - 1 - 0 = T.length by omega, wgetD_last, hg j hj2]
  | m + 1, h, j, hg, hj => by
    simp only [gpV, consF, List.headD, List.tail, List.length_append, List.length_cons, List.length_nil]
    rw [show T.length + (0 + 1) - 1 - (m + 1) = T.length - 1 - m by omega, wgetD_pre T t (by omega)]
theorem gpT_cons (T : List Wt) (t : Wt) (g : Ix → List UInt8) : ∀ m, m < T.length + 1 → ∀ j, (∀ j, j < t.ps.length → g [j] = (t.ps.getD j zP).lit) → j < gpL (T ++ [t]) m → gpT (T ++ [t]) [m, j] = consF g (gpT T) [m, j]
  | 0, _, j, hg, hj => by
    have hj2 : j < t.ps.length := by simpa [gpL] using hj
    simp only [gpT, consF, List.headD, List.tail, List.length_append, List.length_cons, List.length_nil]
    rw [show T.length + (0 + 1) - 1 - 0 = T.length by omega, wgetD_last, hg j hj2]
  | m + 1, h, j, hg, hj => by
    simp only [gpT, consF, List.headD, List.tail, List.length_append, List.length_cons, List.length_nil]
    rw [show T.length + (0 + 1) - 1 - (m + 1) = T.length - 1 - m by omega, wgetD_pre T t (by omega)]
def sumsSPOk : List (FuncId × Summ) := [(49, skP.summ 46), (51, tokOkP.summ 46)]
theorem baseSPOk : Base0 Tryd.prog sumsSPOk := ((baseO.cons Tryd.func51 (by kernel_rfl) (PC.summ_ok tokOkP_pc gtopG)).cons Tryd.func49 (by kernel_rfl) (PC.summ_ok skP_pc gtopG))
def sumsSPSh : List (FuncId × Summ) := [(49, skP.summ 46), (51, tokShP.summ 46)]
theorem baseSPSh : Base0 Tryd.prog sumsSPSh := ((baseO.cons Tryd.func51 (by kernel_rfl) (PC.summ_ok tokShP_pc gtopG)).cons Tryd.func49 (by kernel_rfl) (PC.summ_ok skP_pc gtopG))
def sumsSPFo : List (FuncId × Summ) := [(49, skP.summ 46), (51, tokFoP.summ 46)]
theorem baseSPFo : Base0 Tryd.prog sumsSPFo := ((baseO.cons Tryd.func51 (by kernel_rfl) (PC.summ_ok tokFoP_pc gtopG)).cons Tryd.func49 (by kernel_rfl) (PC.summ_ok skP_pc gtopG))
def sumsSPLo : List (FuncId × Summ) := [(49, skP.summ 46), (51, tokLoP.summ 46)]
theorem baseSPLo : Base0 Tryd.prog sumsSPLo := ((baseO.cons Tryd.func51 (by kernel_rfl) (PC.summ_ok tokLoP_pc gtopG)).cons Tryd.func49 (by kernel_rfl) (PC.summ_ok skP_pc gtopG))
theorem spL_p0 (t0 t1 t2 s : List UInt8) :
    isEnd (evTill Tryd.prog sumsSPOk 400 (99) 900 14 [.code (bodyOf Tryd.f14)] (envOf [vS s] Tryd.f14.ntmps) (sentEnts 23 213 [(5, t0), (6, t1), (0, t2)] ++ ([])) ⟨[.s true], 80⟩) (endP ([]) (.tup [(false, .vl0), (false, .vi .i64 fun _ => (0 : Int)), (false, vErr 0)]) ([]) 9000) =
    (OkL [(decide ((↑s.length : Int) > 4000), true)] ∧ (True ∧ (0 : Int) = (0 : Int) ∧ 0 = 0 ∧ True) ∧ True) := by kernel_rfl

set_option maxHeartbeats 4000000 in
theorem spL (t0 t1 t2 s : List UInt8) (hs : 4000 < s.length)  :
    RunsTo Tryd.prog 14 [.code (bodyOf Tryd.f14)] (envOf [vS s] Tryd.f14.ntmps) (Sx.look (sentEnts 23 213 [(5, t0), (6, t1), (0, t2)] ++ ([]))) 80 (.tup [(false, .vl0), (false, .vi .i64 fun _ => (0 : Int)), (false, vErr 0)]) (Sx.look ([])) 9000 := by
  refine runs_last baseSPOk (Sx.Ends.of (spL_p0 t0 t1 t2 s) ⟨(okc ?_ okn), ?_⟩) (by kernel_rfl) rfl (gtL (by decide)) (by decide)
  all_goals first | (refine And.intro ?_ ?_ <;> ((try simp (disch := omega) only [SS]); (repeat' apply And.intro); (all_goals first | exact True.intro | with_reducible rfl | omega | (intros; first | exact True.intro | with_reducible rfl | omega | (simp_all; done)) | (simp_all; done) | rfl))) | (((try simp (disch := omega) only [SS]); first | done | omega | assumption | (simp (disch := omega) only [SS] at *; first | done | omega | assumption) | (simp_all; done)))

theorem sp0_p0 (t0 t1 t2 s : List UInt8) (b : Nat) :
    isMore (evTill Tryd.prog sumsSPOk 400 (behind Tryd.f14 0) 900 14 [.code (bodyOf Tryd.f14)] (envOf [vS s] Tryd.f14.ntmps) (sentEnts 23 213 [(5, t0), (6, t1), (0, t2)] ++ ([])) ⟨[.s false, .s true], 80⟩) (moreP (headOf Tryd.f14 0) ([(101, Rn.to 80), (102, Rn.nil 5), (103, Rn.nil 2)]) Tryd.f14.ntmps ([(5, vP 101), (6, vL 102 5 (([] : List Wt)).length)]) (rdW 101 s (b : Nat) ++ wtE 102 103 (([] : List Wt))) 9000) =
    (OkL [(decide ((↑s.length : Int) > 4000), false), (decide ((0 : Int) ≤ 0) && (decide (Int.toNat (0 : Int) ≤ s.length) && decide (s.length ≤ (100000 : Nat))), true)] ∧ headOf Tryd.f14 0 = headOf Tryd.f14 0 ∧ (0 = 0 ∧ 0 = 0) ∧ (s = s ∧ (b : Int) = (↑(Int.toNat (0 : Int) + gapR false (List.drop (Int.toNat (0 : Int)) s)) : Int)) ∧ 0 = 0 ∧ 0 = 0) := by kernel_rfl

set_option maxHeartbeats 4000000 in
theorem sp0 (t0 t1 t2 s : List UInt8) (b : Nat) (hs : s.length ≤ 4000) (hb : gapR false s = b)  (v : SV) (L' : HF) (next : RunsTo Tryd.prog 14 (headOf Tryd.f14 0) (envAt Tryd.f14.ntmps ([(5, vP 101), (6, vL 102 5 (([] : List Wt)).length)])) (Sx.look (sentEnts 23 213 [(5, t0), (6, t1), (0, t2)] ++ (rdW 101 s (b : Nat) ++ wtE 102 103 (([] : List Wt))))) 80 (v) (L') 9000) :
    RunsTo Tryd.prog 14 [.code (bodyOf Tryd.f14)] (envOf [vS s] Tryd.f14.ntmps) (Sx.look (sentEnts 23 213 [(5, t0), (6, t1), (0, t2)] ++ ([]))) 80 (v) (L') 9000 := by
  have hb0 : 0 + gapR false (s.drop 0) = b := by rw [List.drop_zero, Nat.zero_add]; exact hb
  refine runs_more baseSPOk (More.of (sp0_p0 t0 t1 t2 s b) ⟨(okc ?_ (okc ?_ okn)), rfl, ?_⟩) (by kernel_rfl) (by kernel_rfl) rfl (gtL (by decide)) (by decide) next
  all_goals clear next
  all_goals first | (refine And.intro ?_ ?_ <;> ((try simp (disch := omega) only [SS, hb0, hb, List.drop_zero, Nat.zero_add]); (repeat' apply And.intro); (all_goals first | exact True.intro | with_reducible rfl | omega | (intros; first | exact True.intro | with_reducible rfl | omega | (simp_all; done)) | (simp_all; done) | rfl))) | (((try simp (disch := omega) only [SS, hb0, hb, List.drop_zero, Nat.zero_add]); first | done | omega | assumption | (simp (disch := omega) only [SS, hb0, hb, List.drop_zero, Nat.zero_add] at *; first | done | omega | assumption) | (simp_all; done)))

theorem spE_p0 (t0 t1 t2 s : List UInt8) (T : List Wt) (a : Nat) :
    isEnd (evTill Tryd.prog sumsSPOk 400 (99) 900 14 (headOf Tryd.f14 0) (envAt Tryd.f14.ntmps ([(5, vP 101), (6, vL 102 5 (T).length)])) (sentEnts 23 213 [(5, t0), (6, t1), (0, t2)] ++ (rdW 101 s (a : Nat) ++ wtE 102 103 (T))) ⟨[.s false], 140⟩) (endP ([]) (.tup [(false, .vl 102 (fun _ => 0) 5 [] (fun _ => (T).length)), (false, .vi .i64 fun _ => 0), (false, .ve0)]) (wtE 102 103 T) 9000) =
    (OkL [(!decide ((a : Int) ≥ (↑s.length : Int)), false)] ∧ ((0 = 0 ∧ T.length = T.length) ∧ (0 : Int) = (0 : Int) ∧ True ∧ True) ∧ (T.length = T.length ∧ (∀ (i : Nat), i < T.length → wK T [i] = wK T [i]) ∧ (∀ (i : Nat), i < T.length → wX T [i] = wX T [i]) ∧ (∀ (i : Nat), i < T.length → wN T [i] = wN T [i]) ∧ ((∀ (i : Nat), i < T.length → wM T [i] = wM T [i]) ∧ ∀ (i : Nat), i < T.length → wL T [i] = wL T [i]) ∧ ∀ (i : Nat), i < T.length → wP T [i] = wP T [i]) ∧ T.length = T.length ∧ ∀ (m : Nat), m < T.length → gpL T m = gpL T m ∧ (∀ (i : Nat), i < gpL T m → gpV T [m, i] = gpV T [m, i]) ∧ ∀ (i : Nat), i < gpL T m → gpT T [m, i] = gpT T [m, i]) := by kernel_rfl

set_option maxHeartbeats 4000000 in
theorem spE (t0 t1 t2 s : List UInt8) (T : List Wt) (a : Nat) (ha : a = s.length)  :
    RunsTo Tryd.prog 14 (headOf Tryd.f14 0) (envAt Tryd.f14.ntmps ([(5, vP 101), (6, vL 102 5 (T).length)])) (Sx.look (sentEnts 23 213 [(5, t0), (6, t1), (0, t2)] ++ (rdW 101 s (a : Nat) ++ wtE 102 103 (T)))) 80 (.tup [(false, .vl 102 (fun _ => 0) 5 [] (fun _ => (T).length)), (false, .vi .i64 fun _ => 0), (false, .ve0)]) (Sx.look (wtE 102 103 T)) 9000 := by
  refine runs_last baseSPOk (Sx.Ends.of (spE_p0 t0 t1 t2 s T a) ⟨(okc ?_ okn), ?_⟩) (by kernel_rfl) rfl (gtL (by decide)) (by decide)
  all_goals first | (refine And.intro ?_ ?_ <;> ((try simp (disch := omega) only [SS]); (repeat' apply And.intro); (all_goals first | exact True.intro | with_reducible rfl | omega | (intros; first | exact True.intro | with_reducible rfl | omega | (simp_all; done)) | (simp_all; done) | rfl))) | (((try simp (disch := omega) only [SS]); first | done | omega | assumption | (simp (disch := omega) only [SS] at *; first | done | omega | assumption) | (simp_all; done)))

theorem spR_p0 (t0 t1 t2 s : List UInt8) (T : List Wt) (a n b : Nat) (t : Wt) :
    isMore (evTill Tryd.prog sumsSPOk 400 (behind Tryd.f14 0) 900 14 (headOf Tryd.f14 0) (envAt Tryd.f14.ntmps ([(5, vP 101), (6, vL 102 5 (T).length)])) (sentEnts 23 213 [(5, t0), (6, t1), (0, t2)] ++ (rdW 101 s (a : Nat) ++ wtE 102 103 (T))) ⟨[.s true, .s true, .f, .t, .s true, .s true, .s true], 140⟩) (moreP (headOf Tryd.f14 0) ([(102, Rn.to 6063), (103, Rn.to 6062)]) Tryd.f14.ntmps ([(5, vP 101), (6, vL 102 5 (T ++ [atW t a]).length)]) (rdW 101 s (b : Nat) ++ wtE 102 103 (T ++ [atW t a])) 9000) =
    (OkL [(!decide ((a : Int) ≥ (↑s.length : Int)), true), (decide ((0 : Int) ≤ (a : Int)) && (decide ((a : Int).toNat < s.length) && (decide (s.length ≤ (4000 : Nat)) && isOkR (tokR (List.drop (a : Int).toNat s)))), true), ((0 + T.length).ble T.length, true), (decide (((2 : Nat) * (T.length + (1 : Nat)) + (192 : Nat)) * (64 : Nat) ≤ (281474976710656 : Nat)), true), (decide ((0 : Int) ≤ (↑((a : Int).toNat + okN (tokR (List.drop (a : Int).toNat s))) : Int)) && (decide ((↑((a : Int).toNat + okN (tokR (List.drop (a : Int).toNat s))) : Int).toNat ≤ s.length) && decide (s.length ≤ (100000 : Nat))), true)] ∧ headOf Tryd.f14 0 = headOf Tryd.f14 0 ∧ (0 = 0 ∧ 0 = 0 ∧ (T ++ [atW t a]).length = T.length + (1 : Nat)) ∧ (s = s ∧ (b : Int) = (↑((↑((a : Int).toNat + okN (tokR (List.drop (a : Int).toNat s))) : Int).toNat + gapR false (List.drop (↑((a : Int).toNat + okN (tokR (List.drop (a : Int).toNat s))) : Int).toNat s)) : Int)) ∧ ((T ++ [atW t a]).length = T.length + (1 : Nat) ∧ (∀ (i : Nat), i < (T ++ [atW t a]).length → wK (T ++ [atW t a]) [i] = appF T.length (0 : Nat) (wK T) (fun js => (↑(okT (tokR (List.drop (a : Int).toNat s))).1 : Int)) [i]) ∧ (∀ (i : Nat), i < (T ++ [atW t a]).length → wX (T ++ [atW t a]) [i] = appF T.length (0 : Nat) (wX T) (fun js => (okT (tokR (List.drop (a : Int).toNat s))).2) [i]) ∧ (∀ (i : Nat), i < (T ++ [atW t a]).length → wN (T ++ [atW t a]) [i] = appF T.length (0 : Nat) (wN T) (fun js => (okT (tokR (List.drop (a : Int).toNat s))).3) [i]) ∧ ((∀ (i : Nat), i < (T ++ [atW t a]).length → wM (T ++ [atW t a]) [i] = appF T.length (0 : Nat) (fun is => wM T is + (1 : Nat)) (fun js => (0 : Nat)) [i]) ∧ ∀ (i : Nat), i < (T ++ [atW t a]).length → wL (T ++ [atW t a]) [i] = appF T.length (0 : Nat) (wL T) (fun js => (okT (tokR (List.drop (a : Int).toNat s))).4.length) [i]) ∧ ∀ (i : Nat), i < (T ++ [atW t a]).length → wP (T ++ [atW t a]) [i] = appF T.length (0 : Nat) (wP T) (fun js => (a : Int)) [i]) ∧ (T ++ [atW t a]).length = T.length + (1 : Nat) ∧ ∀ (m : Nat), m < (T ++ [atW t a]).length → gpL (T ++ [atW t a]) m = consN (okT (tokR (List.drop (a : Int).toNat s))).4.length (gpL T) m ∧ (∀ (i : Nat), i < gpL (T ++ [atW t a]) m → gpV (T ++ [atW t a]) [m, i] = consF (prV (okT (tokR (List.drop (a : Int).toNat s))).4) (gpV T) [m, i]) ∧ ∀ (i : Nat), i < gpL (T ++ [atW t a]) m → gpT (T ++ [atW t a]) [m, i] = consF (prL (okT (tokR (List.drop (a : Int).toNat s))).4) (gpT T) [m, i]) := by kernel_rfl

set_option maxHeartbeats 4000000 in
theorem spR (t0 t1 t2 s : List UInt8) (T : List Wt) (a n b : Nat) (t : Wt) (ha : a < s.length) (hs : s.length ≤ 4000) (hT : T.length ≤ a) (h1 : isOkR (tokR (s.drop a)) = true) (h2 : okT (tokR (s.drop a)) = t) (h3 : okN (tokR (s.drop a)) = n) (hn : a + n ≤ s.length) (hb : a + n + gapR false (s.drop (a + n)) = b)  (v : SV) (L' : HF) (next : RunsTo Tryd.prog 14 (headOf Tryd.f14 0) (envAt Tryd.f14.ntmps ([(5, vP 101), (6, vL 102 5 (T ++ [atW t a]).length)])) (Sx.look (sentEnts 23 213 [(5, t0), (6, t1), (0, t2)] ++ (rdW 101 s (b : Nat) ++ wtE 102 103 (T ++ [atW t a])))) 80 (v) (L') 9000) :
    RunsTo Tryd.prog 14 (headOf Tryd.f14 0) (envAt Tryd.f14.ntmps ([(5, vP 101), (6, vL 102 5 (T).length)])) (Sx.look (sentEnts 23 213 [(5, t0), (6, t1), (0, t2)] ++ (rdW 101 s (a : Nat) ++ wtE 102 103 (T)))) 80 (v) (L') 9000 := by
  have hz : IntKind.i64.wrap ((a : Int) + 0) = (a : Int) := by rw [wr64 (by omega)]; omega
  refine runs_more baseSPOk (More.of (spR_p0 t0 t1 t2 s T a n b t) ⟨(okc ?_ (okc ?_ (okc ?_ (okc ?_ (okc ?_ okn))))), rfl, ?_⟩) (by kernel_rfl) (by kernel_rfl) rfl (gtL (by decide)) (by decide) next
  all_goals clear next
  all_goals first | (refine And.intro ?_ ?_ <;> ((try simp (disch := omega) only [SS, h1, h2, h3, hb, hz, Go.Sx.sum, List.length_append, List.length_cons, List.length_nil, Nat.zero_add]); (repeat' apply And.intro); (all_goals first | exact True.intro | with_reducible rfl | omega | exact wK_app T _ _ rfl | exact wX_app T _ _ rfl | exact wN_app T _ _ rfl | exact wP_app T _ _ rfl | exact wL_app T _ _ rfl | exact wM_app T _ _ _ (fun k hk => rfl) rfl | exact gpL_cons T _ _ rfl | (intro m hm; exact ⟨gpL_cons T _ _ rfl m hm, fun j hj => gpV_cons T _ _ m hm j (fun j hj => by first | rfl | (simp [subIx, prV]; done)) hj⟩) | (intro m hm; exact ⟨gpL_cons T _ _ rfl m hm, fun j hj => gpT_cons T _ _ m hm j (fun j hj => by first | rfl | (simp [subIx, prL]; done)) hj⟩) | (intro m hm; refine ⟨gpL_cons T _ _ rfl m hm, fun j hj => gpV_cons T _ _ m hm j (fun j hj => by first | rfl | (simp [subIx, prV]; done)) hj, fun j hj => gpT_cons T _ _ m hm j (fun j hj => by first | rfl | (simp [subIx, prL]; done)) hj⟩) | (intro m hm j hj; exact gpV_cons T _ _ m hm j (fun j hj => by first | rfl | (simp [subIx, prV]; done)) hj) | (intro m hm j hj; exact gpT_cons T _ _ m hm j (fun j hj => by first | rfl | (simp [subIx, prL]; done)) hj) | (simp_all; done)))) | (first | omega | (simp (disch := omega) only [SS, h1, h2, h3, hb, hz]; first | done | omega | assumption | exact ⟨by omega, by omega, h1⟩ | exact ⟨by omega, by omega, by omega, h1⟩ | exact h1 | (simp_all; done)) | (simp_all; done) | (simp_all; omega))

theorem spSh_p0 (t0 t1 t2 s : List UInt8) (T : List Wt) (a : Nat) :
    isEnd (evTill Tryd.prog sumsSPSh 400 (99) 900 14 (headOf Tryd.f14 0) (envAt Tryd.f14.ntmps ([(5, vP 101), (6, vL 102 5 (T).length)])) (sentEnts 23 213 [(5, t0), (6, t1), (0, t2)] ++ (rdW 101 s (a : Nat) ++ wtE 102 103 (T))) ⟨[.s true, .s true, .t], 140⟩) (endP ([]) (.tup [(false, .vl0), (false, .vi .i64 fun _ => (a : Int)), (false, vErr 5)]) ([]) 9000) =
    (OkL [(!decide ((a : Int) ≥ (↑s.length : Int)), true), (decide ((0 : Int) ≤ (a : Int)) && (decide ((a : Int).toNat < s.length) && (decide (s.length ≤ (4000 : Nat)) && isErR (3 : Nat) (tokR (List.drop (a : Int).toNat s)))), true)] ∧ (True ∧ (a : Int) = (a : Int) ∧ 0 = 0 ∧ True) ∧ True) := by kernel_rfl

set_option maxHeartbeats 4000000 in
theorem spSh (t0 t1 t2 s : List UInt8) (T : List Wt) (a : Nat) (ha : a < s.length) (hs : s.length ≤ 4000) (h1 : isErR 3 (tokR (s.drop a)) = true)  :
    RunsTo Tryd.prog 14 (headOf Tryd.f14 0) (envAt Tryd.f14.ntmps ([(5, vP 101), (6, vL 102 5 (T).length)])) (Sx.look (sentEnts 23 213 [(5, t0), (6, t1), (0, t2)] ++ (rdW 101 s (a : Nat) ++ wtE 102 103 (T)))) 80 (.tup [(false, .vl0), (false, .vi .i64 fun _ => (a : Int)), (false, vErr 5)]) (Sx.look ([])) 9000 := by
  have hz : IntKind.i64.wrap ((a : Int) + 0) = (a : Int) := by rw [wr64 (by omega)]; omega
  refine runs_last baseSPSh (Sx.Ends.of (spSh_p0 t0 t1 t2 s T a) ⟨(okc ?_ (okc ?_ okn)), ?_⟩) (by kernel_rfl) rfl (gtL (by decide)) (by decide)
  all_goals first | (refine And.intro ?_ ?_ <;> ((try simp (disch := omega) only [SS, h1, hz]); (repeat' apply And.intro); (all_goals first | exact True.intro | with_reducible rfl | omega | (intros; first | exact True.intro | with_reducible rfl | omega | (simp_all; done)) | (simp_all; done) | rfl))) | (first | omega | (simp (disch := omega) only [SS, h1, hz]; first | done | omega | assumption | exact ⟨by omega, by omega, h1⟩ | exact ⟨by omega, by omega, by omega, h1⟩ | exact h1 | (simp_all; done)) | (simp_all; done) | (simp_all; omega))

theorem spFo_p0 (t0 t1 t2 s : List UInt8) (T : List Wt) (a : Nat) :
    isEnd (evTill Tryd.prog sumsSPFo 400 (99) 900 14 (headOf Tryd.f14 0) (envAt Tryd.f14.ntmps ([(5, vP 101), (6, vL 102 5 (T).length)])) (sentEnts 23 213 [(5, t0), (6, t1), (0, t2)] ++ (rdW 101 s (a : Nat) ++ wtE 102 103 (T))) ⟨[.s true, .s true, .t], 140⟩) (endP ([]) (.tup [(false, .vl0), (false, .vi .i64 fun _ => (a : Int)), (false, vErr 6)]) ([]) 9000) =
    (OkL [(!decide ((a : Int) ≥ (↑s.length : Int)), true), (decide ((0 : Int) ≤ (a : Int)) && (decide ((a : Int).toNat < s.length) && (decide (s.length ≤ (4000 : Nat)) && isErR (5 : Nat) (tokR (List.drop (a : Int).toNat s)))), true)] ∧ (True ∧ (a : Int) = (a : Int) ∧ 0 = 0 ∧ True) ∧ True) := by kernel_rfl

set_option maxHeartbeats 4000000 in
theorem spFo (t0 t1 t2 s : List UInt8) (T : List Wt) (a : Nat) (ha : a < s.length) (hs : s.length ≤ 4000) (h1 : isErR 5 (tokR (s.drop a)) = true)  :
    RunsTo Tryd.prog 14 (headOf Tryd.f14 0) (envAt Tryd.f14.ntmps ([(5, vP 101), (6, vL 102 5 (T).length)])) (Sx.look (sentEnts 23 213 [(5, t0), (6, t1), (0, t2)] ++ (rdW 101 s (a : Nat) ++ wtE 102 103 (T)))) 80 (.tup [(false, .vl0), (false, .vi .i64 fun _ => (a : Int)), (false, vErr 6)]) (Sx.look ([])) 9000 := by
  have hz : IntKind.i64.wrap ((a : Int) + 0) = (a : Int) := by rw [wr64 (by omega)]; omega
  refine runs_last baseSPFo (Sx.Ends.of (spFo_p0 t0 t1 t2 s T a) ⟨(okc ?_ (okc ?_ okn)), ?_⟩) (by kernel_rfl) rfl (gtL (by decide)) (by decide)
  all_goals first | (refine And.intro ?_ ?_ <;> ((try simp (disch := omega) only [SS, h1, hz]); (repeat' apply And.intro); (all_goals first | exact True.intro | with_reducible rfl | omega | (intros; first | exact True.intro | with_reducible rfl | omega | (simp_all; done)) | (simp_all; done) | rfl))) | (first | omega | (simp (disch := omega) only [SS, h1, hz]; first | done | omega | assumption | exact ⟨by omega, by omega, h1⟩ | exact ⟨by omega, by omega, by omega, h1⟩ | exact h1 | (simp_all; done)) | (simp_all; done) | (simp_all; omega))

theorem spLo_p0 (t0 t1 t2 s : List UInt8) (T : List Wt) (a : Nat) :
    isEnd (evTill Tryd.prog sumsSPLo 400 (99) 900 14 (headOf Tryd.f14 0) (envAt Tryd.f14.ntmps ([(5, vP 101), (6, vL 102 5 (T).length)])) (sentEnts 23 213 [(5, t0), (6, t1), (0, t2)] ++ (rdW 101 s (a : Nat) ++ wtE 102 103 (T))) ⟨[.s true, .s true, .t], 140⟩) (endP ([]) (.tup [(false, .vl0), (false, .vi .i64 fun _ => (a : Int)), (false, vErr 0)]) ([]) 9000) =
    (OkL [(!decide ((a : Int) ≥ (↑s.length : Int)), true), (decide ((0 : Int) ≤ (a : Int)) && (decide ((a : Int).toNat < s.length) && (decide (s.length ≤ (4000 : Nat)) && isErR (4 : Nat) (tokR (List.drop (a : Int).toNat s)))), true)] ∧ (True ∧ (a : Int) = (a : Int) ∧ 0 = 0 ∧ True) ∧ True) := by kernel_rfl

set_option maxHeartbeats 4000000 in
theorem spLo (t0 t1 t2 s : List UInt8) (T : List Wt) (a : Nat) (ha : a < s.length) (hs : s.length ≤ 4000) (h1 : isErR 4 (tokR (s.drop a)) = true)  :
    RunsTo Tryd.prog 14 (headOf Tryd.f14 0) (envAt Tryd.f14.ntmps ([(5, vP 101), (6, vL 102 5 (T).length)])) (Sx.look (sentEnts 23 213 [(5, t0), (6, t1), (0, t2)] ++ (rdW 101 s (a : Nat) ++ wtE 102 103 (T)))) 80 (.tup [(false, .vl0), (false, .vi .i64 fun _ => (a : Int)), (false, vErr 0)]) (Sx.look ([])) 9000 := by
  have hz : IntKind.i64.wrap ((a : Int) + 0) = (a : Int) := by rw [wr64 (by omega)]; omega
  refine runs_last baseSPLo (Sx.Ends.of (spLo_p0 t0 t1 t2 s T a) ⟨(okc ?_ (okc ?_ okn)), ?_⟩) (by kernel_rfl) rfl (gtL (by decide)) (by decide)
  all_goals first | (refine And.intro ?_ ?_ <;> ((try simp (disch := omega) only [SS, h1, hz]); (repeat' apply And.intro); (all_goals first | exact True.intro | with_reducible rfl | omega | (intros; first | exact True.intro | with_reducible rfl | omega | (simp_all; done)) | (simp_all; done) | rfl))) | (first | omega | (simp (disch := omega) only [SS, h1, hz]; first | done | omega | assumption | exact ⟨by omega, by omega, h1⟩ | exact ⟨by omega, by omega, by omega, h1⟩ | exact h1 | (simp_all; done)) | (simp_all; done) | (simp_all; omega))

end Go.Proofs.YtaleenklamognaaDoor

set_option linter.unusedSimpArgs false
set_option linter.unusedVariables false
set_option maxRecDepth 100000
namespace Go.Proofs.YtaleenklamognaaDoor
open Go.Sx

open WordR
theorem gap_le : ∀ (b : Bool) (l : List UInt8), gapR b l ≤ l.length
  | _, [] => by simp [gapR]
  | false, c :: r => by
    have h1 := gap_le false r
    have h2 := gap_le true r
    rw [gapR]
    split
    · simp only [List.length_cons]; omega
    · split <;> simp only [List.length_cons] <;> omega
  | true, c :: r => by
    have h2 := gap_le true r
    rw [gapR]
    split <;> simp only [List.length_cons] <;> omega
theorem text_n : ∀ (f : Nat) (l : List UInt8) (P : List Pc) (n : Nat) {t : Wt} {m : Nat}, textR f l P n = .ok t m → n < m ∧ m ≤ n + l.length
  | 0, l, P, n, t, m, h => by cases h
  | f + 1, [], P, n, t, m, h => by cases h
  | f + 1, c :: r, P, n, t, m, h => by
    rw [textR] at h
    split at h
    · injection h with h1 h2; subst h2; simp
    · rename_i hc
      have ho : ∀ {x k}, oneR (c :: r) = .byte x k ∨ (∃ y, oneR (c :: r) = .var y k) → 1 ≤ k ∧ k ≤ (c :: r).length := by
        intro x k h
        rw [oneR] at h
        simp only [List.length_cons]
        split at h
        · rcases h with h | ⟨y, h⟩
          · exact absurd h (varR_nb _)
          · have := varR_ok _ h; omega
        · split at h
          · rcases h with h | ⟨y, h⟩ <;> cases h
          · split at h
            · rcases h with h | ⟨y, h⟩
              · have := escR_ok _ h; omega
              · exact absurd h (escR_nv _)
            · rcases h with h | ⟨y, h⟩
              · injection h with h1 h2; omega
              · cases h
      split at h
      · cases h
      · rename_i x k hk
        split at h
        · have h1 := ho (x := x) (.inl hk)
          have := text_n f _ _ _ h
          rw [List.length_drop] at this
          omega
        · cases h
      · rename_i x k hk
        split at h
        · have h1 := ho (x := 0) (.inr ⟨x, hk⟩)
          have := text_n f _ _ _ h
          rw [List.length_drop] at this
          omega
        · cases h
theorem tok_n : ∀ (l : List UInt8) {t : Wt} {n : Nat}, tokR l = .ok t n → 1 ≤ n ∧ n ≤ l.length
  | [], t, n, h => by cases h
  | c :: r, t, n, h => by
    rw [tokR] at h
    split at h
    · injection h with h1 h2; subst h2; simp
    · split at h
      · rename_i hl
        rw [nameR] at h
        split at h
        · cases h
        · injection h with h1 h2
          have hg : goI (nat c) = true := by simp [goI, hl]
          have hle := span_le goI (c :: r)
          rw [spanR, if_pos hg] at hle h2
          omega
      · split at h
        · have hk : ∀ {m q t n}, numK m q = .ok t n → 1 ≤ n ∧ n ≤ q.length + (if m = true then 1 else 0) := by
            intro m q t n h
            have hle := span_le figI q
            unfold numK at h
            split at h
            · cases h
            · split at h
              · cases h
              · rename_i hn
                injection h with h1 h2
                have : spanR figI q ≠ 0 := fun e => hn (.inl e)
                omega
          rw [numberR] at h
          split at h
          · have := hk h; simp only [if_pos] at this; simp only [List.length_cons]; exact this
          · have := hk h; rw [if_neg (by decide)] at this; omega
        · split at h
          · have := text_n _ _ _ _ h; simp only [List.length_cons]; omega
          · rw [sign_eq] at h
            split at h
            · rename_i h6
              injection h with h1 h2
              cases r with
              | nil => simp at h6
              | cons d q => simp only [List.length_cons]; omega
            · split at h
              · injection h with h1 h2; simp only [List.length_cons]; omega
              · cases h
theorem tok_e {l : List UInt8} {e : Nat} (h : tokR l = .err e) : e = 3 ∨ e = 4 ∨ e = 5 := by
  cases l with
  | nil => injection h with h; omega
  | cons c r =>
    rw [tokR] at h
    split at h
    · cases h
    · split at h
      · rw [nameR] at h
        split at h
        · injection h with h; omega
        · cases h
      · split at h
        · have := number_e h; omega
        · split at h
          · exact text_e _ _ _ _ h (fun q => esc_e)
          · have := sign_e h; omega
def SPR (T : List Wt) (X : SV → HF → Prop) : List Wt × Nat × Nat → Prop
  | (T', p, 0) => X (.tup [(false, .vl 102 (fun _ => 0) 5 [] (fun _ => (T ++ T').length)), (false, .vi .i64 fun _ => 0), (false, .ve0)]) (Sx.look (wtE 102 103 (T ++ T')))
  | (_, p, e + 1) => (e + 1 = 3 ∧ X (.tup [(false, .vl0), (false, .vi .i64 fun _ => (p : Int)), (false, vErr 5)]) (Sx.look [])) ∨ (e + 1 = 5 ∧ X (.tup [(false, .vl0), (false, .vi .i64 fun _ => (p : Int)), (false, vErr 6)]) (Sx.look [])) ∨ (e + 1 = 4 ∧ X (.tup [(false, .vl0), (false, .vi .i64 fun _ => (p : Int)), (false, vErr 0)]) (Sx.look []))
theorem SPR.step {T : List Wt} {X Y : SV → HF → Prop} (h : ∀ v L', X v L' → Y v L') : ∀ {r : List Wt × Nat × Nat}, SPR T X r → SPR T Y r
  | (T', p, 0), q => h _ _ q
  | (_, p, e + 1), q => q.imp (fun x => ⟨x.1, h _ _ x.2⟩) (fun q => q.imp (fun x => ⟨x.1, h _ _ x.2⟩) (fun x => ⟨x.1, h _ _ x.2⟩))
theorem spLoop (t0 t1 t2 s : List UInt8) (hs : s.length ≤ 4000) : ∀ (f a0 a : Nat) (T : List Wt), a = a0 + gapR false (s.drop a0) → a0 ≤ s.length → s.length - a0 < f → T.length ≤ a0 → SPR T (fun v L' => RunsTo Tryd.prog 14 (headOf Tryd.f14 0) (envAt Tryd.f14.ntmps ([(5, vP 101), (6, vL 102 5 (T).length)])) (Sx.look (sentEnts 23 213 [(5, t0), (6, t1), (0, t2)] ++ (rdW 101 s (a : Nat) ++ wtE 102 103 (T)))) 80 (v) (L') 9000) (splitR f a0 (s.drop a0)) := by
  intro f
  induction f with
  | zero => intro a0 a T _ _ h; omega
  | succ f ih =>
    intro a0 a T ha ha0 hf hT
    have hg := gap_le false (s.drop a0)
    rw [List.length_drop] at hg
    have hdd : (s.drop a0).drop (gapR false (s.drop a0)) = s.drop a := by rw [List.drop_drop, ha]
    rw [splitR, hdd, ← ha]
    by_cases hae : s.length ≤ a
    · rw [List.drop_eq_nil_of_le hae]
      have q := spE t0 t1 t2 s T a (by omega)
      show RunsTo Tryd.prog 14 (headOf Tryd.f14 0) (envAt Tryd.f14.ntmps ([(5, vP 101), (6, vL 102 5 (T).length)])) (Sx.look (sentEnts 23 213 [(5, t0), (6, t1), (0, t2)] ++ (rdW 101 s (a : Nat) ++ wtE 102 103 (T)))) 80 (.tup [(false, .vl 102 (fun _ => 0) 5 [] (fun _ => (T ++ ([] : List Wt)).length)), (false, .vi .i64 fun _ => 0), (false, .ve0)]) (Sx.look (wtE 102 103 (T ++ ([] : List Wt)))) 9000
      rw [List.append_nil]
      exact q
    have hlt : a < s.length := by omega
    have hd := drop_at s hlt
    rw [hd]
    simp only
    rw [← hd]
    cases hz : tokR (s.drop a) with
    | err e =>
      simp only
      rcases tok_e hz with rfl | rfl | rfl
      · exact .inl ⟨rfl, spSh t0 t1 t2 s T a hlt hs (by rw [hz]; rfl)⟩
      · exact .inr (.inr ⟨rfl, spLo t0 t1 t2 s T a hlt hs (by rw [hz]; rfl)⟩)
      · exact .inr (.inl ⟨rfl, spFo t0 t1 t2 s T a hlt hs (by rw [hz]; rfl)⟩)
    | ok t n =>
      simp only
      have hn := tok_n _ hz
      rw [List.length_drop] at hn
      have st := spR t0 t1 t2 s T a n _ t hlt hs (by omega) (by rw [hz]; rfl) (by rw [hz]; rfl) (by rw [hz]; rfl) (by omega) rfl
      have q := ih (a + n) _ (T ++ [atW t a]) rfl (by omega) (by omega) (by simp; omega)
      rw [List.drop_drop]
      have q := SPR.step st q
      cases hr : splitR f (a + n) (s.drop (a + n)) with
      | mk T' pe =>
        obtain ⟨p, e⟩ := pe
        rw [hr] at q
        cases e with
        | zero =>
          simp only
          show RunsTo Tryd.prog 14 (headOf Tryd.f14 0) (envAt Tryd.f14.ntmps ([(5, vP 101), (6, vL 102 5 (T).length)])) (Sx.look (sentEnts 23 213 [(5, t0), (6, t1), (0, t2)] ++ (rdW 101 s (a : Nat) ++ wtE 102 103 (T)))) 80 (.tup [(false, .vl 102 (fun _ => 0) 5 [] (fun _ => (T ++ (⟨t.kind, t.text, t.num, t.ps, a⟩ : Wt) :: T').length)), (false, .vi .i64 fun _ => 0), (false, .ve0)]) (Sx.look (wtE 102 103 (T ++ (⟨t.kind, t.text, t.num, t.ps, a⟩ : Wt) :: T'))) 9000
          have e1 : T ++ (⟨t.kind, t.text, t.num, t.ps, a⟩ : Wt) :: T' = T ++ [atW t a] ++ T' := by simp [atW]
          rw [e1]
          exact q
        | succ e => exact q
theorem spT (t0 t1 t2 s : List UInt8) : SPR [] (fun v L' => RunsTo Tryd.prog 14 [.code (bodyOf Tryd.f14)] (envOf [vS s] Tryd.f14.ntmps) (Sx.look (sentEnts 23 213 [(5, t0), (6, t1), (0, t2)] ++ ([]))) 80 (v) (L') 9000) (splitS s) := by
  unfold splitS
  by_cases h : 4000 < s.length
  · rw [if_pos h]; exact .inr (.inr ⟨rfl, spL t0 t1 t2 s h⟩)
  · rw [if_neg h]
    have q := spLoop t0 t1 t2 s (by omega) (s.length + 1) 0 _ [] rfl (by omega) (by omega) (by simp)
    rw [List.drop_zero, Nat.zero_add] at q
    exact SPR.step (sp0 t0 t1 t2 s _ (by omega) rfl) q
theorem spOkT (t0 t1 t2 s : List UInt8) (h : (splitS s).2.2 = 0) : RunsTo Tryd.prog 14 [.code (bodyOf Tryd.f14)] (envOf [vS s] Tryd.f14.ntmps) (Sx.look (sentEnts 23 213 [(5, t0), (6, t1), (0, t2)] ++ ([]))) 80 (.tup [(false, .vl 102 (fun _ => 0) 5 [] (fun _ => ((splitS s).1).length)), (false, .vi .i64 fun _ => 0), (false, .ve0)]) (Sx.look (wtE 102 103 (splitS s).1)) 9000 := by
  have q := spT t0 t1 t2 s
  cases hz : splitS s with
  | mk T pe =>
    obtain ⟨p, e⟩ := pe
    rw [hz] at q h
    simp only at h
    subst h
    exact q
theorem spShT (t0 t1 t2 s : List UInt8) (h : (splitS s).2.2 = 3) : RunsTo Tryd.prog 14 [.code (bodyOf Tryd.f14)] (envOf [vS s] Tryd.f14.ntmps) (Sx.look (sentEnts 23 213 [(5, t0), (6, t1), (0, t2)] ++ ([]))) 80 (.tup [(false, .vl0), (false, .vi .i64 fun _ => ((splitS s).2.1 : Int)), (false, vErr 5)]) (Sx.look ([])) 9000 := by
  have q := spT t0 t1 t2 s
  cases hz : splitS s with
  | mk T pe =>
    obtain ⟨p, e⟩ := pe
    rw [hz] at q h
    simp only at h
    subst h
    simpa [SPR] using q
theorem spFoT (t0 t1 t2 s : List UInt8) (h : (splitS s).2.2 = 5) : RunsTo Tryd.prog 14 [.code (bodyOf Tryd.f14)] (envOf [vS s] Tryd.f14.ntmps) (Sx.look (sentEnts 23 213 [(5, t0), (6, t1), (0, t2)] ++ ([]))) 80 (.tup [(false, .vl0), (false, .vi .i64 fun _ => ((splitS s).2.1 : Int)), (false, vErr 6)]) (Sx.look ([])) 9000 := by
  have q := spT t0 t1 t2 s
  cases hz : splitS s with
  | mk T pe =>
    obtain ⟨p, e⟩ := pe
    rw [hz] at q h
    simp only at h
    subst h
    simpa [SPR] using q
theorem spLoT (t0 t1 t2 s : List UInt8) (h : (splitS s).2.2 = 4) : RunsTo Tryd.prog 14 [.code (bodyOf Tryd.f14)] (envOf [vS s] Tryd.f14.ntmps) (Sx.look (sentEnts 23 213 [(5, t0), (6, t1), (0, t2)] ++ ([]))) 80 (.tup [(false, .vl0), (false, .vi .i64 fun _ => ((splitS s).2.1 : Int)), (false, vErr 0)]) (Sx.look ([])) 9000 := by
  have q := spT t0 t1 t2 s
  cases hz : splitS s with
  | mk T pe =>
    obtain ⟨p, e⟩ := pe
    rw [hz] at q h
    simp only at h
    subst h
    simpa [SPR] using q
def spOkP : PC := { args := [.v (.vs 0)], heap := [], gs := [5, 6, 0], G := 23, tp := 213, n := 80, n' := 9000, cond := fun e => decide ((splitS (eS e 0 [])).2.2 = 0), v := fun e => .tup [(false, .vl 102 (fun _ => 0) 5 [] (fun _ => ((splitS (eS e 0 [])).1).length)), (false, .vi .i64 fun _ => 0), (false, .ve0)], post := fun e => wtE 102 103 (splitS (eS e 0 [])).1 }
theorem spOkP_pc : PC.Runs Tryd.prog 14 Tryd.f14 (bodyOf Tryd.f14) spOkP := ⟨Tryd.func14, by kernel_rfl, (fun g hg => by first | (cases hg; done) | (revert g; show ∀ g ∈ ([5, 6, 0] : List Nat), g < 23; decide)), fun e H hc => by
  have hc : (decide ((splitS (eS e 0 [])).2.2 = 0)) = true := hc
  try simp only [Bool.and_eq_true, decide_eq_true_eq, Nat.beq_eq] at hc
  exact spOkT (textAt H 28) (textAt H 29) (textAt H 23) (eS e 0 []) hc⟩
def spShP : PC := { args := [.v (.vs 0)], heap := [], gs := [5, 6, 0], G := 23, tp := 213, n := 80, n' := 9000, cond := fun e => decide ((splitS (eS e 0 [])).2.2 = 3), v := fun e => .tup [(false, .vl0), (false, .vi .i64 fun _ => ((splitS (eS e 0 [])).2.1 : Int)), (false, vErr 5)], post := fun e => [] }
theorem spShP_pc : PC.Runs Tryd.prog 14 Tryd.f14 (bodyOf Tryd.f14) spShP := ⟨Tryd.func14, by kernel_rfl, (fun g hg => by first | (cases hg; done) | (revert g; show ∀ g ∈ ([5, 6, 0] : List Nat), g < 23; decide)), fun e H hc => by
  have hc : (decide ((splitS (eS e 0 [])).2.2 = 3)) = true := hc
  try simp only [Bool.and_eq_true, decide_eq_true_eq, Nat.beq_eq] at hc
  exact spShT (textAt H 28) (textAt H 29) (textAt H 23) (eS e 0 []) hc⟩
def spFoP : PC := { args := [.v (.vs 0)], heap := [], gs := [5, 6, 0], G := 23, tp := 213, n := 80, n' := 9000, cond := fun e => decide ((splitS (eS e 0 [])).2.2 = 5), v := fun e => .tup [(false, .vl0), (false, .vi .i64 fun _ => ((splitS (eS e 0 [])).2.1 : Int)), (false, vErr 6)], post := fun e => [] }
theorem spFoP_pc : PC.Runs Tryd.prog 14 Tryd.f14 (bodyOf Tryd.f14) spFoP := ⟨Tryd.func14, by kernel_rfl, (fun g hg => by first | (cases hg; done) | (revert g; show ∀ g ∈ ([5, 6, 0] : List Nat), g < 23; decide)), fun e H hc => by
  have hc : (decide ((splitS (eS e 0 [])).2.2 = 5)) = true := hc
  try simp only [Bool.and_eq_true, decide_eq_true_eq, Nat.beq_eq] at hc
  exact spFoT (textAt H 28) (textAt H 29) (textAt H 23) (eS e 0 []) hc⟩
def spLoP : PC := { args := [.v (.vs 0)], heap := [], gs := [5, 6, 0], G := 23, tp := 213, n := 80, n' := 9000, cond := fun e => decide ((splitS (eS e 0 [])).2.2 = 4), v := fun e => .tup [(false, .vl0), (false, .vi .i64 fun _ => ((splitS (eS e 0 [])).2.1 : Int)), (false, vErr 0)], post := fun e => [] }
theorem spLoP_pc : PC.Runs Tryd.prog 14 Tryd.f14 (bodyOf Tryd.f14) spLoP := ⟨Tryd.func14, by kernel_rfl, (fun g hg => by first | (cases hg; done) | (revert g; show ∀ g ∈ ([5, 6, 0] : List Nat), g < 23; decide)), fun e H hc => by
  have hc : (decide ((splitS (eS e 0 [])).2.2 = 4)) = true := hc
  try simp only [Bool.and_eq_true, decide_eq_true_eq, Nat.beq_eq] at hc
  exact spLoT (textAt H 28) (textAt H 29) (textAt H 23) (eS e 0 []) hc⟩
end Go.Proofs.YtaleenklamognaaDoor

set_option linter.unusedSimpArgs false
set_option linter.unusedVariables false
namespace Go.Proofs.YtaleenklamognaaDoor
open Go.Sx WordR

theorem gap_ext (b : List UInt8) : ∀ (m : Bool) (l : List UInt8), gapR m (l ++ 10 :: b) = gapR m l
  | false, [] => rfl
  | true, [] => rfl
  | false, c :: r => by
    rw [List.cons_append, gapR, gapR, gap_ext b false r, gap_ext b true r]
  | true, c :: r => by
    rw [List.cons_append, gapR, gapR, gap_ext b true r]
theorem span_ext (p : Int → Bool) (hp : p 10 = false) (b : List UInt8) : ∀ l : List UInt8, spanR p (l ++ 10 :: b) = spanR p l
  | [] => by
    show spanR p (10 :: b) = 0
    rw [spanR]
    exact if_neg (by show ¬ p (nat 10) = true; have : nat 10 = 10 := rfl; rw [this, hp]; decide)
  | c :: r => by rw [List.cons_append, spanR, spanR, span_ext p hp b r]
theorem take_ext {l q : List UInt8} {n : Nat} (h : n ≤ l.length) : (l ++ q).take n = l.take n := by
  rw [List.take_append_of_le_length h]
theorem drop_ext {l q : List UInt8} {n : Nat} (h : n ≤ l.length) : (l ++ q).drop n = l.drop n ++ q := by
  rw [List.drop_append_of_le_length h]
theorem name_ext {l b : List UInt8} {t : Wt} {n : Nat} (h : nameR l = .ok t n) : nameR (l ++ 10 :: b) = .ok t n := by
  have hl := span_le goI l
  unfold nameR at h ⊢
  rw [span_ext goI (by decide), take_ext hl]
  exact h
theorem numK_ext {m : Bool} {l b : List UInt8} {t : Wt} {n : Nat} (h : numK m l = .ok t n) : numK m (l ++ 10 :: b) = .ok t n := by
  have hl := span_le figI l
  unfold numK at h ⊢
  rw [span_ext figI (by decide), take_ext hl, drop_ext hl]
  have e1 : goI (nat ((l.drop (spanR figI l) ++ 10 :: b).headD 0)) = goI (nat ((l.drop (spanR figI l)).headD 0)) := by
    cases l.drop (spanR figI l) with
    | nil => show goI (nat 10) = goI (nat 0); decide
    | cons c r => rfl
  rw [e1]
  by_cases h0 : spanR figI l = 0
  · split at h
    · cases h
    · rw [if_pos (.inl h0)] at h; cases h
  · have e2 : (l ++ 10 :: b).headD 0 = l.headD 0 := by
      cases l with
      | nil => exact absurd rfl h0
      | cons c r => rfl
    rw [e2]
    exact h
theorem number_ext {l b : List UInt8} {t : Wt} {n : Nat} (h : numberR l = .ok t n) : numberR (l ++ 10 :: b) = .ok t n := by
  cases l with
  | nil =>
    have e : numberR [] = .err 5 := by decide
    rw [e] at h; cases h
  | cons c r =>
    rw [numberR] at h
    rw [List.cons_append, numberR]
    split at h
    · rename_i hc; rw [if_pos hc]; exact numK_ext h
    · rename_i hc; rw [if_neg hc]; exact numK_ext (l := c :: r) h
theorem var_ext {l b : List UInt8} {x : List UInt8} {n : Nat} (h : varR l = .var x n) : varR (l ++ 10 :: b) = .var x n := by
  cases l with
  | nil => cases h
  | cons d r =>
    have hl := span_le goI (d :: r)
    rw [varR] at h
    rw [List.cons_append, varR, ← List.cons_append, span_ext goI (by decide), take_ext hl]
    exact h
theorem esc_ext {l b : List UInt8} {c : UInt8} {n : Nat} (h : escR l = .byte c n) : escR (l ++ b) = .byte c n := by
  cases l with
  | nil => cases h
  | cons d r =>
    have hx : ∀ {c n}, hexR r = .byte c n → hexR (r ++ b) = .byte c n := by
      intro c n h
      match r, h with
      | [], h => cases h
      | [x], h => rw [hexR] at h; split at h <;> cases h
      | x :: y :: q, h => exact h
    rw [escR] at h
    rw [List.cons_append, escR]
    repeat' split at h
    all_goals simp_all
theorem text_ext (b : List UInt8) : ∀ (f g : Nat) (l : List UInt8) (P : List Pc) (n : Nat) {t : Wt} {m : Nat}, f ≤ g → textR f l P n = .ok t m → textR g (l ++ 10 :: b) P n = .ok t m
  | 0, g, l, P, n, t, m, _, h => by cases h
  | f + 1, g, [], P, n, t, m, _, h => by cases h
  | f + 1, 0, c :: r, P, n, t, m, hg, h => by omega
  | f + 1, g + 1, c :: r, P, n, t, m, hg, h => by
    rw [textR] at h
    rw [List.cons_append, textR]
    by_cases hc : c = 34
    · rw [if_pos hc] at h ⊢; exact h
    rw [if_neg hc] at h ⊢
    have ho : ∀ {o}, oneR (c :: r) = o → (∀ e, o ≠ .err e) → oneR (c :: (r ++ 10 :: b)) = o := by
      intro o h hne
      rw [oneR] at h ⊢
      split at h
      · rename_i h36
        rw [if_pos h36]
        cases hz : varR r with
        | byte x k => exact absurd hz (varR_nb _)
        | var x k => rw [var_ext hz, ← h, hz]
        | err e => exact absurd (h.symm.trans hz) (hne e)
      · rename_i h36
        rw [if_neg h36]
        split at h
        · exact absurd h.symm (hne _)
        · rename_i h10
          rw [if_neg h10]
          split at h
          · rename_i h92
            rw [if_pos h92]
            cases hz : escR r with
            | byte x k => rw [esc_ext hz, ← h, hz]
            | var x k => exact absurd hz (escR_nv _)
            | err e => exact absurd (h.symm.trans hz) (hne e)
          · rename_i h92
            rw [if_neg h92]
            exact h
    have hk : ∀ {k}, (∃ x, oneR (c :: r) = .byte x k) ∨ (∃ x, oneR (c :: r) = .var x k) → k ≤ (c :: r).length := by
      intro k h
      simp only [List.length_cons]
      rcases h with ⟨x, h⟩ | ⟨x, h⟩
      · rw [oneR] at h
        split at h
        · exact absurd h (varR_nb _)
        · split at h
          · cases h
          · split at h
            · have := escR_ok _ h; omega
            · injection h with h1 h2; omega
      · rw [oneR] at h
        split at h
        · have := varR_ok _ h; omega
        · split at h
          · cases h
          · split at h
            · exact absurd h (escR_nv _)
            · cases h
    cases hz : oneR (c :: r) with
    | err e => rw [hz] at h; cases h
    | byte x k =>
      rw [hz] at h
      rw [ho hz (fun e => by simp)]
      simp only at h ⊢
      split at h
      · rename_i hf
        rw [if_pos hf, ← List.cons_append, drop_ext (hk (.inl ⟨x, hz⟩))]
        exact text_ext b f g _ _ _ (by omega) h
      · cases h
    | var x k =>
      rw [hz] at h
      rw [ho hz (fun e => by simp)]
      simp only at h ⊢
      split at h
      · rename_i hf
        rw [if_pos hf, ← List.cons_append, drop_ext (hk (.inr ⟨x, hz⟩))]
        exact text_ext b f g _ _ _ (by omega) h
      · cases h
theorem tok_ext {l b : List UInt8} {t : Wt} {n : Nat} (h : tokR l = .ok t n) : tokR (l ++ 10 :: b) = .ok t n := by
  cases l with
  | nil => cases h
  | cons c r =>
    rw [tokR] at h
    rw [List.cons_append, tokR]
    split at h
    · rename_i h1; rw [if_pos h1]; exact h
    · rename_i h1
      rw [if_neg h1]
      split at h
      · rename_i h2; rw [if_pos h2]; exact name_ext (l := c :: r) h
      · rename_i h2
        rw [if_neg h2]
        split at h
        · rename_i h3; rw [if_pos h3]; exact number_ext (l := c :: r) h
        · rename_i h3
          rw [if_neg h3]
          split at h
          · rename_i h4
            rw [if_pos h4]
            exact text_ext b _ _ _ _ _ (by simp) h
          · rename_i h4
            rw [if_neg h4]
            rw [sign_eq] at h
            rw [sign_eq]
            have e : (r ++ 10 :: b).headD 0 = 61 ↔ r.headD 0 = 61 := by cases r <;> simp
            simp only [e]
            exact h
/-- Positions further on. -/
def sh (q : Nat) (T : List Wt) : List Wt := T.map fun t => ⟨t.kind, t.text, t.num, t.ps, t.pos + q⟩
theorem split_sh (q : Nat) : ∀ (f a : Nat) (l : List UInt8), splitR f (a + q) l = (sh q (splitR f a l).1, if (splitR f a l).2.2 = 0 then 0 else (splitR f a l).2.1 + q, (splitR f a l).2.2)
  | 0, a, l => rfl
  | f + 1, a, l => by
    rw [splitR, splitR]
    cases l.drop (gapR false l) with
    | nil => rfl
    | cons c r =>
      simp only
      cases hz : tokR (c :: r) with
      | err e =>
        have := tok_e hz
        simp only [sh, List.map_nil]
        rw [if_neg (by omega)]
        simp only [Prod.mk.injEq, true_and, and_true]
        omega
      | ok t n =>
        simp only
        have ih := split_sh q f (a + gapR false l + n) ((c :: r).drop n)
        rw [show a + q + gapR false l + n = a + gapR false l + n + q by omega, ih]
        cases splitR f (a + gapR false l + n) ((c :: r).drop n) with
        | mk T pe =>
          obtain ⟨p, e⟩ := pe
          cases e with
          | zero => simp only [if_pos, sh, List.map_cons, Prod.mk.injEq, List.cons.injEq, Wt.mk.injEq, true_and, and_true]; omega
          | succ e => rfl
/-- With fuel enough, how much there is doesn't matter. -/
theorem split_fuel : ∀ (f g a : Nat) (l : List UInt8), l.length < f → l.length < g → splitR f a l = splitR g a l
  | 0, g, a, l, h, _ => by omega
  | f + 1, 0, a, l, _, h => by omega
  | f + 1, g + 1, a, l, hf, hg => by
    rw [splitR, splitR]
    cases hl : l.drop (gapR false l) with
    | nil => rfl
    | cons c r =>
      have hlen : (c :: r).length ≤ l.length := by rw [← hl, List.length_drop]; omega
      simp only
      cases hz : tokR (c :: r) with
      | err e => rfl
      | ok t n =>
        have hn := tok_n _ hz
        simp only
        rw [split_fuel f g (a + gapR false l + n) ((c :: r).drop n) (by rw [List.length_drop]; omega) (by rw [List.length_drop]; omega)]
def joinR (T : List Wt) (q : Nat) : List Wt × Nat × Nat → List Wt × Nat × Nat
  | (U, p, 0) => (T ++ ⟨5, [], 0, [], q⟩ :: sh (q + 1) U, 0, 0)
  | (_, p, e + 1) => ([], p + (q + 1), e + 1)
theorem join_cons (t : Wt) (T : List Wt) (q : Nat) (r : List Wt × Nat × Nat) : joinR (t :: T) q r = match joinR T q r with
    | (T', p, 0) => (t :: T', p, 0)
    | (_, p, e + 1) => ([], p, e + 1) := by
  obtain ⟨U, p, e⟩ := r
  cases e <;> rfl
theorem split_join (b : List UInt8) (hb : (splitR (b.length + 1) 0 b).2.2 = 0 → (splitR (b.length + 1) 0 b).2.1 = 0) : ∀ (f a : Nat) (l : List UInt8) (g : Nat), l.length < f → l.length + 1 + b.length < g → (splitR f a l).2.2 = 0 →
    splitR g a (l ++ 10 :: b) = joinR (splitR f a l).1 (a + l.length) (splitR (b.length + 1) 0 b)
  | 0, a, l, g, h, _, _ => by omega
  | f + 1, a, l, 0, _, h, _ => by omega
  | f + 1, a, l, g + 1, hf, hg, he => by
    have hgl := gap_le false l
    rw [splitR] at he ⊢
    rw [gap_ext, drop_ext hgl]
    rw [splitR]
    cases hl : l.drop (gapR false l) with
    | nil =>
      have hge : gapR false l = l.length := by
        have := congrArg List.length hl
        rw [List.length_drop, List.length_nil] at this; omega
      simp only [List.nil_append]
      have ht : tokR (10 :: b) = .ok ⟨5, [], 0, [], 0⟩ 1 := by rw [tokR, if_pos (.inl rfl)]
      rw [ht]
      simp only [List.drop_succ_cons, List.drop_zero, hge]
      rw [show a + l.length + 1 = 0 + (a + l.length + 1) by omega, split_sh, split_fuel g (b.length + 1) 0 b (by omega) (by omega)]
      cases hz : splitR (b.length + 1) 0 b with
      | mk U pe =>
        obtain ⟨p, e⟩ := pe
        rw [hz] at hb
        cases e with
        | zero => simp only [if_pos, joinR, List.nil_append]
        | succ e => simp only; rw [if_neg (by omega)]; rfl
    | cons c r =>
      rw [hl] at he
      simp only [List.cons_append] at he ⊢
      cases hz : tokR (c :: r) with
      | err e => rw [hz] at he; have := tok_e hz; simp only at he; omega
      | ok t n =>
        rw [hz] at he
        have hn := tok_n _ hz
        have hlen : (c :: r).length + gapR false l = l.length := by rw [← hl, List.length_drop]; omega
        have hx : tokR (c :: (r ++ 10 :: b)) = .ok t n := tok_ext (l := c :: r) hz
        rw [hx]
        simp only at he ⊢
        rw [← List.cons_append, drop_ext hn.2]
        have he' : (splitR f (a + gapR false l + n) ((c :: r).drop n)).2.2 = 0 := by
          cases hr : splitR f (a + gapR false l + n) ((c :: r).drop n) with
          | mk T pe =>
            obtain ⟨p, e⟩ := pe
            rw [hr] at he
            cases e with
            | zero => rfl
            | succ e => exact he
        have ih := split_join b hb f (a + gapR false l + n) ((c :: r).drop n) g (by rw [List.length_drop]; omega) (by rw [List.length_drop]; omega) he'
        rw [ih, show a + gapR false l + n + ((c :: r).drop n).length = a + l.length by rw [List.length_drop]; omega]
        cases hr : splitR f (a + gapR false l + n) ((c :: r).drop n) with
        | mk T pe =>
          obtain ⟨p, e⟩ := pe
          rw [hr] at he'
          simp only at he'
          subst he'
          simp only
          rw [join_cons]
          cases joinR T (a + l.length) (splitR (b.length + 1) 0 b) with
          | mk U pe =>
            obtain ⟨p', e'⟩ := pe
            cases e' <;> rfl
end Go.Proofs.YtaleenklamognaaDoor

