/- Raw: All. -/
import Derived.Test.YtankmgnjkcgpaaaDoorQeC
set_option linter.unusedSimpArgs false
set_option linter.unusedVariables false
set_option maxRecDepth 100000
namespace Go.Proofs.YtankmgnjkcgpaaaDoor
open Go.Sx

open RawR
def eK (T : List RawR.Ev) : Ix → Int := fun is => (T.getD (is.headD 0) ev0).K
def eN' (T : List RawR.Ev) : Ix → Int := fun is => (T.getD (is.headD 0) ev0).N
def eX (T : List RawR.Ev) : Ix → Nat := fun is => T.length - 1 - is.headD 0
def eLB (T : List RawR.Ev) : Ix → Nat := fun is => (T.getD (is.headD 0) ev0).B.length
def eLM (T : List RawR.Ev) : Ix → Nat := fun is => (T.getD (is.headD 0) ev0).M.length
def gLB (T : List RawR.Ev) : Nat → Nat := fun m => (T.getD (T.length - 1 - m) ev0).B.length
def gLM (T : List RawR.Ev) : Nat → Nat := fun m => (T.getD (T.length - 1 - m) ev0).M.length
def gB (T : List RawR.Ev) : Ix → Int := fun is => (((T.getD (T.length - 1 - is.headD 0) ev0).B.getD (is.tail.headD 0) 0).toNat : Int)
def gM (T : List RawR.Ev) : Ix → Int := fun is => (T.getD (T.length - 1 - is.headD 0) ev0).M.getD (is.tail.headD 0) 0
def evE (l f g : Nat) (T : List RawR.Ev) : List Ent := [⟨l, true, none, 4, .ta T.length (.tc (.vi .i64 (eK T)) (.tc (.vi .i64 (eN' T)) (.tc (.vl f (eX T) 1 [] (eLB T)) (.tc (.vl g (eX T) 1 [] (eLM T)) .t0))))⟩, ⟨f, true, some (T.length, gLB T), 1, .vi .u8 (gB T)⟩, ⟨g, true, some (T.length, gLM T), 1, .vi .i64 (gM T)⟩]
def skipB (l : List UInt8) : Bool := decide (l = []) || decide (l.getD 0 0 = 35)
def allGo : Nat → List RawR.Ev → List (List UInt8) → List RawR.Ev × Nat × Nat
  | _, T, [] => (T, 0, 16)
  | i, T, l :: r => if skipB l = true then allGo (i + 1) T r else if evK l = 16 then allGo (i + 1) (T ++ [evR l]) r else ([], i + 1, 4)
def allR (t : List UInt8) : List RawR.Ev × Nat × Nat := if 100000 < t.length then ([], 0, 3) else allGo 0 [] (splitR 10 t)
def alV (p : List RawR.Ev × Nat × Nat) : SV := .tup [(false, .vl 141 (fun _ => 0) 4 [] (fun _ => p.1.length)), (false, .vi .i64 fun _ => (p.2.1 : Int)), (false, .vx 194 errL fun _ => p.2.2)]
def alX (H : List Ent) : List Ent := sentEnts 24 194 (textsIn 24 H [1, 2, 20, 21])
theorem ev_app {β : Type} (f : RawR.Ev → β) (T : List RawR.Ev) (t : RawR.Ev) (g : Ix → β) (hg : g [0] = f t) : ∀ k, k < T.length + 1 → f ((T ++ [t]).getD k ev0) = appF T.length 0 (fun is => f (T.getD (is.headD 0) ev0)) g [k] := fun k hk =>
  app_get f ev0 T [t] g (fun j hj => by
    have : j = 0 := by simp at hj; omega
    subst this; exact hg) k (by simpa using hk)
theorem eX_app (T : List RawR.Ev) (t : RawR.Ev) (f g : Ix → Nat) (hf : ∀ k, k < T.length → f [k] = T.length - 1 - k + 1) (hg : g [0] = 0) : ∀ k, k < T.length + 1 → eX (T ++ [t]) [k] = appF T.length 0 f g [k] := fun k hk => by
  simp only [eX, appF, List.length_append, List.length_cons, List.length_nil, List.headD, Nat.zero_add]
  split
  · rename_i h; have := hf k h; omega
  · have : k = T.length := by omega
    subst this; simp [hg]
theorem egetD_last (T : List RawR.Ev) (t : RawR.Ev) : (T ++ [t]).getD T.length ev0 = t := by simp
theorem egetD_pre (T : List RawR.Ev) (t : RawR.Ev) {k : Nat} (h : k < T.length) : (T ++ [t]).getD k ev0 = T.getD k ev0 := by simp [List.getD_eq_getElem?_getD, List.getElem?_append_left h]
theorem gL_cons (f : RawR.Ev → Nat) (T : List RawR.Ev) (t : RawR.Ev) (n : Nat) (hn : n = f t) : ∀ m, m < T.length + 1 → f ((T ++ [t]).getD ((T ++ [t]).length - 1 - m) ev0) = consN n (fun m => f (T.getD (T.length - 1 - m) ev0)) m
  | 0, _ => by simp [consN, hn]
  | m + 1, h => by
    simp only [consN, List.length_append, List.length_cons, List.length_nil]
    rw [show T.length + (0 + 1) - 1 - (m + 1) = T.length - 1 - m by omega, egetD_pre T t (by omega)]
theorem gF_cons (f : RawR.Ev → Nat → Int) (len : RawR.Ev → Nat) (T : List RawR.Ev) (t : RawR.Ev) (g : Ix → Int) : ∀ m, m < T.length + 1 → ∀ j, (∀ j, j < len t → g [j] = f t j) → j < len ((T ++ [t]).getD ((T ++ [t]).length - 1 - m) ev0) →
    f ((T ++ [t]).getD ((T ++ [t]).length - 1 - m) ev0) j = consF g (fun is => f (T.getD (T.length - 1 - is.headD 0) ev0) (is.tail.headD 0)) [m, j]
  | 0, _, j, hg, hj => by
    have e : (T ++ [t]).length - 1 - 0 = T.length := by simp
    rw [e, egetD_last] at hj ⊢
    simp only [consF]
    exact (hg j hj).symm
  | m + 1, h, j, hg, hj => by
    simp only [consF, List.headD, List.tail, List.length_append, List.length_cons, List.length_nil]
    rw [show T.length + (0 + 1) - 1 - (m + 1) = T.length - 1 - m by omega, egetD_pre T t (by omega)]
def sumsAL : List (FuncId × Summ) := [(76, spP.summ 48), (30, paP.summ 48)]
theorem baseAL : Base0 Tryd.prog sumsAL := ((baseO.cons Tryd.func30 (by kernel_rfl) (PC.summ_ok paP_pc gtopG)).cons Tryd.func76 (by kernel_rfl) (PC.summ_ok spP_pc gtopG))
theorem al0_p0 (H : List Ent) (t : List UInt8) (T : List RawR.Ev) (at0 k : Nat) :
    isEnd (evTill Tryd.prog sumsAL 500 (99) 900 40 [.code (bodyOf Tryd.f40)] (envOf [vS t] Tryd.f40.ntmps) (alX H ++ ([])) ⟨[.s true], 80⟩) (endP ([((141 : Nat), Rn.nil (4 : Nat)), ((142 : Nat), Rn.nil (1 : Nat)), ((143 : Nat), Rn.nil (1 : Nat))]) (alV (T, at0, k)) (evE 141 142 143 T) 470) =
    (OkL [(decide ((↑t.length : Int) > (100000 : Int)), true)] ∧
  (T.length = (0 : Nat) ∧
      (↑at0 : Int) = (0 : Int) ∧
        ((0 : Nat) = (0 : Nat) ∧
            (match nthL errL k with
              | some a =>
                match if Nat.beq (141 : Nat) a = true then Rn.nil (4 : Nat) else if Nat.beq (142 : Nat) a = true then Rn.nil (1 : Nat) else if Nat.beq (143 : Nat) a = true then Rn.nil (1 : Nat) else Rn.to a with
                | Rn.to k => k.beq (26 : Nat)
                | x => false
              | none => false) =
              true) ∧
          True) ∧
    T.length = (0 : Nat) ∧ T.length = (0 : Nat) ∧ T.length = (0 : Nat)) := by kernel_rfl

set_option maxHeartbeats 4000000 in
theorem al0 (H : List Ent) (t : List UInt8) (T : List RawR.Ev) (at0 k : Nat) (h : 100000 < t.length) (hT : T = []) (ha : at0 = 0) (hk : k = 3)  :
    RunsTo Tryd.prog 40 [.code (bodyOf Tryd.f40)] (envOf [vS t] Tryd.f40.ntmps) (Sx.look (alX H ++ ([]))) 80 (alV (T, at0, k)) (Sx.look (evE 141 142 143 T)) 470 := by
  have hTl : T.length = 0 := by rw [hT]; rfl
  refine runs_last baseAL (Sx.Ends.of (al0_p0 H t T at0 k) ⟨?oo, ?rr⟩) (by kernel_rfl) rfl (gtL (by decide)) (by decide)
  case oo =>
    refine (okc ?_ okn)
    all_goals first | rfl | (simp only [SS]; omega)
  case rr =>
    repeat' apply And.intro
    all_goals first | exact True.intro | with_reducible rfl | omega | (subst ha; rfl) | (subst hk; rfl) | (subst hk; decide) | (intro j hj; omega)

theorem al1_p0 (H : List Ent) (t : List UInt8) (ws : List (List UInt8)) :
    isMore (evTill Tryd.prog sumsAL 500 (behind Tryd.f40 0) 900 40 [.code (bodyOf Tryd.f40)] (envOf [vS t] Tryd.f40.ntmps) (alX H ++ ([])) ⟨[.s false, .s true], 80⟩) (moreP (headOf Tryd.f40 0) ([((103 : Nat), Rn.nil (4 : Nat)), ((101 : Nat), Rn.to (141 : Nat)), ((104 : Nat), Rn.nil (1 : Nat)), ((105 : Nat), Rn.nil (1 : Nat))]) Tryd.f40.ntmps ([(5, vL 103 4 (([] : List RawR.Ev)).length), (15, vL 101 1 ws.length), (16, vN ws.length), (17, vN (0 : Nat))]) (txE true 101 ws.length ws ++ evE 103 104 105 (([] : List RawR.Ev))) 470) =
    (OkL [(decide ((↑t.length : Int) > (100000 : Int)), false), (decide ([(10 : UInt8)] = [#[(10 : UInt8)].toList.headD (0 : UInt8)]) && (decide ((0 : Int) = (0 : Int)) && (decide ((-1 : Int) = (-1 : Int)) && decide (t.length ≤ (1000000 : Nat)))), true)] ∧ headOf Tryd.f40 (0 : Nat) = headOf Tryd.f40 (0 : Nat) ∧ ((0 : Nat) = (0 : Nat) ∧ ((0 : Nat) = (0 : Nat) ∧ ws.length = (splitR (#[(10 : UInt8)].toList.headD (0 : UInt8)) t).length) ∧ (↑ws.length : Int) = (↑(splitR (#[(10 : UInt8)].toList.headD (0 : UInt8)) t).length : Int) ∧ (↑(0 : Nat) : Int) = (0 : Int)) ∧ (ws.length = (splitR (#[(10 : UInt8)].toList.headD (0 : UInt8)) t).length ∧ ∀ (i : Nat), i < ws.length → ws.getD i [] = (splitR (#[(10 : UInt8)].toList.headD (0 : UInt8)) t).getD i []) ∧ (0 : Nat) = (0 : Nat) ∧ (0 : Nat) = (0 : Nat) ∧ (0 : Nat) = (0 : Nat)) := by kernel_rfl

set_option maxHeartbeats 4000000 in
theorem al1 (H : List Ent) (t : List UInt8) (ws : List (List UInt8)) (h : t.length ≤ 100000) (hw : splitR 10 t = ws)  (v : SV) (L' : HF) (next : RunsTo Tryd.prog 40 (headOf Tryd.f40 0) (envAt Tryd.f40.ntmps ([(5, vL 103 4 (([] : List RawR.Ev)).length), (15, vL 101 1 ws.length), (16, vN ws.length), (17, vN (0 : Nat))])) (Sx.look (alX H ++ (txE true 101 ws.length ws ++ evE 103 104 105 (([] : List RawR.Ev))))) 80 (v) (L') 470) :
    RunsTo Tryd.prog 40 [.code (bodyOf Tryd.f40)] (envOf [vS t] Tryd.f40.ntmps) (Sx.look (alX H ++ ([]))) 80 (v) (L') 470 := by
  refine runs_more baseAL (More.of (al1_p0 H t ws) ⟨?oo, rfl, ?rr⟩) (by kernel_rfl) (by kernel_rfl) rfl (gtL (by decide)) (by decide) next
  case oo =>
    clear next
    refine (okc ?_ (okc ?_ okn))
    all_goals first | rfl | omega | (simp only [SS]; first | done | omega) | (simp; omega)
  case rr =>
    clear next
    subst hw
    repeat' apply And.intro
    all_goals first | exact True.intro | with_reducible rfl | rfl | (intro j hj; exact absurd hj (Nat.not_lt_zero _)) | (intros; rfl)

theorem al2_p0 (H : List Ent) (ws : List (List UInt8)) (T : List RawR.Ev) (i : Nat) (l : List UInt8) :
    isMore (evTill Tryd.prog sumsAL 500 (behind Tryd.f40 0) 900 40 (headOf Tryd.f40 0) (envAt Tryd.f40.ntmps ([(5, vL 103 4 (T).length), (15, vL 101 1 ws.length), (16, vN ws.length), (17, vN (i : Nat))])) (alX H ++ (txE true 101 ws.length ws ++ evE 103 104 105 (T))) ⟨[.s true, .s true, .s true, .s true, .s true], 110⟩) (moreP (headOf Tryd.f40 0) ([]) Tryd.f40.ntmps ([(5, vL 103 4 (T).length), (15, vL 101 1 ws.length), (16, vN ws.length), (17, vN (i + 1 : Nat))]) (txE true 101 ws.length ws ++ evE 103 104 105 (T)) 470) =
    (OkL [(decide ((↑i : Int) < (↑ws.length : Int)), true), (decide ((0 : Int) ≤ (↑i : Int) ∧ (↑i : Int) < (↑ws.length : Int)), true), (((0 : Nat) + (↑i : Int).toNat).blt ws.length, true), (((0 : Nat) + (↑i : Int).toNat).blt ws.length, true), (ws.getD ((0 : Nat) + (↑i : Int).toNat) [] == [], true)] ∧ headOf Tryd.f40 (0 : Nat) = headOf Tryd.f40 (0 : Nat) ∧ (((0 : Nat) = (0 : Nat) ∧ T.length = T.length) ∧ ((0 : Nat) = (0 : Nat) ∧ ws.length = ws.length) ∧ (↑ws.length : Int) = (↑ws.length : Int) ∧ (↑(i + (1 : Nat)) : Int) = IntKind.i64.wrap ((↑i : Int) + (1 : Int))) ∧ (ws.length = ws.length ∧ ∀ (i : Nat), i < ws.length → ws.getD i [] = ws.getD i []) ∧ (T.length = T.length ∧ (∀ (i : Nat), i < T.length → eK T [i] = eK T [i]) ∧ (∀ (i : Nat), i < T.length → eN' T [i] = eN' T [i]) ∧ ((∀ (i : Nat), i < T.length → eX T [i] = eX T [i]) ∧ ∀ (i : Nat), i < T.length → eLB T [i] = eLB T [i]) ∧ (∀ (i : Nat), i < T.length → eX T [i] = eX T [i]) ∧ ∀ (i : Nat), i < T.length → eLM T [i] = eLM T [i]) ∧ (T.length = T.length ∧ ∀ (m : Nat), m < T.length → gLB T m = gLB T m ∧ ∀ (i : Nat), i < gLB T m → gB T [m, i] = gB T [m, i]) ∧ T.length = T.length ∧ ∀ (m : Nat), m < T.length → gLM T m = gLM T m ∧ ∀ (i : Nat), i < gLM T m → gM T [m, i] = gM T [m, i]) := by kernel_rfl

set_option maxHeartbeats 4000000 in
theorem al2 (H : List Ent) (ws : List (List UInt8)) (T : List RawR.Ev) (i : Nat) (l : List UInt8) (hi : i < ws.length) (hws : ws.length ≤ 200000) (hT : T.length ≤ 200000) (hl : ws.getD i [] = l) (hll : l.length ≤ 100000) (hs : l = [])  (v : SV) (L' : HF) (next : RunsTo Tryd.prog 40 (headOf Tryd.f40 0) (envAt Tryd.f40.ntmps ([(5, vL 103 4 (T).length), (15, vL 101 1 ws.length), (16, vN ws.length), (17, vN (i + 1 : Nat))])) (Sx.look (alX H ++ (txE true 101 ws.length ws ++ evE 103 104 105 (T)))) 80 (v) (L') 470) :
    RunsTo Tryd.prog 40 (headOf Tryd.f40 0) (envAt Tryd.f40.ntmps ([(5, vL 103 4 (T).length), (15, vL 101 1 ws.length), (16, vN ws.length), (17, vN (i : Nat))])) (Sx.look (alX H ++ (txE true 101 ws.length ws ++ evE 103 104 105 (T)))) 80 (v) (L') 470 := by
  have hw : IntKind.i64.wrap ((i : Int) + 1) = ((i + 1 : Nat) : Int) := by rw [wr64 (by omega)]; rfl
  have hi0 : 0 + ((i : Nat) : Int).toNat = i := by simp
  refine runs_more baseAL (More.of (al2_p0 H ws T i l) ⟨?oo, rfl, ?rr⟩) (by kernel_rfl) (by kernel_rfl) rfl (gtL (by decide)) (by decide) next
  case oo =>
    clear next
    refine (okc ?_ (okc ?_ (okc ?_ (okc ?_ (okc ?_ okn)))))
    all_goals ((try simp only [hi0, List.headD_cons, hl, hs]); first | done | rfl | omega | assumption | (simp (disch := omega) only [SS, hi0, List.headD_cons, hl, hs]; first | done | omega | assumption) | (simp_all; done) | (simp_all; omega))
  case rr =>
    clear next
    try simp (disch := omega) only [SS, hw]
    repeat' apply And.intro
    all_goals first | exact True.intro | with_reducible rfl | omega | (intros; first | exact True.intro | with_reducible rfl | omega | (simp_all; done)) | (simp_all; done) | rfl

theorem al3_p0 (H : List Ent) (ws : List (List UInt8)) (T : List RawR.Ev) (i : Nat) (l : List UInt8) :
    isMore (evTill Tryd.prog sumsAL 500 (behind Tryd.f40 0) 900 40 (headOf Tryd.f40 0) (envAt Tryd.f40.ntmps ([(5, vL 103 4 (T).length), (15, vL 101 1 ws.length), (16, vN ws.length), (17, vN (i : Nat))])) (alX H ++ (txE true 101 ws.length ws ++ evE 103 104 105 (T))) ⟨[.s true, .s true, .s true, .s true, .s false, .s true, .s true], 110⟩) (moreP (headOf Tryd.f40 0) ([]) Tryd.f40.ntmps ([(5, vL 103 4 (T).length), (15, vL 101 1 ws.length), (16, vN ws.length), (17, vN (i + 1 : Nat))]) (txE true 101 ws.length ws ++ evE 103 104 105 (T)) 470) =
    (OkL [(decide ((↑i : Int) < (↑ws.length : Int)), true), (decide ((0 : Int) ≤ (↑i : Int) ∧ (↑i : Int) < (↑ws.length : Int)), true), (((0 : Nat) + (↑i : Int).toNat).blt ws.length, true), (((0 : Nat) + (↑i : Int).toNat).blt ws.length, true), (ws.getD ((0 : Nat) + (↑i : Int).toNat) [] == [], false), (decide ((0 : Int) ≤ (0 : Int) ∧ (0 : Int) < (↑(ws.getD ((0 : Nat) + (↑i : Int).toNat) []).length : Int)), true), ((↑((ws.getD ((0 : Nat) + (↑i : Int).toNat) []).getD (0 : Nat) (0 : UInt8)).toNat : Int) == (35 : Int), true)] ∧ headOf Tryd.f40 (0 : Nat) = headOf Tryd.f40 (0 : Nat) ∧ (((0 : Nat) = (0 : Nat) ∧ T.length = T.length) ∧ ((0 : Nat) = (0 : Nat) ∧ ws.length = ws.length) ∧ (↑ws.length : Int) = (↑ws.length : Int) ∧ (↑(i + (1 : Nat)) : Int) = IntKind.i64.wrap ((↑i : Int) + (1 : Int))) ∧ (ws.length = ws.length ∧ ∀ (i : Nat), i < ws.length → ws.getD i [] = ws.getD i []) ∧ (T.length = T.length ∧ (∀ (i : Nat), i < T.length → eK T [i] = eK T [i]) ∧ (∀ (i : Nat), i < T.length → eN' T [i] = eN' T [i]) ∧ ((∀ (i : Nat), i < T.length → eX T [i] = eX T [i]) ∧ ∀ (i : Nat), i < T.length → eLB T [i] = eLB T [i]) ∧ (∀ (i : Nat), i < T.length → eX T [i] = eX T [i]) ∧ ∀ (i : Nat), i < T.length → eLM T [i] = eLM T [i]) ∧ (T.length = T.length ∧ ∀ (m : Nat), m < T.length → gLB T m = gLB T m ∧ ∀ (i : Nat), i < gLB T m → gB T [m, i] = gB T [m, i]) ∧ T.length = T.length ∧ ∀ (m : Nat), m < T.length → gLM T m = gLM T m ∧ ∀ (i : Nat), i < gLM T m → gM T [m, i] = gM T [m, i]) := by kernel_rfl

set_option maxHeartbeats 4000000 in
theorem al3 (H : List Ent) (ws : List (List UInt8)) (T : List RawR.Ev) (i : Nat) (l : List UInt8) (hi : i < ws.length) (hws : ws.length ≤ 200000) (hT : T.length ≤ 200000) (hl : ws.getD i [] = l) (hll : l.length ≤ 100000) (hs : l ≠ []) (h3 : l.getD 0 0 = 35)  (v : SV) (L' : HF) (next : RunsTo Tryd.prog 40 (headOf Tryd.f40 0) (envAt Tryd.f40.ntmps ([(5, vL 103 4 (T).length), (15, vL 101 1 ws.length), (16, vN ws.length), (17, vN (i + 1 : Nat))])) (Sx.look (alX H ++ (txE true 101 ws.length ws ++ evE 103 104 105 (T)))) 80 (v) (L') 470) :
    RunsTo Tryd.prog 40 (headOf Tryd.f40 0) (envAt Tryd.f40.ntmps ([(5, vL 103 4 (T).length), (15, vL 101 1 ws.length), (16, vN ws.length), (17, vN (i : Nat))])) (Sx.look (alX H ++ (txE true 101 ws.length ws ++ evE 103 104 105 (T)))) 80 (v) (L') 470 := by
  have hw : IntKind.i64.wrap ((i : Int) + 1) = ((i + 1 : Nat) : Int) := by rw [wr64 (by omega)]; rfl
  have hi0 : 0 + ((i : Nat) : Int).toNat = i := by simp
  have hp : 0 < l.length := List.length_pos_iff.2 hs
  have hz : (l == []) = false := beq_eq_false_iff_ne.2 hs
  have h35 : ((35 : UInt8).toNat : Int) = 35 := rfl
  refine runs_more baseAL (More.of (al3_p0 H ws T i l) ⟨?oo, rfl, ?rr⟩) (by kernel_rfl) (by kernel_rfl) rfl (gtL (by decide)) (by decide) next
  case oo =>
    clear next
    refine (okc ?_ (okc ?_ (okc ?_ (okc ?_ (okc ?_ (okc ?_ (okc ?_ okn)))))))
    all_goals ((try simp only [hi0, List.headD_cons, hl, hz, h3, h35]); first | done | rfl | omega | assumption | (simp (disch := omega) only [SS, hi0, List.headD_cons, hl, hz, h3, h35]; first | done | omega | assumption) | (simp_all; done) | (simp_all; omega))
  case rr =>
    clear next
    try simp (disch := omega) only [SS, hw]
    repeat' apply And.intro
    all_goals first | exact True.intro | with_reducible rfl | omega | (intros; first | exact True.intro | with_reducible rfl | omega | (simp_all; done)) | (simp_all; done) | rfl

theorem al4_p0 (H : List Ent) (ws : List (List UInt8)) (T : List RawR.Ev) (i : Nat) (l : List UInt8) (T' : List RawR.Ev) (at0 k : Nat) :
    isEnd (evTill Tryd.prog sumsAL 500 (99) 900 40 (headOf Tryd.f40 0) (envAt Tryd.f40.ntmps ([(5, vL 103 4 (T).length), (15, vL 101 1 ws.length), (16, vN ws.length), (17, vN (i : Nat))])) (alX H ++ (txE true 101 ws.length ws ++ evE 103 104 105 (T))) ⟨[.s true, .s true, .s true, .s true, .s false, .s true, .s false, .s true, .s true], 110⟩) (endP ([((141 : Nat), Rn.nil (4 : Nat)), ((142 : Nat), Rn.nil (1 : Nat)), ((143 : Nat), Rn.nil (1 : Nat))]) (alV (T', at0, k)) (evE 141 142 143 T') 470) =
    (OkL [(decide ((↑i : Int) < (↑ws.length : Int)), true), (decide ((0 : Int) ≤ (↑i : Int) ∧ (↑i : Int) < (↑ws.length : Int)), true), (((0 : Nat) + (↑i : Int).toNat).blt ws.length, true), (((0 : Nat) + (↑i : Int).toNat).blt ws.length, true), (ws.getD ((0 : Nat) + (↑i : Int).toNat) [] == [], false), (decide ((0 : Int) ≤ (0 : Int) ∧ (0 : Int) < (↑(ws.getD ((0 : Nat) + (↑i : Int).toNat) []).length : Int)), true), ((↑((ws.getD ((0 : Nat) + (↑i : Int).toNat) []).getD (0 : Nat) (0 : UInt8)).toNat : Int) == (35 : Int), false), (decide ((ws.getD ((0 : Nat) + (↑i : Int).toNat) []).length ≤ (100000 : Nat)), true), (!(List.map (fun c => if c.blt (80 : Nat) = true then c else (110 : Nat) + (c - (80 : Nat))) errL).length.ble (evK (ws.getD ((0 : Nat) + (↑i : Int).toNat) [])), true)] ∧ (T'.length = (0 : Nat) ∧ (↑at0 : Int) = IntKind.i64.wrap ((↑i : Int) + (1 : Int)) ∧ k = evK (ws.getD ((0 : Nat) + (↑i : Int).toNat) []) ∧ True) ∧ T'.length = (0 : Nat) ∧ T'.length = (0 : Nat) ∧ T'.length = (0 : Nat)) := by kernel_rfl

set_option maxHeartbeats 4000000 in
theorem al4 (H : List Ent) (ws : List (List UInt8)) (T : List RawR.Ev) (i : Nat) (l : List UInt8) (T' : List RawR.Ev) (at0 k : Nat) (hi : i < ws.length) (hws : ws.length ≤ 200000) (hT : T.length ≤ 200000) (hl : ws.getD i [] = l) (hll : l.length ≤ 100000) (hs : l ≠ []) (h3 : l.getD 0 0 ≠ 35) (hk : evK l = 4) (hT' : T' = []) (ha : at0 = i + 1) (hk' : k = 4)  :
    RunsTo Tryd.prog 40 (headOf Tryd.f40 0) (envAt Tryd.f40.ntmps ([(5, vL 103 4 (T).length), (15, vL 101 1 ws.length), (16, vN ws.length), (17, vN (i : Nat))])) (Sx.look (alX H ++ (txE true 101 ws.length ws ++ evE 103 104 105 (T)))) 80 (alV (T', at0, k)) (Sx.look (evE 141 142 143 T')) 470 := by
  have hw : IntKind.i64.wrap ((i : Int) + 1) = ((i + 1 : Nat) : Int) := by rw [wr64 (by omega)]; rfl
  have hi0 : 0 + ((i : Nat) : Int).toNat = i := by simp
  have hp : 0 < l.length := List.length_pos_iff.2 hs
  have hz : (l == []) = false := beq_eq_false_iff_ne.2 hs
  have h35 : (((l.getD 0 0).toNat : Int) == 35) = false := beq_eq_false_iff_ne.2 (fun e => h3 (UInt8.toNat_inj.1 (by show (l.getD 0 0).toNat = 35; omega)))
  have hTl : T'.length = 0 := by rw [hT']; rfl
  refine runs_last baseAL (Sx.Ends.of (al4_p0 H ws T i l T' at0 k) ⟨?oo, ?rr⟩) (by kernel_rfl) rfl (gtL (by decide)) (by decide)
  case oo =>
    refine (okc ?_ (okc ?_ (okc ?_ (okc ?_ (okc ?_ (okc ?_ (okc ?_ (okc ?_ (okc ?_ okn)))))))))
    all_goals ((try simp only [hi0, List.headD_cons, hl, hz, h35, hk]); first | done | rfl | omega | assumption | (simp (disch := omega) only [SS, hi0, List.headD_cons, hl, hz, h35, hk]; first | done | omega | assumption) | (simp_all; done) | (simp_all; omega))
  case rr =>
    (try simp only [hi0, List.headD_cons, hl, hk, hw])
    repeat' apply And.intro
    all_goals first | exact True.intro | with_reducible rfl | omega | (subst ha; rfl) | (subst hk'; rfl) | (intro j hj; omega) | (simp_all; done)

theorem al5_p0 (H : List Ent) (ws : List (List UInt8)) (T : List RawR.Ev) (i : Nat) (l : List UInt8) (e : RawR.Ev) :
    isMore (evTill Tryd.prog sumsAL 500 (behind Tryd.f40 0) 900 40 (headOf Tryd.f40 0) (envAt Tryd.f40.ntmps ([(5, vL 103 4 (T).length), (15, vL 101 1 ws.length), (16, vN ws.length), (17, vN (i : Nat))])) (alX H ++ (txE true 101 ws.length ws ++ evE 103 104 105 (T))) ⟨[.s true, .s true, .s true, .s true, .s false, .s true, .s false, .s true, .s false, .t, .s true, .s true], 110⟩) (moreP (headOf Tryd.f40 0) ([((103 : Nat), Rn.to (434 : Nat)), ((104 : Nat), Rn.to (432 : Nat)), ((105 : Nat), Rn.to (433 : Nat))]) Tryd.f40.ntmps ([(5, vL 103 4 (T ++ [e]).length), (15, vL 101 1 ws.length), (16, vN ws.length), (17, vN (i + 1 : Nat))]) (txE true 101 ws.length ws ++ evE 103 104 105 (T ++ [e])) 470) =
    (OkL [(decide ((↑i : Int) < (↑ws.length : Int)), true), (decide ((0 : Int) ≤ (↑i : Int) ∧ (↑i : Int) < (↑ws.length : Int)), true), (((0 : Nat) + (↑i : Int).toNat).blt ws.length, true), (((0 : Nat) + (↑i : Int).toNat).blt ws.length, true), (ws.getD ((0 : Nat) + (↑i : Int).toNat) [] == [], false), (decide ((0 : Int) ≤ (0 : Int) ∧ (0 : Int) < (↑(ws.getD ((0 : Nat) + (↑i : Int).toNat) []).length : Int)), true), ((↑((ws.getD ((0 : Nat) + (↑i : Int).toNat) []).getD (0 : Nat) (0 : UInt8)).toNat : Int) == (35 : Int), false), (decide ((ws.getD ((0 : Nat) + (↑i : Int).toNat) []).length ≤ (100000 : Nat)), true), (!(List.map (fun c => if c.blt (80 : Nat) = true then c else (110 : Nat) + (c - (80 : Nat))) errL).length.ble (evK (ws.getD ((0 : Nat) + (↑i : Int).toNat) [])), false), (((0 : Nat) + T.length).ble T.length, true), (decide (((2 : Nat) * (T.length + (1 : Nat)) + (192 : Nat)) * (64 : Nat) ≤ (281474976710656 : Nat)), true)] ∧ headOf Tryd.f40 (0 : Nat) = headOf Tryd.f40 (0 : Nat) ∧ (((0 : Nat) = (0 : Nat) ∧ (T ++ [e]).length = T.length + (1 : Nat)) ∧ ((0 : Nat) = (0 : Nat) ∧ ws.length = ws.length) ∧ (↑ws.length : Int) = (↑ws.length : Int) ∧ (↑(i + (1 : Nat)) : Int) = IntKind.i64.wrap ((↑i : Int) + (1 : Int))) ∧ (ws.length = ws.length ∧ ∀ (i : Nat), i < ws.length → ws.getD i [] = ws.getD i []) ∧ ((T ++ [e]).length = T.length + (1 : Nat) ∧ (∀ (i_1 : Nat), i_1 < (T ++ [e]).length → eK (T ++ [e]) [i_1] = appF T.length (0 : Nat) (eK T) (fun js => (evR (ws.getD ((0 : Nat) + (↑i : Int).toNat) [])).1) [i_1]) ∧ (∀ (i_1 : Nat), i_1 < (T ++ [e]).length → eN' (T ++ [e]) [i_1] = appF T.length (0 : Nat) (eN' T) (fun js => (evR (ws.getD ((0 : Nat) + (↑i : Int).toNat) [])).2) [i_1]) ∧ ((∀ (i : Nat), i < (T ++ [e]).length → eX (T ++ [e]) [i] = appF T.length (0 : Nat) (fun is => eX T is + (1 : Nat)) (fun js => (0 : Nat)) [i]) ∧ ∀ (i_1 : Nat), i_1 < (T ++ [e]).length → eLB (T ++ [e]) [i_1] = appF T.length (0 : Nat) (eLB T) (fun js => (evR (ws.getD ((0 : Nat) + (↑i : Int).toNat) [])).3.length) [i_1]) ∧ (∀ (i : Nat), i < (T ++ [e]).length → eX (T ++ [e]) [i] = appF T.length (0 : Nat) (fun is => eX T is + (1 : Nat)) (fun js => (0 : Nat)) [i]) ∧ ∀ (i_1 : Nat), i_1 < (T ++ [e]).length → eLM (T ++ [e]) [i_1] = appF T.length (0 : Nat) (eLM T) (fun js => (evR (ws.getD ((0 : Nat) + (↑i : Int).toNat) [])).4.length) [i_1]) ∧ ((T ++ [e]).length = T.length + (1 : Nat) ∧ ∀ (m : Nat), m < (T ++ [e]).length → gLB (T ++ [e]) m = consN (evR (ws.getD ((0 : Nat) + (↑i : Int).toNat) [])).3.length (gLB T) m ∧ ∀ (i_1 : Nat), i_1 < gLB (T ++ [e]) m → gB (T ++ [e]) [m, i_1] = consF (fun is => (↑((evR (ws.getD ((0 : Nat) + (↑i : Int).toNat) [])).3.getD (List.headD is (0 : Nat)) (0 : UInt8)).toNat : Int)) (gB T) [m, i_1]) ∧ (T ++ [e]).length = T.length + (1 : Nat) ∧ ∀ (m : Nat), m < (T ++ [e]).length → gLM (T ++ [e]) m = consN (evR (ws.getD ((0 : Nat) + (↑i : Int).toNat) [])).4.length (gLM T) m ∧ ∀ (i_1 : Nat), i_1 < gLM (T ++ [e]) m → gM (T ++ [e]) [m, i_1] = consF (fun is => (evR (ws.getD ((0 : Nat) + (↑i : Int).toNat) [])).4.getD (List.headD is (0 : Nat)) (0 : Int)) (gM T) [m, i_1]) := by kernel_rfl

set_option maxHeartbeats 4000000 in
theorem al5 (H : List Ent) (ws : List (List UInt8)) (T : List RawR.Ev) (i : Nat) (l : List UInt8) (e : RawR.Ev) (hi : i < ws.length) (hws : ws.length ≤ 200000) (hT : T.length ≤ 200000) (hl : ws.getD i [] = l) (hll : l.length ≤ 100000) (hs : l ≠ []) (h3 : l.getD 0 0 ≠ 35) (hk : evK l = 16) (he : evR l = e)  (v : SV) (L' : HF) (next : RunsTo Tryd.prog 40 (headOf Tryd.f40 0) (envAt Tryd.f40.ntmps ([(5, vL 103 4 (T ++ [e]).length), (15, vL 101 1 ws.length), (16, vN ws.length), (17, vN (i + 1 : Nat))])) (Sx.look (alX H ++ (txE true 101 ws.length ws ++ evE 103 104 105 (T ++ [e])))) 80 (v) (L') 470) :
    RunsTo Tryd.prog 40 (headOf Tryd.f40 0) (envAt Tryd.f40.ntmps ([(5, vL 103 4 (T).length), (15, vL 101 1 ws.length), (16, vN ws.length), (17, vN (i : Nat))])) (Sx.look (alX H ++ (txE true 101 ws.length ws ++ evE 103 104 105 (T)))) 80 (v) (L') 470 := by
  have hw : IntKind.i64.wrap ((i : Int) + 1) = ((i + 1 : Nat) : Int) := by rw [wr64 (by omega)]; rfl
  have hi0 : 0 + ((i : Nat) : Int).toNat = i := by simp
  have hp : 0 < l.length := List.length_pos_iff.2 hs
  have hz : (l == []) = false := beq_eq_false_iff_ne.2 hs
  have h35 : (((l.getD 0 0).toNat : Int) == 35) = false := beq_eq_false_iff_ne.2 (fun e => h3 (UInt8.toNat_inj.1 (by show (l.getD 0 0).toNat = 35; omega)))
  refine runs_more baseAL (More.of (al5_p0 H ws T i l e) ⟨?oo, rfl, ?rr⟩) (by kernel_rfl) (by kernel_rfl) rfl (gtL (by decide)) (by decide) next
  case oo =>
    clear next
    refine (okc ?_ (okc ?_ (okc ?_ (okc ?_ (okc ?_ (okc ?_ (okc ?_ (okc ?_ (okc ?_ (okc ?_ (okc ?_ okn)))))))))))
    all_goals ((try simp only [hi0, List.headD_cons, hl, hz, h35, hk, he]); first | done | rfl | omega | assumption | (simp (disch := omega) only [SS, hi0, List.headD_cons, hl, hz, h35, hk, he]; first | done | omega | assumption) | (simp_all; done) | (simp_all; omega))
  case rr =>
    clear next
    (try simp only [hi0, List.headD_cons, List.length_append, List.length_cons, List.length_nil, Nat.zero_add, hl, hw, he])
    repeat' apply And.intro
    all_goals first | exact True.intro | with_reducible rfl | omega | (simp only [List.length_append, List.length_cons, List.length_nil]; done) | exact ev_app (fun e => e.K) T e _ rfl | exact ev_app (fun e => e.N) T e _ rfl | exact ev_app (fun e => e.B.length) T e _ rfl | exact ev_app (fun e => e.M.length) T e _ rfl | exact eX_app T e _ _ (fun k hk => rfl) rfl | (simp; done) | (intro m hm; exact ⟨gL_cons (fun e => e.B.length) T e _ rfl m hm, fun j hj => gF_cons (fun e j => ((e.B.getD j 0).toNat : Int)) (fun e => e.B.length) T e _ m hm j (fun j hj => rfl) hj⟩) | (intro m hm; exact ⟨gL_cons (fun e => e.M.length) T e _ rfl m hm, fun j hj => gF_cons (fun e j => e.M.getD j 0) (fun e => e.M.length) T e _ m hm j (fun j hj => rfl) hj⟩)

theorem al6_p0 (H : List Ent) (ws : List (List UInt8)) (T : List RawR.Ev) (i at0 k : Nat) :
    isEnd (evTill Tryd.prog sumsAL 500 (99) 900 40 (headOf Tryd.f40 0) (envAt Tryd.f40.ntmps ([(5, vL 103 4 (T).length), (15, vL 101 1 ws.length), (16, vN ws.length), (17, vN (i : Nat))])) (alX H ++ (txE true 101 ws.length ws ++ evE 103 104 105 (T))) ⟨[.s false], 110⟩) (endP ([((141 : Nat), Rn.to (103 : Nat)), ((142 : Nat), Rn.to (104 : Nat)), ((143 : Nat), Rn.to (105 : Nat))]) (alV (T, at0, k)) (evE 141 142 143 T) 470) =
    (OkL [(decide ((↑i : Int) < (↑ws.length : Int)), false)] ∧ (((0 : Nat) = (0 : Nat) ∧ T.length = T.length) ∧ (↑at0 : Int) = (0 : Int) ∧ nthL errL k = none ∧ True) ∧ (T.length = T.length ∧ (∀ (i : Nat), i < T.length → eK T [i] = eK T [i]) ∧ (∀ (i : Nat), i < T.length → eN' T [i] = eN' T [i]) ∧ ((∀ (i : Nat), i < T.length → eX T [i] = eX T [i]) ∧ ∀ (i : Nat), i < T.length → eLB T [i] = eLB T [i]) ∧ (∀ (i : Nat), i < T.length → eX T [i] = eX T [i]) ∧ ∀ (i : Nat), i < T.length → eLM T [i] = eLM T [i]) ∧ (T.length = T.length ∧ ∀ (m : Nat), m < T.length → gLB T m = gLB T m ∧ ∀ (i : Nat), i < gLB T m → gB T [m, i] = gB T [m, i]) ∧ T.length = T.length ∧ ∀ (m : Nat), m < T.length → gLM T m = gLM T m ∧ ∀ (i : Nat), i < gLM T m → gM T [m, i] = gM T [m, i]) := by kernel_rfl

set_option maxHeartbeats 4000000 in
theorem al6 (H : List Ent) (ws : List (List UInt8)) (T : List RawR.Ev) (i at0 k : Nat) (hi : i = ws.length) (ha : at0 = 0) (hk : k = 16)  :
    RunsTo Tryd.prog 40 (headOf Tryd.f40 0) (envAt Tryd.f40.ntmps ([(5, vL 103 4 (T).length), (15, vL 101 1 ws.length), (16, vN ws.length), (17, vN (i : Nat))])) (Sx.look (alX H ++ (txE true 101 ws.length ws ++ evE 103 104 105 (T)))) 80 (alV (T, at0, k)) (Sx.look (evE 141 142 143 T)) 470 := by
  refine runs_last baseAL (Sx.Ends.of (al6_p0 H ws T i at0 k) ⟨?oo, ?rr⟩) (by kernel_rfl) rfl (gtL (by decide)) (by decide)
  case oo =>
    refine (okc ?_ okn)
    all_goals ((try simp (disch := omega) only [SS]); first | done | omega | assumption | (simp (disch := omega) only [SS] at *; first | done | omega | assumption) | (simp_all; done))
  case rr =>
    repeat' apply And.intro
    all_goals first | exact True.intro | with_reducible rfl | omega | (subst ha; rfl) | (subst hk; rfl) | (subst hk; decide) | (intros; rfl) | (intro m hm; exact ⟨rfl, fun j hj => rfl⟩)

theorem evK_two (l : List UInt8) : evK l = 16 ∨ evK l = 4 := by unfold evK; split <;> simp
theorem alT (H : List Ent) (t : List UInt8) : RunsTo Tryd.prog 40 [.code (bodyOf Tryd.f40)] (envOf [vS t] Tryd.f40.ntmps) (Sx.look (alX H ++ ([]))) 80 (alV (allR t)) (Sx.look (evE 141 142 143 (allR t).1)) 470 := by
  unfold allR
  by_cases h : 100000 < t.length
  · rw [if_pos h]; exact al0 H t [] 0 3 h rfl rfl rfl
  rw [if_neg h]
  have h : t.length ≤ 100000 := by omega
  have hmem := split_mem_len 10 t
  have hlen := splitR_len 10 t
  have hcl : t.count 10 ≤ t.length := List.count_le_length
  refine al1 H t (splitR 10 t) h rfl _ _ ?_
  generalize splitR 10 t = ws at hmem hlen
  suffices q : ∀ (j i : Nat) (T : List RawR.Ev), i + j = ws.length → T.length ≤ i → RunsTo Tryd.prog 40 (headOf Tryd.f40 0) (envAt Tryd.f40.ntmps ([(5, vL 103 4 (T).length), (15, vL 101 1 ws.length), (16, vN ws.length), (17, vN (i : Nat))])) (Sx.look (alX H ++ (txE true 101 ws.length ws ++ evE 103 104 105 (T)))) 80 (alV (allGo i T (ws.drop i))) (Sx.look (evE 141 142 143 (allGo i T (ws.drop i)).1)) 470 from q ws.length 0 [] (by omega) (by simp)
  intro j
  induction j with
  | zero =>
    intro i T hi hT
    rw [List.drop_eq_nil_of_le (by omega), allGo]
    exact al6 H ws T i 0 16 (by omega) rfl rfl
  | succ j ih =>
    intro i T hi hT
    have hm := hmem _ (getD_mem' (d := []) (show i < ws.length by omega))
    rw [dropT ws [] (show i < ws.length by omega)]
    generalize hl : ws.getD i [] = l at hm
    rw [allGo]
    by_cases hs : l = []
    · have : skipB l = true := by unfold skipB; rw [decide_eq_true hs]; rfl
      rw [if_pos this]
      exact al2 H ws T i l (by omega) (by omega) (by omega) hl (by omega) hs _ _ (ih (i + 1) T (by omega) (by omega))
    by_cases h3 : l.getD 0 0 = 35
    · have : skipB l = true := by unfold skipB; rw [decide_eq_true h3, Bool.or_true]
      rw [if_pos this]
      exact al3 H ws T i l (by omega) (by omega) (by omega) hl (by omega) hs h3 _ _ (ih (i + 1) T (by omega) (by omega))
    have hn : ¬ skipB l = true := by unfold skipB; rw [decide_eq_false hs, decide_eq_false h3]; decide
    rw [if_neg hn]
    rcases evK_two l with hk | hk
    · rw [if_pos hk]
      exact al5 H ws T i l (evR l) (by omega) (by omega) (by omega) hl (by omega) hs h3 hk rfl _ _ (ih (i + 1) _ (by omega) (by simp; omega))
    · rw [if_neg (by rw [hk]; decide)]
      exact al4 H ws T i l [] (i + 1) 4 (by omega) (by omega) (by omega) hl (by omega) hs h3 hk rfl rfl rfl
def alP : PC := { args := [.v (.vs 0)], heap := [], gs := [1, 2, 20, 21], G := 24, tp := 194, n := 80, n' := 470, cond := fun e => true, v := fun e => alV (allR (eS e 0 [])), post := fun e => evE 141 142 143 (allR (eS e 0 [])).1 }
theorem alP_pc : PC.Runs Tryd.prog 40 Tryd.f40 (bodyOf Tryd.f40) alP := ⟨Tryd.func40, by kernel_rfl, (fun g hg => by first | (cases hg; done) | (revert g; show ∀ g ∈ ([1, 2, 20, 21] : List Nat), g < 24; decide)), fun e H hc => by
  have hc : (true) = true := hc
  try simp only [Bool.and_eq_true, decide_eq_true_eq, Nat.beq_eq] at hc
  exact alT H (eS e 0 [])⟩
end Go.Proofs.YtankmgnjkcgpaaaDoor

set_option linter.unusedSimpArgs false
set_option linter.unusedVariables false
set_option maxRecDepth 100000
namespace Go.Proofs.YtankmgnjkcgpaaaDoor
open Go.Sx RawR

theorem runs_retell {P : Program} {f : FuncId} {t : List Item} {env1 env2 : List SV} {L1 L2 : HF} {n n' : Nat} {v : SV} {L' : HF} (κ : Con → Con) (hg : gtop P ≤ n) (hκ : ∀ ρ l, (l < n ∨ n' ≤ l) → κ ρ l = ρ l)
    (hE : ∀ ρ tmps, EnvOK ρ env1 tmps → EnvOK (κ ρ) env2 tmps) (hH : ∀ ρ w, HoldF ρ L1 w → HoldF (κ ρ) L2 w) (hO : ∀ ρ w k, HoldF ρ L1 w → OwnS (κ ρ) L2 k → OwnS ρ L1 k)
    (r : RunsTo P f t env2 L2 n v L' n') : RunsTo P f t env1 L1 n v L' n' := by
  refine ⟨r.1, fun ρ w b a cs h1 h2 h3 h4 h5 h6 => ?_⟩
  obtain ⟨ρ', w', fr, vv, g1, g2, g3, g4, g5⟩ := r.2 (κ ρ) w b a cs h1 h2 h3 (hE ρ _ h4) (hH ρ w h5) (h6.agree (fun l hl => hκ ρ l (.inl (Nat.lt_of_lt_of_le hl hg))))
  exact ⟨ρ', w', fr, vv, g1, g2, g3, g4, ⟨fun l hl => (g5.agree l hl).trans (hκ ρ l hl), g5.hold, g5.frame.mono (fun k hk => .inl (hO ρ w k h5 hk)), fun k hk => (g5.own k hk).imp (hO ρ w k h5) id⟩⟩

theorem env_agree {ρ ρ' : Con} {env : List SV} {tmps : Array Value} (h : EnvOK ρ env tmps) (hl : ∀ t s, nth env t = some s → ∀ l ∈ s.labs, ρ' l = ρ l) : EnvOK ρ' env tmps :=
  ⟨h.1, fun t s hs hj => by rw [SV.val_agree' s (hl t s hs)]; exact h.2 t s hs hj⟩

theorem lk_ge {X Y : List Ent} (hX : ∀ e ∈ X, e.own = false ∧ e.lab < 110 ∧ ∀ l ∈ e.t.labs, l < 110) {l : Nat} (hl : 110 ≤ l) : Sx.look (X ++ Y) l = Sx.look Y l := by
  rw [look_app]
  cases h : Sx.look X l with
  | none => rfl
  | some e =>
    have h1 := (hX e (look_mem h)).2.1
    rw [look_lab h] at h1
    omega
theorem lk_lt {X Y : List Ent} (hX : ∀ e ∈ X, e.own = false ∧ e.lab < 110 ∧ ∀ l ∈ e.t.labs, l < 110) (hY : ∀ e ∈ Y, 110 ≤ e.lab) {l : Nat} {e : Ent} (h : Sx.look (X ++ Y) l = some e) : (Sx.look X l = some e) ∨ (110 ≤ l ∧ Sx.look Y l = some e) := by
  rw [look_app] at h
  cases hx : Sx.look X l with
  | some x => rw [hx] at h; exact .inl h
  | none =>
    rw [hx] at h
    have := hY e (look_mem h)
    rw [look_lab h] at this
    exact .inr ⟨this, h⟩

def jrE (l f g off : Nat) (T : List RawR.Ev) : List Ent := [⟨l, false, none, 4, .ta T.length (.tc (.vi .i64 (eK T)) (.tc (.vi .i64 (eN' T)) (.tc (.vl f (fun is => off + is.headD 0) 1 [] (eLB T)) (.tc (.vl g (fun is => off + is.headD 0) 1 [] (eLM T)) .t0))))⟩]
def zB (Z : List RawR.Ev) : Ix → Int := fun is => (((Z.getD (is.headD 0) ev0).B.getD (is.tail.headD 0) 0).toNat : Int)
def zM (Z : List RawR.Ev) : Ix → Int := fun is => (Z.getD (is.headD 0) ev0).M.getD (is.tail.headD 0) 0
def zLB (Z : List RawR.Ev) : Nat → Nat := fun m => (Z.getD m ev0).B.length
def zLM (Z : List RawR.Ev) : Nat → Nat := fun m => (Z.getD m ev0).M.length
def jfE (f g : Nat) (Z : List RawR.Ev) : List Ent := [⟨f, false, some (Z.length, zLB Z), 1, .vi .u8 (zB Z)⟩, ⟨g, false, some (Z.length, zLM Z), 1, .vi .i64 (zM Z)⟩]
def jk (A B : List RawR.Ev) (ρ : Con) : Con := fun l m => if l = 132 then (if m < A.length then ρ 124 (A.length - 1 - m) else ρ 127 (B.length - 1 - (m - A.length))) else if l = 133 then (if m < A.length then ρ 125 (A.length - 1 - m) else ρ 128 (B.length - 1 - (m - A.length))) else ρ l m
theorem jk_o (A B : List RawR.Ev) (ρ : Con) {l : Nat} (h1 : l ≠ 132) (h2 : l ≠ 133) : jk A B ρ l = ρ l := by funext m; simp [jk, h1, h2]
theorem jk_b1 {A B : List RawR.Ev} {ρ : Con} {i : Nat} (h : i < A.length) : jk A B ρ 132 i = ρ 124 (A.length - 1 - i) := by simp [jk, h]
theorem jk_m1 {A B : List RawR.Ev} {ρ : Con} {i : Nat} (h : i < A.length) : jk A B ρ 133 i = ρ 125 (A.length - 1 - i) := by simp [jk, h]
theorem jk_b2 {A B : List RawR.Ev} {ρ : Con} {i : Nat} : jk A B ρ 132 (A.length + i) = ρ 127 (B.length - 1 - i) := by simp only [jk]; rw [if_pos trivial, if_neg (by omega), Nat.add_sub_cancel_left]
theorem jk_m2 {A B : List RawR.Ev} {ρ : Con} {i : Nat} : jk A B ρ 133 (A.length + i) = ρ 128 (B.length - 1 - i) := by simp only [jk]; rw [if_neg (by decide), if_pos trivial, if_neg (by omega), Nat.add_sub_cancel_left]
def jY1 (A B C : List RawR.Ev) : List Ent := evE 123 124 125 A ++ (evE 126 127 128 B ++ evE 129 130 131 C)
def jY2 (A B C : List RawR.Ev) : List Ent := jrE 123 132 133 0 A ++ (jrE 126 132 133 A.length B ++ (jfE 132 133 (A ++ B) ++ evE 129 130 131 C))

theorem row_cells {ρ1 ρ2 : Con} {T : List RawR.Ev} {f g f' g' : Nat} {m1 m2 : Ix → Nat} (hb : ∀ i, i < T.length → ρ1 f (m1 [i]) = ρ2 f' (m2 [i])) (hm : ∀ i, i < T.length → ρ1 g (m1 [i]) = ρ2 g' (m2 [i])) :
    (Tr.ta T.length (.tc (.vi .i64 (eK T)) (.tc (.vi .i64 (eN' T)) (.tc (.vl f m1 1 [] (eLB T)) (.tc (.vl g m1 1 [] (eLM T)) .t0))))).cells ρ1 [] =
    (Tr.ta T.length (.tc (.vi .i64 (eK T)) (.tc (.vi .i64 (eN' T)) (.tc (.vl f' m2 1 [] (eLB T)) (.tc (.vl g' m2 1 [] (eLM T)) .t0))))).cells ρ2 [] := by
  simp only [Tr.cells]
  refine flatMap_congr fun i hi => ?_
  have hi := List.mem_range.1 hi
  simp only [Tr.cells, Tr.val, List.nil_append, hb i hi, hm i hi]
theorem fam_cells {ρ1 ρ2 : Con} {k : IntKind} {n n' : Nat} {F G : Ix → Int} {m m' : Nat} (hn : n = n') (h : ∀ j, j < n → F [m, j] = G [m', j]) : (Tr.ta n (.vi k F)).cells ρ1 [m] = (Tr.ta n' (.vi k G)).cells ρ2 [m'] := by
  subst hn
  simp only [Tr.cells]
  refine flatMap_congr fun j hj => ?_
  have hj := List.mem_range.1 hj
  simp only [Tr.val, List.cons_append, List.nil_append, h j hj]
theorem app_l {A B : List RawR.Ev} {m : Nat} (h : m < A.length) : (A ++ B).getD m ev0 = A.getD m ev0 := by simp [List.getD_eq_getElem?_getD, List.getElem?_append_left h]
theorem app_r {A B : List RawR.Ev} {m : Nat} : (A ++ B).getD (A.length + m) ev0 = B.getD m ev0 := by simp [List.getD_eq_getElem?_getD, List.getElem?_append_right]

theorem join_holds (A B C : List RawR.Ev) {X : List Ent} (hX : ∀ e ∈ X, e.own = false ∧ e.lab < 110 ∧ ∀ l ∈ e.t.labs, l < 110) {ρ : Con} {w : World} (h : HoldF ρ (Sx.look (X ++ jY1 A B C)) w) : HoldF (jk A B ρ) (Sx.look (X ++ jY2 A B C)) w ∧
    (∀ l e, Sx.look (X ++ jY2 A B C) l = some e → ∀ k, e.occ (jk A B ρ) k → ∃ l' e', Sx.look (X ++ jY1 A B C) l' = some e' ∧ e'.occ ρ k ∧ (l' = l ∨ 123 ≤ l' ∧ l' < 129) ∧ (e.own = true → l' = l ∧ e'.own = true) ∧ (129 ≤ l' → l' = l)) := by
  have hY2 : ∀ e ∈ jY2 A B C, 110 ≤ e.lab := by
    intro e he
    simp only [jY2, jrE, jfE, evE, List.mem_append, List.mem_cons, List.not_mem_nil, or_false] at he
    rcases he with rfl | rfl | (rfl | rfl) | rfl | rfl | rfl <;> simp
  have g := fun l (hl : 110 ≤ l) => lk_ge (Y := jY1 A B C) hX hl
  have k123 : Sx.look (X ++ jY1 A B C) 123 = some ⟨123, true, none, 4, .ta A.length (.tc (.vi .i64 (eK A)) (.tc (.vi .i64 (eN' A)) (.tc (.vl 124 (eX A) 1 [] (eLB A)) (.tc (.vl 125 (eX A) 1 [] (eLM A)) .t0))))⟩ := by rw [g 123 (by omega)]; rfl
  have k124 : Sx.look (X ++ jY1 A B C) 124 = some ⟨124, true, some (A.length, gLB A), 1, .vi .u8 (gB A)⟩ := by rw [g 124 (by omega)]; rfl
  have k125 : Sx.look (X ++ jY1 A B C) 125 = some ⟨125, true, some (A.length, gLM A), 1, .vi .i64 (gM A)⟩ := by rw [g 125 (by omega)]; rfl
  have k126 : Sx.look (X ++ jY1 A B C) 126 = some ⟨126, true, none, 4, .ta B.length (.tc (.vi .i64 (eK B)) (.tc (.vi .i64 (eN' B)) (.tc (.vl 127 (eX B) 1 [] (eLB B)) (.tc (.vl 128 (eX B) 1 [] (eLM B)) .t0))))⟩ := by rw [g 126 (by omega)]; rfl
  have k127 : Sx.look (X ++ jY1 A B C) 127 = some ⟨127, true, some (B.length, gLB B), 1, .vi .u8 (gB B)⟩ := by rw [g 127 (by omega)]; rfl
  have k128 : Sx.look (X ++ jY1 A B C) 128 = some ⟨128, true, some (B.length, gLM B), 1, .vi .i64 (gM B)⟩ := by rw [g 128 (by omega)]; rfl
  have kC : ∀ l e, Sx.look (evE 129 130 131 C) l = some e → Sx.look (X ++ jY1 A B C) l = some e := by
    intro l e he
    have hm := look_mem he
    have hlab := look_lab he
    simp only [evE, List.mem_cons, List.not_mem_nil, or_false] at hm
    rcases hm with rfl | rfl | rfl <;> (simp only at hlab; subst hlab; rw [g _ (by omega)]; rfl)
  -- which entries there are
  have cases_ : ∀ l e, Sx.look (X ++ jY2 A B C) l = some e → (Sx.look X l = some e) ∨ (e ∈ jrE 123 132 133 0 A ∧ l = 123) ∨ (e ∈ jrE 126 132 133 A.length B ∧ l = 126) ∨ (e ∈ jfE 132 133 (A ++ B)) ∨ Sx.look (evE 129 130 131 C) l = some e := by
    intro l e he
    rcases lk_lt hX hY2 he with h1 | ⟨_, h1⟩
    · exact .inl h1
    · have hlab := look_lab h1
      have hm := look_mem h1
      simp only [jY2, List.mem_append] at hm
      rcases hm with hm | hm | hm | hm
      · refine .inr (.inl ⟨hm, ?_⟩); simp only [jrE, List.mem_singleton] at hm; rw [← hlab, hm]
      · refine .inr (.inr (.inl ⟨hm, ?_⟩)); simp only [jrE, List.mem_singleton] at hm; rw [← hlab, hm]
      · exact .inr (.inr (.inr (.inl hm)))
      · refine .inr (.inr (.inr (.inr ?_)))
        simp only [evE, List.mem_cons, List.not_mem_nil, or_false] at hm
        rcases hm with rfl | rfl | rfl <;> (simp only at hlab; subst hlab; rfl)
  have occC : ∀ l e, Sx.look (evE 129 130 131 C) l = some e → l ≠ 132 ∧ l ≠ 133 ∧ (∀ k ∈ e.t.labs, k ≠ 132 ∧ k ≠ 133) := by
    intro l e he
    have hm := look_mem he
    have hlab := look_lab he
    simp only [evE, List.mem_cons, List.not_mem_nil, or_false] at hm
    rcases hm with rfl | rfl | rfl <;> (simp only at hlab; subst hlab; simp [Tr.labs])
  have cA : ∀ i, i < A.length → jk A B ρ 132 (0 + i) = ρ 124 (eX A [i]) ∧ jk A B ρ 133 (0 + i) = ρ 125 (eX A [i]) := fun i hi => by rw [Nat.zero_add, jk_b1 hi, jk_m1 hi]; exact ⟨rfl, rfl⟩
  have cB : ∀ i, i < B.length → jk A B ρ 132 (A.length + i) = ρ 127 (eX B [i]) ∧ jk A B ρ 133 (A.length + i) = ρ 128 (eX B [i]) := fun i hi => by rw [jk_b2, jk_m2]; exact ⟨rfl, rfl⟩
  have all_ : ∀ l e, Sx.look (X ++ jY2 A B C) l = some e → e.holds (jk A B ρ) w := by
    intro l e he
    rcases cases_ l e he with h1 | ⟨h1, rfl⟩ | ⟨h1, rfl⟩ | h1 | h1
    · obtain ⟨_, x2, x3⟩ := hX e (look_mem h1)
      have := h.all l e (by rw [look_app, h1])
      exact Ent.holds_agree this (jk_o A B ρ (by omega) (by omega)) (fun k hk => jk_o A B ρ (by have := x3 k hk; omega) (by have := x3 k hk; omega))
    · simp only [jrE, List.mem_singleton] at h1
      subst h1
      have := h.all 123 _ k123
      unfold Ent.holds at this ⊢
      simp only at this ⊢
      rw [jk_o A B ρ (by omega) (by omega), row_cells (ρ2 := ρ) (m2 := eX A) (f' := 124) (g' := 125) (fun i hi => (cA i hi).1) (fun i hi => (cA i hi).2)]
      exact this.own_false
    · simp only [jrE, List.mem_singleton] at h1
      subst h1
      have := h.all 126 _ k126
      unfold Ent.holds at this ⊢
      simp only at this ⊢
      rw [jk_o A B ρ (by omega) (by omega), row_cells (ρ2 := ρ) (m2 := eX B) (f' := 127) (g' := 128) (fun i hi => (cB i hi).1) (fun i hi => (cB i hi).2)]
      exact this.own_false
    · have h124 := h.all 124 _ k124
      have h125 := h.all 125 _ k125
      have h127 := h.all 127 _ k127
      have h128 := h.all 128 _ k128
      unfold Ent.holds at h124 h125 h127 h128
      simp only at h124 h125 h127 h128
      simp only [jfE, List.mem_cons, List.not_mem_nil, or_false] at h1
      rcases h1 with rfl | rfl
      · unfold Ent.holds
        simp only
        intro m hm
        rw [List.length_append] at hm
        by_cases hA : m < A.length
        · have := (h124 (A.length - 1 - m) (by omega)).own_false
          rw [jk_b1 hA, fam_cells (ρ2 := ρ) (G := gB A) (m' := A.length - 1 - m) (n' := gLB A (A.length - 1 - m)) (by simp only [zLB, gLB]; rw [app_l hA, show A.length - 1 - (A.length - 1 - m) = m by omega]) (fun j hj => by
            simp only [zB, gB, List.headD_cons, List.tail_cons]; rw [app_l hA, show A.length - 1 - (A.length - 1 - m) = m by omega])]
          exact this
        · obtain ⟨d, rfl⟩ : ∃ d, m = A.length + d := ⟨m - A.length, by omega⟩
          have := (h127 (B.length - 1 - d) (by omega)).own_false
          rw [jk_b2, fam_cells (ρ2 := ρ) (G := gB B) (m' := B.length - 1 - d) (n' := gLB B (B.length - 1 - d)) (by simp only [zLB, gLB]; rw [app_r, show B.length - 1 - (B.length - 1 - d) = d by omega]) (fun j hj => by
            simp only [zB, gB, List.headD_cons, List.tail_cons]; rw [app_r, show B.length - 1 - (B.length - 1 - d) = d by omega])]
          exact this
      · unfold Ent.holds
        simp only
        intro m hm
        rw [List.length_append] at hm
        by_cases hA : m < A.length
        · have := (h125 (A.length - 1 - m) (by omega)).own_false
          rw [jk_m1 hA, fam_cells (ρ2 := ρ) (G := gM A) (m' := A.length - 1 - m) (n' := gLM A (A.length - 1 - m)) (by simp only [zLM, gLM]; rw [app_l hA, show A.length - 1 - (A.length - 1 - m) = m by omega]) (fun j hj => by
            simp only [zM, gM, List.headD_cons, List.tail_cons]; rw [app_l hA, show A.length - 1 - (A.length - 1 - m) = m by omega])]
          exact this
        · obtain ⟨d, rfl⟩ : ∃ d, m = A.length + d := ⟨m - A.length, by omega⟩
          have := (h128 (B.length - 1 - d) (by omega)).own_false
          rw [jk_m2, fam_cells (ρ2 := ρ) (G := gM B) (m' := B.length - 1 - d) (n' := gLM B (B.length - 1 - d)) (by simp only [zLM, gLM]; rw [app_r, show B.length - 1 - (B.length - 1 - d) = d by omega]) (fun j hj => by
            simp only [zM, gM, List.headD_cons, List.tail_cons]; rw [app_r, show B.length - 1 - (B.length - 1 - d) = d by omega])]
          exact this
    · obtain ⟨o1, o2, o3⟩ := occC l e h1
      have := h.all l e (kC l e h1)
      have hlab := look_lab h1
      exact Ent.holds_agree this (jk_o A B ρ (by rw [hlab]; exact o1) (by rw [hlab]; exact o2)) (fun k hk => jk_o A B ρ (o3 k hk).1 (o3 k hk).2)
  have occ_ : ∀ l e, Sx.look (X ++ jY2 A B C) l = some e → ∀ k, e.occ (jk A B ρ) k → ∃ l' e', Sx.look (X ++ jY1 A B C) l' = some e' ∧ e'.occ ρ k ∧ (l' = l ∨ 123 ≤ l' ∧ l' < 129) ∧ (e.own = true → l' = l ∧ e'.own = true) ∧ (129 ≤ l' → l' = l) := by
    intro l e he k hk
    rcases cases_ l e he with h1 | ⟨h1, rfl⟩ | ⟨h1, rfl⟩ | h1 | h1
    · obtain ⟨x1, x2, x3⟩ := hX e (look_mem h1)
      exact ⟨l, e, by rw [look_app, h1], (Ent.occ_agree (jk_o A B ρ (by omega) (by omega))).1 hk, .inl rfl, fun ho => ⟨rfl, ho⟩, fun _ => rfl⟩
    · simp only [jrE, List.mem_singleton] at h1
      subst h1
      obtain ⟨m, q1, q2, q3, q4⟩ := hk
      simp only at q1
      subst q1
      rw [jk_o A B ρ (by simp) (by simp)] at q2 q4
      exact ⟨123, _, k123, ⟨0, rfl, q2, .inl rfl, q4⟩, .inl rfl, (fun ho => by cases ho), fun _ => rfl⟩
    · simp only [jrE, List.mem_singleton] at h1
      subst h1
      obtain ⟨m, q1, q2, q3, q4⟩ := hk
      simp only at q1
      subst q1
      rw [jk_o A B ρ (by simp) (by simp)] at q2 q4
      exact ⟨126, _, k126, ⟨0, rfl, q2, .inl rfl, q4⟩, .inl rfl, (fun ho => by cases ho), fun _ => rfl⟩
    · simp only [jfE, List.mem_cons, List.not_mem_nil, or_false] at h1
      rcases h1 with rfl | rfl
      · obtain ⟨m, q1, q2, q3, q4⟩ := hk
        simp only [List.length_append] at q1 q2 q4
        by_cases hA : m < A.length
        · rw [jk_b1 hA] at q2 q4
          exact ⟨124, _, k124, ⟨A.length - 1 - m, by simp only; omega, q2, .inl rfl, q4⟩, .inr (by omega), (fun ho => by cases ho), fun h => by omega⟩
        · obtain ⟨d, rfl⟩ : ∃ d, m = A.length + d := ⟨m - A.length, by omega⟩
          rw [jk_b2] at q2 q4
          exact ⟨127, _, k127, ⟨B.length - 1 - d, by simp only; omega, q2, .inl rfl, q4⟩, .inr (by omega), (fun ho => by cases ho), fun h => by omega⟩
      · obtain ⟨m, q1, q2, q3, q4⟩ := hk
        simp only [List.length_append] at q1 q2 q4
        by_cases hA : m < A.length
        · rw [jk_m1 hA] at q2 q4
          exact ⟨125, _, k125, ⟨A.length - 1 - m, by simp only; omega, q2, .inl rfl, q4⟩, .inr (by omega), (fun ho => by cases ho), fun h => by omega⟩
        · obtain ⟨d, rfl⟩ : ∃ d, m = A.length + d := ⟨m - A.length, by omega⟩
          rw [jk_m2] at q2 q4
          exact ⟨128, _, k128, ⟨B.length - 1 - d, by simp only; omega, q2, .inl rfl, q4⟩, .inr (by omega), (fun ho => by cases ho), fun h => by omega⟩
    · obtain ⟨o1, o2, o3⟩ := occC l e h1
      have hlab := look_lab h1
      exact ⟨l, e, kC l e h1, (Ent.occ_agree (jk_o A B ρ (by rw [hlab]; exact o1) (by rw [hlab]; exact o2))).1 hk, .inl rfl, fun ho => ⟨rfl, ho⟩, fun _ => rfl⟩
  refine ⟨⟨fun l e he => look_lab he, all_, fun l l' e e' he he' hne ho k hk hk' => ?_⟩, occ_⟩
  obtain ⟨m1, f1, a1, a2, a3, a4, a5⟩ := occ_ l e he k hk
  obtain ⟨m2, f2, b1, b2, b3, b4, b5⟩ := occ_ l' e' he' k hk'
  obtain ⟨rfl, ho1⟩ := a4 ho
  -- the own ones lie behind 129
  have hl : 129 ≤ m1 := by
    rcases cases_ m1 e he with h1 | ⟨h1, _⟩ | ⟨h1, _⟩ | h1 | h1
    · rw [(hX e (look_mem h1)).1] at ho; cases ho
    · simp only [jrE, List.mem_singleton] at h1; rw [h1] at ho; cases ho
    · simp only [jrE, List.mem_singleton] at h1; rw [h1] at ho; cases ho
    · simp only [jfE, List.mem_cons, List.not_mem_nil, or_false] at h1; rcases h1 with rfl | rfl <;> cases ho
    · have hm := look_mem h1
      have hlab := look_lab h1
      simp only [evE, List.mem_cons, List.not_mem_nil, or_false] at hm
      rcases hm with rfl | rfl | rfl <;> (simp only at hlab; omega)
  have hne2 : m1 ≠ m2 := by
    rcases b3 with rfl | b3
    · exact hne
    · omega
  exact h.sep m1 m2 f1 f2 a1 b1 hne2 ho1 k a2 b2

theorem runs_join (A B C : List RawR.Ev) {f : FuncId} {t : List Item} {k : Nat} {lc : List (Nat × SV)} {X : List Ent} {n' : Nat} {v : SV} {L' : HF} (hX : sharedB 110 X = true) (hn : 134 ≤ n') (hlc : ∀ t s, nth (envAt k lc) t = some s → ∀ l ∈ s.labs, l ≠ 132 ∧ l ≠ 133)
    (r : RunsTo Tryd.prog f t (envAt k lc) (Sx.look (X ++ jY2 A B C)) 110 v L' n') : RunsTo Tryd.prog f t (envAt k lc) (Sx.look (X ++ jY1 A B C)) 110 v L' n' := by
  have hX := sharedB_ok hX
  refine runs_retell (jk A B) (gtL (by decide)) (fun ρ l hl => jk_o A B ρ (by omega) (by omega)) (fun ρ tmps he => env_agree he (fun t s hs l hl => jk_o A B ρ (hlc t s hs l hl).1 (hlc t s hs l hl).2)) (fun ρ w h => (join_holds A B C hX h).1) (fun ρ w k h hk => ?_) r
  obtain ⟨l, x, h1, h2, h3⟩ := hk
  obtain ⟨l', e', a1, a2, a3, a4, a5⟩ := (join_holds A B C hX h).2 l x h1 k h3
  obtain ⟨rfl, ho⟩ := a4 h2
  exact ⟨_, e', a1, ho, a2⟩

end Go.Proofs.YtankmgnjkcgpaaaDoor

set_option linter.unusedSimpArgs false
set_option linter.unusedVariables false
set_option maxRecDepth 100000
namespace Go.Proofs.YtankmgnjkcgpaaaDoor
open Go.Sx

open RawR
def sumB (R : Nat → Bool) (V : Nat → Int) : Nat → Int
  | 0 => 0
  | i + 1 => sumB R V i + (if R i = true then V i else 0)
structure SF where
  K : Ix → Int
  N : Ix → Int
  MB : Ix → Nat
  LB : Ix → Nat
  MM : Ix → Nat
  LM : Ix → Nat
def SF.R (r : SF) (FM : Ix → Int) (i : Nat) : Bool := rightV (r.K [i]) (r.N [i]) (r.LB [i]) (r.LM [i]) (fun js => FM (r.MM [i] :: js))
def SF.R2 (r : SF) (FM : Ix → Int) (k : Int) (i : Nat) : Bool := r.R FM i && decide (r.K [i] = k)
def smS (r : SF) (FM : Ix → Int) (n : Nat) : SV := .tup [(false, .vi .i64 fun _ => sumB (r.R FM) (fun i => (r.LB [i] : Int)) n), (false, .vi .i64 fun _ => sumB (r.R2 FM 2) (fun i => r.N [i]) n), (false, .vi .i64 fun _ => sumB (r.R2 FM 3) (fun i => r.N [i]) n)]
def rvF (K N : Ix → Int) (LB LM MM : Ix → Nat) (FM : Ix → Int) (i : Nat) : Bool := rightV (K [i]) (N [i]) (LB [i]) (LM [i]) (fun js => FM (MM [i] :: js))
def rvG (K N : Ix → Int) (LB LM MM : Ix → Nat) (FM : Ix → Int) (k : Int) (i : Nat) : Bool := rvF K N LB LM MM FM i && decide (K [i] = k)
def smV (K N : Ix → Int) (LB LM MM : Ix → Nat) (FM : Ix → Int) (n : Nat) : SV := .tup [(false, .vi .i64 fun _ => sumB (rvF K N LB LM MM FM) (fun i => (LB [i] : Int)) n), (false, .vi .i64 fun _ => sumB (rvG K N LB LM MM FM 2) (fun i => N [i]) n), (false, .vi .i64 fun _ => sumB (rvG K N LB LM MM FM 3) (fun i => N [i]) n)]
def okS (r : SF) (n c1 c2 : Nat) (l1 l2 : Nat → Nat) : Bool := (List.range n).all fun i => decide (r.MB [i] < c1 ∧ r.LB [i] ≤ l1 (r.MB [i]) ∧ r.MM [i] < c2 ∧ r.LM [i] ≤ l2 (r.MM [i]) ∧ r.LB [i] ≤ 100000 ∧ r.LM [i] ≤ 100000)
def sfE (own : Bool) (l f g M : Nat) (r : SF) : List Ent := [⟨l, own, none, 4, .ta M (.tc (.vi .i64 r.K) (.tc (.vi .i64 r.N) (.tc (.vl f r.MB 1 [] r.LB) (.tc (.vl g r.MM 1 [] r.LM) .t0))))⟩]
theorem okS_at {r : SF} {n c1 c2 : Nat} {l1 l2 : Nat → Nat} (h : okS r n c1 c2 l1 l2 = true) {i : Nat} (hi : i < n) : r.MB [i] < c1 ∧ r.LB [i] ≤ l1 (r.MB [i]) ∧ r.MM [i] < c2 ∧ r.LM [i] ≤ l2 (r.MM [i]) ∧ r.LB [i] ≤ 100000 ∧ r.LM [i] ≤ 100000 := of_decide_eq_true (List.all_eq_true.1 h i (List.mem_range.2 hi))
theorem sumB_le {R : Nat → Bool} {V : Nat → Int} (h : ∀ i, R i = true → 0 ≤ V i ∧ V i ≤ 10000) : ∀ n, 0 ≤ sumB R V n ∧ sumB R V n ≤ 10000 * (n : Int)
  | 0 => by simp [sumB]
  | n + 1 => by
    have ih := sumB_le h n
    rw [sumB]
    split
    · rename_i hr; have := h n hr; push_cast; omega
    · push_cast; omega
theorem rightV_rng {k n : Int} {l m : Nat} {F : Ix → Int} (h : rightV k n l m F = true) : l ≤ 1024 ∧ 0 ≤ n ∧ n ≤ 9999 := by
  unfold rightV at h
  repeat' split at h
  · simp only [Bool.and_eq_true, decide_eq_true_eq] at h; omega
  · rw [decide_eq_true_eq] at h; omega
  · rw [decide_eq_true_eq] at h; omega
  · cases h
def rgPm : PC := { args := [.agg (.tc (.vi .i64 0) (.tc (.vi .i64 1) (.tc (.vm 61 1 2) (.tc (.vm 62 1 3) .t0))))], heap := [⟨61, false, 1, .ta 5 (.vi .u8 6)⟩, ⟨62, false, 1, .ta 7 (.vi .i64 8)⟩], gs := [], G := 24, tp := 194, n := 80, n' := 140, cond := fun e => decide (eN e 3 ≤ eN e 7) && (decide (eN e 2 ≤ 100000) && decide (eN e 3 ≤ 100000)), v := fun e => vB (rightV (eI e 0 []) (eI e 1 []) (eN e 2) (eN e 3) (eI e 8)), post := fun e => [] }
theorem rgPm_pc : PC.Runs Tryd.prog 31 Tryd.f31 (bodyOf Tryd.f31) rgPm := ⟨Tryd.func31, by kernel_rfl, (fun g hg => by first | (cases hg; done) | (revert g; show ∀ g ∈ ([] : List Nat), g < 24; decide)), fun e H hc => by
  have hc : (decide (eN e 3 ≤ eN e 7) && (decide (eN e 2 ≤ 100000) && decide (eN e 3 ≤ 100000))) = true := hc
  try simp only [Bool.and_eq_true, decide_eq_true_eq, Nat.beq_eq] at hc
  exact rgT (eI e 0 []) (eI e 1 []) (eN e 2) (eN e 3) (eN e 5) (eN e 7) (eI e 6) (eI e 8) hc.1 hc.2.1 hc.2.2⟩
def sumsSU : List (FuncId × Summ) := [(31, rgPm.summ 48)]
theorem baseSU : Base0 Tryd.prog sumsSU := (baseO.cons Tryd.func31 (by kernel_rfl) (PC.summ_ok rgPm_pc gtopG))
theorem su0_p0 (n M c1 c2 : Nat) (r : SF) (l1 l2 : Nat → Nat) (FB FM : Ix → Int) :
    isMore (evTill Tryd.prog sumsSU 300 (behind Tryd.f37 0) 900 37 [.code (bodyOf Tryd.f37)] (envOf [vL 61 4 n] Tryd.f37.ntmps) ((sfE false 61 71 72 M r ++ ([⟨71, false, some (c1, l1), 1, .vi .u8 FB⟩] ++ [⟨72, false, some (c2, l2), 1, .vi .i64 FM⟩])) ++ ([])) ⟨[], 80⟩) (moreP (headOf Tryd.f37 0) ([]) Tryd.f37.ntmps ([(2, vN (0)), (3, vN (0)), (4, vN (0)), (7, vL 61 4 n), (8, vN n), (9, vN (0 : Nat))]) ([]) 180) =
    (OkL [] ∧ headOf Tryd.f37 (0 : Nat) = headOf Tryd.f37 (0 : Nat) ∧ ((0 : Int) = (0 : Int) ∧ (0 : Int) = (0 : Int) ∧ (0 : Int) = (0 : Int) ∧ ((0 : Nat) = (0 : Nat) ∧ n = n) ∧ (↑n : Int) = (↑n : Int) ∧ (↑(0 : Nat) : Int) = (0 : Int)) ∧ True) := by kernel_rfl

set_option maxHeartbeats 4000000 in
theorem su0 (n M c1 c2 : Nat) (r : SF) (l1 l2 : Nat → Nat) (FB FM : Ix → Int)  (v : SV) (L' : HF) (next : RunsTo Tryd.prog 37 (headOf Tryd.f37 0) (envAt Tryd.f37.ntmps ([(2, vN (0)), (3, vN (0)), (4, vN (0)), (7, vL 61 4 n), (8, vN n), (9, vN (0 : Nat))])) (Sx.look ((sfE false 61 71 72 M r ++ ([⟨71, false, some (c1, l1), 1, .vi .u8 FB⟩] ++ [⟨72, false, some (c2, l2), 1, .vi .i64 FM⟩])) ++ ([]))) 80 (v) (L') 180) :
    RunsTo Tryd.prog 37 [.code (bodyOf Tryd.f37)] (envOf [vL 61 4 n] Tryd.f37.ntmps) (Sx.look ((sfE false 61 71 72 M r ++ ([⟨71, false, some (c1, l1), 1, .vi .u8 FB⟩] ++ [⟨72, false, some (c2, l2), 1, .vi .i64 FM⟩])) ++ ([]))) 80 (v) (L') 180 := by
  refine runs_more baseSU (More.of (su0_p0 n M c1 c2 r l1 l2 FB FM) ⟨?oo, rfl, ?rr⟩) (by kernel_rfl) (by kernel_rfl) rfl (gtL (by decide)) (by decide) next
  case oo =>
    clear next
    refine okn
    all_goals ((try simp (disch := omega) only [SS]); first | done | omega | assumption | (simp (disch := omega) only [SS] at *; first | done | omega | assumption) | (simp_all; done))
  case rr =>
    clear next
    try simp (disch := omega) only [SS]
    repeat' apply And.intro
    all_goals first | exact True.intro | with_reducible rfl | omega | (intros; first | exact True.intro | with_reducible rfl | omega | (simp_all; done)) | (simp_all; done) | rfl

theorem su1_p0 (n M c1 c2 : Nat) (r : SF) (l1 l2 : Nat → Nat) (FB FM : Ix → Int) (b g t : Int) (i : Nat) :
    isMore (evTill Tryd.prog sumsSU 300 (behind Tryd.f37 0) 900 37 (headOf Tryd.f37 0) (envAt Tryd.f37.ntmps ([(2, vN (b)), (3, vN (g)), (4, vN (t)), (7, vL 61 4 n), (8, vN n), (9, vN (i : Nat))])) ((sfE false 61 71 72 M r ++ ([⟨71, false, some (c1, l1), 1, .vi .u8 FB⟩] ++ [⟨72, false, some (c2, l2), 1, .vi .i64 FM⟩])) ++ ([])) ⟨[.s true, .s true, .s true, .s true, .s true, .s true, .s true, .s true], 110⟩) (moreP (headOf Tryd.f37 0) ([]) Tryd.f37.ntmps ([(2, vN (b)), (3, vN (g)), (4, vN (t)), (7, vL 61 4 n), (8, vN n), (9, vN (i + 1 : Nat))]) ([]) 180) =
    (OkL [(decide ((↑i : Int) < (↑n : Int)), true), (decide ((0 : Int) ≤ (↑i : Int) ∧ (↑i : Int) < (↑n : Int)), true), (((0 : Nat) + (↑i : Int).toNat).blt M, true), (((0 : Nat) + (↑i : Int).toNat).blt M, true), ((r.5 [(0 : Nat) + (↑i : Int).toNat] + (1 : Nat) + (c2 - (r.5 [(0 : Nat) + (↑i : Int).toNat] + (1 : Nat)))).beq c2, true), ((r.3 [(0 : Nat) + (↑i : Int).toNat] + (1 : Nat) + (c1 - (r.3 [(0 : Nat) + (↑i : Int).toNat] + (1 : Nat)))).beq c1, true), (decide (r.6 [(0 : Nat) + (↑i : Int).toNat] ≤ l2 (r.5 [(0 : Nat) + (↑i : Int).toNat])) && (decide (r.4 [(0 : Nat) + (↑i : Int).toNat] ≤ (100000 : Nat)) && decide (r.6 [(0 : Nat) + (↑i : Int).toNat] ≤ (100000 : Nat))), true), (!rightV (r.1 [(0 : Nat) + (↑i : Int).toNat]) (r.2 [(0 : Nat) + (↑i : Int).toNat]) (r.4 [(0 : Nat) + (↑i : Int).toNat]) (r.6 [(0 : Nat) + (↑i : Int).toNat]) fun js => FM (r.5 [(0 : Nat) + (↑i : Int).toNat] :: js), true)] ∧ headOf Tryd.f37 (0 : Nat) = headOf Tryd.f37 (0 : Nat) ∧ (b = b ∧ g = g ∧ t = t ∧ ((0 : Nat) = (0 : Nat) ∧ n = n) ∧ (↑n : Int) = (↑n : Int) ∧ (↑(i + (1 : Nat)) : Int) = IntKind.i64.wrap ((↑i : Int) + (1 : Int))) ∧ True) := by kernel_rfl

set_option maxHeartbeats 4000000 in
theorem su1 (n M c1 c2 : Nat) (r : SF) (l1 l2 : Nat → Nat) (FB FM : Ix → Int) (b g t : Int) (i : Nat) (hr : rightV (r.K [i]) (r.N [i]) (r.LB [i]) (r.LM [i]) (fun js => FM (r.MM [i] :: js)) = false) (hi : i < n) (hM : n ≤ M) (hn : n ≤ 100000) (ok : okS r n c1 c2 l1 l2 = true) (hb : 0 ≤ b ∧ b ≤ 1000000000) (hg : 0 ≤ g ∧ g ≤ 1000000000) (ht : 0 ≤ t ∧ t ≤ 1000000000)  (v : SV) (L' : HF) (next : RunsTo Tryd.prog 37 (headOf Tryd.f37 0) (envAt Tryd.f37.ntmps ([(2, vN (b)), (3, vN (g)), (4, vN (t)), (7, vL 61 4 n), (8, vN n), (9, vN (i + 1 : Nat))])) (Sx.look ((sfE false 61 71 72 M r ++ ([⟨71, false, some (c1, l1), 1, .vi .u8 FB⟩] ++ [⟨72, false, some (c2, l2), 1, .vi .i64 FM⟩])) ++ ([]))) 80 (v) (L') 180) :
    RunsTo Tryd.prog 37 (headOf Tryd.f37 0) (envAt Tryd.f37.ntmps ([(2, vN (b)), (3, vN (g)), (4, vN (t)), (7, vL 61 4 n), (8, vN n), (9, vN (i : Nat))])) (Sx.look ((sfE false 61 71 72 M r ++ ([⟨71, false, some (c1, l1), 1, .vi .u8 FB⟩] ++ [⟨72, false, some (c2, l2), 1, .vi .i64 FM⟩])) ++ ([]))) 80 (v) (L') 180 := by
  have hw : IntKind.i64.wrap ((i : Int) + 1) = ((i + 1 : Nat) : Int) := by rw [wr64 (by omega)]; rfl
  have hi0 : 0 + ((i : Nat) : Int).toNat = i := by simp
  obtain ⟨a1, a2, a3, a4, a5, a6⟩ := okS_at ok hi
  refine runs_more baseSU (More.of (su1_p0 n M c1 c2 r l1 l2 FB FM b g t i) ⟨?oo, rfl, ?rr⟩) (by kernel_rfl) (by kernel_rfl) rfl (gtL (by decide)) (by decide) next
  case oo =>
    clear next
    refine (okc ?_ (okc ?_ (okc ?_ (okc ?_ (okc ?_ (okc ?_ (okc ?_ (okc ?_ okn))))))))
    all_goals ((try simp only [hi0, hr, Nat.zero_add, Int.toNat_natCast]); first | done | rfl | omega | exact ⟨a4, a5, a6⟩ | (simp (disch := omega) only [SS, hi0, hr, Nat.zero_add, Int.toNat_natCast]; first | done | omega | exact ⟨a4, a5, a6⟩) | (simp_all; done) | (simp_all; omega))
  case rr =>
    clear next
    (try simp only [hw, hi0])
    repeat' apply And.intro
    all_goals first | exact True.intro | with_reducible rfl | omega | (rw [wr64 (by omega)]; done) | (intros; trivial) | (intros; rfl) | rfl

theorem su2_p0 (n M c1 c2 : Nat) (r : SF) (l1 l2 : Nat → Nat) (FB FM : Ix → Int) (b g t : Int) (i : Nat) :
    isMore (evTill Tryd.prog sumsSU 300 (behind Tryd.f37 0) 900 37 (headOf Tryd.f37 0) (envAt Tryd.f37.ntmps ([(2, vN (b)), (3, vN (g)), (4, vN (t)), (7, vL 61 4 n), (8, vN n), (9, vN (i : Nat))])) ((sfE false 61 71 72 M r ++ ([⟨71, false, some (c1, l1), 1, .vi .u8 FB⟩] ++ [⟨72, false, some (c2, l2), 1, .vi .i64 FM⟩])) ++ ([])) ⟨[.s true, .s true, .s true, .s true, .s true, .s true, .s true, .s false, .s true], 110⟩) (moreP (headOf Tryd.f37 0) ([]) Tryd.f37.ntmps ([(2, vN (b + (r.LB [i] : Int))), (3, vN (g + r.N [i])), (4, vN (t)), (7, vL 61 4 n), (8, vN n), (9, vN (i + 1 : Nat))]) ([]) 180) =
    (OkL [(decide ((↑i : Int) < (↑n : Int)), true), (decide ((0 : Int) ≤ (↑i : Int) ∧ (↑i : Int) < (↑n : Int)), true), (((0 : Nat) + (↑i : Int).toNat).blt M, true), (((0 : Nat) + (↑i : Int).toNat).blt M, true), ((r.5 [(0 : Nat) + (↑i : Int).toNat] + (1 : Nat) + (c2 - (r.5 [(0 : Nat) + (↑i : Int).toNat] + (1 : Nat)))).beq c2, true), ((r.3 [(0 : Nat) + (↑i : Int).toNat] + (1 : Nat) + (c1 - (r.3 [(0 : Nat) + (↑i : Int).toNat] + (1 : Nat)))).beq c1, true), (decide (r.6 [(0 : Nat) + (↑i : Int).toNat] ≤ l2 (r.5 [(0 : Nat) + (↑i : Int).toNat])) && (decide (r.4 [(0 : Nat) + (↑i : Int).toNat] ≤ (100000 : Nat)) && decide (r.6 [(0 : Nat) + (↑i : Int).toNat] ≤ (100000 : Nat))), true), (!rightV (r.1 [(0 : Nat) + (↑i : Int).toNat]) (r.2 [(0 : Nat) + (↑i : Int).toNat]) (r.4 [(0 : Nat) + (↑i : Int).toNat]) (r.6 [(0 : Nat) + (↑i : Int).toNat]) fun js => FM (r.5 [(0 : Nat) + (↑i : Int).toNat] :: js), false), (r.1 [(0 : Nat) + (↑i : Int).toNat] == (2 : Int), true)] ∧ headOf Tryd.f37 (0 : Nat) = headOf Tryd.f37 (0 : Nat) ∧ (b + (↑(r.4 [i]) : Int) = IntKind.i64.wrap (b + (↑(r.4 [(0 : Nat) + (↑i : Int).toNat]) : Int)) ∧ g + r.2 [i] = IntKind.i64.wrap (g + r.2 [(0 : Nat) + (↑i : Int).toNat]) ∧ t = t ∧ ((0 : Nat) = (0 : Nat) ∧ n = n) ∧ (↑n : Int) = (↑n : Int) ∧ (↑(i + (1 : Nat)) : Int) = IntKind.i64.wrap ((↑i : Int) + (1 : Int))) ∧ True) := by kernel_rfl

set_option maxHeartbeats 4000000 in
theorem su2 (n M c1 c2 : Nat) (r : SF) (l1 l2 : Nat → Nat) (FB FM : Ix → Int) (b g t : Int) (i : Nat) (hk : r.K [i] = 2) (hr : rightV (r.K [i]) (r.N [i]) (r.LB [i]) (r.LM [i]) (fun js => FM (r.MM [i] :: js)) = true) (hi : i < n) (hM : n ≤ M) (hn : n ≤ 100000) (ok : okS r n c1 c2 l1 l2 = true) (hb : 0 ≤ b ∧ b ≤ 1000000000) (hg : 0 ≤ g ∧ g ≤ 1000000000) (ht : 0 ≤ t ∧ t ≤ 1000000000)  (v : SV) (L' : HF) (next : RunsTo Tryd.prog 37 (headOf Tryd.f37 0) (envAt Tryd.f37.ntmps ([(2, vN (b + (r.LB [i] : Int))), (3, vN (g + r.N [i])), (4, vN (t)), (7, vL 61 4 n), (8, vN n), (9, vN (i + 1 : Nat))])) (Sx.look ((sfE false 61 71 72 M r ++ ([⟨71, false, some (c1, l1), 1, .vi .u8 FB⟩] ++ [⟨72, false, some (c2, l2), 1, .vi .i64 FM⟩])) ++ ([]))) 80 (v) (L') 180) :
    RunsTo Tryd.prog 37 (headOf Tryd.f37 0) (envAt Tryd.f37.ntmps ([(2, vN (b)), (3, vN (g)), (4, vN (t)), (7, vL 61 4 n), (8, vN n), (9, vN (i : Nat))])) (Sx.look ((sfE false 61 71 72 M r ++ ([⟨71, false, some (c1, l1), 1, .vi .u8 FB⟩] ++ [⟨72, false, some (c2, l2), 1, .vi .i64 FM⟩])) ++ ([]))) 80 (v) (L') 180 := by
  have hw : IntKind.i64.wrap ((i : Int) + 1) = ((i + 1 : Nat) : Int) := by rw [wr64 (by omega)]; rfl
  have hi0 : 0 + ((i : Nat) : Int).toNat = i := by simp
  obtain ⟨a1, a2, a3, a4, a5, a6⟩ := okS_at ok hi
  obtain ⟨r1, r2, r3⟩ := rightV_rng hr
  have h1 : IntKind.i64.wrap (b + (r.LB [i] : Int)) = b + (r.LB [i] : Int) := wr64 (by omega)
  have h2 : IntKind.i64.wrap (g + r.N [i]) = g + r.N [i] := wr64 (by omega)
  refine runs_more baseSU (More.of (su2_p0 n M c1 c2 r l1 l2 FB FM b g t i) ⟨?oo, rfl, ?rr⟩) (by kernel_rfl) (by kernel_rfl) rfl (gtL (by decide)) (by decide) next
  case oo =>
    clear next
    refine (okc ?_ (okc ?_ (okc ?_ (okc ?_ (okc ?_ (okc ?_ (okc ?_ (okc ?_ (okc ?_ okn)))))))))
    all_goals ((try simp only [hi0, hr, hk, Nat.zero_add, Int.toNat_natCast]); first | done | rfl | omega | exact ⟨a4, a5, a6⟩ | (simp (disch := omega) only [SS, hi0, hr, hk, Nat.zero_add, Int.toNat_natCast]; first | done | omega | exact ⟨a4, a5, a6⟩) | (simp_all; done) | (simp_all; omega))
  case rr =>
    clear next
    (try simp only [hw, hi0, h1, h2])
    repeat' apply And.intro
    all_goals first | exact True.intro | with_reducible rfl | omega | (rw [wr64 (by omega)]; done) | (intros; trivial) | (intros; rfl) | rfl

theorem su3_p0 (n M c1 c2 : Nat) (r : SF) (l1 l2 : Nat → Nat) (FB FM : Ix → Int) (b g t : Int) (i : Nat) :
    isMore (evTill Tryd.prog sumsSU 300 (behind Tryd.f37 0) 900 37 (headOf Tryd.f37 0) (envAt Tryd.f37.ntmps ([(2, vN (b)), (3, vN (g)), (4, vN (t)), (7, vL 61 4 n), (8, vN n), (9, vN (i : Nat))])) ((sfE false 61 71 72 M r ++ ([⟨71, false, some (c1, l1), 1, .vi .u8 FB⟩] ++ [⟨72, false, some (c2, l2), 1, .vi .i64 FM⟩])) ++ ([])) ⟨[.s true, .s true, .s true, .s true, .s true, .s true, .s true, .s false, .s false, .s true], 110⟩) (moreP (headOf Tryd.f37 0) ([]) Tryd.f37.ntmps ([(2, vN (b + (r.LB [i] : Int))), (3, vN (g)), (4, vN (t + r.N [i])), (7, vL 61 4 n), (8, vN n), (9, vN (i + 1 : Nat))]) ([]) 180) =
    (OkL [(decide ((↑i : Int) < (↑n : Int)), true), (decide ((0 : Int) ≤ (↑i : Int) ∧ (↑i : Int) < (↑n : Int)), true), (((0 : Nat) + (↑i : Int).toNat).blt M, true), (((0 : Nat) + (↑i : Int).toNat).blt M, true), ((r.5 [(0 : Nat) + (↑i : Int).toNat] + (1 : Nat) + (c2 - (r.5 [(0 : Nat) + (↑i : Int).toNat] + (1 : Nat)))).beq c2, true), ((r.3 [(0 : Nat) + (↑i : Int).toNat] + (1 : Nat) + (c1 - (r.3 [(0 : Nat) + (↑i : Int).toNat] + (1 : Nat)))).beq c1, true), (decide (r.6 [(0 : Nat) + (↑i : Int).toNat] ≤ l2 (r.5 [(0 : Nat) + (↑i : Int).toNat])) && (decide (r.4 [(0 : Nat) + (↑i : Int).toNat] ≤ (100000 : Nat)) && decide (r.6 [(0 : Nat) + (↑i : Int).toNat] ≤ (100000 : Nat))), true), (!rightV (r.1 [(0 : Nat) + (↑i : Int).toNat]) (r.2 [(0 : Nat) + (↑i : Int).toNat]) (r.4 [(0 : Nat) + (↑i : Int).toNat]) (r.6 [(0 : Nat) + (↑i : Int).toNat]) fun js => FM (r.5 [(0 : Nat) + (↑i : Int).toNat] :: js), false), (r.1 [(0 : Nat) + (↑i : Int).toNat] == (2 : Int), false), (r.1 [(0 : Nat) + (↑i : Int).toNat] == (3 : Int), true)] ∧ headOf Tryd.f37 (0 : Nat) = headOf Tryd.f37 (0 : Nat) ∧ (b + (↑(r.4 [i]) : Int) = IntKind.i64.wrap (b + (↑(r.4 [(0 : Nat) + (↑i : Int).toNat]) : Int)) ∧ g = g ∧ t + r.2 [i] = IntKind.i64.wrap (t + r.2 [(0 : Nat) + (↑i : Int).toNat]) ∧ ((0 : Nat) = (0 : Nat) ∧ n = n) ∧ (↑n : Int) = (↑n : Int) ∧ (↑(i + (1 : Nat)) : Int) = IntKind.i64.wrap ((↑i : Int) + (1 : Int))) ∧ True) := by kernel_rfl

set_option maxHeartbeats 4000000 in
theorem su3 (n M c1 c2 : Nat) (r : SF) (l1 l2 : Nat → Nat) (FB FM : Ix → Int) (b g t : Int) (i : Nat) (hk : r.K [i] = 3) (hr : rightV (r.K [i]) (r.N [i]) (r.LB [i]) (r.LM [i]) (fun js => FM (r.MM [i] :: js)) = true) (hi : i < n) (hM : n ≤ M) (hn : n ≤ 100000) (ok : okS r n c1 c2 l1 l2 = true) (hb : 0 ≤ b ∧ b ≤ 1000000000) (hg : 0 ≤ g ∧ g ≤ 1000000000) (ht : 0 ≤ t ∧ t ≤ 1000000000)  (v : SV) (L' : HF) (next : RunsTo Tryd.prog 37 (headOf Tryd.f37 0) (envAt Tryd.f37.ntmps ([(2, vN (b + (r.LB [i] : Int))), (3, vN (g)), (4, vN (t + r.N [i])), (7, vL 61 4 n), (8, vN n), (9, vN (i + 1 : Nat))])) (Sx.look ((sfE false 61 71 72 M r ++ ([⟨71, false, some (c1, l1), 1, .vi .u8 FB⟩] ++ [⟨72, false, some (c2, l2), 1, .vi .i64 FM⟩])) ++ ([]))) 80 (v) (L') 180) :
    RunsTo Tryd.prog 37 (headOf Tryd.f37 0) (envAt Tryd.f37.ntmps ([(2, vN (b)), (3, vN (g)), (4, vN (t)), (7, vL 61 4 n), (8, vN n), (9, vN (i : Nat))])) (Sx.look ((sfE false 61 71 72 M r ++ ([⟨71, false, some (c1, l1), 1, .vi .u8 FB⟩] ++ [⟨72, false, some (c2, l2), 1, .vi .i64 FM⟩])) ++ ([]))) 80 (v) (L') 180 := by
  have hw : IntKind.i64.wrap ((i : Int) + 1) = ((i + 1 : Nat) : Int) := by rw [wr64 (by omega)]; rfl
  have hi0 : 0 + ((i : Nat) : Int).toNat = i := by simp
  obtain ⟨a1, a2, a3, a4, a5, a6⟩ := okS_at ok hi
  obtain ⟨r1, r2, r3⟩ := rightV_rng hr
  have h1 : IntKind.i64.wrap (b + (r.LB [i] : Int)) = b + (r.LB [i] : Int) := wr64 (by omega)
  have h2 : IntKind.i64.wrap (t + r.N [i]) = t + r.N [i] := wr64 (by omega)
  refine runs_more baseSU (More.of (su3_p0 n M c1 c2 r l1 l2 FB FM b g t i) ⟨?oo, rfl, ?rr⟩) (by kernel_rfl) (by kernel_rfl) rfl (gtL (by decide)) (by decide) next
  case oo =>
    clear next
    refine (okc ?_ (okc ?_ (okc ?_ (okc ?_ (okc ?_ (okc ?_ (okc ?_ (okc ?_ (okc ?_ (okc ?_ okn))))))))))
    all_goals ((try simp only [hi0, hr, hk, Nat.zero_add, Int.toNat_natCast]); first | done | rfl | omega | exact ⟨a4, a5, a6⟩ | (simp (disch := omega) only [SS, hi0, hr, hk, Nat.zero_add, Int.toNat_natCast]; first | done | omega | exact ⟨a4, a5, a6⟩) | (simp_all; done) | (simp_all; omega))
  case rr =>
    clear next
    (try simp only [hw, hi0, h1, h2])
    repeat' apply And.intro
    all_goals first | exact True.intro | with_reducible rfl | omega | (rw [wr64 (by omega)]; done) | (intros; trivial) | (intros; rfl) | rfl

theorem su4_p0 (n M c1 c2 : Nat) (r : SF) (l1 l2 : Nat → Nat) (FB FM : Ix → Int) (b g t : Int) (i : Nat) :
    isMore (evTill Tryd.prog sumsSU 300 (behind Tryd.f37 0) 900 37 (headOf Tryd.f37 0) (envAt Tryd.f37.ntmps ([(2, vN (b)), (3, vN (g)), (4, vN (t)), (7, vL 61 4 n), (8, vN n), (9, vN (i : Nat))])) ((sfE false 61 71 72 M r ++ ([⟨71, false, some (c1, l1), 1, .vi .u8 FB⟩] ++ [⟨72, false, some (c2, l2), 1, .vi .i64 FM⟩])) ++ ([])) ⟨[.s true, .s true, .s true, .s true, .s true, .s true, .s true, .s false, .s false, .s false], 110⟩) (moreP (headOf Tryd.f37 0) ([]) Tryd.f37.ntmps ([(2, vN (b + (r.LB [i] : Int))), (3, vN (g)), (4, vN (t)), (7, vL 61 4 n), (8, vN n), (9, vN (i + 1 : Nat))]) ([]) 180) =
    (OkL [(decide ((↑i : Int) < (↑n : Int)), true), (decide ((0 : Int) ≤ (↑i : Int) ∧ (↑i : Int) < (↑n : Int)), true), (((0 : Nat) + (↑i : Int).toNat).blt M, true), (((0 : Nat) + (↑i : Int).toNat).blt M, true), ((r.5 [(0 : Nat) + (↑i : Int).toNat] + (1 : Nat) + (c2 - (r.5 [(0 : Nat) + (↑i : Int).toNat] + (1 : Nat)))).beq c2, true), ((r.3 [(0 : Nat) + (↑i : Int).toNat] + (1 : Nat) + (c1 - (r.3 [(0 : Nat) + (↑i : Int).toNat] + (1 : Nat)))).beq c1, true), (decide (r.6 [(0 : Nat) + (↑i : Int).toNat] ≤ l2 (r.5 [(0 : Nat) + (↑i : Int).toNat])) && (decide (r.4 [(0 : Nat) + (↑i : Int).toNat] ≤ (100000 : Nat)) && decide (r.6 [(0 : Nat) + (↑i : Int).toNat] ≤ (100000 : Nat))), true), (!rightV (r.1 [(0 : Nat) + (↑i : Int).toNat]) (r.2 [(0 : Nat) + (↑i : Int).toNat]) (r.4 [(0 : Nat) + (↑i : Int).toNat]) (r.6 [(0 : Nat) + (↑i : Int).toNat]) fun js => FM (r.5 [(0 : Nat) + (↑i : Int).toNat] :: js), false), (r.1 [(0 : Nat) + (↑i : Int).toNat] == (2 : Int), false), (r.1 [(0 : Nat) + (↑i : Int).toNat] == (3 : Int), false)] ∧ headOf Tryd.f37 (0 : Nat) = headOf Tryd.f37 (0 : Nat) ∧ (b + (↑(r.4 [i]) : Int) = IntKind.i64.wrap (b + (↑(r.4 [(0 : Nat) + (↑i : Int).toNat]) : Int)) ∧ g = g ∧ t = t ∧ ((0 : Nat) = (0 : Nat) ∧ n = n) ∧ (↑n : Int) = (↑n : Int) ∧ (↑(i + (1 : Nat)) : Int) = IntKind.i64.wrap ((↑i : Int) + (1 : Int))) ∧ True) := by kernel_rfl

set_option maxHeartbeats 4000000 in
theorem su4 (n M c1 c2 : Nat) (r : SF) (l1 l2 : Nat → Nat) (FB FM : Ix → Int) (b g t : Int) (i : Nat) (hk : r.K [i] ≠ 2) (hk' : r.K [i] ≠ 3) (hr : rightV (r.K [i]) (r.N [i]) (r.LB [i]) (r.LM [i]) (fun js => FM (r.MM [i] :: js)) = true) (hi : i < n) (hM : n ≤ M) (hn : n ≤ 100000) (ok : okS r n c1 c2 l1 l2 = true) (hb : 0 ≤ b ∧ b ≤ 1000000000) (hg : 0 ≤ g ∧ g ≤ 1000000000) (ht : 0 ≤ t ∧ t ≤ 1000000000)  (v : SV) (L' : HF) (next : RunsTo Tryd.prog 37 (headOf Tryd.f37 0) (envAt Tryd.f37.ntmps ([(2, vN (b + (r.LB [i] : Int))), (3, vN (g)), (4, vN (t)), (7, vL 61 4 n), (8, vN n), (9, vN (i + 1 : Nat))])) (Sx.look ((sfE false 61 71 72 M r ++ ([⟨71, false, some (c1, l1), 1, .vi .u8 FB⟩] ++ [⟨72, false, some (c2, l2), 1, .vi .i64 FM⟩])) ++ ([]))) 80 (v) (L') 180) :
    RunsTo Tryd.prog 37 (headOf Tryd.f37 0) (envAt Tryd.f37.ntmps ([(2, vN (b)), (3, vN (g)), (4, vN (t)), (7, vL 61 4 n), (8, vN n), (9, vN (i : Nat))])) (Sx.look ((sfE false 61 71 72 M r ++ ([⟨71, false, some (c1, l1), 1, .vi .u8 FB⟩] ++ [⟨72, false, some (c2, l2), 1, .vi .i64 FM⟩])) ++ ([]))) 80 (v) (L') 180 := by
  have hw : IntKind.i64.wrap ((i : Int) + 1) = ((i + 1 : Nat) : Int) := by rw [wr64 (by omega)]; rfl
  have hi0 : 0 + ((i : Nat) : Int).toNat = i := by simp
  obtain ⟨a1, a2, a3, a4, a5, a6⟩ := okS_at ok hi
  obtain ⟨r1, r2, r3⟩ := rightV_rng hr
  have h1 : IntKind.i64.wrap (b + (r.LB [i] : Int)) = b + (r.LB [i] : Int) := wr64 (by omega)
  have h2 : True := trivial
  refine runs_more baseSU (More.of (su4_p0 n M c1 c2 r l1 l2 FB FM b g t i) ⟨?oo, rfl, ?rr⟩) (by kernel_rfl) (by kernel_rfl) rfl (gtL (by decide)) (by decide) next
  case oo =>
    clear next
    refine (okc ?_ (okc ?_ (okc ?_ (okc ?_ (okc ?_ (okc ?_ (okc ?_ (okc ?_ (okc ?_ (okc ?_ okn))))))))))
    all_goals ((try simp only [hi0, hr, Nat.zero_add, Int.toNat_natCast]); first | done | rfl | omega | exact ⟨a4, a5, a6⟩ | (simp (disch := omega) only [SS, hi0, hr, Nat.zero_add, Int.toNat_natCast]; first | done | omega | exact ⟨a4, a5, a6⟩) | (simp_all; done) | (simp_all; omega))
  case rr =>
    clear next
    (try simp only [hw, hi0, h1])
    repeat' apply And.intro
    all_goals first | exact True.intro | with_reducible rfl | omega | (rw [wr64 (by omega)]; done) | (intros; trivial) | (intros; rfl) | rfl

theorem su5_p0 (n M c1 c2 : Nat) (r : SF) (l1 l2 : Nat → Nat) (FB FM : Ix → Int) (b g t : Int) (i : Nat) :
    isEnd (evTill Tryd.prog sumsSU 300 (99) 900 37 (headOf Tryd.f37 0) (envAt Tryd.f37.ntmps ([(2, vN (b)), (3, vN (g)), (4, vN (t)), (7, vL 61 4 n), (8, vN n), (9, vN (i : Nat))])) ((sfE false 61 71 72 M r ++ ([⟨71, false, some (c1, l1), 1, .vi .u8 FB⟩] ++ [⟨72, false, some (c2, l2), 1, .vi .i64 FM⟩])) ++ ([])) ⟨[.s false], 110⟩) (endP ([]) (.tup [(false, .vi .i64 fun _ => b), (false, .vi .i64 fun _ => g), (false, .vi .i64 fun _ => t)]) ([]) 180) =
    (OkL [(decide ((↑i : Int) < (↑n : Int)), false)] ∧ (b = b ∧ g = g ∧ t = t ∧ True) ∧ True) := by kernel_rfl

set_option maxHeartbeats 4000000 in
theorem su5 (n M c1 c2 : Nat) (r : SF) (l1 l2 : Nat → Nat) (FB FM : Ix → Int) (b g t : Int) (i : Nat) (hi : i = n)  :
    RunsTo Tryd.prog 37 (headOf Tryd.f37 0) (envAt Tryd.f37.ntmps ([(2, vN (b)), (3, vN (g)), (4, vN (t)), (7, vL 61 4 n), (8, vN n), (9, vN (i : Nat))])) (Sx.look ((sfE false 61 71 72 M r ++ ([⟨71, false, some (c1, l1), 1, .vi .u8 FB⟩] ++ [⟨72, false, some (c2, l2), 1, .vi .i64 FM⟩])) ++ ([]))) 80 (.tup [(false, .vi .i64 fun _ => b), (false, .vi .i64 fun _ => g), (false, .vi .i64 fun _ => t)]) (Sx.look ([])) 180 := by
  refine runs_last baseSU (Sx.Ends.of (su5_p0 n M c1 c2 r l1 l2 FB FM b g t i) ⟨?oo, ?rr⟩) (by kernel_rfl) rfl (gtL (by decide)) (by decide)
  case oo =>
    refine (okc ?_ okn)
    all_goals ((try simp (disch := omega) only [SS]); first | done | omega | assumption | (simp (disch := omega) only [SS] at *; first | done | omega | assumption) | (simp_all; done))
  case rr =>
    try simp (disch := omega) only [SS]
    repeat' apply And.intro
    all_goals first | exact True.intro | with_reducible rfl | omega | (intros; first | exact True.intro | with_reducible rfl | omega | (simp_all; done)) | (simp_all; done) | rfl

theorem suT (n M c1 c2 : Nat) (r : SF) (l1 l2 : Nat → Nat) (FB FM : Ix → Int) (hM : n ≤ M) (hn : n ≤ 100000) (ok : okS r n c1 c2 l1 l2 = true) : RunsTo Tryd.prog 37 [.code (bodyOf Tryd.f37)] (envOf [vL 61 4 n] Tryd.f37.ntmps) (Sx.look ((sfE false 61 71 72 M r ++ ([⟨71, false, some (c1, l1), 1, .vi .u8 FB⟩] ++ [⟨72, false, some (c2, l2), 1, .vi .i64 FM⟩])) ++ ([]))) 80 (smS r FM n) (Sx.look []) 180 := by
  have b1 := sumB_le (R := r.R FM) (V := fun i => (r.LB [i] : Int)) (fun i h => by have := rightV_rng h; omega)
  have b2 := sumB_le (R := r.R2 FM 2) (V := fun i => r.N [i]) (fun i h => by unfold SF.R2 at h; rw [Bool.and_eq_true] at h; have := rightV_rng h.1; omega)
  have b3 := sumB_le (R := r.R2 FM 3) (V := fun i => r.N [i]) (fun i h => by unfold SF.R2 at h; rw [Bool.and_eq_true] at h; have := rightV_rng h.1; omega)
  refine su0 n M c1 c2 r l1 l2 FB FM _ _ ?_
  suffices q : ∀ (j i : Nat), i + j = n → RunsTo Tryd.prog 37 (headOf Tryd.f37 0) (envAt Tryd.f37.ntmps ([(2, vN (sumB (r.R FM) (fun i => (r.LB [i] : Int)) i)), (3, vN (sumB (r.R2 FM 2) (fun i => r.N [i]) i)), (4, vN (sumB (r.R2 FM 3) (fun i => r.N [i]) i)), (7, vL 61 4 n), (8, vN n), (9, vN (i : Nat))])) (Sx.look ((sfE false 61 71 72 M r ++ ([⟨71, false, some (c1, l1), 1, .vi .u8 FB⟩] ++ [⟨72, false, some (c2, l2), 1, .vi .i64 FM⟩])) ++ ([]))) 80 (smS r FM n) (Sx.look []) 180 from q n 0 (by omega)
  intro j
  induction j with
  | zero => intro i hi; obtain rfl : i = n := by omega
            exact su5 i M c1 c2 r l1 l2 FB FM _ _ _ i rfl
  | succ j ih =>
    intro i hi
    have next := ih (i + 1) (by omega)
    have c1' := b1 i
    have c2' := b2 i
    have c3' := b3 i
    simp only [sumB] at next
    cases hr : rightV (r.K [i]) (r.N [i]) (r.LB [i]) (r.LM [i]) (fun js => FM (r.MM [i] :: js)) with
    | false =>
      have e1 : r.R FM i = false := hr
      have e2 : ∀ k, r.R2 FM k i = false := fun k => by unfold SF.R2; rw [e1]; rfl
      rw [e1, e2, e2] at next
      simp only [Bool.false_eq_true, if_false, Int.add_zero] at next
      exact su1 n M c1 c2 r l1 l2 FB FM _ _ _ i hr (by omega) hM hn ok (by omega) (by omega) (by omega) _ _ next
    | true =>
      have e1 : r.R FM i = true := hr
      have e2 : ∀ k, r.R2 FM k i = decide (r.K [i] = k) := fun k => by unfold SF.R2; rw [e1, Bool.true_and]
      rw [e1, e2, e2] at next
      by_cases hk : r.K [i] = 2
      · rw [decide_eq_true hk, decide_eq_false (by omega)] at next
        simp only [Bool.false_eq_true, if_false, if_true, Int.add_zero] at next
        exact su2 n M c1 c2 r l1 l2 FB FM _ _ _ i hk hr (by omega) hM hn ok (by omega) (by omega) (by omega) _ _ next
      by_cases hk' : r.K [i] = 3
      · rw [decide_eq_false hk, decide_eq_true hk'] at next
        simp only [Bool.false_eq_true, if_false, if_true, Int.add_zero] at next
        exact su3 n M c1 c2 r l1 l2 FB FM _ _ _ i hk' hr (by omega) hM hn ok (by omega) (by omega) (by omega) _ _ next
      · rw [decide_eq_false hk, decide_eq_false hk'] at next
        simp only [Bool.false_eq_true, if_false, if_true, Int.add_zero] at next
        exact su4 n M c1 c2 r l1 l2 FB FM _ _ _ i hk hk' hr (by omega) hM hn ok (by omega) (by omega) (by omega) _ _ next
def suP : PC := { args := [.v (.vl 61 4 0)], heap := [⟨61, false, 4, .ta 5 (.tc (.vi .i64 6) (.tc (.vi .i64 7) (.tc (.vf 71 1 8 9) (.tc (.vf 72 1 10 11) .t0))))⟩], fams := [⟨71, false, 1, 12, 13, .vi .u8 14⟩, ⟨72, false, 1, 15, 16, .vi .i64 17⟩], gs := [], G := 24, tp := 194, n := 80, n' := 180, cond := fun e => decide (eN e 0 ≤ eN e 5) && (decide (eN e 0 ≤ 100000) && okS ⟨eI e 6, eI e 7, eM e 8, eM e 9, eM e 10, eM e 11⟩ (eN e 0) (eN e 12) (eN e 15) (eL e 13) (eL e 16)), v := fun e => smV (eI e 6) (eI e 7) (eM e 9) (eM e 11) (eM e 10) (eI e 17) (eN e 0), post := fun e => [] }
theorem suP_pc : PC.Runs Tryd.prog 37 Tryd.f37 (bodyOf Tryd.f37) suP := ⟨Tryd.func37, by kernel_rfl, (fun g hg => by first | (cases hg; done) | (revert g; show ∀ g ∈ ([] : List Nat), g < 24; decide)), fun e H hc => by
  have hc : (decide (eN e 0 ≤ eN e 5) && (decide (eN e 0 ≤ 100000) && okS ⟨eI e 6, eI e 7, eM e 8, eM e 9, eM e 10, eM e 11⟩ (eN e 0) (eN e 12) (eN e 15) (eL e 13) (eL e 16))) = true := hc
  try simp only [Bool.and_eq_true, decide_eq_true_eq, Nat.beq_eq] at hc
  exact suT (eN e 0) (eN e 5) (eN e 12) (eN e 15) ⟨eI e 6, eI e 7, eM e 8, eM e 9, eM e 10, eM e 11⟩ (eL e 13) (eL e 16) (eI e 14) (eI e 17) hc.1 hc.2.1 hc.2.2⟩
def smPm : PC := { args := [.agg (.tc (.vi .i64 0) (.tc (.vi .i64 1) (.tc (.vm 61 1 2) (.tc (.vm 62 1 3) .t0)))), .agg (.tc (.vi .i64 10) (.tc (.vi .i64 11) (.tc (.vm 63 1 12) (.tc (.vm 64 1 13) .t0))))], heap := [⟨61, false, 1, .ta 5 (.vi .u8 6)⟩, ⟨62, false, 1, .ta 7 (.vi .i64 8)⟩, ⟨63, false, 1, .ta 15 (.vi .u8 16)⟩, ⟨64, false, 1, .ta 17 (.vi .i64 18)⟩], gs := [], G := 24, tp := 194, n := 80, n' := 150, cond := fun e => decide (eN e 2 ≤ eN e 5) && (decide (eN e 3 ≤ eN e 7) && (decide (eN e 12 ≤ eN e 15) && (decide (eN e 13 ≤ eN e 17) && decide (eN e 3 ≤ 100000)))), v := fun e => vB (sameV (eI e 0 []) (eI e 1 []) (eI e 10 []) (eI e 11 []) (eN e 2) (eN e 3) (eN e 12) (eN e 13) (eI e 6) (eI e 16) (eI e 8) (eI e 18)), post := fun e => [] }
theorem smPm_pc : PC.Runs Tryd.prog 33 Tryd.f33 (bodyOf Tryd.f33) smPm := ⟨Tryd.func33, by kernel_rfl, (fun g hg => by first | (cases hg; done) | (revert g; show ∀ g ∈ ([] : List Nat), g < 24; decide)), fun e H hc => by
  have hc : (decide (eN e 2 ≤ eN e 5) && (decide (eN e 3 ≤ eN e 7) && (decide (eN e 12 ≤ eN e 15) && (decide (eN e 13 ≤ eN e 17) && decide (eN e 3 ≤ 100000))))) = true := hc
  try simp only [Bool.and_eq_true, decide_eq_true_eq, Nat.beq_eq] at hc
  exact smT (eI e 0 []) (eI e 1 []) (eN e 2) (eN e 3) (eN e 5) (eN e 7) (eI e 6) (eI e 8) (eI e 10 []) (eI e 11 []) (eN e 12) (eN e 13) (eN e 15) (eN e 17) (eI e 16) (eI e 18) hc.1 hc.2.1 hc.2.2.1 hc.2.2.2.1 hc.2.2.2.2⟩
end Go.Proofs.YtankmgnjkcgpaaaDoor

