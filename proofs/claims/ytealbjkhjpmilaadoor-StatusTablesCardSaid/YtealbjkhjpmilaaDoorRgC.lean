/- Status: the report of a table: the program's, and the document's. -/
import Derived.Test.YtealbjkhjpmilaaDoorRdC
import Derived.Test.YtealbjkhjpmilaaDoorSyPl
set_option linter.unusedSimpArgs false
set_option linter.unusedVariables false
set_option maxRecDepth 100000
namespace Go.Proofs.YtealbjkhjpmilaaDoor
open Go.Sx


abbrev vU (a : Int) : SV := .v (.vi .u8 fun _ => a)
abbrev vB (a : Bool) : SV := .v (.vb fun _ => a)
abbrev vS (a : List UInt8) : SV := .v (.vs fun _ => a)
def eE (l N : Nat) (V O : Ix → Int) : List Ent := [⟨l, false, none, 2, .ta N (.tc (.vi .i64 V) (.tc (.vi .i64 O) .t0))⟩]
def eW (l N : Nat) (V O : Ix → Int) : List Ent := [⟨l, true, none, 2, .ta N (.tc (.vi .i64 V) (.tc (.vi .i64 O) .t0))⟩]
def sameF (N M : Nat) (V V2 O O2 : Ix → Int) : Bool := decide (N = M) && (allEq V V2 N && allEq O O2 N)
def pV (L : List (Int × Int)) : Ix → Int := fun is => (L.getD (is.headD 0) (0, 0)).1
def pO (L : List (Int × Int)) : Ix → Int := fun is => (L.getD (is.headD 0) (0, 0)).2
def eL (l : Nat) (L : List (Int × Int)) : List Ent := eW l L.length (pV L) (pO L)
def told (v : Int) (A : List Int) : List (Int × Int) := A.map fun x => (v, x)
theorem app_one (V : Ix → Int) (i : Nat) (g : Ix → Int) (hg : g [0] = V [i]) : ∀ k, k < i + 1 → V [k] = appF i 0 (fun is => V is) g [k] := fun k hk => by
  simp only [appF, Nat.zero_add]
  split
  · rfl
  · have : k = i := by omega
    subst this
    rw [Nat.sub_self]; exact hg.symm
theorem pV_app (L : List (Int × Int)) (x : Int × Int) (g : Ix → Int) (hg : g [0] = x.1) : ∀ k, k < L.length + 1 → pV (L ++ [x]) [k] = appF L.length 0 (fun is => pV L is) g [k] := fun k hk =>
  app_get (fun p => p.1) (0, 0) L [x] g (fun j hj => by
    have : j = 0 := by simp at hj; omega
    subst this; exact hg) k (by simpa using hk)
theorem pO_app (L : List (Int × Int)) (x : Int × Int) (g : Ix → Int) (hg : g [0] = x.2) : ∀ k, k < L.length + 1 → pO (L ++ [x]) [k] = appF L.length 0 (fun is => pO L is) g [k] := fun k hk =>
  app_get (fun p => p.2) (0, 0) L [x] g (fun j hj => by
    have : j = 0 := by simp at hj; omega
    subst this; exact hg) k (by simpa using hk)
theorem told_drop (v : Int) (A : List Int) {i : Nat} (h : i < A.length) : told v (A.drop i) = (v, liI A [i]) :: told v (A.drop (i + 1)) := by
  have e : liI A [i] = A[i] := by simp [liI, List.getD_eq_getElem?_getD, List.getElem?_eq_getElem h]
  rw [List.drop_eq_getElem_cons h, e]; rfl
theorem told_end (v : Int) (A : List Int) {i : Nat} (h : i = A.length) : told v (A.drop i) = [] := by subst h; simp [told]
def sumsT : List (FuncId × Summ) := [(93, liPC.summ 50)]
theorem baseT : Base0 Tryd.prog sumsT := (baseO.cons Tryd.func93 (by kernel_rfl) (PC.summ_ok li_pc gtopG))
theorem oNil_p0 (zz : Nat) :
    isEnd (evTill Tryd.prog sumsT 300 (99) 900 68 [.code (bodyOf Tryd.f68)] (envOf [.v .vp0] Tryd.f68.ntmps) ([] ++ ([])) ⟨[.t], 80⟩) (endP ([]) (.v .vl0) ([]) 1400) =
    (OkL [] ∧ True ∧ True) := by kernel_rfl

set_option maxHeartbeats 4000000 in
theorem oNil (zz : Nat)  :
    RunsTo Tryd.prog 68 [.code (bodyOf Tryd.f68)] (envOf [.v .vp0] Tryd.f68.ntmps) (Sx.look ([] ++ ([]))) 80 (.v .vl0) (Sx.look ([])) 1400 := by
  refine runs_last baseT (Sx.Ends.of (oNil_p0 zz) ⟨?oo, ?rr⟩) (by kernel_rfl) rfl (gtL (by decide)) (by decide)
  case oo =>
    refine okn
    all_goals ((try simp (disch := omega) only [SS]); first | done | omega | assumption | (simp (disch := omega) only [SS] at *; first | done | omega | assumption) | (simp_all; done))
  case rr =>
    try simp (disch := omega) only [SS]
    repeat' apply And.intro
    all_goals first | exact True.intro | with_reducible rfl | omega | (intros; first | exact True.intro | with_reducible rfl | omega | (simp_all; done)) | (simp_all; done) | rfl

theorem o0_p0 (K : Ix → Int) (O A : Ix → Bool) (h a s : Int) :
    isMore (evTill Tryd.prog sumsT 300 (behind Tryd.f68 0) 900 68 [.code (bodyOf Tryd.f68)] (envOf [vP 60] Tryd.f68.ntmps) ([] ++ (tabE 60 K O A h a s)) ⟨[.f, .t], 80⟩) (moreP (headOf Tryd.f68 0) ([((85 : Nat), Rn.nil (2 : Nat)), ((86 : Nat), Rn.to (101 : Nat))]) Tryd.f68.ntmps ([(0, vP 60), (3, vL 85 2 (([] : List (Int × Int))).length), (11, vL 86 1 (onM K O 0 256).length), (12, vN (onM K O 0 256).length), (13, vN (0 : Nat))]) (eL 85 (([] : List (Int × Int))) ++ (liE 86 (onM K O 0 256) ++ tabE 60 K O A h a s)) 1400) =
    (OkL [] ∧ headOf Tryd.f68 (0 : Nat) = headOf Tryd.f68 (0 : Nat) ∧ ((0 : Nat) = (0 : Nat) ∧ (0 : Nat) = (0 : Nat) ∧ ((0 : Nat) = (0 : Nat) ∧ (onM K O (0 : Int) (256 : Nat)).length = (onM K O (0 : Int) (256 : Nat)).length) ∧ (↑(onM K O (0 : Int) (256 : Nat)).length : Int) = (↑(onM K O (0 : Int) (256 : Nat)).length : Int) ∧ (↑(0 : Nat) : Int) = (0 : Int)) ∧ (0 : Nat) = (0 : Nat) ∧ ((onM K O (0 : Int) (256 : Nat)).length = (onM K O (0 : Int) (256 : Nat)).length ∧ ∀ (i : Nat), i < (onM K O (0 : Int) (256 : Nat)).length → liI (onM K O (0 : Int) (256 : Nat)) [i] = liI (onM K O (0 : Int) (256 : Nat)) [i]) ∧ ((2 : Nat) = (2 : Nat) ∧ (256 : Nat) = (256 : Nat) ∧ ((∀ (i : Nat), i < (2 : Nat) → ∀ (i_1 : Nat), i_1 < (256 : Nat) → K [i, i_1] = K [i, i_1]) ∧ ∀ (i : Nat), i < (2 : Nat) → ∀ (i_1 : Nat), i_1 < (256 : Nat) → O [i, i_1] = O [i, i_1]) ∧ ∀ (i : Nat), i < (2 : Nat) → ∀ (i_1 : Nat), i_1 < (256 : Nat) → A [i, i_1] = A [i, i_1]) ∧ h = h ∧ a = a ∧ s = s) := by kernel_rfl

set_option maxHeartbeats 4000000 in
theorem o0 (K : Ix → Int) (O A : Ix → Bool) (h a s : Int)  (v : SV) (L' : HF) (next : RunsTo Tryd.prog 68 (headOf Tryd.f68 0) (envAt Tryd.f68.ntmps ([(0, vP 60), (3, vL 85 2 (([] : List (Int × Int))).length), (11, vL 86 1 (onM K O 0 256).length), (12, vN (onM K O 0 256).length), (13, vN (0 : Nat))])) (Sx.look ([] ++ (eL 85 (([] : List (Int × Int))) ++ (liE 86 (onM K O 0 256) ++ tabE 60 K O A h a s)))) 80 (v) (L') 1400) :
    RunsTo Tryd.prog 68 [.code (bodyOf Tryd.f68)] (envOf [vP 60] Tryd.f68.ntmps) (Sx.look ([] ++ (tabE 60 K O A h a s))) 80 (v) (L') 1400 := by
  refine runs_more baseT (More.of (o0_p0 K O A h a s) ⟨?oo, rfl, ?rr⟩) (by kernel_rfl) (by kernel_rfl) rfl (gtL (by decide)) (by decide) next
  case oo =>
    clear next
    refine okn
    all_goals ((try simp (disch := omega) only [SS]); first | done | omega | assumption | (simp (disch := omega) only [SS] at *; first | done | omega | assumption) | (simp_all; done))
  case rr =>
    clear next
    try simp (disch := omega) only [SS]
    repeat' apply And.intro
    all_goals first | exact True.intro | with_reducible rfl | omega | (intros; first | exact True.intro | with_reducible rfl | omega | (simp_all; done)) | (simp_all; done) | rfl

theorem o0R_p0 (K : Ix → Int) (O A : Ix → Bool) (h a s : Int) (L : List (Int × Int)) (C : List Int) (i : Nat) (x : Int) :
    isMore (evTill Tryd.prog sumsT 300 (behind Tryd.f68 0) 900 68 (headOf Tryd.f68 0) (envAt Tryd.f68.ntmps ([(0, vP 60), (3, vL 85 2 (L).length), (11, vL 86 1 (C).length), (12, vN (C).length), (13, vN (i : Nat))])) ([] ++ (eL 85 (L) ++ (liE 86 (C) ++ tabE 60 K O A h a s))) ⟨[.s true, .s true, .s true, .s true, .t, .s true, .s true], 120⟩) (moreP (headOf Tryd.f68 0) ([((85 : Nat), Rn.to (121 : Nat))]) Tryd.f68.ntmps ([(0, vP 60), (3, vL 85 2 (L ++ [(251, x)]).length), (11, vL 86 1 (C).length), (12, vN (C).length), (13, vN (i + 1 : Nat))]) (eL 85 (L ++ [(251, x)]) ++ (liE 86 (C) ++ tabE 60 K O A h a s)) 1400) =
    (OkL [(decide ((↑i : Int) < (↑C.length : Int)), true), (decide ((0 : Int) ≤ (↑i : Int) ∧ (↑i : Int) < (↑C.length : Int)), true), (((0 : Nat) + (↑i : Int).toNat).blt C.length, true), (((0 : Nat) + (↑i : Int).toNat).blt C.length, true), (((0 : Nat) + L.length).ble L.length, true), (decide (((2 : Nat) * (L.length + (1 : Nat)) + (192 : Nat)) * (16 : Nat) ≤ (281474976710656 : Nat)), true)] ∧ headOf Tryd.f68 (0 : Nat) = headOf Tryd.f68 (0 : Nat) ∧ ((0 : Nat) = (0 : Nat) ∧ ((0 : Nat) = (0 : Nat) ∧ (L ++ [((251 : Int), x)]).length = L.length + (1 : Nat)) ∧ ((0 : Nat) = (0 : Nat) ∧ C.length = C.length) ∧ (↑C.length : Int) = (↑C.length : Int) ∧ (↑(i + (1 : Nat)) : Int) = IntKind.i64.wrap ((↑i : Int) + (1 : Int))) ∧ ((L ++ [((251 : Int), x)]).length = L.length + (1 : Nat) ∧ (∀ (i : Nat), i < (L ++ [((251 : Int), x)]).length → pV (L ++ [((251 : Int), x)]) [i] = appF L.length (0 : Nat) (pV L) (fun js => (251 : Int)) [i]) ∧ ∀ (i_1 : Nat), i_1 < (L ++ [((251 : Int), x)]).length → pO (L ++ [((251 : Int), x)]) [i_1] = appF L.length (0 : Nat) (pO L) (fun js => liI C (((0 : Nat) + (↑i : Int).toNat) :: List.tail (subIx (sum []) js))) [i_1]) ∧ (C.length = C.length ∧ ∀ (i : Nat), i < C.length → liI C [i] = liI C [i]) ∧ ((2 : Nat) = (2 : Nat) ∧ (256 : Nat) = (256 : Nat) ∧ ((∀ (i : Nat), i < (2 : Nat) → ∀ (i_1 : Nat), i_1 < (256 : Nat) → K [i, i_1] = K [i, i_1]) ∧ ∀ (i : Nat), i < (2 : Nat) → ∀ (i_1 : Nat), i_1 < (256 : Nat) → O [i, i_1] = O [i, i_1]) ∧ ∀ (i : Nat), i < (2 : Nat) → ∀ (i_1 : Nat), i_1 < (256 : Nat) → A [i, i_1] = A [i, i_1]) ∧ h = h ∧ a = a ∧ s = s) := by kernel_rfl

set_option maxHeartbeats 4000000 in
theorem o0R (K : Ix → Int) (O A : Ix → Bool) (h a s : Int) (L : List (Int × Int)) (C : List Int) (i : Nat) (x : Int) (hi : i < C.length) (hC : C.length ≤ 1000) (hL : L.length ≤ 10000) (hx : liI C [i] = x)  (v : SV) (L' : HF) (next : RunsTo Tryd.prog 68 (headOf Tryd.f68 0) (envAt Tryd.f68.ntmps ([(0, vP 60), (3, vL 85 2 (L ++ [(251, x)]).length), (11, vL 86 1 (C).length), (12, vN (C).length), (13, vN (i + 1 : Nat))])) (Sx.look ([] ++ (eL 85 (L ++ [(251, x)]) ++ (liE 86 (C) ++ tabE 60 K O A h a s)))) 80 (v) (L') 1400) :
    RunsTo Tryd.prog 68 (headOf Tryd.f68 0) (envAt Tryd.f68.ntmps ([(0, vP 60), (3, vL 85 2 (L).length), (11, vL 86 1 (C).length), (12, vN (C).length), (13, vN (i : Nat))])) (Sx.look ([] ++ (eL 85 (L) ++ (liE 86 (C) ++ tabE 60 K O A h a s)))) 80 (v) (L') 1400 := by
  have hw : IntKind.i64.wrap ((i : Int) + 1) = ((i + 1 : Nat) : Int) := by rw [wr64 (by omega)]; rfl
  refine runs_more baseT (More.of (o0R_p0 K O A h a s L C i x) ⟨?oo, rfl, ?rr⟩) (by kernel_rfl) (by kernel_rfl) rfl (gtL (by decide)) (by decide) next
  case oo =>
    clear next
    refine (okc ?_ (okc ?_ (okc ?_ (okc ?_ (okc ?_ (okc ?_ okn))))))
    all_goals ((try simp (disch := omega) only [SS, hw]); first | done | omega | assumption | (simp (disch := omega) only [SS, hw] at *; first | done | omega | assumption) | (simp_all; done))
  case rr =>
    clear next
    simp (disch := omega) only [SS, hw, hx, Go.Sx.sum, List.length_append, List.length_cons, List.length_nil, Nat.zero_add]
    repeat' apply And.intro
    all_goals first | exact True.intro | with_reducible rfl | omega | exact pV_app _ _ _ rfl | exact pO_app _ _ _ rfl | (intro k hk; first | exact pV_app _ _ _ rfl k hk | exact pO_app _ _ _ rfl k hk | exact pO_app _ _ _ hx k hk) | exact pO_app _ _ _ hx | (intros; rfl) | (simp_all; done)

theorem o0X_p0 (K : Ix → Int) (O A : Ix → Bool) (h a s : Int) (L : List (Int × Int)) (C : List Int) (i : Nat) (x : Int) :
    isMore (evTill Tryd.prog sumsT 300 (behind Tryd.f68 1) 900 68 (headOf Tryd.f68 0) (envAt Tryd.f68.ntmps ([(0, vP 60), (3, vL 85 2 (L).length), (11, vL 86 1 (C).length), (12, vN (C).length), (13, vN (i : Nat))])) ([] ++ (eL 85 (L) ++ (liE 86 (C) ++ tabE 60 K O A h a s))) ⟨[.s false, .t], 120⟩) (moreP (headOf Tryd.f68 1) ([((86 : Nat), Rn.to (141 : Nat))]) Tryd.f68.ntmps ([(3, vL 85 2 (L).length), (24, vL 86 1 (onM K O 1 256).length), (25, vN (onM K O 1 256).length), (26, vN (0 : Nat))]) (eL 85 (L) ++ liE 86 (onM K O 1 256)) 1400) =
    (OkL [(decide ((↑i : Int) < (↑C.length : Int)), false)] ∧ headOf Tryd.f68 (1 : Nat) = headOf Tryd.f68 (1 : Nat) ∧ (((0 : Nat) = (0 : Nat) ∧ L.length = L.length) ∧ ((0 : Nat) = (0 : Nat) ∧ (onM K O (1 : Int) (256 : Nat)).length = (onM K O (1 : Int) (256 : Nat)).length) ∧ (↑(onM K O (1 : Int) (256 : Nat)).length : Int) = (↑(onM K O (1 : Int) (256 : Nat)).length : Int) ∧ (↑(0 : Nat) : Int) = (0 : Int)) ∧ (L.length = L.length ∧ (∀ (i : Nat), i < L.length → pV L [i] = pV L [i]) ∧ ∀ (i : Nat), i < L.length → pO L [i] = pO L [i]) ∧ (onM K O (1 : Int) (256 : Nat)).length = (onM K O (1 : Int) (256 : Nat)).length ∧ ∀ (i : Nat), i < (onM K O (1 : Int) (256 : Nat)).length → liI (onM K O (1 : Int) (256 : Nat)) [i] = liI (onM K O (1 : Int) (256 : Nat)) [i]) := by kernel_rfl

set_option maxHeartbeats 4000000 in
theorem o0X (K : Ix → Int) (O A : Ix → Bool) (h a s : Int) (L : List (Int × Int)) (C : List Int) (i : Nat) (x : Int) (hi : i = C.length) (hC : C.length ≤ 1000) (v : SV) (L' : HF) (next : RunsTo Tryd.prog 68 (headOf Tryd.f68 1) (envAt Tryd.f68.ntmps ([(3, vL 85 2 (L).length), (24, vL 86 1 (onM K O 1 256).length), (25, vN (onM K O 1 256).length), (26, vN (0 : Nat))])) (Sx.look ([] ++ (eL 85 (L) ++ liE 86 (onM K O 1 256)))) 80 (v) (L') 1400) :
    RunsTo Tryd.prog 68 (headOf Tryd.f68 0) (envAt Tryd.f68.ntmps ([(0, vP 60), (3, vL 85 2 (L).length), (11, vL 86 1 (C).length), (12, vN (C).length), (13, vN (i : Nat))])) (Sx.look ([] ++ (eL 85 (L) ++ (liE 86 (C) ++ tabE 60 K O A h a s)))) 80 (v) (L') 1400 := by
  refine runs_more baseT (More.of (o0X_p0 K O A h a s L C i x) ⟨?oo, rfl, ?rr⟩) (by kernel_rfl) (by kernel_rfl) rfl (gtL (by decide)) (by decide) next
  case oo =>
    clear next
    refine (okc ?_ okn)
    all_goals ((try simp (disch := omega) only [SS]); first | done | omega | assumption | (simp (disch := omega) only [SS] at *; first | done | omega | assumption) | (simp_all; done))
  case rr =>
    clear next
    try simp (disch := omega) only [SS]
    repeat' apply And.intro
    all_goals first | exact True.intro | with_reducible rfl | omega | (intros; first | exact True.intro | with_reducible rfl | omega | (simp_all; done)) | (simp_all; done) | rfl

theorem o1R_p0 (L : List (Int × Int)) (C : List Int) (i : Nat) (x : Int) :
    isMore (evTill Tryd.prog sumsT 300 (behind Tryd.f68 1) 900 68 (headOf Tryd.f68 1) (envAt Tryd.f68.ntmps ([(3, vL 85 2 (L).length), (24, vL 86 1 (C).length), (25, vN (C).length), (26, vN (i : Nat))])) ([] ++ (eL 85 (L) ++ liE 86 (C))) ⟨[.s true, .s true, .s true, .s true, .t, .s true, .s true], 120⟩) (moreP (headOf Tryd.f68 1) ([((85 : Nat), Rn.to (121 : Nat))]) Tryd.f68.ntmps ([(3, vL 85 2 (L ++ [(253, x)]).length), (24, vL 86 1 (C).length), (25, vN (C).length), (26, vN (i + 1 : Nat))]) (eL 85 (L ++ [(253, x)]) ++ liE 86 (C)) 1400) =
    (OkL [(decide ((↑i : Int) < (↑C.length : Int)), true), (decide ((0 : Int) ≤ (↑i : Int) ∧ (↑i : Int) < (↑C.length : Int)), true), (((0 : Nat) + (↑i : Int).toNat).blt C.length, true), (((0 : Nat) + (↑i : Int).toNat).blt C.length, true), (((0 : Nat) + L.length).ble L.length, true), (decide (((2 : Nat) * (L.length + (1 : Nat)) + (192 : Nat)) * (16 : Nat) ≤ (281474976710656 : Nat)), true)] ∧ headOf Tryd.f68 (1 : Nat) = headOf Tryd.f68 (1 : Nat) ∧ (((0 : Nat) = (0 : Nat) ∧ (L ++ [((253 : Int), x)]).length = L.length + (1 : Nat)) ∧ ((0 : Nat) = (0 : Nat) ∧ C.length = C.length) ∧ (↑C.length : Int) = (↑C.length : Int) ∧ (↑(i + (1 : Nat)) : Int) = IntKind.i64.wrap ((↑i : Int) + (1 : Int))) ∧ ((L ++ [((253 : Int), x)]).length = L.length + (1 : Nat) ∧ (∀ (i : Nat), i < (L ++ [((253 : Int), x)]).length → pV (L ++ [((253 : Int), x)]) [i] = appF L.length (0 : Nat) (pV L) (fun js => (253 : Int)) [i]) ∧ ∀ (i_1 : Nat), i_1 < (L ++ [((253 : Int), x)]).length → pO (L ++ [((253 : Int), x)]) [i_1] = appF L.length (0 : Nat) (pO L) (fun js => liI C (((0 : Nat) + (↑i : Int).toNat) :: List.tail (subIx (sum []) js))) [i_1]) ∧ C.length = C.length ∧ ∀ (i : Nat), i < C.length → liI C [i] = liI C [i]) := by kernel_rfl

set_option maxHeartbeats 4000000 in
theorem o1R (L : List (Int × Int)) (C : List Int) (i : Nat) (x : Int) (hi : i < C.length) (hC : C.length ≤ 1000) (hL : L.length ≤ 10000) (hx : liI C [i] = x)  (v : SV) (L' : HF) (next : RunsTo Tryd.prog 68 (headOf Tryd.f68 1) (envAt Tryd.f68.ntmps ([(3, vL 85 2 (L ++ [(253, x)]).length), (24, vL 86 1 (C).length), (25, vN (C).length), (26, vN (i + 1 : Nat))])) (Sx.look ([] ++ (eL 85 (L ++ [(253, x)]) ++ liE 86 (C)))) 80 (v) (L') 1400) :
    RunsTo Tryd.prog 68 (headOf Tryd.f68 1) (envAt Tryd.f68.ntmps ([(3, vL 85 2 (L).length), (24, vL 86 1 (C).length), (25, vN (C).length), (26, vN (i : Nat))])) (Sx.look ([] ++ (eL 85 (L) ++ liE 86 (C)))) 80 (v) (L') 1400 := by
  have hw : IntKind.i64.wrap ((i : Int) + 1) = ((i + 1 : Nat) : Int) := by rw [wr64 (by omega)]; rfl
  refine runs_more baseT (More.of (o1R_p0 L C i x) ⟨?oo, rfl, ?rr⟩) (by kernel_rfl) (by kernel_rfl) rfl (gtL (by decide)) (by decide) next
  case oo =>
    clear next
    refine (okc ?_ (okc ?_ (okc ?_ (okc ?_ (okc ?_ (okc ?_ okn))))))
    all_goals ((try simp (disch := omega) only [SS, hw]); first | done | omega | assumption | (simp (disch := omega) only [SS, hw] at *; first | done | omega | assumption) | (simp_all; done))
  case rr =>
    clear next
    simp (disch := omega) only [SS, hw, hx, Go.Sx.sum, List.length_append, List.length_cons, List.length_nil, Nat.zero_add]
    repeat' apply And.intro
    all_goals first | exact True.intro | with_reducible rfl | omega | exact pV_app _ _ _ rfl | exact pO_app _ _ _ rfl | (intro k hk; first | exact pV_app _ _ _ rfl k hk | exact pO_app _ _ _ rfl k hk | exact pO_app _ _ _ hx k hk) | exact pO_app _ _ _ hx | (intros; rfl) | (simp_all; done)

theorem o1X_p0 (L : List (Int × Int)) (C : List Int) (i : Nat) (x : Int) :
    isEnd (evTill Tryd.prog sumsT 300 (99) 900 68 (headOf Tryd.f68 1) (envAt Tryd.f68.ntmps ([(3, vL 85 2 (L).length), (24, vL 86 1 (C).length), (25, vN (C).length), (26, vN (i : Nat))])) ([] ++ (eL 85 (L) ++ liE 86 (C))) ⟨[.s false], 120⟩) (endP ([((101 : Nat), Rn.to (85 : Nat))]) (vL 101 2 L.length) (eL 101 L) 1400) =
    (OkL [(decide ((↑i : Int) < (↑C.length : Int)), false)] ∧ ((0 : Nat) = (0 : Nat) ∧ L.length = L.length) ∧ L.length = L.length ∧ (∀ (i : Nat), i < L.length → pV L [i] = pV L [i]) ∧ ∀ (i : Nat), i < L.length → pO L [i] = pO L [i]) := by kernel_rfl

set_option maxHeartbeats 4000000 in
theorem o1X (L : List (Int × Int)) (C : List Int) (i : Nat) (x : Int) (hi : i = C.length) (hC : C.length ≤ 1000) :
    RunsTo Tryd.prog 68 (headOf Tryd.f68 1) (envAt Tryd.f68.ntmps ([(3, vL 85 2 (L).length), (24, vL 86 1 (C).length), (25, vN (C).length), (26, vN (i : Nat))])) (Sx.look ([] ++ (eL 85 (L) ++ liE 86 (C)))) 80 (vL 101 2 L.length) (Sx.look (eL 101 L)) 1400 := by
  refine runs_last baseT (Sx.Ends.of (o1X_p0 L C i x) ⟨?oo, ?rr⟩) (by kernel_rfl) rfl (gtL (by decide)) (by decide)
  case oo =>
    refine (okc ?_ okn)
    all_goals ((try simp (disch := omega) only [SS]); first | done | omega | assumption | (simp (disch := omega) only [SS] at *; first | done | omega | assumption) | (simp_all; done))
  case rr =>
    try simp (disch := omega) only [SS]
    repeat' apply And.intro
    all_goals first | exact True.intro | with_reducible rfl | omega | (intros; first | exact True.intro | with_reducible rfl | omega | (simp_all; done)) | (simp_all; done) | rfl

theorem o1L (C : List Int) (hC : C.length ≤ 1000) : ∀ (k i : Nat) (L : List (Int × Int)), i + k = C.length → L.length + k ≤ 10000 → RunsTo Tryd.prog 68 (headOf Tryd.f68 1) (envAt Tryd.f68.ntmps ([(3, vL 85 2 (L).length), (24, vL 86 1 (C).length), (25, vN (C).length), (26, vN (i : Nat))])) (Sx.look ([] ++ (eL 85 (L) ++ liE 86 (C)))) 80 (vL 101 2 (L ++ told 253 (C.drop i)).length) (Sx.look (eL 101 (L ++ told 253 (C.drop i)))) 1400 := by
  intro k
  induction k with
  | zero => intro i L hi hl; rw [told_end 253 C (by omega), List.append_nil]; exact o1X L C i 0 (by omega) hC
  | succ k ih =>
    intro i L hi hl
    rw [told_drop 253 C (by omega), show L ++ (253, liI C [i]) :: told 253 (C.drop (i + 1)) = (L ++ [(253, liI C [i])]) ++ told 253 (C.drop (i + 1)) by simp]
    exact o1R L C i _ (by omega) hC (by omega) rfl _ _ (ih (i + 1) _ (by omega) (by simp; omega))
theorem o0L (K : Ix → Int) (O A : Ix → Bool) (h a s : Int) (C : List Int) (hC : C.length ≤ 1000) : ∀ (k i : Nat) (L : List (Int × Int)), i + k = C.length → L.length + k ≤ 5000 → RunsTo Tryd.prog 68 (headOf Tryd.f68 0) (envAt Tryd.f68.ntmps ([(0, vP 60), (3, vL 85 2 (L).length), (11, vL 86 1 (C).length), (12, vN (C).length), (13, vN (i : Nat))])) (Sx.look ([] ++ (eL 85 (L) ++ (liE 86 (C) ++ tabE 60 K O A h a s)))) 80 (vL 101 2 ((L ++ told 251 (C.drop i)) ++ told 253 (onM K O 1 256)).length) (Sx.look (eL 101 ((L ++ told 251 (C.drop i)) ++ told 253 (onM K O 1 256)))) 1400 := by
  intro k
  induction k with
  | zero => intro i L hi hl; rw [told_end 251 C (by omega), List.append_nil]
            have hm := onM_len (K := K) (O := O) (sd := 1) 256
            have q := o1L (onM K O 1 256) (by omega) (onM K O 1 256).length 0 L (by omega) (by omega)
            rw [List.drop_zero] at q
            exact o0X K O A h a s L C i 0 (by omega) hC _ _ q
  | succ k ih =>
    intro i L hi hl
    rw [told_drop 251 C (by omega), show L ++ (251, liI C [i]) :: told 251 (C.drop (i + 1)) = (L ++ [(251, liI C [i])]) ++ told 251 (C.drop (i + 1)) by simp]
    exact o0R K O A h a s L C i _ (by omega) hC (by omega) rfl _ _ (ih (i + 1) _ (by omega) (by simp; omega))
theorem oI (K : Ix → Int) (O A : Ix → Bool) (h a s : Int) : RunsTo Tryd.prog 68 [.code (bodyOf Tryd.f68)] (envOf [vP 60] Tryd.f68.ntmps) (Sx.look ([] ++ (tabE 60 K O A h a s))) 80 (vL 101 2 (told 251 (onM K O 0 256) ++ told 253 (onM K O 1 256)).length) (Sx.look (eL 101 (told 251 (onM K O 0 256) ++ told 253 (onM K O 1 256)))) 1400 := by
  have hm := onM_len (K := K) (O := O) (sd := 0) 256
  have q := o0L K O A h a s (onM K O 0 256) (by omega) (onM K O 0 256).length 0 [] (by omega) (by simp; omega)
  rw [List.drop_zero, List.nil_append] at q
  exact o0 K O A h a s _ _ q
def oP : PC := { args := [.v (.vp 60)], heap := tabP 60 0, gs := [], G := 25, tp := 223, n := 80, n' := 1400, cond := fun e => true, v := fun e => vL 101 2 (told 251 (onM (eI e 0) (eB e 1) 0 256) ++ told 253 (onM (eI e 0) (eB e 1) 1 256)).length, post := fun e => eL 101 (told 251 (onM (eI e 0) (eB e 1) 0 256) ++ told 253 (onM (eI e 0) (eB e 1) 1 256)) }
theorem oP_pc : PC.Runs Tryd.prog 68 Tryd.f68 (bodyOf Tryd.f68) oP := ⟨Tryd.func68, by kernel_rfl, (fun g hg => by first | (cases hg; done) | (revert g; show ∀ g ∈ ([] : List Nat), g < 25; decide)), fun e H hc => by
  have hc : (true) = true := hc
  try simp only [Bool.and_eq_true, decide_eq_true_eq, Nat.beq_eq] at hc
  exact oI (eI e 0) (eB e 1) (eB e 2) (eI e 3 []) (eI e 4 []) (eI e 5 [])⟩
def onP : PC := { args := [.v .vp0], heap := [], gs := [], G := 25, tp := 223, n := 80, n' := 1400, cond := fun e => true, v := fun e => .v .vl0, post := fun e => [] }
theorem onP_pc : PC.Runs Tryd.prog 68 Tryd.f68 (bodyOf Tryd.f68) onP := ⟨Tryd.func68, by kernel_rfl, (fun g hg => by first | (cases hg; done) | (revert g; show ∀ g ∈ ([] : List Nat), g < 25; decide)), fun e H hc => by
  have hc : (true) = true := hc
  try simp only [Bool.and_eq_true, decide_eq_true_eq, Nat.beq_eq] at hc
  exact oNil 0⟩
def sumsR : List (FuncId × Summ) := [(94, lrPC.summ 50)]
theorem baseR : Base0 Tryd.prog sumsR := (baseO.cons Tryd.func94 (by kernel_rfl) (PC.summ_ok lr_pc gtopG))
theorem r0_p0 (N M R : Nat) (h a s : Int) (RS RO RK : Ix → Int) (RB : Ix → Bool) :
    isMore (evTill Tryd.prog sumsR 300 (behind Tryd.f69 0) 900 69 [.code (bodyOf Tryd.f69)] (envOf [vP 60] Tryd.f69.ntmps) ([] ++ (mdE 60 61 N M 63 R h a s RS RO RK RB)) ⟨[], 80⟩) (moreP (headOf Tryd.f69 0) ([((85 : Nat), Rn.to (80 : Nat))]) Tryd.f69.ntmps ([(0, vP 60), (3, vL 85 2 (([] : List (Int × Int))).length), (4, vN 0)]) (eL 85 (([] : List (Int × Int))) ++ mdE 60 61 N M 63 R h a s RS RO RK RB) 1400) =
    (OkL [] ∧ headOf Tryd.f69 (0 : Nat) = headOf Tryd.f69 (0 : Nat) ∧ ((0 : Nat) = (0 : Nat) ∧ ((0 : Nat) = (0 : Nat) ∧ (0 : Nat) = (0 : Nat)) ∧ (0 : Int) = (0 : Int)) ∧ ((0 : Nat) = (0 : Nat) ∧ (∀ (i : Nat), i < (0 : Nat) → pV [] [i] = (0 : Int)) ∧ ∀ (i : Nat), i < (0 : Nat) → pO [] [i] = (0 : Int)) ∧ (((0 : Nat) = (0 : Nat) ∧ N = N) ∧ ((0 : Nat) = (0 : Nat) ∧ M = M) ∧ ((0 : Nat) = (0 : Nat) ∧ R = R) ∧ h = h ∧ a = a ∧ s = s) ∧ R = R ∧ (∀ (i : Nat), i < R → RS [i] = RS [i]) ∧ (∀ (i : Nat), i < R → RO [i] = RO [i]) ∧ (∀ (i : Nat), i < R → RK [i] = RK [i]) ∧ ∀ (i : Nat), i < R → RB [i] = RB [i]) := by kernel_rfl

set_option maxHeartbeats 4000000 in
theorem r0 (N M R : Nat) (h a s : Int) (RS RO RK : Ix → Int) (RB : Ix → Bool)  (v : SV) (L' : HF) (next : RunsTo Tryd.prog 69 (headOf Tryd.f69 0) (envAt Tryd.f69.ntmps ([(0, vP 60), (3, vL 85 2 (([] : List (Int × Int))).length), (4, vN 0)])) (Sx.look ([] ++ (eL 85 (([] : List (Int × Int))) ++ mdE 60 61 N M 63 R h a s RS RO RK RB))) 80 (v) (L') 1400) :
    RunsTo Tryd.prog 69 [.code (bodyOf Tryd.f69)] (envOf [vP 60] Tryd.f69.ntmps) (Sx.look ([] ++ (mdE 60 61 N M 63 R h a s RS RO RK RB))) 80 (v) (L') 1400 := by
  refine runs_more baseR (More.of (r0_p0 N M R h a s RS RO RK RB) ⟨?oo, rfl, ?rr⟩) (by kernel_rfl) (by kernel_rfl) rfl (gtL (by decide)) (by decide) next
  case oo =>
    clear next
    refine okn
    all_goals ((try simp (disch := omega) only [SS]); first | done | omega | assumption | (simp (disch := omega) only [SS] at *; first | done | omega | assumption) | (simp_all; done))
  case rr =>
    clear next
    try simp (disch := omega) only [SS]
    repeat' apply And.intro
    all_goals first | exact True.intro | with_reducible rfl | omega | (intros; first | exact True.intro | with_reducible rfl | omega | (simp_all; done)) | (simp_all; done) | rfl

theorem rS0_p0 (N M R : Nat) (h a s : Int) (RS RO RK : Ix → Int) (RB : Ix → Bool) (L : List (Int × Int)) :
    isMore (evTill Tryd.prog sumsR 300 (behind Tryd.f69 1) 900 69 (headOf Tryd.f69 0) (envAt Tryd.f69.ntmps ([(0, vP 60), (3, vL 85 2 (L).length), (4, vN 0)])) ([] ++ (eL 85 (L) ++ mdE 60 61 N M 63 R h a s RS RO RK RB)) ⟨[.t, .s true, .s true], 120⟩) (moreP (headOf Tryd.f69 1) ([((86 : Nat), Rn.to (141 : Nat))]) Tryd.f69.ntmps ([(0, vP 60), (3, vL 85 2 (L).length), (4, vN 0), (14, vL 86 1 (onR RS RO RK R 0 256).length), (15, vN (onR RS RO RK R 0 256).length), (16, vN (0 : Nat))]) (eL 85 (L) ++ (liE 86 (onR RS RO RK R 0 256) ++ mdE 60 61 N M 63 R h a s RS RO RK RB)) 1400) =
    (OkL [(R.beq R, true), (decide (R ≤ (100 : Nat)), true)] ∧ headOf Tryd.f69 (1 : Nat) = headOf Tryd.f69 (1 : Nat) ∧ ((0 : Nat) = (0 : Nat) ∧ ((0 : Nat) = (0 : Nat) ∧ L.length = L.length) ∧ (0 : Int) = (0 : Int) ∧ ((0 : Nat) = (0 : Nat) ∧ (onR RS RO RK R (0 : Int) (256 : Nat)).length = (onR RS RO RK R (0 : Int) (256 : Nat)).length) ∧ (↑(onR RS RO RK R (0 : Int) (256 : Nat)).length : Int) = (↑(onR RS RO RK R (0 : Int) (256 : Nat)).length : Int) ∧ (↑(0 : Nat) : Int) = (0 : Int)) ∧ (L.length = L.length ∧ (∀ (i : Nat), i < L.length → pV L [i] = pV L [i]) ∧ ∀ (i : Nat), i < L.length → pO L [i] = pO L [i]) ∧ ((onR RS RO RK R (0 : Int) (256 : Nat)).length = (onR RS RO RK R (0 : Int) (256 : Nat)).length ∧ ∀ (i : Nat), i < (onR RS RO RK R (0 : Int) (256 : Nat)).length → liI (onR RS RO RK R (0 : Int) (256 : Nat)) [i] = liI (onR RS RO RK R (0 : Int) (256 : Nat)) [i]) ∧ (((0 : Nat) = (0 : Nat) ∧ N = N) ∧ ((0 : Nat) = (0 : Nat) ∧ M = M) ∧ ((0 : Nat) = (0 : Nat) ∧ R = R) ∧ h = h ∧ a = a ∧ s = s) ∧ R = R ∧ (∀ (i : Nat), i < R → RS [i] = RS [i]) ∧ (∀ (i : Nat), i < R → RO [i] = RO [i]) ∧ (∀ (i : Nat), i < R → RK [i] = RK [i]) ∧ ∀ (i : Nat), i < R → RB [i] = RB [i]) := by kernel_rfl

set_option maxHeartbeats 4000000 in
theorem rS0 (N M R : Nat) (h a s : Int) (RS RO RK : Ix → Int) (RB : Ix → Bool) (L : List (Int × Int)) (hR : R ≤ 100) (v : SV) (L' : HF) (next : RunsTo Tryd.prog 69 (headOf Tryd.f69 1) (envAt Tryd.f69.ntmps ([(0, vP 60), (3, vL 85 2 (L).length), (4, vN 0), (14, vL 86 1 (onR RS RO RK R 0 256).length), (15, vN (onR RS RO RK R 0 256).length), (16, vN (0 : Nat))])) (Sx.look ([] ++ (eL 85 (L) ++ (liE 86 (onR RS RO RK R 0 256) ++ mdE 60 61 N M 63 R h a s RS RO RK RB)))) 80 (v) (L') 1400) :
    RunsTo Tryd.prog 69 (headOf Tryd.f69 0) (envAt Tryd.f69.ntmps ([(0, vP 60), (3, vL 85 2 (L).length), (4, vN 0)])) (Sx.look ([] ++ (eL 85 (L) ++ mdE 60 61 N M 63 R h a s RS RO RK RB))) 80 (v) (L') 1400 := by
  refine runs_more baseR (More.of (rS0_p0 N M R h a s RS RO RK RB L) ⟨?oo, rfl, ?rr⟩) (by kernel_rfl) (by kernel_rfl) rfl (gtL (by decide)) (by decide) next
  case oo =>
    clear next
    refine (okc ?_ (okc ?_ okn))
    all_goals ((try simp (disch := omega) only [SS]); first | done | omega | assumption | (simp (disch := omega) only [SS] at *; first | done | omega | assumption) | (simp_all; done))
  case rr =>
    clear next
    try simp (disch := omega) only [SS]
    repeat' apply And.intro
    all_goals first | exact True.intro | with_reducible rfl | omega | (intros; first | exact True.intro | with_reducible rfl | omega | (simp_all; done)) | (simp_all; done) | rfl

theorem rR0_p0 (N M R : Nat) (h a s : Int) (RS RO RK : Ix → Int) (RB : Ix → Bool) (L : List (Int × Int)) (C : List Int) (i : Nat) (x : Int) :
    isMore (evTill Tryd.prog sumsR 300 (behind Tryd.f69 1) 900 69 (headOf Tryd.f69 1) (envAt Tryd.f69.ntmps ([(0, vP 60), (3, vL 85 2 (L).length), (4, vN 0), (14, vL 86 1 (C).length), (15, vN (C).length), (16, vN (i : Nat))])) ([] ++ (eL 85 (L) ++ (liE 86 (C) ++ mdE 60 61 N M 63 R h a s RS RO RK RB))) ⟨[.s true, .s true, .s true, .s true, .t, .s true, .s true], 120⟩) (moreP (headOf Tryd.f69 1) ([((85 : Nat), Rn.to (121 : Nat))]) Tryd.f69.ntmps ([(0, vP 60), (3, vL 85 2 (L ++ [(251, x)]).length), (4, vN 0), (14, vL 86 1 (C).length), (15, vN (C).length), (16, vN (i + 1 : Nat))]) (eL 85 (L ++ [(251, x)]) ++ (liE 86 (C) ++ mdE 60 61 N M 63 R h a s RS RO RK RB)) 1400) =
    (OkL [(decide ((↑i : Int) < (↑C.length : Int)), true), (decide ((0 : Int) ≤ (↑i : Int) ∧ (↑i : Int) < (↑C.length : Int)), true), (((0 : Nat) + (↑i : Int).toNat).blt C.length, true), (((0 : Nat) + (↑i : Int).toNat).blt C.length, true), (((0 : Nat) + L.length).ble L.length, true), (decide (((2 : Nat) * (L.length + (1 : Nat)) + (192 : Nat)) * (16 : Nat) ≤ (281474976710656 : Nat)), true)] ∧ headOf Tryd.f69 (1 : Nat) = headOf Tryd.f69 (1 : Nat) ∧ ((0 : Nat) = (0 : Nat) ∧ ((0 : Nat) = (0 : Nat) ∧ (L ++ [((251 : Int), x)]).length = L.length + (1 : Nat)) ∧ (0 : Int) = (0 : Int) ∧ ((0 : Nat) = (0 : Nat) ∧ C.length = C.length) ∧ (↑C.length : Int) = (↑C.length : Int) ∧ (↑(i + (1 : Nat)) : Int) = IntKind.i64.wrap ((↑i : Int) + (1 : Int))) ∧ ((L ++ [((251 : Int), x)]).length = L.length + (1 : Nat) ∧ (∀ (i : Nat), i < (L ++ [((251 : Int), x)]).length → pV (L ++ [((251 : Int), x)]) [i] = appF L.length (0 : Nat) (pV L) (fun js => IntKind.i64.wrap ((251 : Int) + IntKind.i64.wrap ((2 : Int) * (0 : Int)))) [i]) ∧ ∀ (i_1 : Nat), i_1 < (L ++ [((251 : Int), x)]).length → pO (L ++ [((251 : Int), x)]) [i_1] = appF L.length (0 : Nat) (pO L) (fun js => liI C (((0 : Nat) + (↑i : Int).toNat) :: List.tail (subIx (sum []) js))) [i_1]) ∧ (C.length = C.length ∧ ∀ (i : Nat), i < C.length → liI C [i] = liI C [i]) ∧ (((0 : Nat) = (0 : Nat) ∧ N = N) ∧ ((0 : Nat) = (0 : Nat) ∧ M = M) ∧ ((0 : Nat) = (0 : Nat) ∧ R = R) ∧ h = h ∧ a = a ∧ s = s) ∧ R = R ∧ (∀ (i : Nat), i < R → RS [i] = RS [i]) ∧ (∀ (i : Nat), i < R → RO [i] = RO [i]) ∧ (∀ (i : Nat), i < R → RK [i] = RK [i]) ∧ ∀ (i : Nat), i < R → RB [i] = RB [i]) := by kernel_rfl

set_option maxHeartbeats 4000000 in
theorem rR0 (N M R : Nat) (h a s : Int) (RS RO RK : Ix → Int) (RB : Ix → Bool) (L : List (Int × Int)) (C : List Int) (i : Nat) (x : Int) (hi : i < C.length) (hC : C.length ≤ 1000) (hL : L.length ≤ 10000) (hx : liI C [i] = x)  (v : SV) (L' : HF) (next : RunsTo Tryd.prog 69 (headOf Tryd.f69 1) (envAt Tryd.f69.ntmps ([(0, vP 60), (3, vL 85 2 (L ++ [(251, x)]).length), (4, vN 0), (14, vL 86 1 (C).length), (15, vN (C).length), (16, vN (i + 1 : Nat))])) (Sx.look ([] ++ (eL 85 (L ++ [(251, x)]) ++ (liE 86 (C) ++ mdE 60 61 N M 63 R h a s RS RO RK RB)))) 80 (v) (L') 1400) :
    RunsTo Tryd.prog 69 (headOf Tryd.f69 1) (envAt Tryd.f69.ntmps ([(0, vP 60), (3, vL 85 2 (L).length), (4, vN 0), (14, vL 86 1 (C).length), (15, vN (C).length), (16, vN (i : Nat))])) (Sx.look ([] ++ (eL 85 (L) ++ (liE 86 (C) ++ mdE 60 61 N M 63 R h a s RS RO RK RB)))) 80 (v) (L') 1400 := by
  have hw : IntKind.i64.wrap ((i : Int) + 1) = ((i + 1 : Nat) : Int) := by rw [wr64 (by omega)]; rfl
  refine runs_more baseR (More.of (rR0_p0 N M R h a s RS RO RK RB L C i x) ⟨?oo, rfl, ?rr⟩) (by kernel_rfl) (by kernel_rfl) rfl (gtL (by decide)) (by decide) next
  case oo =>
    clear next
    refine (okc ?_ (okc ?_ (okc ?_ (okc ?_ (okc ?_ (okc ?_ okn))))))
    all_goals ((try simp (disch := omega) only [SS, hw]); first | done | omega | assumption | (simp (disch := omega) only [SS, hw] at *; first | done | omega | assumption) | (simp_all; done))
  case rr =>
    clear next
    simp (disch := omega) only [SS, hw, hx, Go.Sx.sum, List.length_append, List.length_cons, List.length_nil, Nat.zero_add]
    repeat' apply And.intro
    all_goals first | exact True.intro | with_reducible rfl | omega | exact pV_app _ _ _ rfl | exact pO_app _ _ _ rfl | (intro k hk; first | exact pV_app _ _ _ rfl k hk | exact pO_app _ _ _ rfl k hk | exact pO_app _ _ _ hx k hk) | exact pO_app _ _ _ hx | (intros; rfl) | (simp_all; done)

theorem rX0_p0 (N M R : Nat) (h a s : Int) (RS RO RK : Ix → Int) (RB : Ix → Bool) (L : List (Int × Int)) (C : List Int) (i : Nat) (x : Int) :
    isMore (evTill Tryd.prog sumsR 300 (behind Tryd.f69 0) 900 69 (headOf Tryd.f69 1) (envAt Tryd.f69.ntmps ([(0, vP 60), (3, vL 85 2 (L).length), (4, vN 0), (14, vL 86 1 (C).length), (15, vN (C).length), (16, vN (i : Nat))])) ([] ++ (eL 85 (L) ++ (liE 86 (C) ++ mdE 60 61 N M 63 R h a s RS RO RK RB))) ⟨[.s false], 120⟩) (moreP (headOf Tryd.f69 0) ([]) Tryd.f69.ntmps ([(0, vP 60), (3, vL 85 2 (L).length), (4, vN 1)]) (eL 85 (L) ++ mdE 60 61 N M 63 R h a s RS RO RK RB) 1400) =
    (OkL [(decide ((↑i : Int) < (↑C.length : Int)), false)] ∧ headOf Tryd.f69 (0 : Nat) = headOf Tryd.f69 (0 : Nat) ∧ ((0 : Nat) = (0 : Nat) ∧ ((0 : Nat) = (0 : Nat) ∧ L.length = L.length) ∧ (1 : Int) = IntKind.i64.wrap ((0 : Int) + (1 : Int))) ∧ (L.length = L.length ∧ (∀ (i : Nat), i < L.length → pV L [i] = pV L [i]) ∧ ∀ (i : Nat), i < L.length → pO L [i] = pO L [i]) ∧ (((0 : Nat) = (0 : Nat) ∧ N = N) ∧ ((0 : Nat) = (0 : Nat) ∧ M = M) ∧ ((0 : Nat) = (0 : Nat) ∧ R = R) ∧ h = h ∧ a = a ∧ s = s) ∧ R = R ∧ (∀ (i : Nat), i < R → RS [i] = RS [i]) ∧ (∀ (i : Nat), i < R → RO [i] = RO [i]) ∧ (∀ (i : Nat), i < R → RK [i] = RK [i]) ∧ ∀ (i : Nat), i < R → RB [i] = RB [i]) := by kernel_rfl

set_option maxHeartbeats 4000000 in
theorem rX0 (N M R : Nat) (h a s : Int) (RS RO RK : Ix → Int) (RB : Ix → Bool) (L : List (Int × Int)) (C : List Int) (i : Nat) (x : Int) (hi : i = C.length) (hC : C.length ≤ 1000) (v : SV) (L' : HF) (next : RunsTo Tryd.prog 69 (headOf Tryd.f69 0) (envAt Tryd.f69.ntmps ([(0, vP 60), (3, vL 85 2 (L).length), (4, vN 1)])) (Sx.look ([] ++ (eL 85 (L) ++ mdE 60 61 N M 63 R h a s RS RO RK RB))) 80 (v) (L') 1400) :
    RunsTo Tryd.prog 69 (headOf Tryd.f69 1) (envAt Tryd.f69.ntmps ([(0, vP 60), (3, vL 85 2 (L).length), (4, vN 0), (14, vL 86 1 (C).length), (15, vN (C).length), (16, vN (i : Nat))])) (Sx.look ([] ++ (eL 85 (L) ++ (liE 86 (C) ++ mdE 60 61 N M 63 R h a s RS RO RK RB)))) 80 (v) (L') 1400 := by
  refine runs_more baseR (More.of (rX0_p0 N M R h a s RS RO RK RB L C i x) ⟨?oo, rfl, ?rr⟩) (by kernel_rfl) (by kernel_rfl) rfl (gtL (by decide)) (by decide) next
  case oo =>
    clear next
    refine (okc ?_ okn)
    all_goals ((try simp (disch := omega) only [SS]); first | done | omega | assumption | (simp (disch := omega) only [SS] at *; first | done | omega | assumption) | (simp_all; done))
  case rr =>
    clear next
    try simp (disch := omega) only [SS]
    repeat' apply And.intro
    all_goals first | exact True.intro | with_reducible rfl | omega | (intros; first | exact True.intro | with_reducible rfl | omega | (simp_all; done)) | (simp_all; done) | rfl

theorem rS1_p0 (N M R : Nat) (h a s : Int) (RS RO RK : Ix → Int) (RB : Ix → Bool) (L : List (Int × Int)) :
    isMore (evTill Tryd.prog sumsR 300 (behind Tryd.f69 1) 900 69 (headOf Tryd.f69 0) (envAt Tryd.f69.ntmps ([(0, vP 60), (3, vL 85 2 (L).length), (4, vN 1)])) ([] ++ (eL 85 (L) ++ mdE 60 61 N M 63 R h a s RS RO RK RB)) ⟨[.t, .s true, .s true], 120⟩) (moreP (headOf Tryd.f69 1) ([((86 : Nat), Rn.to (141 : Nat))]) Tryd.f69.ntmps ([(0, vP 60), (3, vL 85 2 (L).length), (4, vN 1), (14, vL 86 1 (onR RS RO RK R 1 256).length), (15, vN (onR RS RO RK R 1 256).length), (16, vN (0 : Nat))]) (eL 85 (L) ++ (liE 86 (onR RS RO RK R 1 256) ++ mdE 60 61 N M 63 R h a s RS RO RK RB)) 1400) =
    (OkL [(R.beq R, true), (decide (R ≤ (100 : Nat)), true)] ∧ headOf Tryd.f69 (1 : Nat) = headOf Tryd.f69 (1 : Nat) ∧ ((0 : Nat) = (0 : Nat) ∧ ((0 : Nat) = (0 : Nat) ∧ L.length = L.length) ∧ (1 : Int) = (1 : Int) ∧ ((0 : Nat) = (0 : Nat) ∧ (onR RS RO RK R (1 : Int) (256 : Nat)).length = (onR RS RO RK R (1 : Int) (256 : Nat)).length) ∧ (↑(onR RS RO RK R (1 : Int) (256 : Nat)).length : Int) = (↑(onR RS RO RK R (1 : Int) (256 : Nat)).length : Int) ∧ (↑(0 : Nat) : Int) = (0 : Int)) ∧ (L.length = L.length ∧ (∀ (i : Nat), i < L.length → pV L [i] = pV L [i]) ∧ ∀ (i : Nat), i < L.length → pO L [i] = pO L [i]) ∧ ((onR RS RO RK R (1 : Int) (256 : Nat)).length = (onR RS RO RK R (1 : Int) (256 : Nat)).length ∧ ∀ (i : Nat), i < (onR RS RO RK R (1 : Int) (256 : Nat)).length → liI (onR RS RO RK R (1 : Int) (256 : Nat)) [i] = liI (onR RS RO RK R (1 : Int) (256 : Nat)) [i]) ∧ (((0 : Nat) = (0 : Nat) ∧ N = N) ∧ ((0 : Nat) = (0 : Nat) ∧ M = M) ∧ ((0 : Nat) = (0 : Nat) ∧ R = R) ∧ h = h ∧ a = a ∧ s = s) ∧ R = R ∧ (∀ (i : Nat), i < R → RS [i] = RS [i]) ∧ (∀ (i : Nat), i < R → RO [i] = RO [i]) ∧ (∀ (i : Nat), i < R → RK [i] = RK [i]) ∧ ∀ (i : Nat), i < R → RB [i] = RB [i]) := by kernel_rfl

set_option maxHeartbeats 4000000 in
theorem rS1 (N M R : Nat) (h a s : Int) (RS RO RK : Ix → Int) (RB : Ix → Bool) (L : List (Int × Int)) (hR : R ≤ 100) (v : SV) (L' : HF) (next : RunsTo Tryd.prog 69 (headOf Tryd.f69 1) (envAt Tryd.f69.ntmps ([(0, vP 60), (3, vL 85 2 (L).length), (4, vN 1), (14, vL 86 1 (onR RS RO RK R 1 256).length), (15, vN (onR RS RO RK R 1 256).length), (16, vN (0 : Nat))])) (Sx.look ([] ++ (eL 85 (L) ++ (liE 86 (onR RS RO RK R 1 256) ++ mdE 60 61 N M 63 R h a s RS RO RK RB)))) 80 (v) (L') 1400) :
    RunsTo Tryd.prog 69 (headOf Tryd.f69 0) (envAt Tryd.f69.ntmps ([(0, vP 60), (3, vL 85 2 (L).length), (4, vN 1)])) (Sx.look ([] ++ (eL 85 (L) ++ mdE 60 61 N M 63 R h a s RS RO RK RB))) 80 (v) (L') 1400 := by
  refine runs_more baseR (More.of (rS1_p0 N M R h a s RS RO RK RB L) ⟨?oo, rfl, ?rr⟩) (by kernel_rfl) (by kernel_rfl) rfl (gtL (by decide)) (by decide) next
  case oo =>
    clear next
    refine (okc ?_ (okc ?_ okn))
    all_goals ((try simp (disch := omega) only [SS]); first | done | omega | assumption | (simp (disch := omega) only [SS] at *; first | done | omega | assumption) | (simp_all; done))
  case rr =>
    clear next
    try simp (disch := omega) only [SS]
    repeat' apply And.intro
    all_goals first | exact True.intro | with_reducible rfl | omega | (intros; first | exact True.intro | with_reducible rfl | omega | (simp_all; done)) | (simp_all; done) | rfl

theorem rR1_p0 (N M R : Nat) (h a s : Int) (RS RO RK : Ix → Int) (RB : Ix → Bool) (L : List (Int × Int)) (C : List Int) (i : Nat) (x : Int) :
    isMore (evTill Tryd.prog sumsR 300 (behind Tryd.f69 1) 900 69 (headOf Tryd.f69 1) (envAt Tryd.f69.ntmps ([(0, vP 60), (3, vL 85 2 (L).length), (4, vN 1), (14, vL 86 1 (C).length), (15, vN (C).length), (16, vN (i : Nat))])) ([] ++ (eL 85 (L) ++ (liE 86 (C) ++ mdE 60 61 N M 63 R h a s RS RO RK RB))) ⟨[.s true, .s true, .s true, .s true, .t, .s true, .s true], 120⟩) (moreP (headOf Tryd.f69 1) ([((85 : Nat), Rn.to (121 : Nat))]) Tryd.f69.ntmps ([(0, vP 60), (3, vL 85 2 (L ++ [(253, x)]).length), (4, vN 1), (14, vL 86 1 (C).length), (15, vN (C).length), (16, vN (i + 1 : Nat))]) (eL 85 (L ++ [(253, x)]) ++ (liE 86 (C) ++ mdE 60 61 N M 63 R h a s RS RO RK RB)) 1400) =
    (OkL [(decide ((↑i : Int) < (↑C.length : Int)), true), (decide ((0 : Int) ≤ (↑i : Int) ∧ (↑i : Int) < (↑C.length : Int)), true), (((0 : Nat) + (↑i : Int).toNat).blt C.length, true), (((0 : Nat) + (↑i : Int).toNat).blt C.length, true), (((0 : Nat) + L.length).ble L.length, true), (decide (((2 : Nat) * (L.length + (1 : Nat)) + (192 : Nat)) * (16 : Nat) ≤ (281474976710656 : Nat)), true)] ∧ headOf Tryd.f69 (1 : Nat) = headOf Tryd.f69 (1 : Nat) ∧ ((0 : Nat) = (0 : Nat) ∧ ((0 : Nat) = (0 : Nat) ∧ (L ++ [((253 : Int), x)]).length = L.length + (1 : Nat)) ∧ (1 : Int) = (1 : Int) ∧ ((0 : Nat) = (0 : Nat) ∧ C.length = C.length) ∧ (↑C.length : Int) = (↑C.length : Int) ∧ (↑(i + (1 : Nat)) : Int) = IntKind.i64.wrap ((↑i : Int) + (1 : Int))) ∧ ((L ++ [((253 : Int), x)]).length = L.length + (1 : Nat) ∧ (∀ (i : Nat), i < (L ++ [((253 : Int), x)]).length → pV (L ++ [((253 : Int), x)]) [i] = appF L.length (0 : Nat) (pV L) (fun js => IntKind.i64.wrap ((251 : Int) + IntKind.i64.wrap ((2 : Int) * (1 : Int)))) [i]) ∧ ∀ (i_1 : Nat), i_1 < (L ++ [((253 : Int), x)]).length → pO (L ++ [((253 : Int), x)]) [i_1] = appF L.length (0 : Nat) (pO L) (fun js => liI C (((0 : Nat) + (↑i : Int).toNat) :: List.tail (subIx (sum []) js))) [i_1]) ∧ (C.length = C.length ∧ ∀ (i : Nat), i < C.length → liI C [i] = liI C [i]) ∧ (((0 : Nat) = (0 : Nat) ∧ N = N) ∧ ((0 : Nat) = (0 : Nat) ∧ M = M) ∧ ((0 : Nat) = (0 : Nat) ∧ R = R) ∧ h = h ∧ a = a ∧ s = s) ∧ R = R ∧ (∀ (i : Nat), i < R → RS [i] = RS [i]) ∧ (∀ (i : Nat), i < R → RO [i] = RO [i]) ∧ (∀ (i : Nat), i < R → RK [i] = RK [i]) ∧ ∀ (i : Nat), i < R → RB [i] = RB [i]) := by kernel_rfl

set_option maxHeartbeats 4000000 in
theorem rR1 (N M R : Nat) (h a s : Int) (RS RO RK : Ix → Int) (RB : Ix → Bool) (L : List (Int × Int)) (C : List Int) (i : Nat) (x : Int) (hi : i < C.length) (hC : C.length ≤ 1000) (hL : L.length ≤ 10000) (hx : liI C [i] = x)  (v : SV) (L' : HF) (next : RunsTo Tryd.prog 69 (headOf Tryd.f69 1) (envAt Tryd.f69.ntmps ([(0, vP 60), (3, vL 85 2 (L ++ [(253, x)]).length), (4, vN 1), (14, vL 86 1 (C).length), (15, vN (C).length), (16, vN (i + 1 : Nat))])) (Sx.look ([] ++ (eL 85 (L ++ [(253, x)]) ++ (liE 86 (C) ++ mdE 60 61 N M 63 R h a s RS RO RK RB)))) 80 (v) (L') 1400) :
    RunsTo Tryd.prog 69 (headOf Tryd.f69 1) (envAt Tryd.f69.ntmps ([(0, vP 60), (3, vL 85 2 (L).length), (4, vN 1), (14, vL 86 1 (C).length), (15, vN (C).length), (16, vN (i : Nat))])) (Sx.look ([] ++ (eL 85 (L) ++ (liE 86 (C) ++ mdE 60 61 N M 63 R h a s RS RO RK RB)))) 80 (v) (L') 1400 := by
  have hw : IntKind.i64.wrap ((i : Int) + 1) = ((i + 1 : Nat) : Int) := by rw [wr64 (by omega)]; rfl
  refine runs_more baseR (More.of (rR1_p0 N M R h a s RS RO RK RB L C i x) ⟨?oo, rfl, ?rr⟩) (by kernel_rfl) (by kernel_rfl) rfl (gtL (by decide)) (by decide) next
  case oo =>
    clear next
    refine (okc ?_ (okc ?_ (okc ?_ (okc ?_ (okc ?_ (okc ?_ okn))))))
    all_goals ((try simp (disch := omega) only [SS, hw]); first | done | omega | assumption | (simp (disch := omega) only [SS, hw] at *; first | done | omega | assumption) | (simp_all; done))
  case rr =>
    clear next
    simp (disch := omega) only [SS, hw, hx, Go.Sx.sum, List.length_append, List.length_cons, List.length_nil, Nat.zero_add]
    repeat' apply And.intro
    all_goals first | exact True.intro | with_reducible rfl | omega | exact pV_app _ _ _ rfl | exact pO_app _ _ _ rfl | (intro k hk; first | exact pV_app _ _ _ rfl k hk | exact pO_app _ _ _ rfl k hk | exact pO_app _ _ _ hx k hk) | exact pO_app _ _ _ hx | (intros; rfl) | (simp_all; done)

theorem rX1_p0 (N M R : Nat) (h a s : Int) (RS RO RK : Ix → Int) (RB : Ix → Bool) (L : List (Int × Int)) (C : List Int) (i : Nat) (x : Int) :
    isMore (evTill Tryd.prog sumsR 300 (behind Tryd.f69 0) 900 69 (headOf Tryd.f69 1) (envAt Tryd.f69.ntmps ([(0, vP 60), (3, vL 85 2 (L).length), (4, vN 1), (14, vL 86 1 (C).length), (15, vN (C).length), (16, vN (i : Nat))])) ([] ++ (eL 85 (L) ++ (liE 86 (C) ++ mdE 60 61 N M 63 R h a s RS RO RK RB))) ⟨[.s false], 120⟩) (moreP (headOf Tryd.f69 0) ([]) Tryd.f69.ntmps ([(0, vP 60), (3, vL 85 2 (L).length), (4, vN 2)]) (eL 85 (L) ++ mdE 60 61 N M 63 R h a s RS RO RK RB) 1400) =
    (OkL [(decide ((↑i : Int) < (↑C.length : Int)), false)] ∧ headOf Tryd.f69 (0 : Nat) = headOf Tryd.f69 (0 : Nat) ∧ ((0 : Nat) = (0 : Nat) ∧ ((0 : Nat) = (0 : Nat) ∧ L.length = L.length) ∧ (2 : Int) = IntKind.i64.wrap ((1 : Int) + (1 : Int))) ∧ (L.length = L.length ∧ (∀ (i : Nat), i < L.length → pV L [i] = pV L [i]) ∧ ∀ (i : Nat), i < L.length → pO L [i] = pO L [i]) ∧ (((0 : Nat) = (0 : Nat) ∧ N = N) ∧ ((0 : Nat) = (0 : Nat) ∧ M = M) ∧ ((0 : Nat) = (0 : Nat) ∧ R = R) ∧ h = h ∧ a = a ∧ s = s) ∧ R = R ∧ (∀ (i : Nat), i < R → RS [i] = RS [i]) ∧ (∀ (i : Nat), i < R → RO [i] = RO [i]) ∧ (∀ (i : Nat), i < R → RK [i] = RK [i]) ∧ ∀ (i : Nat), i < R → RB [i] = RB [i]) := by kernel_rfl

set_option maxHeartbeats 4000000 in
theorem rX1 (N M R : Nat) (h a s : Int) (RS RO RK : Ix → Int) (RB : Ix → Bool) (L : List (Int × Int)) (C : List Int) (i : Nat) (x : Int) (hi : i = C.length) (hC : C.length ≤ 1000) (v : SV) (L' : HF) (next : RunsTo Tryd.prog 69 (headOf Tryd.f69 0) (envAt Tryd.f69.ntmps ([(0, vP 60), (3, vL 85 2 (L).length), (4, vN 2)])) (Sx.look ([] ++ (eL 85 (L) ++ mdE 60 61 N M 63 R h a s RS RO RK RB))) 80 (v) (L') 1400) :
    RunsTo Tryd.prog 69 (headOf Tryd.f69 1) (envAt Tryd.f69.ntmps ([(0, vP 60), (3, vL 85 2 (L).length), (4, vN 1), (14, vL 86 1 (C).length), (15, vN (C).length), (16, vN (i : Nat))])) (Sx.look ([] ++ (eL 85 (L) ++ (liE 86 (C) ++ mdE 60 61 N M 63 R h a s RS RO RK RB)))) 80 (v) (L') 1400 := by
  refine runs_more baseR (More.of (rX1_p0 N M R h a s RS RO RK RB L C i x) ⟨?oo, rfl, ?rr⟩) (by kernel_rfl) (by kernel_rfl) rfl (gtL (by decide)) (by decide) next
  case oo =>
    clear next
    refine (okc ?_ okn)
    all_goals ((try simp (disch := omega) only [SS]); first | done | omega | assumption | (simp (disch := omega) only [SS] at *; first | done | omega | assumption) | (simp_all; done))
  case rr =>
    clear next
    try simp (disch := omega) only [SS]
    repeat' apply And.intro
    all_goals first | exact True.intro | with_reducible rfl | omega | (intros; first | exact True.intro | with_reducible rfl | omega | (simp_all; done)) | (simp_all; done) | rfl

theorem rE_p0 (N M R : Nat) (h a s : Int) (RS RO RK : Ix → Int) (RB : Ix → Bool) (L : List (Int × Int)) :
    isEnd (evTill Tryd.prog sumsR 300 (99) 900 69 (headOf Tryd.f69 0) (envAt Tryd.f69.ntmps ([(0, vP 60), (3, vL 85 2 (L).length), (4, vN 2)])) ([] ++ (eL 85 (L) ++ mdE 60 61 N M 63 R h a s RS RO RK RB)) ⟨[.f], 120⟩) (endP ([((101 : Nat), Rn.to (85 : Nat))]) (vL 101 2 L.length) (eL 101 L) 1400) =
    (OkL [] ∧ ((0 : Nat) = (0 : Nat) ∧ L.length = L.length) ∧ L.length = L.length ∧ (∀ (i : Nat), i < L.length → pV L [i] = pV L [i]) ∧ ∀ (i : Nat), i < L.length → pO L [i] = pO L [i]) := by kernel_rfl

set_option maxHeartbeats 4000000 in
theorem rE (N M R : Nat) (h a s : Int) (RS RO RK : Ix → Int) (RB : Ix → Bool) (L : List (Int × Int))  :
    RunsTo Tryd.prog 69 (headOf Tryd.f69 0) (envAt Tryd.f69.ntmps ([(0, vP 60), (3, vL 85 2 (L).length), (4, vN 2)])) (Sx.look ([] ++ (eL 85 (L) ++ mdE 60 61 N M 63 R h a s RS RO RK RB))) 80 (vL 101 2 L.length) (Sx.look (eL 101 L)) 1400 := by
  refine runs_last baseR (Sx.Ends.of (rE_p0 N M R h a s RS RO RK RB L) ⟨?oo, ?rr⟩) (by kernel_rfl) rfl (gtL (by decide)) (by decide)
  case oo =>
    refine okn
    all_goals ((try simp (disch := omega) only [SS]); first | done | omega | assumption | (simp (disch := omega) only [SS] at *; first | done | omega | assumption) | (simp_all; done))
  case rr =>
    try simp (disch := omega) only [SS]
    repeat' apply And.intro
    all_goals first | exact True.intro | with_reducible rfl | omega | (intros; first | exact True.intro | with_reducible rfl | omega | (simp_all; done)) | (simp_all; done) | rfl

theorem rL1 (N M R : Nat) (h a s : Int) (RS RO RK : Ix → Int) (RB : Ix → Bool) (C : List Int) (hC : C.length ≤ 1000) : ∀ (k i : Nat) (L : List (Int × Int)), i + k = C.length → L.length + k ≤ 10000 → RunsTo Tryd.prog 69 (headOf Tryd.f69 1) (envAt Tryd.f69.ntmps ([(0, vP 60), (3, vL 85 2 (L).length), (4, vN 1), (14, vL 86 1 (C).length), (15, vN (C).length), (16, vN (i : Nat))])) (Sx.look ([] ++ (eL 85 (L) ++ (liE 86 (C) ++ mdE 60 61 N M 63 R h a s RS RO RK RB)))) 80 (vL 101 2 (L ++ told 253 (C.drop i)).length) (Sx.look (eL 101 (L ++ told 253 (C.drop i)))) 1400 := by
  intro k
  induction k with
  | zero => intro i L hi hl; rw [told_end 253 C (by omega), List.append_nil]; exact rX1 N M R h a s RS RO RK RB L C i 0 (by omega) hC _ _ (rE N M R h a s RS RO RK RB L)
  | succ k ih =>
    intro i L hi hl
    rw [told_drop 253 C (by omega), show L ++ (253, liI C [i]) :: told 253 (C.drop (i + 1)) = (L ++ [(253, liI C [i])]) ++ told 253 (C.drop (i + 1)) by simp]
    exact rR1 N M R h a s RS RO RK RB L C i _ (by omega) hC (by omega) rfl _ _ (ih (i + 1) _ (by omega) (by simp; omega))
theorem rL0 (N M R : Nat) (h a s : Int) (RS RO RK : Ix → Int) (RB : Ix → Bool) (C : List Int) (hC : C.length ≤ 1000) (hR : R ≤ 100) : ∀ (k i : Nat) (L : List (Int × Int)), i + k = C.length → L.length + k ≤ 5000 → RunsTo Tryd.prog 69 (headOf Tryd.f69 1) (envAt Tryd.f69.ntmps ([(0, vP 60), (3, vL 85 2 (L).length), (4, vN 0), (14, vL 86 1 (C).length), (15, vN (C).length), (16, vN (i : Nat))])) (Sx.look ([] ++ (eL 85 (L) ++ (liE 86 (C) ++ mdE 60 61 N M 63 R h a s RS RO RK RB)))) 80 (vL 101 2 ((L ++ told 251 (C.drop i)) ++ told 253 (onR RS RO RK R 1 256)).length) (Sx.look (eL 101 ((L ++ told 251 (C.drop i)) ++ told 253 (onR RS RO RK R 1 256)))) 1400 := by
  intro k
  induction k with
  | zero => intro i L hi hl; rw [told_end 251 C (by omega), List.append_nil]
            have hm := onR_len (RS := RS) (RO := RO) (RK := RK) (R := R) (sd := 1) 256
            have q := rL1 N M R h a s RS RO RK RB (onR RS RO RK R 1 256) (by omega) (onR RS RO RK R 1 256).length 0 L (by omega) (by omega)
            rw [List.drop_zero] at q
            exact rX0 N M R h a s RS RO RK RB L C i 0 (by omega) hC _ _ (rS1 N M R h a s RS RO RK RB L hR _ _ q)
  | succ k ih =>
    intro i L hi hl
    rw [told_drop 251 C (by omega), show L ++ (251, liI C [i]) :: told 251 (C.drop (i + 1)) = (L ++ [(251, liI C [i])]) ++ told 251 (C.drop (i + 1)) by simp]
    exact rR0 N M R h a s RS RO RK RB L C i _ (by omega) hC (by omega) rfl _ _ (ih (i + 1) _ (by omega) (by simp; omega))
theorem rI (N M R : Nat) (h a s : Int) (RS RO RK : Ix → Int) (RB : Ix → Bool) (hR : R ≤ 100) : RunsTo Tryd.prog 69 [.code (bodyOf Tryd.f69)] (envOf [vP 60] Tryd.f69.ntmps) (Sx.look ([] ++ (mdE 60 61 N M 63 R h a s RS RO RK RB))) 80 (vL 101 2 (told 251 (onR RS RO RK R 0 256) ++ told 253 (onR RS RO RK R 1 256)).length) (Sx.look (eL 101 (told 251 (onR RS RO RK R 0 256) ++ told 253 (onR RS RO RK R 1 256)))) 1400 := by
  have hm := onR_len (RS := RS) (RO := RO) (RK := RK) (R := R) (sd := 0) 256
  have q := rL0 N M R h a s RS RO RK RB (onR RS RO RK R 0 256) (by omega) hR (onR RS RO RK R 0 256).length 0 [] (by omega) (by simp; omega)
  rw [List.drop_zero, List.nil_append] at q
  exact r0 N M R h a s RS RO RK RB _ _ (rS0 N M R h a s RS RO RK RB [] hR _ _ q)
def rP : PC := { args := [.v (.vp 60)], heap := mdP 60 61 63 0, gs := [], G := 25, tp := 223, n := 80, n' := 1400, cond := fun e => decide (eN e 2 ≤ 100), v := fun e => vL 101 2 (told 251 (onR (eI e 6) (eI e 7) (eI e 8) (eN e 2) 0 256) ++ told 253 (onR (eI e 6) (eI e 7) (eI e 8) (eN e 2) 1 256)).length, post := fun e => eL 101 (told 251 (onR (eI e 6) (eI e 7) (eI e 8) (eN e 2) 0 256) ++ told 253 (onR (eI e 6) (eI e 7) (eI e 8) (eN e 2) 1 256)) }
theorem rP_pc : PC.Runs Tryd.prog 69 Tryd.f69 (bodyOf Tryd.f69) rP := ⟨Tryd.func69, by kernel_rfl, (fun g hg => by first | (cases hg; done) | (revert g; show ∀ g ∈ ([] : List Nat), g < 25; decide)), fun e H hc => by
  have hc : (decide (eN e 2 ≤ 100)) = true := hc
  try simp only [Bool.and_eq_true, decide_eq_true_eq, Nat.beq_eq] at hc
  exact rI (eN e 0) (eN e 1) (eN e 2) (eI e 3 []) (eI e 4 []) (eI e 5 []) (eI e 6) (eI e 7) (eI e 8) (eB e 9) hc⟩
theorem ofStart_p0 (N : Nat) (V O : Ix → Int) :
    isMore (evTill Tryd.prog [] 300 (behind Tryd.f54 0) 900 54 [.code (bodyOf Tryd.f54)] (envOf [vL 60 2 N] Tryd.f54.ntmps) (eE 60 N V O ++ ([])) ⟨[], 80⟩) (moreP (headOf Tryd.f54 0) ([((101 : Nat), Rn.to (80 : Nat))]) Tryd.f54.ntmps ([(3, vL 101 2 (0)), (7, vL 60 2 N), (8, vN N), (9, vN (0 : Nat))]) (eW 101 (0) V O) 140) =
    (OkL [] ∧ headOf Tryd.f54 (0 : Nat) = headOf Tryd.f54 (0 : Nat) ∧ (((0 : Nat) = (0 : Nat) ∧ (0 : Nat) = (0 : Nat)) ∧ ((0 : Nat) = (0 : Nat) ∧ N = N) ∧ (↑N : Int) = (↑N : Int) ∧ (↑(0 : Nat) : Int) = (0 : Int)) ∧ (0 : Nat) = (0 : Nat) ∧ (∀ (i : Nat), i < (0 : Nat) → V [i] = (0 : Int)) ∧ ∀ (i : Nat), i < (0 : Nat) → O [i] = (0 : Int)) := by kernel_rfl

set_option maxHeartbeats 4000000 in
theorem ofStart (N : Nat) (V O : Ix → Int)  (v : SV) (L' : HF) (next : RunsTo Tryd.prog 54 (headOf Tryd.f54 0) (envAt Tryd.f54.ntmps ([(3, vL 101 2 (0)), (7, vL 60 2 N), (8, vN N), (9, vN (0 : Nat))])) (Sx.look (eE 60 N V O ++ (eW 101 (0) V O))) 80 (v) (L') 140) :
    RunsTo Tryd.prog 54 [.code (bodyOf Tryd.f54)] (envOf [vL 60 2 N] Tryd.f54.ntmps) (Sx.look (eE 60 N V O ++ ([]))) 80 (v) (L') 140 := by
  refine runs_more baseO (More.of (ofStart_p0 N V O) ⟨?oo, rfl, ?rr⟩) (by kernel_rfl) (by kernel_rfl) rfl (gtL (by decide)) (by decide) next
  case oo =>
    clear next
    refine okn
    all_goals ((try simp (disch := omega) only [SS]); first | done | omega | assumption | (simp (disch := omega) only [SS] at *; first | done | omega | assumption) | (simp_all; done))
  case rr =>
    clear next
    try simp (disch := omega) only [SS]
    repeat' apply And.intro
    all_goals first | exact True.intro | with_reducible rfl | omega | (intros; first | exact True.intro | with_reducible rfl | omega | (simp_all; done)) | (simp_all; done) | rfl

theorem ofRound_p0 (N : Nat) (V O : Ix → Int) (i : Nat) :
    isMore (evTill Tryd.prog [] 300 (behind Tryd.f54 0) 900 54 (headOf Tryd.f54 0) (envAt Tryd.f54.ntmps ([(3, vL 101 2 (i)), (7, vL 60 2 N), (8, vN N), (9, vN (i : Nat))])) (eE 60 N V O ++ (eW 101 (i) V O)) ⟨[.s true, .s true, .s true, .s true, .t, .s true, .s true], 110⟩) (moreP (headOf Tryd.f54 0) ([((101 : Nat), Rn.to (112 : Nat))]) Tryd.f54.ntmps ([(3, vL 101 2 (i + 1)), (7, vL 60 2 N), (8, vN N), (9, vN (i + 1 : Nat))]) (eW 101 (i + 1) V O) 140) =
    (OkL [(decide ((↑i : Int) < (↑N : Int)), true), (decide ((0 : Int) ≤ (↑i : Int) ∧ (↑i : Int) < (↑N : Int)), true), (((0 : Nat) + (↑i : Int).toNat).blt N, true), (((0 : Nat) + (↑i : Int).toNat).blt N, true), (((0 : Nat) + i).ble i, true), (decide (((2 : Nat) * (i + (1 : Nat)) + (192 : Nat)) * (16 : Nat) ≤ (281474976710656 : Nat)), true)] ∧ headOf Tryd.f54 (0 : Nat) = headOf Tryd.f54 (0 : Nat) ∧ (((0 : Nat) = (0 : Nat) ∧ i + (1 : Nat) = i + (1 : Nat)) ∧ ((0 : Nat) = (0 : Nat) ∧ N = N) ∧ (↑N : Int) = (↑N : Int) ∧ (↑(i + (1 : Nat)) : Int) = IntKind.i64.wrap ((↑i : Int) + (1 : Int))) ∧ i + (1 : Nat) = i + (1 : Nat) ∧ (∀ (i_1 : Nat), i_1 < i + (1 : Nat) → V [i_1] = appF i (0 : Nat) V (fun js => V (((0 : Nat) + (↑i : Int).toNat) :: List.tail (subIx (sum []) js))) [i_1]) ∧ ∀ (i_1 : Nat), i_1 < i + (1 : Nat) → O [i_1] = appF i (0 : Nat) O (fun js => O (((0 : Nat) + (↑i : Int).toNat) :: List.tail (subIx (sum []) js))) [i_1]) := by kernel_rfl

set_option maxHeartbeats 4000000 in
theorem ofRound (N : Nat) (V O : Ix → Int) (i : Nat) (hi : i < N) (hN : N ≤ 1000) (v : SV) (L' : HF) (next : RunsTo Tryd.prog 54 (headOf Tryd.f54 0) (envAt Tryd.f54.ntmps ([(3, vL 101 2 (i + 1)), (7, vL 60 2 N), (8, vN N), (9, vN (i + 1 : Nat))])) (Sx.look (eE 60 N V O ++ (eW 101 (i + 1) V O))) 80 (v) (L') 140) :
    RunsTo Tryd.prog 54 (headOf Tryd.f54 0) (envAt Tryd.f54.ntmps ([(3, vL 101 2 (i)), (7, vL 60 2 N), (8, vN N), (9, vN (i : Nat))])) (Sx.look (eE 60 N V O ++ (eW 101 (i) V O))) 80 (v) (L') 140 := by
  have hw : IntKind.i64.wrap ((i : Int) + 1) = ((i + 1 : Nat) : Int) := by rw [wr64 (by omega)]; rfl
  refine runs_more baseO (More.of (ofRound_p0 N V O i) ⟨?oo, rfl, ?rr⟩) (by kernel_rfl) (by kernel_rfl) rfl (gtL (by decide)) (by decide) next
  case oo =>
    clear next
    refine (okc ?_ (okc ?_ (okc ?_ (okc ?_ (okc ?_ (okc ?_ okn))))))
    all_goals ((try simp (disch := omega) only [SS, hw]); first | done | omega | assumption | (simp (disch := omega) only [SS, hw] at *; first | done | omega | assumption) | (simp_all; done))
  case rr =>
    clear next
    simp (disch := omega) only [SS, hw, Go.Sx.sum]
    repeat' apply And.intro
    all_goals first | exact True.intro | with_reducible rfl | omega | exact app_one _ _ _ rfl | (intro k hk; exact app_one _ _ _ rfl k hk) | (intros; rfl) | (simp_all; done)

theorem ofEnd_p0 (N : Nat) (V O : Ix → Int) (i : Nat) :
    isEnd (evTill Tryd.prog [] 300 (99) 900 54 (headOf Tryd.f54 0) (envAt Tryd.f54.ntmps ([(3, vL 101 2 (i)), (7, vL 60 2 N), (8, vN N), (9, vN (i : Nat))])) (eE 60 N V O ++ (eW 101 (i) V O)) ⟨[.s false], 110⟩) (endP ([]) (vL 101 2 N) (eW 101 N V O) 140) =
    (OkL [(decide ((↑i : Int) < (↑N : Int)), false)] ∧ ((0 : Nat) = (0 : Nat) ∧ N = i) ∧ N = i ∧ (∀ (i : Nat), i < N → V [i] = V [i]) ∧ ∀ (i : Nat), i < N → O [i] = O [i]) := by kernel_rfl

set_option maxHeartbeats 4000000 in
theorem ofEnd (N : Nat) (V O : Ix → Int) (i : Nat) (hi : i = N) :
    RunsTo Tryd.prog 54 (headOf Tryd.f54 0) (envAt Tryd.f54.ntmps ([(3, vL 101 2 (i)), (7, vL 60 2 N), (8, vN N), (9, vN (i : Nat))])) (Sx.look (eE 60 N V O ++ (eW 101 (i) V O))) 80 (vL 101 2 N) (Sx.look (eW 101 N V O)) 140 := by
  refine runs_last baseO (Sx.Ends.of (ofEnd_p0 N V O i) ⟨?oo, ?rr⟩) (by kernel_rfl) rfl (gtL (by decide)) (by decide)
  case oo =>
    refine (okc ?_ okn)
    all_goals ((try simp (disch := omega) only [SS]); first | done | omega | assumption | (simp (disch := omega) only [SS] at *; first | done | omega | assumption) | (simp_all; done))
  case rr =>
    try simp (disch := omega) only [SS]
    repeat' apply And.intro
    all_goals first | exact True.intro | with_reducible rfl | omega | (intros; first | exact True.intro | with_reducible rfl | omega | (simp_all; done)) | (simp_all; done) | rfl

theorem of2I (N : Nat) (V O : Ix → Int) (hN : N ≤ 1000) : RunsTo Tryd.prog 54 [.code (bodyOf Tryd.f54)] (envOf [vL 60 2 N] Tryd.f54.ntmps) (Sx.look (eE 60 N V O ++ ([]))) 80 (vL 101 2 N) (Sx.look (eW 101 N V O)) 140 := by
  refine ofStart N V O _ _ ?_
  suffices h : ∀ (k i : Nat), i + k = N → RunsTo Tryd.prog 54 (headOf Tryd.f54 0) (envAt Tryd.f54.ntmps ([(3, vL 101 2 (i)), (7, vL 60 2 N), (8, vN N), (9, vN (i : Nat))])) (Sx.look (eE 60 N V O ++ (eW 101 (i) V O))) 80 (vL 101 2 N) (Sx.look (eW 101 N V O)) 140 from h N 0 (by omega)
  intro k
  induction k with
  | zero => intro i hi; exact ofEnd N V O i (by omega)
  | succ k ih => intro i hi; exact ofRound N V O i (by omega) hN _ _ (ih (i + 1) (by omega))
def of2P : PC := { args := [.v (.vl 60 2 0)], heap := [⟨60, false, 2, .ta 0 (.tc (.vi .i64 1) (.tc (.vi .i64 2) .t0))⟩], gs := [], G := 25, tp := 223, n := 80, n' := 140, cond := fun e => decide (eN e 0 ≤ 1000), v := fun e => vL 101 2 (eN e 0), post := fun e => eW 101 (eN e 0) (eI e 1) (eI e 2) }
theorem of2P_pc : PC.Runs Tryd.prog 54 Tryd.f54 (bodyOf Tryd.f54) of2P := ⟨Tryd.func54, by kernel_rfl, (fun g hg => by first | (cases hg; done) | (revert g; show ∀ g ∈ ([] : List Nat), g < 25; decide)), fun e H hc => by
  have hc : (decide (eN e 0 ≤ 1000)) = true := hc
  try simp only [Bool.and_eq_true, decide_eq_true_eq, Nat.beq_eq] at hc
  exact of2I (eN e 0) (eI e 1) (eI e 2) hc⟩
theorem saLen_p0 (N M : Nat) (V O V2 O2 : Ix → Int) :
    isEnd (evTill Tryd.prog [] 300 (99) 900 60 [.code (bodyOf Tryd.f60)] (envOf [vL 60 2 N, vL 61 2 M] Tryd.f60.ntmps) ((eE 60 N V O ++ eE 61 M V2 O2) ++ ([])) ⟨[.s true], 80⟩) (endP ([]) (vB false) ([]) 140) =
    (OkL [((↑N : Int) != (↑M : Int), true)] ∧ false = false ∧ True) := by kernel_rfl

set_option maxHeartbeats 4000000 in
theorem saLen (N M : Nat) (V O V2 O2 : Ix → Int) (h : N ≠ M) :
    RunsTo Tryd.prog 60 [.code (bodyOf Tryd.f60)] (envOf [vL 60 2 N, vL 61 2 M] Tryd.f60.ntmps) (Sx.look ((eE 60 N V O ++ eE 61 M V2 O2) ++ ([]))) 80 (vB false) (Sx.look ([])) 140 := by
  refine runs_last baseO (Sx.Ends.of (saLen_p0 N M V O V2 O2) ⟨?oo, ?rr⟩) (by kernel_rfl) rfl (gtL (by decide)) (by decide)
  case oo =>
    refine (okc ?_ okn)
    all_goals ((try simp (disch := omega) only [SS]); first | done | omega | assumption | (simp (disch := omega) only [SS] at *; first | done | omega | assumption) | (simp_all; done))
  case rr =>
    try simp (disch := omega) only [SS]
    repeat' apply And.intro
    all_goals first | exact True.intro | with_reducible rfl | omega | (intros; first | exact True.intro | with_reducible rfl | omega | (simp_all; done)) | (simp_all; done) | rfl

theorem saStart_p0 (N M : Nat) (V O V2 O2 : Ix → Int) :
    isMore (evTill Tryd.prog [] 300 (behind Tryd.f60 0) 900 60 [.code (bodyOf Tryd.f60)] (envOf [vL 60 2 N, vL 61 2 M] Tryd.f60.ntmps) ((eE 60 N V O ++ eE 61 M V2 O2) ++ ([])) ⟨[.s false], 80⟩) (moreP (headOf Tryd.f60 0) ([]) Tryd.f60.ntmps ([(0, vL 60 2 N), (1, vL 61 2 M), (12, vN N), (13, vN (0 : Nat))]) ([]) 140) =
    (OkL [((↑N : Int) != (↑M : Int), false)] ∧ headOf Tryd.f60 (0 : Nat) = headOf Tryd.f60 (0 : Nat) ∧ (((0 : Nat) = (0 : Nat) ∧ N = N) ∧ ((0 : Nat) = (0 : Nat) ∧ M = M) ∧ (↑N : Int) = (↑N : Int) ∧ (↑(0 : Nat) : Int) = (0 : Int)) ∧ True) := by kernel_rfl

set_option maxHeartbeats 4000000 in
theorem saStart (N M : Nat) (V O V2 O2 : Ix → Int) (h : N = M) (v : SV) (L' : HF) (next : RunsTo Tryd.prog 60 (headOf Tryd.f60 0) (envAt Tryd.f60.ntmps ([(0, vL 60 2 N), (1, vL 61 2 M), (12, vN N), (13, vN (0 : Nat))])) (Sx.look ((eE 60 N V O ++ eE 61 M V2 O2) ++ ([]))) 80 (v) (L') 140) :
    RunsTo Tryd.prog 60 [.code (bodyOf Tryd.f60)] (envOf [vL 60 2 N, vL 61 2 M] Tryd.f60.ntmps) (Sx.look ((eE 60 N V O ++ eE 61 M V2 O2) ++ ([]))) 80 (v) (L') 140 := by
  refine runs_more baseO (More.of (saStart_p0 N M V O V2 O2) ⟨?oo, rfl, ?rr⟩) (by kernel_rfl) (by kernel_rfl) rfl (gtL (by decide)) (by decide) next
  case oo =>
    clear next
    refine (okc ?_ okn)
    all_goals ((try simp (disch := omega) only [SS]); first | done | omega | assumption | (simp (disch := omega) only [SS] at *; first | done | omega | assumption) | (simp_all; done))
  case rr =>
    clear next
    try simp (disch := omega) only [SS]
    repeat' apply And.intro
    all_goals first | exact True.intro | with_reducible rfl | omega | (intros; first | exact True.intro | with_reducible rfl | omega | (simp_all; done)) | (simp_all; done) | rfl

theorem saRound_p0 (N M : Nat) (V O V2 O2 : Ix → Int) (i : Nat) :
    isMore (evTill Tryd.prog [] 300 (behind Tryd.f60 0) 900 60 (headOf Tryd.f60 0) (envAt Tryd.f60.ntmps ([(0, vL 60 2 N), (1, vL 61 2 M), (12, vN N), (13, vN (i : Nat))])) ((eE 60 N V O ++ eE 61 M V2 O2) ++ ([])) ⟨[.s true, .s true, .s true, .s true, .s true, .s true, .s true, .s false], 110⟩) (moreP (headOf Tryd.f60 0) ([]) Tryd.f60.ntmps ([(0, vL 60 2 N), (1, vL 61 2 M), (12, vN N), (13, vN (i + 1 : Nat))]) ([]) 140) =
    (OkL [(decide ((↑i : Int) < (↑N : Int)), true), (decide ((0 : Int) ≤ (↑i : Int) ∧ (↑i : Int) < (↑N : Int)), true), (((0 : Nat) + (↑i : Int).toNat).blt N, true), (((0 : Nat) + (↑i : Int).toNat).blt N, true), (decide ((0 : Int) ≤ (↑i : Int) ∧ (↑i : Int) < (↑M : Int)), true), (((0 : Nat) + (↑i : Int).toNat).blt M, true), (((0 : Nat) + (↑i : Int).toNat).blt M, true), (!(V [(0 : Nat) + (↑i : Int).toNat] == V2 [(0 : Nat) + (↑i : Int).toNat] && (O [(0 : Nat) + (↑i : Int).toNat] == O2 [(0 : Nat) + (↑i : Int).toNat] && true)), false)] ∧ headOf Tryd.f60 (0 : Nat) = headOf Tryd.f60 (0 : Nat) ∧ (((0 : Nat) = (0 : Nat) ∧ N = N) ∧ ((0 : Nat) = (0 : Nat) ∧ M = M) ∧ (↑N : Int) = (↑N : Int) ∧ (↑(i + (1 : Nat)) : Int) = IntKind.i64.wrap ((↑i : Int) + (1 : Int))) ∧ True) := by kernel_rfl

set_option maxHeartbeats 4000000 in
theorem saRound (N M : Nat) (V O V2 O2 : Ix → Int) (i : Nat) (h : N = M) (hi : i < N) (hN : N ≤ 1000) (e1 : V [i] = V2 [i]) (e2 : O [i] = O2 [i]) (v : SV) (L' : HF) (next : RunsTo Tryd.prog 60 (headOf Tryd.f60 0) (envAt Tryd.f60.ntmps ([(0, vL 60 2 N), (1, vL 61 2 M), (12, vN N), (13, vN (i + 1 : Nat))])) (Sx.look ((eE 60 N V O ++ eE 61 M V2 O2) ++ ([]))) 80 (v) (L') 140) :
    RunsTo Tryd.prog 60 (headOf Tryd.f60 0) (envAt Tryd.f60.ntmps ([(0, vL 60 2 N), (1, vL 61 2 M), (12, vN N), (13, vN (i : Nat))])) (Sx.look ((eE 60 N V O ++ eE 61 M V2 O2) ++ ([]))) 80 (v) (L') 140 := by
  have hw : IntKind.i64.wrap ((i : Int) + 1) = ((i + 1 : Nat) : Int) := by rw [wr64 (by omega)]; rfl
  refine runs_more baseO (More.of (saRound_p0 N M V O V2 O2 i) ⟨?oo, rfl, ?rr⟩) (by kernel_rfl) (by kernel_rfl) rfl (gtL (by decide)) (by decide) next
  case oo =>
    clear next
    refine (okc ?_ (okc ?_ (okc ?_ (okc ?_ (okc ?_ (okc ?_ (okc ?_ (okc ?_ okn))))))))
    all_goals ((try simp (disch := omega) only [SS, hw, e1, e2]); first | done | omega | assumption | (simp (disch := omega) only [SS, hw, e1, e2] at *; first | done | omega | assumption) | (simp_all; done))
  case rr =>
    clear next
    try simp (disch := omega) only [SS, hw, e1, e2]
    repeat' apply And.intro
    all_goals first | exact True.intro | with_reducible rfl | omega | (intros; first | exact True.intro | with_reducible rfl | omega | (simp_all; done)) | (simp_all; done) | rfl

theorem saV_p0 (N M : Nat) (V O V2 O2 : Ix → Int) (i : Nat) :
    isEnd (evTill Tryd.prog [] 300 (99) 900 60 (headOf Tryd.f60 0) (envAt Tryd.f60.ntmps ([(0, vL 60 2 N), (1, vL 61 2 M), (12, vN N), (13, vN (i : Nat))])) ((eE 60 N V O ++ eE 61 M V2 O2) ++ ([])) ⟨[.s true, .s true, .s true, .s true, .s true, .s true, .s true, .s true], 110⟩) (endP ([]) (vB false) ([]) 140) =
    (OkL [(decide ((↑i : Int) < (↑N : Int)), true), (decide ((0 : Int) ≤ (↑i : Int) ∧ (↑i : Int) < (↑N : Int)), true), (((0 : Nat) + (↑i : Int).toNat).blt N, true), (((0 : Nat) + (↑i : Int).toNat).blt N, true), (decide ((0 : Int) ≤ (↑i : Int) ∧ (↑i : Int) < (↑M : Int)), true), (((0 : Nat) + (↑i : Int).toNat).blt M, true), (((0 : Nat) + (↑i : Int).toNat).blt M, true), (!(V [(0 : Nat) + (↑i : Int).toNat] == V2 [(0 : Nat) + (↑i : Int).toNat] && (O [(0 : Nat) + (↑i : Int).toNat] == O2 [(0 : Nat) + (↑i : Int).toNat] && true)), true)] ∧ false = false ∧ True) := by kernel_rfl

set_option maxHeartbeats 4000000 in
theorem saV (N M : Nat) (V O V2 O2 : Ix → Int) (i : Nat) (h : N = M) (hi : i < N) (e1 : V [i] ≠ V2 [i]) :
    RunsTo Tryd.prog 60 (headOf Tryd.f60 0) (envAt Tryd.f60.ntmps ([(0, vL 60 2 N), (1, vL 61 2 M), (12, vN N), (13, vN (i : Nat))])) (Sx.look ((eE 60 N V O ++ eE 61 M V2 O2) ++ ([]))) 80 (vB false) (Sx.look ([])) 140 := by
  refine runs_last baseO (Sx.Ends.of (saV_p0 N M V O V2 O2 i) ⟨?oo, ?rr⟩) (by kernel_rfl) rfl (gtL (by decide)) (by decide)
  case oo =>
    refine (okc ?_ (okc ?_ (okc ?_ (okc ?_ (okc ?_ (okc ?_ (okc ?_ (okc ?_ okn))))))))
    all_goals ((try simp (disch := omega) only [SS, e1]); first | done | omega | assumption | (simp (disch := omega) only [SS, e1] at *; first | done | omega | assumption) | (simp_all; done))
  case rr =>
    try simp (disch := omega) only [SS, e1]
    repeat' apply And.intro
    all_goals first | exact True.intro | with_reducible rfl | omega | (intros; first | exact True.intro | with_reducible rfl | omega | (simp_all; done)) | (simp_all; done) | rfl

theorem saO_p0 (N M : Nat) (V O V2 O2 : Ix → Int) (i : Nat) :
    isEnd (evTill Tryd.prog [] 300 (99) 900 60 (headOf Tryd.f60 0) (envAt Tryd.f60.ntmps ([(0, vL 60 2 N), (1, vL 61 2 M), (12, vN N), (13, vN (i : Nat))])) ((eE 60 N V O ++ eE 61 M V2 O2) ++ ([])) ⟨[.s true, .s true, .s true, .s true, .s true, .s true, .s true, .s true], 110⟩) (endP ([]) (vB false) ([]) 140) =
    (OkL [(decide ((↑i : Int) < (↑N : Int)), true), (decide ((0 : Int) ≤ (↑i : Int) ∧ (↑i : Int) < (↑N : Int)), true), (((0 : Nat) + (↑i : Int).toNat).blt N, true), (((0 : Nat) + (↑i : Int).toNat).blt N, true), (decide ((0 : Int) ≤ (↑i : Int) ∧ (↑i : Int) < (↑M : Int)), true), (((0 : Nat) + (↑i : Int).toNat).blt M, true), (((0 : Nat) + (↑i : Int).toNat).blt M, true), (!(V [(0 : Nat) + (↑i : Int).toNat] == V2 [(0 : Nat) + (↑i : Int).toNat] && (O [(0 : Nat) + (↑i : Int).toNat] == O2 [(0 : Nat) + (↑i : Int).toNat] && true)), true)] ∧ false = false ∧ True) := by kernel_rfl

set_option maxHeartbeats 4000000 in
theorem saO (N M : Nat) (V O V2 O2 : Ix → Int) (i : Nat) (h : N = M) (hi : i < N) (e1 : V [i] = V2 [i]) (e2 : O [i] ≠ O2 [i]) :
    RunsTo Tryd.prog 60 (headOf Tryd.f60 0) (envAt Tryd.f60.ntmps ([(0, vL 60 2 N), (1, vL 61 2 M), (12, vN N), (13, vN (i : Nat))])) (Sx.look ((eE 60 N V O ++ eE 61 M V2 O2) ++ ([]))) 80 (vB false) (Sx.look ([])) 140 := by
  refine runs_last baseO (Sx.Ends.of (saO_p0 N M V O V2 O2 i) ⟨?oo, ?rr⟩) (by kernel_rfl) rfl (gtL (by decide)) (by decide)
  case oo =>
    refine (okc ?_ (okc ?_ (okc ?_ (okc ?_ (okc ?_ (okc ?_ (okc ?_ (okc ?_ okn))))))))
    all_goals ((try simp (disch := omega) only [SS, e1, e2]); first | done | omega | assumption | (simp (disch := omega) only [SS, e1, e2] at *; first | done | omega | assumption) | (simp_all; done))
  case rr =>
    try simp (disch := omega) only [SS, e1, e2]
    repeat' apply And.intro
    all_goals first | exact True.intro | with_reducible rfl | omega | (intros; first | exact True.intro | with_reducible rfl | omega | (simp_all; done)) | (simp_all; done) | rfl

theorem saEnd_p0 (N M : Nat) (V O V2 O2 : Ix → Int) (i : Nat) :
    isEnd (evTill Tryd.prog [] 300 (99) 900 60 (headOf Tryd.f60 0) (envAt Tryd.f60.ntmps ([(0, vL 60 2 N), (1, vL 61 2 M), (12, vN N), (13, vN (i : Nat))])) ((eE 60 N V O ++ eE 61 M V2 O2) ++ ([])) ⟨[.s false], 110⟩) (endP ([]) (vB true) ([]) 140) =
    (OkL [(decide ((↑i : Int) < (↑N : Int)), false)] ∧ true = true ∧ True) := by kernel_rfl

set_option maxHeartbeats 4000000 in
theorem saEnd (N M : Nat) (V O V2 O2 : Ix → Int) (i : Nat) (hi : i = N) :
    RunsTo Tryd.prog 60 (headOf Tryd.f60 0) (envAt Tryd.f60.ntmps ([(0, vL 60 2 N), (1, vL 61 2 M), (12, vN N), (13, vN (i : Nat))])) (Sx.look ((eE 60 N V O ++ eE 61 M V2 O2) ++ ([]))) 80 (vB true) (Sx.look ([])) 140 := by
  refine runs_last baseO (Sx.Ends.of (saEnd_p0 N M V O V2 O2 i) ⟨?oo, ?rr⟩) (by kernel_rfl) rfl (gtL (by decide)) (by decide)
  case oo =>
    refine (okc ?_ okn)
    all_goals ((try simp (disch := omega) only [SS]); first | done | omega | assumption | (simp (disch := omega) only [SS] at *; first | done | omega | assumption) | (simp_all; done))
  case rr =>
    try simp (disch := omega) only [SS]
    repeat' apply And.intro
    all_goals first | exact True.intro | with_reducible rfl | omega | (intros; first | exact True.intro | with_reducible rfl | omega | (simp_all; done)) | (simp_all; done) | rfl

theorem saI (N M : Nat) (V O V2 O2 : Ix → Int) (hN : N ≤ 1000) : RunsTo Tryd.prog 60 [.code (bodyOf Tryd.f60)] (envOf [vL 60 2 N, vL 61 2 M] Tryd.f60.ntmps) (Sx.look ((eE 60 N V O ++ eE 61 M V2 O2) ++ ([]))) 80 (vB (sameF N M V V2 O O2)) (Sx.look []) 140 := by
  by_cases h : N = M
  · refine saStart N M V O V2 O2 h _ _ ?_
    suffices q : ∀ (k i : Nat), i + k = N → (∀ j, j < i → V [j] = V2 [j] ∧ O [j] = O2 [j]) → RunsTo Tryd.prog 60 (headOf Tryd.f60 0) (envAt Tryd.f60.ntmps ([(0, vL 60 2 N), (1, vL 61 2 M), (12, vN N), (13, vN (i : Nat))])) (Sx.look ((eE 60 N V O ++ eE 61 M V2 O2) ++ ([]))) 80 (vB (sameF N M V V2 O O2)) (Sx.look []) 140 from q N 0 (by omega) (fun j hj => by omega)
    intro k
    induction k with
    | zero =>
      intro i hi ha
      have : sameF N M V V2 O O2 = true := by
        unfold sameF
        rw [decide_eq_true h, allEq_of (fun j hj => (ha j (by omega)).1), allEq_of (fun j hj => (ha j (by omega)).2)]
        rfl
      rw [this]; exact saEnd N M V O V2 O2 i (by omega)
    | succ k ih =>
      intro i hi ha
      by_cases e1 : V [i] = V2 [i]
      · by_cases e2 : O [i] = O2 [i]
        · refine saRound N M V O V2 O2 i h (by omega) hN e1 e2 _ _ (ih (i + 1) (by omega) fun j hj => ?_)
          by_cases e : j = i
          · subst e; exact ⟨e1, e2⟩
          · exact ha j (by omega)
        · have : sameF N M V V2 O O2 = false := by
            rw [Bool.eq_false_iff]; intro hs
            simp only [sameF, Bool.and_eq_true] at hs
            exact e2 (allEq_iff.1 hs.2.2 i (by omega))
          rw [this]; exact saO N M V O V2 O2 i h (by omega) e1 e2
      · have : sameF N M V V2 O O2 = false := by
          rw [Bool.eq_false_iff]; intro hs
          simp only [sameF, Bool.and_eq_true] at hs
          exact e1 (allEq_iff.1 hs.2.1 i (by omega))
        rw [this]; exact saV N M V O V2 O2 i h (by omega) e1
  · have : sameF N M V V2 O O2 = false := by unfold sameF; rw [decide_eq_false h, Bool.false_and]
    rw [this]; exact saLen N M V O V2 O2 h
def saP : PC := { args := [.v (.vl 60 2 0), .v (.vl 61 2 3)], heap := [⟨60, false, 2, .ta 0 (.tc (.vi .i64 1) (.tc (.vi .i64 2) .t0))⟩, ⟨61, false, 2, .ta 3 (.tc (.vi .i64 4) (.tc (.vi .i64 5) .t0))⟩], gs := [], G := 25, tp := 223, n := 80, n' := 140, cond := fun e => decide (eN e 0 ≤ 1000), v := fun e => vB (sameF (eN e 0) (eN e 3) (eI e 1) (eI e 4) (eI e 2) (eI e 5)), post := fun e => [] }
theorem saP_pc : PC.Runs Tryd.prog 60 Tryd.f60 (bodyOf Tryd.f60) saP := ⟨Tryd.func60, by kernel_rfl, (fun g hg => by first | (cases hg; done) | (revert g; show ∀ g ∈ ([] : List Nat), g < 25; decide)), fun e H hc => by
  have hc : (decide (eN e 0 ≤ 1000)) = true := hc
  try simp only [Bool.and_eq_true, decide_eq_true_eq, Nat.beq_eq] at hc
  exact saI (eN e 0) (eN e 3) (eI e 1) (eI e 2) (eI e 4) (eI e 5) hc⟩
end Go.Proofs.YtealbjkhjpmilaaDoor

set_option linter.unusedSimpArgs false
set_option linter.unusedVariables false
namespace Go.Proofs.YtealbjkhjpmilaaDoor
open Go.Sx

def nwL (l : List Rw) (sd op k : Int) (o : Bool) : List Rw := nwG (rS l) (rO l) (rK l) (rB l) l.length sd op k o
def kRef (l : List Rw) (sd op : Int) : Int := kG (rS l) (rO l) (rK l) l.length sd op
def bRef (l : List Rw) (sd op : Int) : Bool := bG (rS l) (rO l) (rB l) l.length sd op
def onLR (l : List Rw) (sd : Int) : List Int := onR (rS l) (rO l) (rK l) l.length sd 256
theorem nwG_le (RS RO RK : Ix → Int) (RB : Ix → Bool) (R : Nat) (sd op k : Int) (o : Bool) : (nwG RS RO RK RB R sd op k o).length ≤ R + 1 := by
  have := keep_len (RS := RS) (RO := RO) (RK := RK) (RB := RB) (sd := sd) (op := op) R
  simp only [nwG, List.length_append, List.length_cons, List.length_nil]; omega
def allG (t0 t1 t2 t3 t4 t5 t6 t7 t8 t9 t10 t11 t12 t13 t14 t15 : List UInt8) : List Ent := sentEnts 25 223 [(7, t0), (8, t1), (3, t2), (4, t3), (0, t4), (9, t5), (10, t6), (2, t7), (5, t8), (1, t9), (11, t10), (12, t11), (13, t12), (14, t13), (15, t14), (16, t15)]
def wordsT : List (List UInt8) := [[115,101],[110,111,112],[100,109],[98,114,107],[105,112],[97,111],[97,121,116],[101,99],[101,108],[103,97],[115,98],[119,105,108,108],[119,111,110,116],[100,111],[100,111,110,116],[105,97,99]]
def wF : Ix → List UInt8 := fun is => wordsT.getD (is.headD 0) []
def tabW (F : Ix → List UInt8) : List Ent := [⟨6, false, none, 16, .ta 16 (.vs F)⟩]
def tactE (l N : Nat) (KD CD OP : Ix → Int) : List Ent := [⟨l, false, none, 3, .ta N (.tc (.vi .i64 KD) (.tc (.vi .i64 CD) (.tc (.vi .i64 OP) .t0)))⟩]
def XT (t0 t1 t2 t3 t4 t5 t6 t7 t8 t9 t10 t11 t12 t13 t14 t15 : List UInt8) (N M L : Nat) (U V KD CD OP : Ix → Int) : List Ent := (allG t0 t1 t2 t3 t4 t5 t6 t7 t8 t9 t10 t11 t12 t13 t14 t15 ++ tabW wF) ++ (polE 100 N M U V ++ tactE 102 L KD CD OP)
def bo (N M q : Nat) (K : Ix → Int) (O A : Ix → Bool) (h a s : Int) (l : List Rw) : List Ent := tabE 120 K O A h a s ++ mdW 121 100 N M q h a s l
theorem inO_no {n : Int} (h : inO n = false) : n < 0 ∨ 255 < n := by
  simp only [inO, Bool.and_eq_false_iff, decide_eq_false_iff_not] at h; omega
theorem vrb_of {n : Int} (h : vrb n = true) : 251 ≤ n ∧ n ≤ 254 := by simpa [vrb] using h
theorem vrb_no {n : Int} (h : vrb n = false) : n < 251 ∨ 254 < n := by
  simp only [vrb, Bool.and_eq_false_iff, decide_eq_false_iff_not] at h; omega
theorem rt_on {k : Int} {o : Bool} (h : rtB k o = true) (hk : k = 1) : o = false := by
  obtain ⟨h1, h2, h3⟩ := rtB_ok h
  cases o with
  | false => rfl
  | true => have := h3 rfl; omega

def rd (l : List Rw) (j : Nat) : Rw := l.getD j (0, 0, 0, false)
theorem rd_mem {l : List Rw} {j : Nat} (h : j < l.length) : rd l j ∈ l := by
  unfold rd
  rw [List.getD_eq_getElem?_getD, List.getElem?_eq_getElem h, Option.getD_some]
  exact List.getElem_mem h
theorem mem_rd {l : List Rw} {r : Rw} (h : r ∈ l) : ∃ j, j < l.length ∧ rd l j = r := by
  obtain ⟨j, hj, rfl⟩ := List.mem_iff_getElem.1 h
  refine ⟨j, hj, ?_⟩
  unfold rd
  rw [List.getD_eq_getElem?_getD, List.getElem?_eq_getElem hj, Option.getD_some]
theorem mt_iff {l : List Rw} {sd op : Int} {j : Nat} : mtB (rS l) (rO l) sd op j = true ↔ (rd l j).1 = sd ∧ (rd l j).2.1 = op := by
  simp only [mtB, Bool.and_eq_true, decide_eq_true_eq]; exact Iff.rfl

theorem fnd_some {RS RO : Ix → Int} {sd op : Int} : ∀ {k i j : Nat}, fnd RS RO sd op k i = some j → i ≤ j ∧ j < i + k ∧ mtB RS RO sd op j = true
  | 0, i, j, h => by cases h
  | k + 1, i, j, h => by
    simp only [fnd] at h
    split at h
    · rename_i hm
      simp only [Option.some.injEq] at h
      subst h
      exact ⟨Nat.le_refl _, by omega, hm⟩
    · obtain ⟨h1, h2, h3⟩ := fnd_some h
      exact ⟨by omega, by omega, h3⟩
theorem fnd_none {RS RO : Ix → Int} {sd op : Int} : ∀ {k i : Nat}, fnd RS RO sd op k i = none → ∀ j, i ≤ j → j < i + k → mtB RS RO sd op j = false
  | 0, i, h, j, h1, h2 => by omega
  | k + 1, i, h, j, h1, h2 => by
    simp only [fnd] at h
    split at h
    · cases h
    · rename_i hm
      rcases Nat.eq_or_lt_of_le h1 with rfl | h3
      · simpa using hm
      · exact fnd_none h j (by omega) (by omega)

theorem mem_keep {RS RO RK : Ix → Int} {RB : Ix → Bool} {sd op : Int} {r : Rw} : ∀ {i : Nat}, r ∈ keepL RS RO RK RB sd op i ↔ ∃ j, j < i ∧ mtB RS RO sd op j = false ∧ r = (RS [j], RO [j], RK [j], RB [j])
  | 0 => by simp [keepL]
  | i + 1 => by
    cases hm : mtB RS RO sd op i with
    | true =>
      rw [keep_yes hm, mem_keep]
      constructor
      · rintro ⟨j, h1, h2, h3⟩; exact ⟨j, by omega, h2, h3⟩
      · rintro ⟨j, h1, h2, h3⟩
        refine ⟨j, ?_, h2, h3⟩
        by_cases hj : j = i
        · subst hj; rw [hm] at h2; cases h2
        · omega
    | false =>
      rw [keep_no hm, List.mem_append, mem_keep]
      constructor
      · rintro (⟨j, h1, h2, h3⟩ | h)
        · exact ⟨j, by omega, h2, h3⟩
        · simp only [List.mem_cons, List.not_mem_nil, or_false] at h
          exact ⟨i, by omega, hm, h⟩
      · rintro ⟨j, h1, h2, h3⟩
        by_cases hj : j = i
        · subst hj; exact .inr (by simp [h3])
        · exact .inl ⟨j, by omega, h2, h3⟩

theorem mem_nw {l : List Rw} {sd op k : Int} {o : Bool} {r : Rw} : r ∈ nwL l sd op k o ↔ (r ∈ l ∧ ¬ (r.1 = sd ∧ r.2.1 = op)) ∨ r = (sd, op, k, o) := by
  simp only [nwL, nwG, List.mem_append, List.mem_cons, List.not_mem_nil, or_false, mem_keep]
  constructor
  · rintro (⟨j, h1, h2, h3⟩ | h)
    · left
      have : r = rd l j := h3
      subst this
      refine ⟨rd_mem h1, fun hh => ?_⟩
      rw [mt_iff.2 hh] at h2; cases h2
    · exact .inr h
  · rintro (⟨h1, h2⟩ | h)
    · left
      obtain ⟨j, hj, rfl⟩ := mem_rd h1
      refine ⟨j, hj, ?_, rfl⟩
      cases hm : mtB (rS l) (rO l) sd op j with
      | false => rfl
      | true => exact absurd (mt_iff.1 hm) h2
    · exact .inr h

structure UI (l : List Rw) (K : Ix → Int) (O : Ix → Bool) : Prop where
  rt : ∀ p n, rtB (K [p, n]) (O [p, n]) = true
  rw : ∀ r ∈ l, (r.1 = 0 ∨ r.1 = 1) ∧ inO r.2.1 = true ∧ K [r.1.toNat, r.2.1.toNat] = r.2.2.1 ∧ O [r.1.toNat, r.2.1.toNat] = r.2.2.2
  un : ∀ p n, p < 2 → n < 256 → (∀ r ∈ l, ¬ (r.1 = (p : Nat) ∧ r.2.1 = (n : Nat))) → K [p, n] = 0 ∧ O [p, n] = false

theorem UI.find {l : List Rw} {K : Ix → Int} {O : Ix → Bool} (I : UI l K O) {sd op : Int} (hs : sd = 0 ∨ sd = 1) (ho : inO op = true) : kRef l sd op = K [sd.toNat, op.toNat] ∧ bRef l sd op = O [sd.toNat, op.toNat] := by
  have ho2 := inO_of ho
  simp only [kRef, bRef, kG, bG]
  cases hf : fnd (rS l) (rO l) sd op l.length 0 with
  | none =>
    have hn := fnd_none hf
    have := I.un sd.toNat op.toNat (by omega) (by omega) (fun r hr hh => by
      obtain ⟨j, hj, rfl⟩ := mem_rd hr
      have h1 := hn j (by omega) (by omega)
      have h2 := mt_iff (l := l) (sd := sd) (op := op) (j := j)
      rw [h2.2 ⟨by omega, by omega⟩] at h1; cases h1)
    exact ⟨this.1.symm, this.2.symm⟩
  | some j =>
    obtain ⟨h1, h2, h3⟩ := fnd_some hf
    obtain ⟨h4, h5⟩ := mt_iff.1 h3
    obtain ⟨_, _, h6, h7⟩ := I.rw _ (rd_mem (l := l) (j := j) (by omega))
    rw [h4, h5] at h6 h7
    exact ⟨h6.symm, h7.symm⟩

theorem UI.out {l : List Rw} {K : Ix → Int} {O : Ix → Bool} (I : UI l K O) {sd op : Int} (ho : inO op = false) : kRef l sd op = 0 ∧ bRef l sd op = false := by
  simp only [kRef, bRef, kG, bG]
  cases hf : fnd (rS l) (rO l) sd op l.length 0 with
  | none => exact ⟨rfl, rfl⟩
  | some j =>
    obtain ⟨h1, h2, h3⟩ := fnd_some hf
    obtain ⟨h4, h5⟩ := mt_iff.1 h3
    obtain ⟨_, h6, _, _⟩ := I.rw _ (rd_mem (l := l) (j := j) (by omega))
    rw [h5, ho] at h6; cases h6

theorem upP' {α : Type} (f : Ix → α) (p : Nat) (n : Int) (x : α) : uP f p n x [p, n.toNat] = x := by simp [uP, upd]
theorem upP_no' {α : Type} (f : Ix → α) {p d m : Nat} {n : Int} (x : α) (h : ¬ (p = d ∧ n.toNat = m)) : uP f p n x [d, m] = f [d, m] := by
  have : ¬ ([d, m] : Ix) = [p, n.toNat] := by intro hh; simp only [List.cons.injEq, and_true] at hh; exact h ⟨hh.1.symm, hh.2.symm⟩
  simp only [uP, upd, if_neg this]

theorem UI.set {l : List Rw} {K : Ix → Int} {O : Ix → Bool} (I : UI l K O) {sd op k : Int} {o : Bool} (hs : sd = 0 ∨ sd = 1) (ho : inO op = true) (hr : rtB k o = true) : UI (nwL l sd op k o) (uP K sd.toNat op k) (uP O sd.toNat op o) := by
  have ho2 := inO_of ho
  refine ⟨fun p n => ?_, fun r hr => ?_, fun p n hp hn hh => ?_⟩
  · by_cases h : sd.toNat = p ∧ op.toNat = n
    · obtain ⟨rfl, rfl⟩ := h; rw [upP', upP']; exact hr
    · rw [upP_no' _ _ h, upP_no' _ _ h]; exact I.rt p n
  · rcases mem_nw.1 hr with ⟨h1, h2⟩ | rfl
    · obtain ⟨g1, g2, g3, g4⟩ := I.rw r h1
      have g5 := inO_of g2
      have h : ¬ (sd.toNat = r.1.toNat ∧ op.toNat = r.2.1.toNat) := fun hh => h2 ⟨by omega, by omega⟩
      rw [upP_no' _ _ h, upP_no' _ _ h]
      exact ⟨g1, g2, g3, g4⟩
    · exact ⟨hs, ho, upP' _ _ _ _, upP' _ _ _ _⟩
  · have h : ¬ (sd.toNat = p ∧ op.toNat = n) := fun h => hh _ (mem_nw.2 (.inr rfl)) ⟨by simp only; omega, by simp only; omega⟩
    rw [upP_no' _ _ h, upP_no' _ _ h]
    refine I.un p n hp hn (fun r hr hq => hh r (mem_nw.2 (.inl ⟨hr, fun h2 => h ⟨by omega, by omega⟩⟩)) hq)

theorem UI.lists {l : List Rw} {K : Ix → Int} {O : Ix → Bool} (I : UI l K O) {sd : Int} (hs : sd = 0 ∨ sd = 1) : onLR l sd = onM K O sd 256 := by
  have key : ∀ n, n ≤ 256 → onR (rS l) (rO l) (rK l) l.length sd n = onM K O sd n := by
    intro n
    induction n with
    | zero => intro _; rfl
    | succ n ih =>
      intro hn
      have hf := (I.find hs (op := (n : Int)) (by simp only [inO, Bool.and_eq_true, decide_eq_true_eq]; omega)).1
      simp only [kRef, kG, Int.toNat_natCast] at hf
      by_cases hk : K [sd.toNat, n] = 1
      · rw [onR_yes (by rw [hf]; exact hk), onM_yes ⟨hs, hk, rt_on (I.rt _ _) hk⟩, ih (by omega)]
      · rw [onR_no (by rw [hf]; exact hk), onM_no (fun h => hk h.2.1), ih (by omega)]
  exact key 256 (Nat.le_refl _)
theorem hasF_iff {U : Ix → Int} {n : Int} : ∀ {k i : Nat}, hasF U n k i = true ↔ ∃ j, i ≤ j ∧ j < i + k ∧ U [j] = n
  | 0, i => by simp [hasF]; omega
  | k + 1, i => by
    simp only [hasF, Bool.or_eq_true, decide_eq_true_eq, hasF_iff (k := k) (i := i + 1)]
    constructor
    · rintro (h | ⟨j, h1, h2, h3⟩)
      · exact ⟨i, by omega, by omega, h⟩
      · exact ⟨j, by omega, by omega, h3⟩
    · rintro ⟨j, h1, h2, h3⟩
      by_cases hj : j = i
      · subst hj; exact .inl h3
      · exact .inr ⟨j, by omega, by omega, h3⟩
theorem hasN_iff {U : Ix → Int} {n : Int} : ∀ {k : Nat}, hasN U k n = true ↔ ∃ j, j < k ∧ U [j] = n
  | 0 => by simp [hasN]
  | k + 1 => by
    simp only [hasN, Bool.or_eq_true, decide_eq_true_eq, hasN_iff (k := k)]
    constructor
    · rintro (⟨j, h1, h3⟩ | h)
      · exact ⟨j, by omega, h3⟩
      · exact ⟨k, by omega, h⟩
    · rintro ⟨j, h1, h3⟩
      by_cases hj : j = k
      · subst hj; exact .inr h3
      · exact .inl ⟨j, by omega, h3⟩
theorem has_same (U : Ix → Int) (n : Int) (k : Nat) : hasF U n k 0 = hasN U k n := by
  rw [Bool.eq_iff_iff, hasF_iff, hasN_iff]
  constructor
  · rintro ⟨j, _, h2, h3⟩; exact ⟨j, by omega, h3⟩
  · rintro ⟨j, h2, h3⟩; exact ⟨j, by omega, by omega, h3⟩
theorem gG_ag (U V : Ix → Int) (N M : Nat) {cd op : Int} (ho : inO op = true) : gG U V N M cd op = agF U V N M [sdN cd, op.toNat] := by
  have ho2 := inO_of ho
  have e : ((op.toNat : Nat) : Int) = op := by omega
  simp only [gG, agF, sdN]
  by_cases h : cd < 253
  · simp [h, has_same, e]
  · simp [h, has_same, e]

/-- What the document says of a verb is what the table says. -/
theorem UI.hears {l : List Rw} {K : Ix → Int} {O : Ix → Bool} (I : UI l K O) (U V : Ix → Int) (N M : Nat) {cd op : Int} (ho : inO op = true) :
    kG (rS l) (rO l) (rK l) l.length (sdN cd) op = K [sdN cd, op.toNat] ∧ bG (rS l) (rO l) (rB l) l.length (sdN cd) op = O [sdN cd, op.toNat] ∧
    zG (rS l) (rO l) (rK l) (rB l) l.length U V N M cd op = hfZ K O (agF U V N M) cd op ∧
    k1G (rS l) (rO l) (rK l) (rB l) l.length U V N M cd op = hearK (K [sdN cd, op.toNat]) (O [sdN cd, op.toNat]) (frB cd) (agF U V N M [sdN cd, op.toNat]) := by
  have hs : ((sdN cd : Nat) : Int) = 0 ∨ ((sdN cd : Nat) : Int) = 1 := by unfold sdN; split <;> simp
  obtain ⟨h1, h2⟩ := I.find hs ho
  simp only [Int.toNat_natCast] at h1 h2
  have h1 : kG (rS l) (rO l) (rK l) l.length (sdN cd) op = K [sdN cd, op.toNat] := h1
  have h2 : bG (rS l) (rO l) (rB l) l.length (sdN cd) op = O [sdN cd, op.toNat] := h2
  refine ⟨h1, h2, ?_, ?_⟩
  · simp only [zG, hfZ, h1, h2, gG_ag U V N M ho]
  · simp only [k1G, h1, h2, gG_ag U V N M ho]

theorem hearK_rt {k : Int} {o is g : Bool} (h : rtB k o = true) : rtB (hearK k o is g) false = true := by
  obtain ⟨h1, h2, h3⟩ := rtB_ok h
  unfold hearK
  (repeat' split) <;> simp [rtB]
theorem ask_rt {k : Int} {o on : Bool} (h : rtB k o = true) : rtB (askK k o on) (askO k o on) = true := by
  grind [rtB, askK, askO, askE]

def ofSumm : Summ := fun args H => match args with
  | [.v .vp0] => onP.summ 50 args H
  | _ => oP.summ 50 args H
theorem ofSumm_ok : ∀ args H x e d y, ofSumm args H x = .ok e d y → OkL d → (∀ a ∈ args, ∀ l ∈ a.labs, l < x.nl) → WFh (Sx.look H) x.nl → gtop Tryd.prog ≤ x.nl → CallOK Tryd.prog 68 args H x.nl e y.nl := by
  intro args H x e d y h
  unfold ofSumm at h
  split at h
  · exact PC.summ_ok onP_pc gtopG _ _ _ _ _ _ h
  · exact PC.summ_ok oP_pc gtopG _ _ _ _ _ _ h
end Go.Proofs.YtealbjkhjpmilaaDoor

