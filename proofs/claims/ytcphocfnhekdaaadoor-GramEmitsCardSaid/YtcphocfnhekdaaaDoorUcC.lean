/- Grammar: all items are read: the rounds. -/
import Derived.Test.YtcphocfnhekdaaaDoorUaC
set_option linter.unusedSimpArgs false
set_option linter.unusedVariables false
set_option maxRecDepth 100000
namespace Go.Proofs.YtcphocfnhekdaaaDoor
open Go.Sx

open GramR
abbrev Itm := It × Nat × Nat
def zIt : Itm := (⟨0, 0, 0, []⟩, 0, 0)
def iK (T : List Itm) : Ix → Int := fun is => ((T.getD (is.headD 0) zIt).1.kind : Int)
def iF (T : List Itm) : Ix → Int := fun is => ((T.getD (is.headD 0) zIt).2.1 : Int)
def iT (T : List Itm) : Ix → Int := fun is => ((T.getD (is.headD 0) zIt).2.2 : Int)
def iC (T : List Itm) : Ix → Int := fun is => ((T.getD (is.headD 0) zIt).1.code : Int)
def iO (T : List Itm) : Ix → Int := fun is => ((T.getD (is.headD 0) zIt).1.opt : Int)
def iM (T : List Itm) : Ix → Nat := fun is => T.length - 1 - is.headD 0
def iW (T : List Itm) : Ix → Nat := fun is => (T.getD (is.headD 0) zIt).1.body.length
def iL (T : List Itm) : Nat → Nat := fun m => (T.getD (T.length - 1 - m) zIt).1.body.length
def iZ (T : List Itm) : Ix → Int := fun is => (((T.getD (T.length - 1 - is.headD 0) zIt).1.body.getD (is.tail.headD 0) 0).toNat : Int)
def itE (l f : Nat) (T : List Itm) : List Ent := iE l f T.length (iK T) (iF T) (iT T) (iC T) (iO T) (iM T) (iW T) (iL T) (iZ T)
def itm (k a t c o : Nat) (b : List UInt8) : Itm := (⟨k, c, o, b⟩, a, t)
/-- The byte at a place; below 0: there is none. -/
def atV (N : Nat) (B : Ix → Int) (i : Nat) : Int := if N ≤ i then -1 else B [i]
theorem it_app {β : Type} (f : Itm → β) (T : List Itm) (t : Itm) (g : Ix → β) (hg : g [0] = f t) : ∀ k, k < T.length + 1 → f ((T ++ [t]).getD k zIt) = appF T.length 0 (fun is => f (T.getD (is.headD 0) zIt)) g [k] := fun k hk =>
  app_get f zIt T [t] g (fun j hj => by
    have : j = 0 := by simp at hj; omega
    subst this; exact hg) k (by simpa using hk)
theorem iK_app (T : List Itm) (t : Itm) (g : Ix → Int) (hg : g [0] = (t.1.kind : Int)) : ∀ k, k < T.length + 1 → iK (T ++ [t]) [k] = appF T.length 0 (iK T) g [k] := it_app (fun t => (t.1.kind : Int)) T t g hg
theorem iF_app (T : List Itm) (t : Itm) (g : Ix → Int) (hg : g [0] = (t.2.1 : Int)) : ∀ k, k < T.length + 1 → iF (T ++ [t]) [k] = appF T.length 0 (iF T) g [k] := it_app (fun t => (t.2.1 : Int)) T t g hg
theorem iT_app (T : List Itm) (t : Itm) (g : Ix → Int) (hg : g [0] = (t.2.2 : Int)) : ∀ k, k < T.length + 1 → iT (T ++ [t]) [k] = appF T.length 0 (iT T) g [k] := it_app (fun t => (t.2.2 : Int)) T t g hg
theorem iC_app (T : List Itm) (t : Itm) (g : Ix → Int) (hg : g [0] = (t.1.code : Int)) : ∀ k, k < T.length + 1 → iC (T ++ [t]) [k] = appF T.length 0 (iC T) g [k] := it_app (fun t => (t.1.code : Int)) T t g hg
theorem iO_app (T : List Itm) (t : Itm) (g : Ix → Int) (hg : g [0] = (t.1.opt : Int)) : ∀ k, k < T.length + 1 → iO (T ++ [t]) [k] = appF T.length 0 (iO T) g [k] := it_app (fun t => (t.1.opt : Int)) T t g hg
theorem iW_app (T : List Itm) (t : Itm) (g : Ix → Nat) (hg : g [0] = t.1.body.length) : ∀ k, k < T.length + 1 → iW (T ++ [t]) [k] = appF T.length 0 (iW T) g [k] := it_app (fun t => t.1.body.length) T t g hg
theorem iM_app (T : List Itm) (t : Itm) (f g : Ix → Nat) (hf : ∀ k, k < T.length → f [k] = T.length - 1 - k + 1) (hg : g [0] = 0) : ∀ k, k < T.length + 1 → iM (T ++ [t]) [k] = appF T.length 0 f g [k] := fun k hk => by
  simp only [iM, appF, List.length_append, List.length_cons, List.length_nil, List.headD, Nat.zero_add]
  split
  · rename_i h; have := hf k h; omega
  · have : k = T.length := by omega
    subst this; simp [hg]
theorem igetD_last (T : List Itm) (t : Itm) : (T ++ [t]).getD T.length zIt = t := by simp
theorem igetD_pre (T : List Itm) (t : Itm) {k : Nat} (h : k < T.length) : (T ++ [t]).getD k zIt = T.getD k zIt := by simp [List.getD_eq_getElem?_getD, List.getElem?_append_left h]
theorem iL_cons (T : List Itm) (t : Itm) (n : Nat) (hn : n = t.1.body.length) : ∀ m, m < T.length + 1 → iL (T ++ [t]) m = consN n (iL T) m
  | 0, _ => by simp [iL, consN, hn]
  | m + 1, h => by
    simp only [iL, consN, List.length_append, List.length_cons, List.length_nil]
    rw [show T.length + (0 + 1) - 1 - (m + 1) = T.length - 1 - m by omega, igetD_pre T t (by omega)]
theorem iZ_cons (T : List Itm) (t : Itm) (g : Ix → Int) : ∀ m, m < T.length + 1 → ∀ j, (∀ j, j < t.1.body.length → g [j] = ((t.1.body.getD j 0).toNat : Int)) → j < iL (T ++ [t]) m → iZ (T ++ [t]) [m, j] = consF g (iZ T) [m, j]
  | 0, _, j, hg, hj => by
    have hj2 : j < t.1.body.length := by simpa [iL] using hj
    simp only [iZ, consF, List.headD, List.tail, List.length_append, List.length_cons, List.length_nil]
    rw [show T.length + (0 + 1) - 1 - 0 = T.length by omega, igetD_last, hg j hj2]
  | m + 1, h, j, hg, hj => by
    simp only [iZ, consF, List.headD, List.tail, List.length_append, List.length_cons, List.length_nil]
    rw [show T.length + (0 + 1) - 1 - (m + 1) = T.length - 1 - m by omega, igetD_pre T t (by omega)]
theorem sn_app {α : Type} (n : Nat) (f h : Ix → α) (x : α) (k : Nat) : h [k] = appF n 0 f (fun _ => x) [k] → h [k] = snF n f x [k] := fun e => by
  rw [e, snF_at]; simp only [appF, Nat.zero_add]
theorem atA_p0 (N M n : Nat) (raw : Bool) (B : Ix → Int) (i : Nat) :
    isEnd (evTill Tryd.prog [] 300 (99) 900 69 [.code (bodyOf Tryd.f69)] (envOf [vP 63, vN i] Tryd.f69.ntmps) (([⟨63, false, none, 3, .tc (.vl 60 (fun _ => 0) 1 [] (fun _ => N)) (.tc (.vb fun _ => raw) (.tc (.vl 64 (fun _ => 0) 6 [] (fun _ => n)) .t0))⟩] ++ rB 60 M B) ++ ([])) ⟨[.s true], 80⟩) (endP ([]) (vN (-1)) ([]) 100) =
    (OkL [(decide ((↑i : Int) ≥ (↑N : Int)), true)] ∧ (-1 : Int) = (-1 : Int) ∧ True) := by kernel_rfl

set_option maxHeartbeats 4000000 in
theorem atA (N M n : Nat) (raw : Bool) (B : Ix → Int) (i : Nat) (hi : N ≤ i)  :
    RunsTo Tryd.prog 69 [.code (bodyOf Tryd.f69)] (envOf [vP 63, vN i] Tryd.f69.ntmps) (Sx.look (([⟨63, false, none, 3, .tc (.vl 60 (fun _ => 0) 1 [] (fun _ => N)) (.tc (.vb fun _ => raw) (.tc (.vl 64 (fun _ => 0) 6 [] (fun _ => n)) .t0))⟩] ++ rB 60 M B) ++ ([]))) 80 (vN (-1)) (Sx.look ([])) 100 := by
  refine runs_last baseO (Sx.Ends.of (atA_p0 N M n raw B i) ⟨?oo, ?rr⟩) (by kernel_rfl) rfl (gtL (by decide)) (by decide)
  case oo =>
    refine (okc ?_ okn)
    all_goals ((try simp (disch := omega) only [SS]); first | done | omega | assumption | (simp (disch := omega) only [SS] at *; first | done | omega | assumption) | (simp_all; done))
  case rr =>
    try simp (disch := omega) only [SS]
    repeat' apply And.intro
    all_goals first | exact True.intro | with_reducible rfl | omega | (intros; first | exact True.intro | with_reducible rfl | omega | (simp_all; done)) | (simp_all; done) | rfl

theorem atB_p0 (N M n : Nat) (raw : Bool) (B : Ix → Int) (i : Nat) :
    isEnd (evTill Tryd.prog [] 300 (99) 900 69 [.code (bodyOf Tryd.f69)] (envOf [vP 63, vN i] Tryd.f69.ntmps) (([⟨63, false, none, 3, .tc (.vl 60 (fun _ => 0) 1 [] (fun _ => N)) (.tc (.vb fun _ => raw) (.tc (.vl 64 (fun _ => 0) 6 [] (fun _ => n)) .t0))⟩] ++ rB 60 M B) ++ ([])) ⟨[.s false, .s true, .s true, .s true], 80⟩) (endP ([]) (vN (B [i])) ([]) 100) =
    (OkL [(decide ((↑i : Int) ≥ (↑N : Int)), false), (decide ((0 : Int) ≤ (↑i : Int) ∧ (↑i : Int) < (↑N : Int)), true), (((0 : Nat) + (↑i : Int).toNat).blt M, true), (((0 : Nat) + (↑i : Int).toNat).blt M, true)] ∧ B [i] = IntKind.i64.wrap (B [(0 : Nat) + (↑i : Int).toNat]) ∧ True) := by kernel_rfl

set_option maxHeartbeats 4000000 in
theorem atB (N M n : Nat) (raw : Bool) (B : Ix → Int) (i : Nat) (hi : i < N) (hM : N ≤ M) (h0 : 0 ≤ B [i] ∧ B [i] < 256)  :
    RunsTo Tryd.prog 69 [.code (bodyOf Tryd.f69)] (envOf [vP 63, vN i] Tryd.f69.ntmps) (Sx.look (([⟨63, false, none, 3, .tc (.vl 60 (fun _ => 0) 1 [] (fun _ => N)) (.tc (.vb fun _ => raw) (.tc (.vl 64 (fun _ => 0) 6 [] (fun _ => n)) .t0))⟩] ++ rB 60 M B) ++ ([]))) 80 (vN (B [i])) (Sx.look ([])) 100 := by
  have b0 : IntKind.i64.wrap (B [i]) = B [i] := wr64 (by omega)
  refine runs_last baseO (Sx.Ends.of (atB_p0 N M n raw B i) ⟨?oo, ?rr⟩) (by kernel_rfl) rfl (gtL (by decide)) (by decide)
  case oo =>
    refine (okc ?_ (okc ?_ (okc ?_ (okc ?_ okn))))
    all_goals ((try simp (disch := omega) only [SS, b0]); first | done | omega | assumption | (simp (disch := omega) only [SS, b0] at *; first | done | omega | assumption) | (simp_all; done))
  case rr =>
    try simp (disch := omega) only [SS, b0]
    repeat' apply And.intro
    all_goals first | exact True.intro | with_reducible rfl | omega | (intros; first | exact True.intro | with_reducible rfl | omega | (simp_all; done)) | (simp_all; done) | rfl

theorem atI (N M n : Nat) (raw : Bool) (B : Ix → Int) (i : Nat) (hM : N ≤ M) (hB : bndB B N = true) : RunsTo Tryd.prog 69 [.code (bodyOf Tryd.f69)] (envOf [vP 63, vN i] Tryd.f69.ntmps) (Sx.look (([⟨63, false, none, 3, .tc (.vl 60 (fun _ => 0) 1 [] (fun _ => N)) (.tc (.vb fun _ => raw) (.tc (.vl 64 (fun _ => 0) 6 [] (fun _ => n)) .t0))⟩] ++ rB 60 M B) ++ ([]))) 80 (vN (atV N B i)) (Sx.look []) 100 := by
  unfold atV
  by_cases h : N ≤ i
  · rw [if_pos h]; exact atA N M n raw B i h
  · rw [if_neg h]; exact atB N M n raw B i (by omega) hM (bndB_ok hB (by omega))
def atP : PC := { args := [.v (.vp 63), .v (.vi .i64 1)], heap := [⟨63, false, 3, .tc (.vl 60 1 0) (.tc (.vb 2) (.tc (.vl 64 6 3) .t0))⟩, ⟨60, false, 1, .ta 4 (.vi .u8 5)⟩], gs := [], G := 19, tp := 144, n := 80, n' := 100, cond := fun e => decide (0 ≤ eI e 1 []) && (decide (eN e 0 ≤ eN e 4) && bndB (eI e 5) (eN e 0)), v := fun e => vN (atV (eN e 0) (eI e 5) (eI e 1 []).toNat), post := fun e => [] }
theorem atP_pc : PC.Runs Tryd.prog 69 Tryd.f69 (bodyOf Tryd.f69) atP := ⟨Tryd.func69, by kernel_rfl, (fun g hg => by first | (cases hg; done) | (revert g; show ∀ g ∈ ([] : List Nat), g < 19; decide)), fun e H hc => by
  have hc : (decide (0 ≤ eI e 1 []) && (decide (eN e 0 ≤ eN e 4) && bndB (eI e 5) (eN e 0))) = true := hc
  try simp only [Bool.and_eq_true, decide_eq_true_eq, Nat.beq_eq] at hc
  exact by obtain ⟨h1, h2, h3⟩ := hc; have hj : ((eI e 1 []).toNat : Int) = eI e 1 [] := Int.toNat_of_nonneg h1; have q := atI (eN e 0) (eN e 4) (eN e 3) (eB e 2 []) (eI e 5) (eI e 1 []).toNat h2 h3; rw [hj] at q; exact q⟩
def sumsROk : List (FuncId × Summ) := [(69, atP.summ 38), (77, sbOkP.summ 38), (44, isS)]
theorem baseROk : Base0 Tryd.prog sumsROk := (((baseO.cons Tryd.func44 (by kernel_rfl) isS_ok).cons Tryd.func77 (by kernel_rfl) (PC.summ_ok sbOkP_pc gtopG)).cons Tryd.func69 (by kernel_rfl) (PC.summ_ok atP_pc gtopG))
def sumsRSh : List (FuncId × Summ) := [(69, atP.summ 38), (77, sbShP.summ 38), (44, isS)]
theorem baseRSh : Base0 Tryd.prog sumsRSh := (((baseO.cons Tryd.func44 (by kernel_rfl) isS_ok).cons Tryd.func77 (by kernel_rfl) (PC.summ_ok sbShP_pc gtopG)).cons Tryd.func69 (by kernel_rfl) (PC.summ_ok atP_pc gtopG))
def sumsRFo : List (FuncId × Summ) := [(69, atP.summ 38), (77, sbFoP.summ 38), (44, isS)]
theorem baseRFo : Base0 Tryd.prog sumsRFo := (((baseO.cons Tryd.func44 (by kernel_rfl) isS_ok).cons Tryd.func77 (by kernel_rfl) (PC.summ_ok sbFoP_pc gtopG)).cons Tryd.func69 (by kernel_rfl) (PC.summ_ok atP_pc gtopG))
theorem rdStart_p0 (t0 t1 : List UInt8) (N M : Nat) (raw : Bool) (B : Ix → Int) :
    isMore (evTill Tryd.prog sumsROk 300 (behind Tryd.f39 0) 900 39 [.code (bodyOf Tryd.f39)] (envOf [vP 63] Tryd.f39.ntmps) (sentEnts 19 144 [(0, t0), (4, t1)] ++ rB 60 M B ++ (rd0 63 N raw)) ⟨[], 80⟩) (moreP (headOf Tryd.f39 0) ([((102 : Nat), Rn.nil (6 : Nat)), ((103 : Nat), Rn.nil (1 : Nat))]) Tryd.f39.ntmps ([(0, vP 63), (4, vN (0 : Nat))]) (rdE 63 102 N (([] : List Itm)).length raw ++ itE 102 103 ([] : List Itm)) 700) =
    (OkL [] ∧ headOf Tryd.f39 (0 : Nat) = headOf Tryd.f39 (0 : Nat) ∧ ((0 : Nat) = (0 : Nat) ∧ (↑(0 : Nat) : Int) = (0 : Int)) ∧ (((0 : Nat) = (0 : Nat) ∧ N = N) ∧ raw = raw ∧ (0 : Nat) = (0 : Nat)) ∧ (0 : Nat) = (0 : Nat) ∧ (0 : Nat) = (0 : Nat)) := by kernel_rfl

set_option maxHeartbeats 4000000 in
theorem rdStart (t0 t1 : List UInt8) (N M : Nat) (raw : Bool) (B : Ix → Int)  (v : SV) (L' : HF) (next : RunsTo Tryd.prog 39 (headOf Tryd.f39 0) (envAt Tryd.f39.ntmps ([(0, vP 63), (4, vN (0 : Nat))])) (Sx.look (sentEnts 19 144 [(0, t0), (4, t1)] ++ rB 60 M B ++ (rdE 63 102 N (([] : List Itm)).length raw ++ itE 102 103 ([] : List Itm)))) 80 (v) (L') 700) :
    RunsTo Tryd.prog 39 [.code (bodyOf Tryd.f39)] (envOf [vP 63] Tryd.f39.ntmps) (Sx.look (sentEnts 19 144 [(0, t0), (4, t1)] ++ rB 60 M B ++ (rd0 63 N raw))) 80 (v) (L') 700 := by
  refine runs_more baseROk (More.of (rdStart_p0 t0 t1 N M raw B) ⟨?oo, rfl, ?rr⟩) (by kernel_rfl) (by kernel_rfl) rfl (gtL (by decide)) (by decide) next
  case oo =>
    clear next
    refine okn
    all_goals ((try simp (disch := omega) only [SS]); first | done | omega | assumption | (simp (disch := omega) only [SS] at *; first | done | omega | assumption) | (simp_all; done))
  case rr =>
    clear next
    try simp (disch := omega) only [SS]
    repeat' apply And.intro
    all_goals first | exact True.intro | with_reducible rfl | omega | (intros; first | exact True.intro | with_reducible rfl | omega | (simp_all; done)) | (simp_all; done) | rfl

theorem rA1_p0 (t0 t1 : List UInt8) (N M : Nat) (raw : Bool) (B : Ix → Int) (T : List Itm) (i : Nat) (c : Nat) :
    isMore (evTill Tryd.prog sumsROk 300 (behind Tryd.f39 0) 900 39 (headOf Tryd.f39 0) (envAt Tryd.f39.ntmps ([(0, vP 63), (4, vN (i : Nat))])) (sentEnts 19 144 [(0, t0), (4, t1)] ++ rB 60 M B ++ (rdE 63 102 N (T).length raw ++ itE 102 103 T)) ⟨[.s true, .s true, .s true, .s false, .s true, .t, .s true, .s true, .t], 160⟩) (moreP (headOf Tryd.f39 0) ([((102 : Nat), Rn.to (203 : Nat)), ((103 : Nat), Rn.to (202 : Nat))]) Tryd.f39.ntmps ([(0, vP 63), (4, vN ((i + 1) : Nat))]) (rdE 63 102 N ((T ++ [itm 1 i (i + 1) c 0 []])).length raw ++ itE 102 103 (T ++ [itm 1 i (i + 1) c 0 []])) 700) =
    (OkL [(decide ((↑i : Int) < (↑N : Int)), true), (decide ((0 : Int) ≤ (↑i : Int)) && (decide (N ≤ M) && bndB B N), true), (decide ((0 : Int) ≤ IntKind.i64.wrap ((↑i : Int) + (1 : Int))) && (decide (N ≤ M) && bndB B N), true), (atV N B (↑i : Int).toNat == (255 : Int), false), (atV N B (↑i : Int).toNat != (13 : Int), true), (((0 : Nat) + T.length).ble T.length, true), (decide (((2 : Nat) * (T.length + (1 : Nat)) + (192 : Nat)) * (64 : Nat) ≤ (281474976710656 : Nat)), true)] ∧ headOf Tryd.f39 (0 : Nat) = headOf Tryd.f39 (0 : Nat) ∧ ((0 : Nat) = (0 : Nat) ∧ (↑(i + (1 : Nat)) : Int) = IntKind.i64.wrap ((↑i : Int) + (1 : Int))) ∧ (((0 : Nat) = (0 : Nat) ∧ N = N) ∧ raw = raw ∧ (0 : Nat) = (0 : Nat) ∧ (T ++ [itm (1 : Nat) i (i + (1 : Nat)) c (0 : Nat) []]).length = T.length + (1 : Nat)) ∧ ((T ++ [itm (1 : Nat) i (i + (1 : Nat)) c (0 : Nat) []]).length = T.length + (1 : Nat) ∧ (∀ (i_1 : Nat), i_1 < (T ++ [itm (1 : Nat) i (i + (1 : Nat)) c (0 : Nat) []]).length → iK (T ++ [itm (1 : Nat) i (i + (1 : Nat)) c (0 : Nat) []]) [i_1] = appF T.length (0 : Nat) (iK T) (fun js => (1 : Int)) [i_1]) ∧ (∀ (i_1 : Nat), i_1 < (T ++ [itm (1 : Nat) i (i + (1 : Nat)) c (0 : Nat) []]).length → iF (T ++ [itm (1 : Nat) i (i + (1 : Nat)) c (0 : Nat) []]) [i_1] = appF T.length (0 : Nat) (iF T) (fun js => (↑i : Int)) [i_1]) ∧ (∀ (i_1 : Nat), i_1 < (T ++ [itm (1 : Nat) i (i + (1 : Nat)) c (0 : Nat) []]).length → iT (T ++ [itm (1 : Nat) i (i + (1 : Nat)) c (0 : Nat) []]) [i_1] = appF T.length (0 : Nat) (iT T) (fun js => IntKind.i64.wrap ((↑i : Int) + (1 : Int))) [i_1]) ∧ (∀ (i_1 : Nat), i_1 < (T ++ [itm (1 : Nat) i (i + (1 : Nat)) c (0 : Nat) []]).length → iC (T ++ [itm (1 : Nat) i (i + (1 : Nat)) c (0 : Nat) []]) [i_1] = appF T.length (0 : Nat) (iC T) (fun js => atV N B (↑i : Int).toNat) [i_1]) ∧ (∀ (i_1 : Nat), i_1 < (T ++ [itm (1 : Nat) i (i + (1 : Nat)) c (0 : Nat) []]).length → iO (T ++ [itm (1 : Nat) i (i + (1 : Nat)) c (0 : Nat) []]) [i_1] = appF T.length (0 : Nat) (iO T) (fun js => (0 : Int)) [i_1]) ∧ (∀ (i_1 : Nat), i_1 < (T ++ [itm (1 : Nat) i (i + (1 : Nat)) c (0 : Nat) []]).length → iM (T ++ [itm (1 : Nat) i (i + (1 : Nat)) c (0 : Nat) []]) [i_1] = appF T.length (0 : Nat) (fun is => iM T is + (1 : Nat)) (fun js => (0 : Nat)) [i_1]) ∧ ∀ (i_1 : Nat), i_1 < (T ++ [itm (1 : Nat) i (i + (1 : Nat)) c (0 : Nat) []]).length → iW (T ++ [itm (1 : Nat) i (i + (1 : Nat)) c (0 : Nat) []]) [i_1] = appF T.length (0 : Nat) (iW T) (fun js => (0 : Nat)) [i_1]) ∧ (T ++ [itm (1 : Nat) i (i + (1 : Nat)) c (0 : Nat) []]).length = T.length + (1 : Nat) ∧ ∀ (m : Nat), m < (T ++ [itm (1 : Nat) i (i + (1 : Nat)) c (0 : Nat) []]).length → iL (T ++ [itm (1 : Nat) i (i + (1 : Nat)) c (0 : Nat) []]) m = consN (0 : Nat) (iL T) m ∧ ∀ (i_1 : Nat), i_1 < iL (T ++ [itm (1 : Nat) i (i + (1 : Nat)) c (0 : Nat) []]) m → iZ (T ++ [itm (1 : Nat) i (i + (1 : Nat)) c (0 : Nat) []]) [m, i_1] = consF (iZ T) (iZ T) [m, i_1]) := by kernel_rfl

set_option maxHeartbeats 4000000 in
theorem rA1 (t0 t1 : List UInt8) (N M : Nat) (raw : Bool) (B : Ix → Int) (T : List Itm) (i : Nat) (c : Nat) (hi : i < N) (hN : N ≤ 100000) (hM : N ≤ M) (hB : bndB B N = true) (hT : T.length ≤ 100000) (h0 : atV N B i = (c : Int)) (h1 : c ≠ 255) (h2 : c ≠ 13)  (v : SV) (L' : HF) (next : RunsTo Tryd.prog 39 (headOf Tryd.f39 0) (envAt Tryd.f39.ntmps ([(0, vP 63), (4, vN ((i + 1) : Nat))])) (Sx.look (sentEnts 19 144 [(0, t0), (4, t1)] ++ rB 60 M B ++ (rdE 63 102 N ((T ++ [itm 1 i (i + 1) c 0 []])).length raw ++ itE 102 103 (T ++ [itm 1 i (i + 1) c 0 []])))) 80 (v) (L') 700) :
    RunsTo Tryd.prog 39 (headOf Tryd.f39 0) (envAt Tryd.f39.ntmps ([(0, vP 63), (4, vN (i : Nat))])) (Sx.look (sentEnts 19 144 [(0, t0), (4, t1)] ++ rB 60 M B ++ (rdE 63 102 N (T).length raw ++ itE 102 103 T))) 80 (v) (L') 700 := by
  have w0 : IntKind.i64.wrap ((i : Int) + 1) = ((i + 1 : Nat) : Int) := by rw [wr64 (by omega)]; rfl
  have w1 : IntKind.i64.wrap ((i : Int) + 2) = ((i + 2 : Nat) : Int) := by rw [wr64 (by omega)]; rfl
  have w2 : IntKind.i64.wrap ((i : Int) + 3) = ((i + 3 : Nat) : Int) := by rw [wr64 (by omega)]; rfl
  have t0' : ((i : Int) + 1).toNat = i + 1 := by omega
  have t2' : ((i : Int) + 2).toNat = i + 2 := by omega
  refine runs_more baseROk (More.of (rA1_p0 t0 t1 N M raw B T i c) ⟨?oo, rfl, ?rr⟩) (by kernel_rfl) (by kernel_rfl) rfl (gtL (by decide)) (by decide) next
  case oo =>
    clear next
    refine (okc ?_ (okc ?_ (okc ?_ (okc ?_ (okc ?_ (okc ?_ (okc ?_ okn)))))))
    all_goals first | omega | (simp (disch := omega) only [SS, h0, h1, w0, w1, w2, Int.toNat_natCast, Go.Sx.sum, List.length_append, List.length_cons, List.length_nil, Nat.zero_add, hB]; first | done | omega) | assumption | (simp_all; done) | (simp (disch := omega) only [SS, h0, h1, w0, w1, w2, Int.toNat_natCast, Go.Sx.sum, List.length_append, List.length_cons, List.length_nil, Nat.zero_add, hB] at *; first | done | omega) | (refine Bool.and_eq_true_iff.2 ⟨decide_eq_true (by omega), Bool.and_eq_true_iff.2 ⟨decide_eq_true (by omega), hB⟩⟩) | (simp (disch := omega) only [SS, h0, h1, w0, w1, w2, Int.toNat_natCast, Go.Sx.sum, List.length_append, List.length_cons, List.length_nil, Nat.zero_add, hB, hB]; simp; omega)
  case rr =>
    clear next
    simp (disch := omega) only [SS, h0, h1, w0, w1, w2, Int.toNat_natCast, Go.Sx.sum, List.length_append, List.length_cons, List.length_nil, Nat.zero_add, hB]
    repeat' apply And.intro
    all_goals first | exact True.intro | with_reducible rfl | omega | exact iK_app T _ _ rfl | exact iF_app T _ _ rfl | exact iT_app T _ _ rfl | exact iC_app T _ _ rfl | exact iO_app T _ _ rfl | exact iW_app T _ _ rfl | exact iM_app T _ _ _ (fun k hk => rfl) rfl | exact iC_app T _ _ (by simp only [itm]; omega) | exact iO_app T _ _ (by simp only [itm]; omega) | exact iT_app T _ _ (by simp only [itm]; omega) | exact iL_cons T _ _ rfl | (intro m hm; exact ⟨iL_cons T _ _ rfl m hm, fun j hj => iZ_cons T _ _ m hm j (fun j hj => by first | exact absurd hj (Nat.not_lt_zero _) | rfl | (simp [itm]; done)) hj⟩) | (simp_all; done)

theorem rA2_p0 (t0 t1 : List UInt8) (N M : Nat) (raw : Bool) (B : Ix → Int) (T : List Itm) (i : Nat) :
    isMore (evTill Tryd.prog sumsROk 300 (behind Tryd.f39 0) 900 39 (headOf Tryd.f39 0) (envAt Tryd.f39.ntmps ([(0, vP 63), (4, vN (i : Nat))])) (sentEnts 19 144 [(0, t0), (4, t1)] ++ rB 60 M B ++ (rdE 63 102 N (T).length raw ++ itE 102 103 T)) ⟨[.s true, .s true, .s true, .s false, .s false, .s true, .t, .s true, .s true, .t], 160⟩) (moreP (headOf Tryd.f39 0) ([((102 : Nat), Rn.to (203 : Nat)), ((103 : Nat), Rn.to (202 : Nat))]) Tryd.f39.ntmps ([(0, vP 63), (4, vN ((i + 1) : Nat))]) (rdE 63 102 N ((T ++ [itm 1 i (i + 1) 13 0 []])).length raw ++ itE 102 103 (T ++ [itm 1 i (i + 1) 13 0 []])) 700) =
    (OkL [(decide ((↑i : Int) < (↑N : Int)), true), (decide ((0 : Int) ≤ (↑i : Int)) && (decide (N ≤ M) && bndB B N), true), (decide ((0 : Int) ≤ IntKind.i64.wrap ((↑i : Int) + (1 : Int))) && (decide (N ≤ M) && bndB B N), true), (atV N B (↑i : Int).toNat == (255 : Int), false), (atV N B (↑i : Int).toNat != (13 : Int), false), (raw, true), (((0 : Nat) + T.length).ble T.length, true), (decide (((2 : Nat) * (T.length + (1 : Nat)) + (192 : Nat)) * (64 : Nat) ≤ (281474976710656 : Nat)), true)] ∧ headOf Tryd.f39 (0 : Nat) = headOf Tryd.f39 (0 : Nat) ∧ ((0 : Nat) = (0 : Nat) ∧ (↑(i + (1 : Nat)) : Int) = IntKind.i64.wrap ((↑i : Int) + (1 : Int))) ∧ (((0 : Nat) = (0 : Nat) ∧ N = N) ∧ raw = raw ∧ (0 : Nat) = (0 : Nat) ∧ (T ++ [itm (1 : Nat) i (i + (1 : Nat)) (13 : Nat) (0 : Nat) []]).length = T.length + (1 : Nat)) ∧ ((T ++ [itm (1 : Nat) i (i + (1 : Nat)) (13 : Nat) (0 : Nat) []]).length = T.length + (1 : Nat) ∧ (∀ (i_1 : Nat), i_1 < (T ++ [itm (1 : Nat) i (i + (1 : Nat)) (13 : Nat) (0 : Nat) []]).length → iK (T ++ [itm (1 : Nat) i (i + (1 : Nat)) (13 : Nat) (0 : Nat) []]) [i_1] = appF T.length (0 : Nat) (iK T) (fun js => (1 : Int)) [i_1]) ∧ (∀ (i_1 : Nat), i_1 < (T ++ [itm (1 : Nat) i (i + (1 : Nat)) (13 : Nat) (0 : Nat) []]).length → iF (T ++ [itm (1 : Nat) i (i + (1 : Nat)) (13 : Nat) (0 : Nat) []]) [i_1] = appF T.length (0 : Nat) (iF T) (fun js => (↑i : Int)) [i_1]) ∧ (∀ (i_1 : Nat), i_1 < (T ++ [itm (1 : Nat) i (i + (1 : Nat)) (13 : Nat) (0 : Nat) []]).length → iT (T ++ [itm (1 : Nat) i (i + (1 : Nat)) (13 : Nat) (0 : Nat) []]) [i_1] = appF T.length (0 : Nat) (iT T) (fun js => IntKind.i64.wrap ((↑i : Int) + (1 : Int))) [i_1]) ∧ (∀ (i_1 : Nat), i_1 < (T ++ [itm (1 : Nat) i (i + (1 : Nat)) (13 : Nat) (0 : Nat) []]).length → iC (T ++ [itm (1 : Nat) i (i + (1 : Nat)) (13 : Nat) (0 : Nat) []]) [i_1] = appF T.length (0 : Nat) (iC T) (fun js => atV N B (↑i : Int).toNat) [i_1]) ∧ (∀ (i_1 : Nat), i_1 < (T ++ [itm (1 : Nat) i (i + (1 : Nat)) (13 : Nat) (0 : Nat) []]).length → iO (T ++ [itm (1 : Nat) i (i + (1 : Nat)) (13 : Nat) (0 : Nat) []]) [i_1] = appF T.length (0 : Nat) (iO T) (fun js => (0 : Int)) [i_1]) ∧ (∀ (i_1 : Nat), i_1 < (T ++ [itm (1 : Nat) i (i + (1 : Nat)) (13 : Nat) (0 : Nat) []]).length → iM (T ++ [itm (1 : Nat) i (i + (1 : Nat)) (13 : Nat) (0 : Nat) []]) [i_1] = appF T.length (0 : Nat) (fun is => iM T is + (1 : Nat)) (fun js => (0 : Nat)) [i_1]) ∧ ∀ (i_1 : Nat), i_1 < (T ++ [itm (1 : Nat) i (i + (1 : Nat)) (13 : Nat) (0 : Nat) []]).length → iW (T ++ [itm (1 : Nat) i (i + (1 : Nat)) (13 : Nat) (0 : Nat) []]) [i_1] = appF T.length (0 : Nat) (iW T) (fun js => (0 : Nat)) [i_1]) ∧ (T ++ [itm (1 : Nat) i (i + (1 : Nat)) (13 : Nat) (0 : Nat) []]).length = T.length + (1 : Nat) ∧ ∀ (m : Nat), m < (T ++ [itm (1 : Nat) i (i + (1 : Nat)) (13 : Nat) (0 : Nat) []]).length → iL (T ++ [itm (1 : Nat) i (i + (1 : Nat)) (13 : Nat) (0 : Nat) []]) m = consN (0 : Nat) (iL T) m ∧ ∀ (i_1 : Nat), i_1 < iL (T ++ [itm (1 : Nat) i (i + (1 : Nat)) (13 : Nat) (0 : Nat) []]) m → iZ (T ++ [itm (1 : Nat) i (i + (1 : Nat)) (13 : Nat) (0 : Nat) []]) [m, i_1] = consF (iZ T) (iZ T) [m, i_1]) := by kernel_rfl

set_option maxHeartbeats 4000000 in
theorem rA2 (t0 t1 : List UInt8) (N M : Nat) (raw : Bool) (B : Ix → Int) (T : List Itm) (i : Nat) (hi : i < N) (hN : N ≤ 100000) (hM : N ≤ M) (hB : bndB B N = true) (hT : T.length ≤ 100000) (h0 : atV N B i = 13) (hr : raw = true)  (v : SV) (L' : HF) (next : RunsTo Tryd.prog 39 (headOf Tryd.f39 0) (envAt Tryd.f39.ntmps ([(0, vP 63), (4, vN ((i + 1) : Nat))])) (Sx.look (sentEnts 19 144 [(0, t0), (4, t1)] ++ rB 60 M B ++ (rdE 63 102 N ((T ++ [itm 1 i (i + 1) 13 0 []])).length raw ++ itE 102 103 (T ++ [itm 1 i (i + 1) 13 0 []])))) 80 (v) (L') 700) :
    RunsTo Tryd.prog 39 (headOf Tryd.f39 0) (envAt Tryd.f39.ntmps ([(0, vP 63), (4, vN (i : Nat))])) (Sx.look (sentEnts 19 144 [(0, t0), (4, t1)] ++ rB 60 M B ++ (rdE 63 102 N (T).length raw ++ itE 102 103 T))) 80 (v) (L') 700 := by
  have w0 : IntKind.i64.wrap ((i : Int) + 1) = ((i + 1 : Nat) : Int) := by rw [wr64 (by omega)]; rfl
  have w1 : IntKind.i64.wrap ((i : Int) + 2) = ((i + 2 : Nat) : Int) := by rw [wr64 (by omega)]; rfl
  have w2 : IntKind.i64.wrap ((i : Int) + 3) = ((i + 3 : Nat) : Int) := by rw [wr64 (by omega)]; rfl
  have t0' : ((i : Int) + 1).toNat = i + 1 := by omega
  have t2' : ((i : Int) + 2).toNat = i + 2 := by omega
  refine runs_more baseROk (More.of (rA2_p0 t0 t1 N M raw B T i) ⟨?oo, rfl, ?rr⟩) (by kernel_rfl) (by kernel_rfl) rfl (gtL (by decide)) (by decide) next
  case oo =>
    clear next
    refine (okc ?_ (okc ?_ (okc ?_ (okc ?_ (okc ?_ (okc ?_ (okc ?_ (okc ?_ okn))))))))
    all_goals first | omega | (simp (disch := omega) only [SS, h0, hr, w0, w1, w2, Int.toNat_natCast, Go.Sx.sum, List.length_append, List.length_cons, List.length_nil, Nat.zero_add, hB]; first | done | omega) | assumption | (simp_all; done) | (simp (disch := omega) only [SS, h0, hr, w0, w1, w2, Int.toNat_natCast, Go.Sx.sum, List.length_append, List.length_cons, List.length_nil, Nat.zero_add, hB] at *; first | done | omega) | (refine Bool.and_eq_true_iff.2 ⟨decide_eq_true (by omega), Bool.and_eq_true_iff.2 ⟨decide_eq_true (by omega), hB⟩⟩) | (simp (disch := omega) only [SS, h0, hr, w0, w1, w2, Int.toNat_natCast, Go.Sx.sum, List.length_append, List.length_cons, List.length_nil, Nat.zero_add, hB, hB]; simp; omega)
  case rr =>
    clear next
    simp (disch := omega) only [SS, h0, hr, w0, w1, w2, Int.toNat_natCast, Go.Sx.sum, List.length_append, List.length_cons, List.length_nil, Nat.zero_add, hB]
    repeat' apply And.intro
    all_goals first | exact True.intro | with_reducible rfl | omega | exact iK_app T _ _ rfl | exact iF_app T _ _ rfl | exact iT_app T _ _ rfl | exact iC_app T _ _ rfl | exact iO_app T _ _ rfl | exact iW_app T _ _ rfl | exact iM_app T _ _ _ (fun k hk => rfl) rfl | exact iC_app T _ _ (by simp only [itm]; omega) | exact iO_app T _ _ (by simp only [itm]; omega) | exact iT_app T _ _ (by simp only [itm]; omega) | exact iL_cons T _ _ rfl | (intro m hm; exact ⟨iL_cons T _ _ rfl m hm, fun j hj => iZ_cons T _ _ m hm j (fun j hj => by first | exact absurd hj (Nat.not_lt_zero _) | rfl | (simp [itm]; done)) hj⟩) | (simp_all; done)

theorem rP0_p0 (t0 t1 : List UInt8) (N M : Nat) (raw : Bool) (B : Ix → Int) (T : List Itm) (i : Nat) :
    isMore (evTill Tryd.prog sumsROk 300 (behind Tryd.f39 0) 900 39 (headOf Tryd.f39 0) (envAt Tryd.f39.ntmps ([(0, vP 63), (4, vN (i : Nat))])) (sentEnts 19 144 [(0, t0), (4, t1)] ++ rB 60 M B ++ (rdE 63 102 N (T).length raw ++ itE 102 103 T)) ⟨[.s true, .s true, .s true, .s false, .s false, .s false, .s false, .s true, .t, .s true, .s true, .t], 160⟩) (moreP (headOf Tryd.f39 0) ([((102 : Nat), Rn.to (203 : Nat)), ((103 : Nat), Rn.to (202 : Nat))]) Tryd.f39.ntmps ([(0, vP 63), (4, vN ((i + 2) : Nat))]) (rdE 63 102 N ((T ++ [itm 2 i (i + 2) 0 0 []])).length raw ++ itE 102 103 (T ++ [itm 2 i (i + 2) 0 0 []])) 700) =
    (OkL [(decide ((↑i : Int) < (↑N : Int)), true), (decide ((0 : Int) ≤ (↑i : Int)) && (decide (N ≤ M) && bndB B N), true), (decide ((0 : Int) ≤ IntKind.i64.wrap ((↑i : Int) + (1 : Int))) && (decide (N ≤ M) && bndB B N), true), (atV N B (↑i : Int).toNat == (255 : Int), false), (atV N B (↑i : Int).toNat != (13 : Int), false), (raw, false), (decide (atV N B (IntKind.i64.wrap ((↑i : Int) + (1 : Int))).toNat < (0 : Int)), false), (atV N B (IntKind.i64.wrap ((↑i : Int) + (1 : Int))).toNat == (0 : Int), true), (((0 : Nat) + T.length).ble T.length, true), (decide (((2 : Nat) * (T.length + (1 : Nat)) + (192 : Nat)) * (64 : Nat) ≤ (281474976710656 : Nat)), true)] ∧ headOf Tryd.f39 (0 : Nat) = headOf Tryd.f39 (0 : Nat) ∧ ((0 : Nat) = (0 : Nat) ∧ (↑(i + (2 : Nat)) : Int) = IntKind.i64.wrap ((↑i : Int) + (2 : Int))) ∧ (((0 : Nat) = (0 : Nat) ∧ N = N) ∧ raw = raw ∧ (0 : Nat) = (0 : Nat) ∧ (T ++ [itm (2 : Nat) i (i + (2 : Nat)) (0 : Nat) (0 : Nat) []]).length = T.length + (1 : Nat)) ∧ ((T ++ [itm (2 : Nat) i (i + (2 : Nat)) (0 : Nat) (0 : Nat) []]).length = T.length + (1 : Nat) ∧ (∀ (i_1 : Nat), i_1 < (T ++ [itm (2 : Nat) i (i + (2 : Nat)) (0 : Nat) (0 : Nat) []]).length → iK (T ++ [itm (2 : Nat) i (i + (2 : Nat)) (0 : Nat) (0 : Nat) []]) [i_1] = appF T.length (0 : Nat) (iK T) (fun js => (2 : Int)) [i_1]) ∧ (∀ (i_1 : Nat), i_1 < (T ++ [itm (2 : Nat) i (i + (2 : Nat)) (0 : Nat) (0 : Nat) []]).length → iF (T ++ [itm (2 : Nat) i (i + (2 : Nat)) (0 : Nat) (0 : Nat) []]) [i_1] = appF T.length (0 : Nat) (iF T) (fun js => (↑i : Int)) [i_1]) ∧ (∀ (i_1 : Nat), i_1 < (T ++ [itm (2 : Nat) i (i + (2 : Nat)) (0 : Nat) (0 : Nat) []]).length → iT (T ++ [itm (2 : Nat) i (i + (2 : Nat)) (0 : Nat) (0 : Nat) []]) [i_1] = appF T.length (0 : Nat) (iT T) (fun js => IntKind.i64.wrap ((↑i : Int) + (2 : Int))) [i_1]) ∧ (∀ (i_1 : Nat), i_1 < (T ++ [itm (2 : Nat) i (i + (2 : Nat)) (0 : Nat) (0 : Nat) []]).length → iC (T ++ [itm (2 : Nat) i (i + (2 : Nat)) (0 : Nat) (0 : Nat) []]) [i_1] = appF T.length (0 : Nat) (iC T) (fun js => atV N B (IntKind.i64.wrap ((↑i : Int) + (1 : Int))).toNat) [i_1]) ∧ (∀ (i_1 : Nat), i_1 < (T ++ [itm (2 : Nat) i (i + (2 : Nat)) (0 : Nat) (0 : Nat) []]).length → iO (T ++ [itm (2 : Nat) i (i + (2 : Nat)) (0 : Nat) (0 : Nat) []]) [i_1] = appF T.length (0 : Nat) (iO T) (fun js => (0 : Int)) [i_1]) ∧ (∀ (i_1 : Nat), i_1 < (T ++ [itm (2 : Nat) i (i + (2 : Nat)) (0 : Nat) (0 : Nat) []]).length → iM (T ++ [itm (2 : Nat) i (i + (2 : Nat)) (0 : Nat) (0 : Nat) []]) [i_1] = appF T.length (0 : Nat) (fun is => iM T is + (1 : Nat)) (fun js => (0 : Nat)) [i_1]) ∧ ∀ (i_1 : Nat), i_1 < (T ++ [itm (2 : Nat) i (i + (2 : Nat)) (0 : Nat) (0 : Nat) []]).length → iW (T ++ [itm (2 : Nat) i (i + (2 : Nat)) (0 : Nat) (0 : Nat) []]) [i_1] = appF T.length (0 : Nat) (iW T) (fun js => (0 : Nat)) [i_1]) ∧ (T ++ [itm (2 : Nat) i (i + (2 : Nat)) (0 : Nat) (0 : Nat) []]).length = T.length + (1 : Nat) ∧ ∀ (m : Nat), m < (T ++ [itm (2 : Nat) i (i + (2 : Nat)) (0 : Nat) (0 : Nat) []]).length → iL (T ++ [itm (2 : Nat) i (i + (2 : Nat)) (0 : Nat) (0 : Nat) []]) m = consN (0 : Nat) (iL T) m ∧ ∀ (i_1 : Nat), i_1 < iL (T ++ [itm (2 : Nat) i (i + (2 : Nat)) (0 : Nat) (0 : Nat) []]) m → iZ (T ++ [itm (2 : Nat) i (i + (2 : Nat)) (0 : Nat) (0 : Nat) []]) [m, i_1] = consF (iZ T) (iZ T) [m, i_1]) := by kernel_rfl

set_option maxHeartbeats 4000000 in
theorem rP0 (t0 t1 : List UInt8) (N M : Nat) (raw : Bool) (B : Ix → Int) (T : List Itm) (i : Nat) (hi : i < N) (hN : N ≤ 100000) (hM : N ≤ M) (hB : bndB B N = true) (hT : T.length ≤ 100000) (h0 : atV N B i = 13) (hr : raw = false) (h1 : atV N B (i + 1) = 0)  (v : SV) (L' : HF) (next : RunsTo Tryd.prog 39 (headOf Tryd.f39 0) (envAt Tryd.f39.ntmps ([(0, vP 63), (4, vN ((i + 2) : Nat))])) (Sx.look (sentEnts 19 144 [(0, t0), (4, t1)] ++ rB 60 M B ++ (rdE 63 102 N ((T ++ [itm 2 i (i + 2) 0 0 []])).length raw ++ itE 102 103 (T ++ [itm 2 i (i + 2) 0 0 []])))) 80 (v) (L') 700) :
    RunsTo Tryd.prog 39 (headOf Tryd.f39 0) (envAt Tryd.f39.ntmps ([(0, vP 63), (4, vN (i : Nat))])) (Sx.look (sentEnts 19 144 [(0, t0), (4, t1)] ++ rB 60 M B ++ (rdE 63 102 N (T).length raw ++ itE 102 103 T))) 80 (v) (L') 700 := by
  have w0 : IntKind.i64.wrap ((i : Int) + 1) = ((i + 1 : Nat) : Int) := by rw [wr64 (by omega)]; rfl
  have w1 : IntKind.i64.wrap ((i : Int) + 2) = ((i + 2 : Nat) : Int) := by rw [wr64 (by omega)]; rfl
  have w2 : IntKind.i64.wrap ((i : Int) + 3) = ((i + 3 : Nat) : Int) := by rw [wr64 (by omega)]; rfl
  have t0' : ((i : Int) + 1).toNat = i + 1 := by omega
  have t2' : ((i : Int) + 2).toNat = i + 2 := by omega
  refine runs_more baseROk (More.of (rP0_p0 t0 t1 N M raw B T i) ⟨?oo, rfl, ?rr⟩) (by kernel_rfl) (by kernel_rfl) rfl (gtL (by decide)) (by decide) next
  case oo =>
    clear next
    refine (okc ?_ (okc ?_ (okc ?_ (okc ?_ (okc ?_ (okc ?_ (okc ?_ (okc ?_ (okc ?_ (okc ?_ okn))))))))))
    all_goals first | omega | (simp (disch := omega) only [SS, h0, h1, hr, w0, w1, w2, Int.toNat_natCast, Go.Sx.sum, List.length_append, List.length_cons, List.length_nil, Nat.zero_add, hB]; first | done | omega) | assumption | (simp_all; done) | (simp (disch := omega) only [SS, h0, h1, hr, w0, w1, w2, Int.toNat_natCast, Go.Sx.sum, List.length_append, List.length_cons, List.length_nil, Nat.zero_add, hB] at *; first | done | omega) | (refine Bool.and_eq_true_iff.2 ⟨decide_eq_true (by omega), Bool.and_eq_true_iff.2 ⟨decide_eq_true (by omega), hB⟩⟩) | (simp (disch := omega) only [SS, h0, h1, hr, w0, w1, w2, Int.toNat_natCast, Go.Sx.sum, List.length_append, List.length_cons, List.length_nil, Nat.zero_add, hB, hB]; simp; omega)
  case rr =>
    clear next
    simp (disch := omega) only [SS, h0, h1, hr, w0, w1, w2, Int.toNat_natCast, Go.Sx.sum, List.length_append, List.length_cons, List.length_nil, Nat.zero_add, hB]
    repeat' apply And.intro
    all_goals first | exact True.intro | with_reducible rfl | omega | exact iK_app T _ _ rfl | exact iF_app T _ _ rfl | exact iT_app T _ _ rfl | exact iC_app T _ _ rfl | exact iO_app T _ _ rfl | exact iW_app T _ _ rfl | exact iM_app T _ _ _ (fun k hk => rfl) rfl | exact iC_app T _ _ (by simp only [itm]; omega) | exact iO_app T _ _ (by simp only [itm]; omega) | exact iT_app T _ _ (by simp only [itm]; omega) | exact iL_cons T _ _ rfl | (intro m hm; exact ⟨iL_cons T _ _ rfl m hm, fun j hj => iZ_cons T _ _ m hm j (fun j hj => by first | exact absurd hj (Nat.not_lt_zero _) | rfl | (simp [itm]; done)) hj⟩) | (simp_all; done)

theorem rP1_p0 (t0 t1 : List UInt8) (N M : Nat) (raw : Bool) (B : Ix → Int) (T : List Itm) (i : Nat) :
    isMore (evTill Tryd.prog sumsROk 300 (behind Tryd.f39 0) 900 39 (headOf Tryd.f39 0) (envAt Tryd.f39.ntmps ([(0, vP 63), (4, vN (i : Nat))])) (sentEnts 19 144 [(0, t0), (4, t1)] ++ rB 60 M B ++ (rdE 63 102 N (T).length raw ++ itE 102 103 T)) ⟨[.s true, .s true, .s true, .s false, .s false, .s false, .s false, .s false, .s true, .t, .s true, .s true, .t], 160⟩) (moreP (headOf Tryd.f39 0) ([((102 : Nat), Rn.to (203 : Nat)), ((103 : Nat), Rn.to (202 : Nat))]) Tryd.f39.ntmps ([(0, vP 63), (4, vN ((i + 2) : Nat))]) (rdE 63 102 N ((T ++ [itm 2 i (i + 2) 10 0 []])).length raw ++ itE 102 103 (T ++ [itm 2 i (i + 2) 10 0 []])) 700) =
    (OkL [(decide ((↑i : Int) < (↑N : Int)), true), (decide ((0 : Int) ≤ (↑i : Int)) && (decide (N ≤ M) && bndB B N), true), (decide ((0 : Int) ≤ IntKind.i64.wrap ((↑i : Int) + (1 : Int))) && (decide (N ≤ M) && bndB B N), true), (atV N B (↑i : Int).toNat == (255 : Int), false), (atV N B (↑i : Int).toNat != (13 : Int), false), (raw, false), (decide (atV N B (IntKind.i64.wrap ((↑i : Int) + (1 : Int))).toNat < (0 : Int)), false), (atV N B (IntKind.i64.wrap ((↑i : Int) + (1 : Int))).toNat == (0 : Int), false), (atV N B (IntKind.i64.wrap ((↑i : Int) + (1 : Int))).toNat == (10 : Int), true), (((0 : Nat) + T.length).ble T.length, true), (decide (((2 : Nat) * (T.length + (1 : Nat)) + (192 : Nat)) * (64 : Nat) ≤ (281474976710656 : Nat)), true)] ∧ headOf Tryd.f39 (0 : Nat) = headOf Tryd.f39 (0 : Nat) ∧ ((0 : Nat) = (0 : Nat) ∧ (↑(i + (2 : Nat)) : Int) = IntKind.i64.wrap ((↑i : Int) + (2 : Int))) ∧ (((0 : Nat) = (0 : Nat) ∧ N = N) ∧ raw = raw ∧ (0 : Nat) = (0 : Nat) ∧ (T ++ [itm (2 : Nat) i (i + (2 : Nat)) (10 : Nat) (0 : Nat) []]).length = T.length + (1 : Nat)) ∧ ((T ++ [itm (2 : Nat) i (i + (2 : Nat)) (10 : Nat) (0 : Nat) []]).length = T.length + (1 : Nat) ∧ (∀ (i_1 : Nat), i_1 < (T ++ [itm (2 : Nat) i (i + (2 : Nat)) (10 : Nat) (0 : Nat) []]).length → iK (T ++ [itm (2 : Nat) i (i + (2 : Nat)) (10 : Nat) (0 : Nat) []]) [i_1] = appF T.length (0 : Nat) (iK T) (fun js => (2 : Int)) [i_1]) ∧ (∀ (i_1 : Nat), i_1 < (T ++ [itm (2 : Nat) i (i + (2 : Nat)) (10 : Nat) (0 : Nat) []]).length → iF (T ++ [itm (2 : Nat) i (i + (2 : Nat)) (10 : Nat) (0 : Nat) []]) [i_1] = appF T.length (0 : Nat) (iF T) (fun js => (↑i : Int)) [i_1]) ∧ (∀ (i_1 : Nat), i_1 < (T ++ [itm (2 : Nat) i (i + (2 : Nat)) (10 : Nat) (0 : Nat) []]).length → iT (T ++ [itm (2 : Nat) i (i + (2 : Nat)) (10 : Nat) (0 : Nat) []]) [i_1] = appF T.length (0 : Nat) (iT T) (fun js => IntKind.i64.wrap ((↑i : Int) + (2 : Int))) [i_1]) ∧ (∀ (i_1 : Nat), i_1 < (T ++ [itm (2 : Nat) i (i + (2 : Nat)) (10 : Nat) (0 : Nat) []]).length → iC (T ++ [itm (2 : Nat) i (i + (2 : Nat)) (10 : Nat) (0 : Nat) []]) [i_1] = appF T.length (0 : Nat) (iC T) (fun js => atV N B (IntKind.i64.wrap ((↑i : Int) + (1 : Int))).toNat) [i_1]) ∧ (∀ (i_1 : Nat), i_1 < (T ++ [itm (2 : Nat) i (i + (2 : Nat)) (10 : Nat) (0 : Nat) []]).length → iO (T ++ [itm (2 : Nat) i (i + (2 : Nat)) (10 : Nat) (0 : Nat) []]) [i_1] = appF T.length (0 : Nat) (iO T) (fun js => (0 : Int)) [i_1]) ∧ (∀ (i_1 : Nat), i_1 < (T ++ [itm (2 : Nat) i (i + (2 : Nat)) (10 : Nat) (0 : Nat) []]).length → iM (T ++ [itm (2 : Nat) i (i + (2 : Nat)) (10 : Nat) (0 : Nat) []]) [i_1] = appF T.length (0 : Nat) (fun is => iM T is + (1 : Nat)) (fun js => (0 : Nat)) [i_1]) ∧ ∀ (i_1 : Nat), i_1 < (T ++ [itm (2 : Nat) i (i + (2 : Nat)) (10 : Nat) (0 : Nat) []]).length → iW (T ++ [itm (2 : Nat) i (i + (2 : Nat)) (10 : Nat) (0 : Nat) []]) [i_1] = appF T.length (0 : Nat) (iW T) (fun js => (0 : Nat)) [i_1]) ∧ (T ++ [itm (2 : Nat) i (i + (2 : Nat)) (10 : Nat) (0 : Nat) []]).length = T.length + (1 : Nat) ∧ ∀ (m : Nat), m < (T ++ [itm (2 : Nat) i (i + (2 : Nat)) (10 : Nat) (0 : Nat) []]).length → iL (T ++ [itm (2 : Nat) i (i + (2 : Nat)) (10 : Nat) (0 : Nat) []]) m = consN (0 : Nat) (iL T) m ∧ ∀ (i_1 : Nat), i_1 < iL (T ++ [itm (2 : Nat) i (i + (2 : Nat)) (10 : Nat) (0 : Nat) []]) m → iZ (T ++ [itm (2 : Nat) i (i + (2 : Nat)) (10 : Nat) (0 : Nat) []]) [m, i_1] = consF (iZ T) (iZ T) [m, i_1]) := by kernel_rfl

set_option maxHeartbeats 4000000 in
theorem rP1 (t0 t1 : List UInt8) (N M : Nat) (raw : Bool) (B : Ix → Int) (T : List Itm) (i : Nat) (hi : i < N) (hN : N ≤ 100000) (hM : N ≤ M) (hB : bndB B N = true) (hT : T.length ≤ 100000) (h0 : atV N B i = 13) (hr : raw = false) (h1 : atV N B (i + 1) = 10)  (v : SV) (L' : HF) (next : RunsTo Tryd.prog 39 (headOf Tryd.f39 0) (envAt Tryd.f39.ntmps ([(0, vP 63), (4, vN ((i + 2) : Nat))])) (Sx.look (sentEnts 19 144 [(0, t0), (4, t1)] ++ rB 60 M B ++ (rdE 63 102 N ((T ++ [itm 2 i (i + 2) 10 0 []])).length raw ++ itE 102 103 (T ++ [itm 2 i (i + 2) 10 0 []])))) 80 (v) (L') 700) :
    RunsTo Tryd.prog 39 (headOf Tryd.f39 0) (envAt Tryd.f39.ntmps ([(0, vP 63), (4, vN (i : Nat))])) (Sx.look (sentEnts 19 144 [(0, t0), (4, t1)] ++ rB 60 M B ++ (rdE 63 102 N (T).length raw ++ itE 102 103 T))) 80 (v) (L') 700 := by
  have w0 : IntKind.i64.wrap ((i : Int) + 1) = ((i + 1 : Nat) : Int) := by rw [wr64 (by omega)]; rfl
  have w1 : IntKind.i64.wrap ((i : Int) + 2) = ((i + 2 : Nat) : Int) := by rw [wr64 (by omega)]; rfl
  have w2 : IntKind.i64.wrap ((i : Int) + 3) = ((i + 3 : Nat) : Int) := by rw [wr64 (by omega)]; rfl
  have t0' : ((i : Int) + 1).toNat = i + 1 := by omega
  have t2' : ((i : Int) + 2).toNat = i + 2 := by omega
  refine runs_more baseROk (More.of (rP1_p0 t0 t1 N M raw B T i) ⟨?oo, rfl, ?rr⟩) (by kernel_rfl) (by kernel_rfl) rfl (gtL (by decide)) (by decide) next
  case oo =>
    clear next
    refine (okc ?_ (okc ?_ (okc ?_ (okc ?_ (okc ?_ (okc ?_ (okc ?_ (okc ?_ (okc ?_ (okc ?_ (okc ?_ okn)))))))))))
    all_goals first | omega | (simp (disch := omega) only [SS, h0, h1, hr, w0, w1, w2, Int.toNat_natCast, Go.Sx.sum, List.length_append, List.length_cons, List.length_nil, Nat.zero_add, hB]; first | done | omega) | assumption | (simp_all; done) | (simp (disch := omega) only [SS, h0, h1, hr, w0, w1, w2, Int.toNat_natCast, Go.Sx.sum, List.length_append, List.length_cons, List.length_nil, Nat.zero_add, hB] at *; first | done | omega) | (refine Bool.and_eq_true_iff.2 ⟨decide_eq_true (by omega), Bool.and_eq_true_iff.2 ⟨decide_eq_true (by omega), hB⟩⟩) | (simp (disch := omega) only [SS, h0, h1, hr, w0, w1, w2, Int.toNat_natCast, Go.Sx.sum, List.length_append, List.length_cons, List.length_nil, Nat.zero_add, hB, hB]; simp; omega)
  case rr =>
    clear next
    simp (disch := omega) only [SS, h0, h1, hr, w0, w1, w2, Int.toNat_natCast, Go.Sx.sum, List.length_append, List.length_cons, List.length_nil, Nat.zero_add, hB]
    repeat' apply And.intro
    all_goals first | exact True.intro | with_reducible rfl | omega | exact iK_app T _ _ rfl | exact iF_app T _ _ rfl | exact iT_app T _ _ rfl | exact iC_app T _ _ rfl | exact iO_app T _ _ rfl | exact iW_app T _ _ rfl | exact iM_app T _ _ _ (fun k hk => rfl) rfl | exact iC_app T _ _ (by simp only [itm]; omega) | exact iO_app T _ _ (by simp only [itm]; omega) | exact iT_app T _ _ (by simp only [itm]; omega) | exact iL_cons T _ _ rfl | (intro m hm; exact ⟨iL_cons T _ _ rfl m hm, fun j hj => iZ_cons T _ _ m hm j (fun j hj => by first | exact absurd hj (Nat.not_lt_zero _) | rfl | (simp [itm]; done)) hj⟩) | (simp_all; done)

theorem rL_p0 (t0 t1 : List UInt8) (N M : Nat) (raw : Bool) (B : Ix → Int) (T : List Itm) (i : Nat) :
    isMore (evTill Tryd.prog sumsROk 300 (behind Tryd.f39 0) 900 39 (headOf Tryd.f39 0) (envAt Tryd.f39.ntmps ([(0, vP 63), (4, vN (i : Nat))])) (sentEnts 19 144 [(0, t0), (4, t1)] ++ rB 60 M B ++ (rdE 63 102 N (T).length raw ++ itE 102 103 T)) ⟨[.s true, .s true, .s true, .s false, .s false, .s false, .s false, .s false, .s false, .t, .s true, .s true, .t], 160⟩) (moreP (headOf Tryd.f39 0) ([((102 : Nat), Rn.to (203 : Nat)), ((103 : Nat), Rn.to (202 : Nat))]) Tryd.f39.ntmps ([(0, vP 63), (4, vN ((i + 1) : Nat))]) (rdE 63 102 N ((T ++ [itm 1 i (i + 1) 13 0 []])).length raw ++ itE 102 103 (T ++ [itm 1 i (i + 1) 13 0 []])) 700) =
    (OkL [(decide ((↑i : Int) < (↑N : Int)), true), (decide ((0 : Int) ≤ (↑i : Int)) && (decide (N ≤ M) && bndB B N), true), (decide ((0 : Int) ≤ IntKind.i64.wrap ((↑i : Int) + (1 : Int))) && (decide (N ≤ M) && bndB B N), true), (atV N B (↑i : Int).toNat == (255 : Int), false), (atV N B (↑i : Int).toNat != (13 : Int), false), (raw, false), (decide (atV N B (IntKind.i64.wrap ((↑i : Int) + (1 : Int))).toNat < (0 : Int)), false), (atV N B (IntKind.i64.wrap ((↑i : Int) + (1 : Int))).toNat == (0 : Int), false), (atV N B (IntKind.i64.wrap ((↑i : Int) + (1 : Int))).toNat == (10 : Int), false), (((0 : Nat) + T.length).ble T.length, true), (decide (((2 : Nat) * (T.length + (1 : Nat)) + (192 : Nat)) * (64 : Nat) ≤ (281474976710656 : Nat)), true)] ∧ headOf Tryd.f39 (0 : Nat) = headOf Tryd.f39 (0 : Nat) ∧ ((0 : Nat) = (0 : Nat) ∧ (↑(i + (1 : Nat)) : Int) = IntKind.i64.wrap ((↑i : Int) + (1 : Int))) ∧ (((0 : Nat) = (0 : Nat) ∧ N = N) ∧ raw = raw ∧ (0 : Nat) = (0 : Nat) ∧ (T ++ [itm (1 : Nat) i (i + (1 : Nat)) (13 : Nat) (0 : Nat) []]).length = T.length + (1 : Nat)) ∧ ((T ++ [itm (1 : Nat) i (i + (1 : Nat)) (13 : Nat) (0 : Nat) []]).length = T.length + (1 : Nat) ∧ (∀ (i_1 : Nat), i_1 < (T ++ [itm (1 : Nat) i (i + (1 : Nat)) (13 : Nat) (0 : Nat) []]).length → iK (T ++ [itm (1 : Nat) i (i + (1 : Nat)) (13 : Nat) (0 : Nat) []]) [i_1] = appF T.length (0 : Nat) (iK T) (fun js => (1 : Int)) [i_1]) ∧ (∀ (i_1 : Nat), i_1 < (T ++ [itm (1 : Nat) i (i + (1 : Nat)) (13 : Nat) (0 : Nat) []]).length → iF (T ++ [itm (1 : Nat) i (i + (1 : Nat)) (13 : Nat) (0 : Nat) []]) [i_1] = appF T.length (0 : Nat) (iF T) (fun js => (↑i : Int)) [i_1]) ∧ (∀ (i_1 : Nat), i_1 < (T ++ [itm (1 : Nat) i (i + (1 : Nat)) (13 : Nat) (0 : Nat) []]).length → iT (T ++ [itm (1 : Nat) i (i + (1 : Nat)) (13 : Nat) (0 : Nat) []]) [i_1] = appF T.length (0 : Nat) (iT T) (fun js => IntKind.i64.wrap ((↑i : Int) + (1 : Int))) [i_1]) ∧ (∀ (i_1 : Nat), i_1 < (T ++ [itm (1 : Nat) i (i + (1 : Nat)) (13 : Nat) (0 : Nat) []]).length → iC (T ++ [itm (1 : Nat) i (i + (1 : Nat)) (13 : Nat) (0 : Nat) []]) [i_1] = appF T.length (0 : Nat) (iC T) (fun js => atV N B (↑i : Int).toNat) [i_1]) ∧ (∀ (i_1 : Nat), i_1 < (T ++ [itm (1 : Nat) i (i + (1 : Nat)) (13 : Nat) (0 : Nat) []]).length → iO (T ++ [itm (1 : Nat) i (i + (1 : Nat)) (13 : Nat) (0 : Nat) []]) [i_1] = appF T.length (0 : Nat) (iO T) (fun js => (0 : Int)) [i_1]) ∧ (∀ (i_1 : Nat), i_1 < (T ++ [itm (1 : Nat) i (i + (1 : Nat)) (13 : Nat) (0 : Nat) []]).length → iM (T ++ [itm (1 : Nat) i (i + (1 : Nat)) (13 : Nat) (0 : Nat) []]) [i_1] = appF T.length (0 : Nat) (fun is => iM T is + (1 : Nat)) (fun js => (0 : Nat)) [i_1]) ∧ ∀ (i_1 : Nat), i_1 < (T ++ [itm (1 : Nat) i (i + (1 : Nat)) (13 : Nat) (0 : Nat) []]).length → iW (T ++ [itm (1 : Nat) i (i + (1 : Nat)) (13 : Nat) (0 : Nat) []]) [i_1] = appF T.length (0 : Nat) (iW T) (fun js => (0 : Nat)) [i_1]) ∧ (T ++ [itm (1 : Nat) i (i + (1 : Nat)) (13 : Nat) (0 : Nat) []]).length = T.length + (1 : Nat) ∧ ∀ (m : Nat), m < (T ++ [itm (1 : Nat) i (i + (1 : Nat)) (13 : Nat) (0 : Nat) []]).length → iL (T ++ [itm (1 : Nat) i (i + (1 : Nat)) (13 : Nat) (0 : Nat) []]) m = consN (0 : Nat) (iL T) m ∧ ∀ (i_1 : Nat), i_1 < iL (T ++ [itm (1 : Nat) i (i + (1 : Nat)) (13 : Nat) (0 : Nat) []]) m → iZ (T ++ [itm (1 : Nat) i (i + (1 : Nat)) (13 : Nat) (0 : Nat) []]) [m, i_1] = consF (iZ T) (iZ T) [m, i_1]) := by kernel_rfl

set_option maxHeartbeats 4000000 in
theorem rL (t0 t1 : List UInt8) (N M : Nat) (raw : Bool) (B : Ix → Int) (T : List Itm) (i : Nat) (hi : i < N) (hN : N ≤ 100000) (hM : N ≤ M) (hB : bndB B N = true) (hT : T.length ≤ 100000) (h0 : atV N B i = 13) (hr : raw = false) (h1 : 0 ≤ atV N B (i + 1)) (h2 : atV N B (i + 1) ≠ 0) (h3 : atV N B (i + 1) ≠ 10)  (v : SV) (L' : HF) (next : RunsTo Tryd.prog 39 (headOf Tryd.f39 0) (envAt Tryd.f39.ntmps ([(0, vP 63), (4, vN ((i + 1) : Nat))])) (Sx.look (sentEnts 19 144 [(0, t0), (4, t1)] ++ rB 60 M B ++ (rdE 63 102 N ((T ++ [itm 1 i (i + 1) 13 0 []])).length raw ++ itE 102 103 (T ++ [itm 1 i (i + 1) 13 0 []])))) 80 (v) (L') 700) :
    RunsTo Tryd.prog 39 (headOf Tryd.f39 0) (envAt Tryd.f39.ntmps ([(0, vP 63), (4, vN (i : Nat))])) (Sx.look (sentEnts 19 144 [(0, t0), (4, t1)] ++ rB 60 M B ++ (rdE 63 102 N (T).length raw ++ itE 102 103 T))) 80 (v) (L') 700 := by
  have w0 : IntKind.i64.wrap ((i : Int) + 1) = ((i + 1 : Nat) : Int) := by rw [wr64 (by omega)]; rfl
  have w1 : IntKind.i64.wrap ((i : Int) + 2) = ((i + 2 : Nat) : Int) := by rw [wr64 (by omega)]; rfl
  have w2 : IntKind.i64.wrap ((i : Int) + 3) = ((i + 3 : Nat) : Int) := by rw [wr64 (by omega)]; rfl
  have t0' : ((i : Int) + 1).toNat = i + 1 := by omega
  have t2' : ((i : Int) + 2).toNat = i + 2 := by omega
  refine runs_more baseROk (More.of (rL_p0 t0 t1 N M raw B T i) ⟨?oo, rfl, ?rr⟩) (by kernel_rfl) (by kernel_rfl) rfl (gtL (by decide)) (by decide) next
  case oo =>
    clear next
    refine (okc ?_ (okc ?_ (okc ?_ (okc ?_ (okc ?_ (okc ?_ (okc ?_ (okc ?_ (okc ?_ (okc ?_ (okc ?_ okn)))))))))))
    all_goals first | omega | (simp (disch := omega) only [SS, h0, h1, h3, hr, w0, w1, w2, Int.toNat_natCast, Go.Sx.sum, List.length_append, List.length_cons, List.length_nil, Nat.zero_add, hB]; first | done | omega) | assumption | (simp_all; done) | (simp (disch := omega) only [SS, h0, h1, h3, hr, w0, w1, w2, Int.toNat_natCast, Go.Sx.sum, List.length_append, List.length_cons, List.length_nil, Nat.zero_add, hB] at *; first | done | omega) | (refine Bool.and_eq_true_iff.2 ⟨decide_eq_true (by omega), Bool.and_eq_true_iff.2 ⟨decide_eq_true (by omega), hB⟩⟩) | (simp (disch := omega) only [SS, h0, h1, h3, hr, w0, w1, w2, Int.toNat_natCast, Go.Sx.sum, List.length_append, List.length_cons, List.length_nil, Nat.zero_add, hB, hB]; simp; omega)
  case rr =>
    clear next
    simp (disch := omega) only [SS, h0, h1, h3, hr, w0, w1, w2, Int.toNat_natCast, Go.Sx.sum, List.length_append, List.length_cons, List.length_nil, Nat.zero_add, hB]
    repeat' apply And.intro
    all_goals first | exact True.intro | with_reducible rfl | omega | exact iK_app T _ _ rfl | exact iF_app T _ _ rfl | exact iT_app T _ _ rfl | exact iC_app T _ _ rfl | exact iO_app T _ _ rfl | exact iW_app T _ _ rfl | exact iM_app T _ _ _ (fun k hk => rfl) rfl | exact iC_app T _ _ (by simp only [itm]; omega) | exact iO_app T _ _ (by simp only [itm]; omega) | exact iT_app T _ _ (by simp only [itm]; omega) | exact iL_cons T _ _ rfl | (intro m hm; exact ⟨iL_cons T _ _ rfl m hm, fun j hj => iZ_cons T _ _ m hm j (fun j hj => by first | exact absurd hj (Nat.not_lt_zero _) | rfl | (simp [itm]; done)) hj⟩) | (simp_all; done)

theorem rI_p0 (t0 t1 : List UInt8) (N M : Nat) (raw : Bool) (B : Ix → Int) (T : List Itm) (i : Nat) :
    isMore (evTill Tryd.prog sumsROk 300 (behind Tryd.f39 0) 900 39 (headOf Tryd.f39 0) (envAt Tryd.f39.ntmps ([(0, vP 63), (4, vN (i : Nat))])) (sentEnts 19 144 [(0, t0), (4, t1)] ++ rB 60 M B ++ (rdE 63 102 N (T).length raw ++ itE 102 103 T)) ⟨[.s true, .s true, .s true, .s true, .s true, .s true, .s true, .t, .s true, .s true, .t], 160⟩) (moreP (headOf Tryd.f39 0) ([((102 : Nat), Rn.to (243 : Nat)), ((103 : Nat), Rn.to (242 : Nat))]) Tryd.f39.ntmps ([(0, vP 63), (4, vN ((i + 2) : Nat))]) (rdE 63 102 N ((T ++ [itm 1 i (i + 2) 255 0 []])).length raw ++ itE 102 103 (T ++ [itm 1 i (i + 2) 255 0 []])) 700) =
    (OkL [(decide ((↑i : Int) < (↑N : Int)), true), (decide ((0 : Int) ≤ (↑i : Int)) && (decide (N ≤ M) && bndB B N), true), (decide ((0 : Int) ≤ IntKind.i64.wrap ((↑i : Int) + (1 : Int))) && (decide (N ≤ M) && bndB B N), true), (atV N B (↑i : Int).toNat == (255 : Int), true), (decide ((0 : Int) ≤ IntKind.i64.wrap ((↑i : Int) + (1 : Int))) && (decide (N ≤ M) && bndB B N), true), (decide ((0 : Int) ≤ IntKind.i64.wrap ((↑i : Int) + (2 : Int))) && (decide (N ≤ M) && bndB B N), true), (atV N B (IntKind.i64.wrap ((↑i : Int) + (1 : Int))).toNat == (255 : Int), true), (((0 : Nat) + T.length).ble T.length, true), (decide (((2 : Nat) * (T.length + (1 : Nat)) + (192 : Nat)) * (64 : Nat) ≤ (281474976710656 : Nat)), true)] ∧ headOf Tryd.f39 (0 : Nat) = headOf Tryd.f39 (0 : Nat) ∧ ((0 : Nat) = (0 : Nat) ∧ (↑(i + (2 : Nat)) : Int) = IntKind.i64.wrap ((↑i : Int) + (2 : Int))) ∧ (((0 : Nat) = (0 : Nat) ∧ N = N) ∧ raw = raw ∧ (0 : Nat) = (0 : Nat) ∧ (T ++ [itm (1 : Nat) i (i + (2 : Nat)) (255 : Nat) (0 : Nat) []]).length = T.length + (1 : Nat)) ∧ ((T ++ [itm (1 : Nat) i (i + (2 : Nat)) (255 : Nat) (0 : Nat) []]).length = T.length + (1 : Nat) ∧ (∀ (i_1 : Nat), i_1 < (T ++ [itm (1 : Nat) i (i + (2 : Nat)) (255 : Nat) (0 : Nat) []]).length → iK (T ++ [itm (1 : Nat) i (i + (2 : Nat)) (255 : Nat) (0 : Nat) []]) [i_1] = appF T.length (0 : Nat) (iK T) (fun js => (1 : Int)) [i_1]) ∧ (∀ (i_1 : Nat), i_1 < (T ++ [itm (1 : Nat) i (i + (2 : Nat)) (255 : Nat) (0 : Nat) []]).length → iF (T ++ [itm (1 : Nat) i (i + (2 : Nat)) (255 : Nat) (0 : Nat) []]) [i_1] = appF T.length (0 : Nat) (iF T) (fun js => (↑i : Int)) [i_1]) ∧ (∀ (i_1 : Nat), i_1 < (T ++ [itm (1 : Nat) i (i + (2 : Nat)) (255 : Nat) (0 : Nat) []]).length → iT (T ++ [itm (1 : Nat) i (i + (2 : Nat)) (255 : Nat) (0 : Nat) []]) [i_1] = appF T.length (0 : Nat) (iT T) (fun js => IntKind.i64.wrap ((↑i : Int) + (2 : Int))) [i_1]) ∧ (∀ (i_1 : Nat), i_1 < (T ++ [itm (1 : Nat) i (i + (2 : Nat)) (255 : Nat) (0 : Nat) []]).length → iC (T ++ [itm (1 : Nat) i (i + (2 : Nat)) (255 : Nat) (0 : Nat) []]) [i_1] = appF T.length (0 : Nat) (iC T) (fun js => atV N B (IntKind.i64.wrap ((↑i : Int) + (1 : Int))).toNat) [i_1]) ∧ (∀ (i_1 : Nat), i_1 < (T ++ [itm (1 : Nat) i (i + (2 : Nat)) (255 : Nat) (0 : Nat) []]).length → iO (T ++ [itm (1 : Nat) i (i + (2 : Nat)) (255 : Nat) (0 : Nat) []]) [i_1] = appF T.length (0 : Nat) (iO T) (fun js => (0 : Int)) [i_1]) ∧ (∀ (i_1 : Nat), i_1 < (T ++ [itm (1 : Nat) i (i + (2 : Nat)) (255 : Nat) (0 : Nat) []]).length → iM (T ++ [itm (1 : Nat) i (i + (2 : Nat)) (255 : Nat) (0 : Nat) []]) [i_1] = appF T.length (0 : Nat) (fun is => iM T is + (1 : Nat)) (fun js => (0 : Nat)) [i_1]) ∧ ∀ (i_1 : Nat), i_1 < (T ++ [itm (1 : Nat) i (i + (2 : Nat)) (255 : Nat) (0 : Nat) []]).length → iW (T ++ [itm (1 : Nat) i (i + (2 : Nat)) (255 : Nat) (0 : Nat) []]) [i_1] = appF T.length (0 : Nat) (iW T) (fun js => (0 : Nat)) [i_1]) ∧ (T ++ [itm (1 : Nat) i (i + (2 : Nat)) (255 : Nat) (0 : Nat) []]).length = T.length + (1 : Nat) ∧ ∀ (m : Nat), m < (T ++ [itm (1 : Nat) i (i + (2 : Nat)) (255 : Nat) (0 : Nat) []]).length → iL (T ++ [itm (1 : Nat) i (i + (2 : Nat)) (255 : Nat) (0 : Nat) []]) m = consN (0 : Nat) (iL T) m ∧ ∀ (i_1 : Nat), i_1 < iL (T ++ [itm (1 : Nat) i (i + (2 : Nat)) (255 : Nat) (0 : Nat) []]) m → iZ (T ++ [itm (1 : Nat) i (i + (2 : Nat)) (255 : Nat) (0 : Nat) []]) [m, i_1] = consF (iZ T) (iZ T) [m, i_1]) := by kernel_rfl

set_option maxHeartbeats 4000000 in
theorem rI (t0 t1 : List UInt8) (N M : Nat) (raw : Bool) (B : Ix → Int) (T : List Itm) (i : Nat) (hi : i < N) (hN : N ≤ 100000) (hM : N ≤ M) (hB : bndB B N = true) (hT : T.length ≤ 100000) (h0 : atV N B i = 255) (h1 : atV N B (i + 1) = 255)  (v : SV) (L' : HF) (next : RunsTo Tryd.prog 39 (headOf Tryd.f39 0) (envAt Tryd.f39.ntmps ([(0, vP 63), (4, vN ((i + 2) : Nat))])) (Sx.look (sentEnts 19 144 [(0, t0), (4, t1)] ++ rB 60 M B ++ (rdE 63 102 N ((T ++ [itm 1 i (i + 2) 255 0 []])).length raw ++ itE 102 103 (T ++ [itm 1 i (i + 2) 255 0 []])))) 80 (v) (L') 700) :
    RunsTo Tryd.prog 39 (headOf Tryd.f39 0) (envAt Tryd.f39.ntmps ([(0, vP 63), (4, vN (i : Nat))])) (Sx.look (sentEnts 19 144 [(0, t0), (4, t1)] ++ rB 60 M B ++ (rdE 63 102 N (T).length raw ++ itE 102 103 T))) 80 (v) (L') 700 := by
  have w0 : IntKind.i64.wrap ((i : Int) + 1) = ((i + 1 : Nat) : Int) := by rw [wr64 (by omega)]; rfl
  have w1 : IntKind.i64.wrap ((i : Int) + 2) = ((i + 2 : Nat) : Int) := by rw [wr64 (by omega)]; rfl
  have w2 : IntKind.i64.wrap ((i : Int) + 3) = ((i + 3 : Nat) : Int) := by rw [wr64 (by omega)]; rfl
  have t0' : ((i : Int) + 1).toNat = i + 1 := by omega
  have t2' : ((i : Int) + 2).toNat = i + 2 := by omega
  refine runs_more baseROk (More.of (rI_p0 t0 t1 N M raw B T i) ⟨?oo, rfl, ?rr⟩) (by kernel_rfl) (by kernel_rfl) rfl (gtL (by decide)) (by decide) next
  case oo =>
    clear next
    refine (okc ?_ (okc ?_ (okc ?_ (okc ?_ (okc ?_ (okc ?_ (okc ?_ (okc ?_ (okc ?_ okn)))))))))
    all_goals first | omega | (simp (disch := omega) only [SS, h0, h1, w0, w1, w2, Int.toNat_natCast, Go.Sx.sum, List.length_append, List.length_cons, List.length_nil, Nat.zero_add, hB]; first | done | omega) | assumption | (simp_all; done) | (simp (disch := omega) only [SS, h0, h1, w0, w1, w2, Int.toNat_natCast, Go.Sx.sum, List.length_append, List.length_cons, List.length_nil, Nat.zero_add, hB] at *; first | done | omega) | (refine Bool.and_eq_true_iff.2 ⟨decide_eq_true (by omega), Bool.and_eq_true_iff.2 ⟨decide_eq_true (by omega), hB⟩⟩) | (simp (disch := omega) only [SS, h0, h1, w0, w1, w2, Int.toNat_natCast, Go.Sx.sum, List.length_append, List.length_cons, List.length_nil, Nat.zero_add, hB, hB]; simp; omega)
  case rr =>
    clear next
    simp (disch := omega) only [SS, h0, h1, w0, w1, w2, Int.toNat_natCast, Go.Sx.sum, List.length_append, List.length_cons, List.length_nil, Nat.zero_add, hB]
    repeat' apply And.intro
    all_goals first | exact True.intro | with_reducible rfl | omega | exact iK_app T _ _ rfl | exact iF_app T _ _ rfl | exact iT_app T _ _ rfl | exact iC_app T _ _ rfl | exact iO_app T _ _ rfl | exact iW_app T _ _ rfl | exact iM_app T _ _ _ (fun k hk => rfl) rfl | exact iC_app T _ _ (by simp only [itm]; omega) | exact iO_app T _ _ (by simp only [itm]; omega) | exact iT_app T _ _ (by simp only [itm]; omega) | exact iL_cons T _ _ rfl | (intro m hm; exact ⟨iL_cons T _ _ rfl m hm, fun j hj => iZ_cons T _ _ m hm j (fun j hj => by first | exact absurd hj (Nat.not_lt_zero _) | rfl | (simp [itm]; done)) hj⟩) | (simp_all; done)

theorem rP_p0 (t0 t1 : List UInt8) (N M : Nat) (raw : Bool) (B : Ix → Int) (T : List Itm) (i : Nat) (c : Nat) :
    isMore (evTill Tryd.prog sumsROk 300 (behind Tryd.f39 0) 900 39 (headOf Tryd.f39 0) (envAt Tryd.f39.ntmps ([(0, vP 63), (4, vN (i : Nat))])) (sentEnts 19 144 [(0, t0), (4, t1)] ++ rB 60 M B ++ (rdE 63 102 N (T).length raw ++ itE 102 103 T)) ⟨[.s true, .s true, .s true, .s true, .s true, .s true, .s false, .s true, .s true, .t, .s true, .s true, .t], 160⟩) (moreP (headOf Tryd.f39 0) ([((102 : Nat), Rn.to (243 : Nat)), ((103 : Nat), Rn.to (242 : Nat))]) Tryd.f39.ntmps ([(0, vP 63), (4, vN ((i + 2) : Nat))]) (rdE 63 102 N ((T ++ [itm 3 i (i + 2) c 0 []])).length raw ++ itE 102 103 (T ++ [itm 3 i (i + 2) c 0 []])) 700) =
    (OkL [(decide ((↑i : Int) < (↑N : Int)), true), (decide ((0 : Int) ≤ (↑i : Int)) && (decide (N ≤ M) && bndB B N), true), (decide ((0 : Int) ≤ IntKind.i64.wrap ((↑i : Int) + (1 : Int))) && (decide (N ≤ M) && bndB B N), true), (atV N B (↑i : Int).toNat == (255 : Int), true), (decide ((0 : Int) ≤ IntKind.i64.wrap ((↑i : Int) + (1 : Int))) && (decide (N ≤ M) && bndB B N), true), (decide ((0 : Int) ≤ IntKind.i64.wrap ((↑i : Int) + (2 : Int))) && (decide (N ≤ M) && bndB B N), true), (atV N B (IntKind.i64.wrap ((↑i : Int) + (1 : Int))).toNat == (255 : Int), false), (decide (atV N B (IntKind.i64.wrap ((↑i : Int) + (1 : Int))).toNat ≥ (241 : Int)), true), (decide (atV N B (IntKind.i64.wrap ((↑i : Int) + (1 : Int))).toNat ≤ (249 : Int)), true), (((0 : Nat) + T.length).ble T.length, true), (decide (((2 : Nat) * (T.length + (1 : Nat)) + (192 : Nat)) * (64 : Nat) ≤ (281474976710656 : Nat)), true)] ∧ headOf Tryd.f39 (0 : Nat) = headOf Tryd.f39 (0 : Nat) ∧ ((0 : Nat) = (0 : Nat) ∧ (↑(i + (2 : Nat)) : Int) = IntKind.i64.wrap ((↑i : Int) + (2 : Int))) ∧ (((0 : Nat) = (0 : Nat) ∧ N = N) ∧ raw = raw ∧ (0 : Nat) = (0 : Nat) ∧ (T ++ [itm (3 : Nat) i (i + (2 : Nat)) c (0 : Nat) []]).length = T.length + (1 : Nat)) ∧ ((T ++ [itm (3 : Nat) i (i + (2 : Nat)) c (0 : Nat) []]).length = T.length + (1 : Nat) ∧ (∀ (i_1 : Nat), i_1 < (T ++ [itm (3 : Nat) i (i + (2 : Nat)) c (0 : Nat) []]).length → iK (T ++ [itm (3 : Nat) i (i + (2 : Nat)) c (0 : Nat) []]) [i_1] = appF T.length (0 : Nat) (iK T) (fun js => (3 : Int)) [i_1]) ∧ (∀ (i_1 : Nat), i_1 < (T ++ [itm (3 : Nat) i (i + (2 : Nat)) c (0 : Nat) []]).length → iF (T ++ [itm (3 : Nat) i (i + (2 : Nat)) c (0 : Nat) []]) [i_1] = appF T.length (0 : Nat) (iF T) (fun js => (↑i : Int)) [i_1]) ∧ (∀ (i_1 : Nat), i_1 < (T ++ [itm (3 : Nat) i (i + (2 : Nat)) c (0 : Nat) []]).length → iT (T ++ [itm (3 : Nat) i (i + (2 : Nat)) c (0 : Nat) []]) [i_1] = appF T.length (0 : Nat) (iT T) (fun js => IntKind.i64.wrap ((↑i : Int) + (2 : Int))) [i_1]) ∧ (∀ (i_1 : Nat), i_1 < (T ++ [itm (3 : Nat) i (i + (2 : Nat)) c (0 : Nat) []]).length → iC (T ++ [itm (3 : Nat) i (i + (2 : Nat)) c (0 : Nat) []]) [i_1] = appF T.length (0 : Nat) (iC T) (fun js => atV N B (IntKind.i64.wrap ((↑i : Int) + (1 : Int))).toNat) [i_1]) ∧ (∀ (i_1 : Nat), i_1 < (T ++ [itm (3 : Nat) i (i + (2 : Nat)) c (0 : Nat) []]).length → iO (T ++ [itm (3 : Nat) i (i + (2 : Nat)) c (0 : Nat) []]) [i_1] = appF T.length (0 : Nat) (iO T) (fun js => (0 : Int)) [i_1]) ∧ (∀ (i_1 : Nat), i_1 < (T ++ [itm (3 : Nat) i (i + (2 : Nat)) c (0 : Nat) []]).length → iM (T ++ [itm (3 : Nat) i (i + (2 : Nat)) c (0 : Nat) []]) [i_1] = appF T.length (0 : Nat) (fun is => iM T is + (1 : Nat)) (fun js => (0 : Nat)) [i_1]) ∧ ∀ (i_1 : Nat), i_1 < (T ++ [itm (3 : Nat) i (i + (2 : Nat)) c (0 : Nat) []]).length → iW (T ++ [itm (3 : Nat) i (i + (2 : Nat)) c (0 : Nat) []]) [i_1] = appF T.length (0 : Nat) (iW T) (fun js => (0 : Nat)) [i_1]) ∧ (T ++ [itm (3 : Nat) i (i + (2 : Nat)) c (0 : Nat) []]).length = T.length + (1 : Nat) ∧ ∀ (m : Nat), m < (T ++ [itm (3 : Nat) i (i + (2 : Nat)) c (0 : Nat) []]).length → iL (T ++ [itm (3 : Nat) i (i + (2 : Nat)) c (0 : Nat) []]) m = consN (0 : Nat) (iL T) m ∧ ∀ (i_1 : Nat), i_1 < iL (T ++ [itm (3 : Nat) i (i + (2 : Nat)) c (0 : Nat) []]) m → iZ (T ++ [itm (3 : Nat) i (i + (2 : Nat)) c (0 : Nat) []]) [m, i_1] = consF (iZ T) (iZ T) [m, i_1]) := by kernel_rfl

set_option maxHeartbeats 4000000 in
theorem rP (t0 t1 : List UInt8) (N M : Nat) (raw : Bool) (B : Ix → Int) (T : List Itm) (i : Nat) (c : Nat) (hi : i < N) (hN : N ≤ 100000) (hM : N ≤ M) (hB : bndB B N = true) (hT : T.length ≤ 100000) (h0 : atV N B i = 255) (h1 : atV N B (i + 1) = (c : Int)) (h2 : 241 ≤ c ∧ c ≤ 249)  (v : SV) (L' : HF) (next : RunsTo Tryd.prog 39 (headOf Tryd.f39 0) (envAt Tryd.f39.ntmps ([(0, vP 63), (4, vN ((i + 2) : Nat))])) (Sx.look (sentEnts 19 144 [(0, t0), (4, t1)] ++ rB 60 M B ++ (rdE 63 102 N ((T ++ [itm 3 i (i + 2) c 0 []])).length raw ++ itE 102 103 (T ++ [itm 3 i (i + 2) c 0 []])))) 80 (v) (L') 700) :
    RunsTo Tryd.prog 39 (headOf Tryd.f39 0) (envAt Tryd.f39.ntmps ([(0, vP 63), (4, vN (i : Nat))])) (Sx.look (sentEnts 19 144 [(0, t0), (4, t1)] ++ rB 60 M B ++ (rdE 63 102 N (T).length raw ++ itE 102 103 T))) 80 (v) (L') 700 := by
  have w0 : IntKind.i64.wrap ((i : Int) + 1) = ((i + 1 : Nat) : Int) := by rw [wr64 (by omega)]; rfl
  have w1 : IntKind.i64.wrap ((i : Int) + 2) = ((i + 2 : Nat) : Int) := by rw [wr64 (by omega)]; rfl
  have w2 : IntKind.i64.wrap ((i : Int) + 3) = ((i + 3 : Nat) : Int) := by rw [wr64 (by omega)]; rfl
  have t0' : ((i : Int) + 1).toNat = i + 1 := by omega
  have t2' : ((i : Int) + 2).toNat = i + 2 := by omega
  refine runs_more baseROk (More.of (rP_p0 t0 t1 N M raw B T i c) ⟨?oo, rfl, ?rr⟩) (by kernel_rfl) (by kernel_rfl) rfl (gtL (by decide)) (by decide) next
  case oo =>
    clear next
    refine (okc ?_ (okc ?_ (okc ?_ (okc ?_ (okc ?_ (okc ?_ (okc ?_ (okc ?_ (okc ?_ (okc ?_ (okc ?_ okn)))))))))))
    all_goals first | omega | (simp (disch := omega) only [SS, h0, h1, w0, w1, w2, Int.toNat_natCast, Go.Sx.sum, List.length_append, List.length_cons, List.length_nil, Nat.zero_add, hB]; first | done | omega) | assumption | (simp_all; done) | (simp (disch := omega) only [SS, h0, h1, w0, w1, w2, Int.toNat_natCast, Go.Sx.sum, List.length_append, List.length_cons, List.length_nil, Nat.zero_add, hB] at *; first | done | omega) | (refine Bool.and_eq_true_iff.2 ⟨decide_eq_true (by omega), Bool.and_eq_true_iff.2 ⟨decide_eq_true (by omega), hB⟩⟩) | (simp (disch := omega) only [SS, h0, h1, w0, w1, w2, Int.toNat_natCast, Go.Sx.sum, List.length_append, List.length_cons, List.length_nil, Nat.zero_add, hB, hB]; simp; omega)
  case rr =>
    clear next
    simp (disch := omega) only [SS, h0, h1, w0, w1, w2, Int.toNat_natCast, Go.Sx.sum, List.length_append, List.length_cons, List.length_nil, Nat.zero_add, hB]
    repeat' apply And.intro
    all_goals first | exact True.intro | with_reducible rfl | omega | exact iK_app T _ _ rfl | exact iF_app T _ _ rfl | exact iT_app T _ _ rfl | exact iC_app T _ _ rfl | exact iO_app T _ _ rfl | exact iW_app T _ _ rfl | exact iM_app T _ _ _ (fun k hk => rfl) rfl | exact iC_app T _ _ (by simp only [itm]; omega) | exact iO_app T _ _ (by simp only [itm]; omega) | exact iT_app T _ _ (by simp only [itm]; omega) | exact iL_cons T _ _ rfl | (intro m hm; exact ⟨iL_cons T _ _ rfl m hm, fun j hj => iZ_cons T _ _ m hm j (fun j hj => by first | exact absurd hj (Nat.not_lt_zero _) | rfl | (simp [itm]; done)) hj⟩) | (simp_all; done)

theorem rV_p0 (t0 t1 : List UInt8) (N M : Nat) (raw : Bool) (B : Ix → Int) (T : List Itm) (i : Nat) (c d : Nat) :
    isMore (evTill Tryd.prog sumsROk 300 (behind Tryd.f39 0) 900 39 (headOf Tryd.f39 0) (envAt Tryd.f39.ntmps ([(0, vP 63), (4, vN (i : Nat))])) (sentEnts 19 144 [(0, t0), (4, t1)] ++ rB 60 M B ++ (rdE 63 102 N (T).length raw ++ itE 102 103 T)) ⟨[.s true, .s true, .s true, .s true, .s true, .s true, .s false, .s true, .s false, .s true, .s true, .s true, .t, .s true, .s true, .t], 160⟩) (moreP (headOf Tryd.f39 0) ([((102 : Nat), Rn.to (243 : Nat)), ((103 : Nat), Rn.to (242 : Nat))]) Tryd.f39.ntmps ([(0, vP 63), (4, vN ((i + 3) : Nat))]) (rdE 63 102 N ((T ++ [itm 4 i (i + 3) c d []])).length raw ++ itE 102 103 (T ++ [itm 4 i (i + 3) c d []])) 700) =
    (OkL [(decide ((↑i : Int) < (↑N : Int)), true), (decide ((0 : Int) ≤ (↑i : Int)) && (decide (N ≤ M) && bndB B N), true), (decide ((0 : Int) ≤ IntKind.i64.wrap ((↑i : Int) + (1 : Int))) && (decide (N ≤ M) && bndB B N), true), (atV N B (↑i : Int).toNat == (255 : Int), true), (decide ((0 : Int) ≤ IntKind.i64.wrap ((↑i : Int) + (1 : Int))) && (decide (N ≤ M) && bndB B N), true), (decide ((0 : Int) ≤ IntKind.i64.wrap ((↑i : Int) + (2 : Int))) && (decide (N ≤ M) && bndB B N), true), (atV N B (IntKind.i64.wrap ((↑i : Int) + (1 : Int))).toNat == (255 : Int), false), (decide (atV N B (IntKind.i64.wrap ((↑i : Int) + (1 : Int))).toNat ≥ (241 : Int)), true), (decide (atV N B (IntKind.i64.wrap ((↑i : Int) + (1 : Int))).toNat ≤ (249 : Int)), false), (decide (atV N B (IntKind.i64.wrap ((↑i : Int) + (1 : Int))).toNat ≥ (251 : Int)), true), (decide (atV N B (IntKind.i64.wrap ((↑i : Int) + (1 : Int))).toNat ≤ (254 : Int)), true), (decide (atV N B (IntKind.i64.wrap ((↑i : Int) + (2 : Int))).toNat ≥ (0 : Int)), true), (((0 : Nat) + T.length).ble T.length, true), (decide (((2 : Nat) * (T.length + (1 : Nat)) + (192 : Nat)) * (64 : Nat) ≤ (281474976710656 : Nat)), true)] ∧ headOf Tryd.f39 (0 : Nat) = headOf Tryd.f39 (0 : Nat) ∧ ((0 : Nat) = (0 : Nat) ∧ (↑(i + (3 : Nat)) : Int) = IntKind.i64.wrap ((↑i : Int) + (3 : Int))) ∧ (((0 : Nat) = (0 : Nat) ∧ N = N) ∧ raw = raw ∧ (0 : Nat) = (0 : Nat) ∧ (T ++ [itm (4 : Nat) i (i + (3 : Nat)) c d []]).length = T.length + (1 : Nat)) ∧ ((T ++ [itm (4 : Nat) i (i + (3 : Nat)) c d []]).length = T.length + (1 : Nat) ∧ (∀ (i_1 : Nat), i_1 < (T ++ [itm (4 : Nat) i (i + (3 : Nat)) c d []]).length → iK (T ++ [itm (4 : Nat) i (i + (3 : Nat)) c d []]) [i_1] = appF T.length (0 : Nat) (iK T) (fun js => (4 : Int)) [i_1]) ∧ (∀ (i_1 : Nat), i_1 < (T ++ [itm (4 : Nat) i (i + (3 : Nat)) c d []]).length → iF (T ++ [itm (4 : Nat) i (i + (3 : Nat)) c d []]) [i_1] = appF T.length (0 : Nat) (iF T) (fun js => (↑i : Int)) [i_1]) ∧ (∀ (i_1 : Nat), i_1 < (T ++ [itm (4 : Nat) i (i + (3 : Nat)) c d []]).length → iT (T ++ [itm (4 : Nat) i (i + (3 : Nat)) c d []]) [i_1] = appF T.length (0 : Nat) (iT T) (fun js => IntKind.i64.wrap ((↑i : Int) + (3 : Int))) [i_1]) ∧ (∀ (i_1 : Nat), i_1 < (T ++ [itm (4 : Nat) i (i + (3 : Nat)) c d []]).length → iC (T ++ [itm (4 : Nat) i (i + (3 : Nat)) c d []]) [i_1] = appF T.length (0 : Nat) (iC T) (fun js => atV N B (IntKind.i64.wrap ((↑i : Int) + (1 : Int))).toNat) [i_1]) ∧ (∀ (i_1 : Nat), i_1 < (T ++ [itm (4 : Nat) i (i + (3 : Nat)) c d []]).length → iO (T ++ [itm (4 : Nat) i (i + (3 : Nat)) c d []]) [i_1] = appF T.length (0 : Nat) (iO T) (fun js => atV N B (IntKind.i64.wrap ((↑i : Int) + (2 : Int))).toNat) [i_1]) ∧ (∀ (i_1 : Nat), i_1 < (T ++ [itm (4 : Nat) i (i + (3 : Nat)) c d []]).length → iM (T ++ [itm (4 : Nat) i (i + (3 : Nat)) c d []]) [i_1] = appF T.length (0 : Nat) (fun is => iM T is + (1 : Nat)) (fun js => (0 : Nat)) [i_1]) ∧ ∀ (i_1 : Nat), i_1 < (T ++ [itm (4 : Nat) i (i + (3 : Nat)) c d []]).length → iW (T ++ [itm (4 : Nat) i (i + (3 : Nat)) c d []]) [i_1] = appF T.length (0 : Nat) (iW T) (fun js => (0 : Nat)) [i_1]) ∧ (T ++ [itm (4 : Nat) i (i + (3 : Nat)) c d []]).length = T.length + (1 : Nat) ∧ ∀ (m : Nat), m < (T ++ [itm (4 : Nat) i (i + (3 : Nat)) c d []]).length → iL (T ++ [itm (4 : Nat) i (i + (3 : Nat)) c d []]) m = consN (0 : Nat) (iL T) m ∧ ∀ (i_1 : Nat), i_1 < iL (T ++ [itm (4 : Nat) i (i + (3 : Nat)) c d []]) m → iZ (T ++ [itm (4 : Nat) i (i + (3 : Nat)) c d []]) [m, i_1] = consF (iZ T) (iZ T) [m, i_1]) := by kernel_rfl

set_option maxHeartbeats 4000000 in
theorem rV (t0 t1 : List UInt8) (N M : Nat) (raw : Bool) (B : Ix → Int) (T : List Itm) (i : Nat) (c d : Nat) (hi : i < N) (hN : N ≤ 100000) (hM : N ≤ M) (hB : bndB B N = true) (hT : T.length ≤ 100000) (h0 : atV N B i = 255) (h1 : atV N B (i + 1) = (c : Int)) (h2 : 251 ≤ c ∧ c ≤ 254) (h3 : atV N B (i + 2) = (d : Int))  (v : SV) (L' : HF) (next : RunsTo Tryd.prog 39 (headOf Tryd.f39 0) (envAt Tryd.f39.ntmps ([(0, vP 63), (4, vN ((i + 3) : Nat))])) (Sx.look (sentEnts 19 144 [(0, t0), (4, t1)] ++ rB 60 M B ++ (rdE 63 102 N ((T ++ [itm 4 i (i + 3) c d []])).length raw ++ itE 102 103 (T ++ [itm 4 i (i + 3) c d []])))) 80 (v) (L') 700) :
    RunsTo Tryd.prog 39 (headOf Tryd.f39 0) (envAt Tryd.f39.ntmps ([(0, vP 63), (4, vN (i : Nat))])) (Sx.look (sentEnts 19 144 [(0, t0), (4, t1)] ++ rB 60 M B ++ (rdE 63 102 N (T).length raw ++ itE 102 103 T))) 80 (v) (L') 700 := by
  have w0 : IntKind.i64.wrap ((i : Int) + 1) = ((i + 1 : Nat) : Int) := by rw [wr64 (by omega)]; rfl
  have w1 : IntKind.i64.wrap ((i : Int) + 2) = ((i + 2 : Nat) : Int) := by rw [wr64 (by omega)]; rfl
  have w2 : IntKind.i64.wrap ((i : Int) + 3) = ((i + 3 : Nat) : Int) := by rw [wr64 (by omega)]; rfl
  have t0' : ((i : Int) + 1).toNat = i + 1 := by omega
  have t2' : ((i : Int) + 2).toNat = i + 2 := by omega
  refine runs_more baseROk (More.of (rV_p0 t0 t1 N M raw B T i c d) ⟨?oo, rfl, ?rr⟩) (by kernel_rfl) (by kernel_rfl) rfl (gtL (by decide)) (by decide) next
  case oo =>
    clear next
    refine (okc ?_ (okc ?_ (okc ?_ (okc ?_ (okc ?_ (okc ?_ (okc ?_ (okc ?_ (okc ?_ (okc ?_ (okc ?_ (okc ?_ (okc ?_ (okc ?_ okn))))))))))))))
    all_goals first | omega | (simp (disch := omega) only [SS, h0, h1, h3, w0, w1, w2, Int.toNat_natCast, Go.Sx.sum, List.length_append, List.length_cons, List.length_nil, Nat.zero_add, hB]; first | done | omega) | assumption | (simp_all; done) | (simp (disch := omega) only [SS, h0, h1, h3, w0, w1, w2, Int.toNat_natCast, Go.Sx.sum, List.length_append, List.length_cons, List.length_nil, Nat.zero_add, hB] at *; first | done | omega) | (refine Bool.and_eq_true_iff.2 ⟨decide_eq_true (by omega), Bool.and_eq_true_iff.2 ⟨decide_eq_true (by omega), hB⟩⟩) | (simp (disch := omega) only [SS, h0, h1, h3, w0, w1, w2, Int.toNat_natCast, Go.Sx.sum, List.length_append, List.length_cons, List.length_nil, Nat.zero_add, hB, hB]; simp; omega)
  case rr =>
    clear next
    simp (disch := omega) only [SS, h0, h1, h3, w0, w1, w2, Int.toNat_natCast, Go.Sx.sum, List.length_append, List.length_cons, List.length_nil, Nat.zero_add, hB]
    repeat' apply And.intro
    all_goals first | exact True.intro | with_reducible rfl | omega | exact iK_app T _ _ rfl | exact iF_app T _ _ rfl | exact iT_app T _ _ rfl | exact iC_app T _ _ rfl | exact iO_app T _ _ rfl | exact iW_app T _ _ rfl | exact iM_app T _ _ _ (fun k hk => rfl) rfl | exact iC_app T _ _ (by simp only [itm]; omega) | exact iO_app T _ _ (by simp only [itm]; omega) | exact iT_app T _ _ (by simp only [itm]; omega) | exact iL_cons T _ _ rfl | (intro m hm; exact ⟨iL_cons T _ _ rfl m hm, fun j hj => iZ_cons T _ _ m hm j (fun j hj => by first | exact absurd hj (Nat.not_lt_zero _) | rfl | (simp [itm]; done)) hj⟩) | (simp_all; done)

theorem rSo_p0 (t0 t1 : List UInt8) (N M : Nat) (raw : Bool) (B : Ix → Int) (T : List Itm) (i : Nat) :
    isMore (evTill Tryd.prog sumsROk 300 (behind Tryd.f39 0) 900 39 (headOf Tryd.f39 0) (envAt Tryd.f39.ntmps ([(0, vP 63), (4, vN (i : Nat))])) (sentEnts 19 144 [(0, t0), (4, t1)] ++ rB 60 M B ++ (rdE 63 102 N (T).length raw ++ itE 102 103 T)) ⟨[.s true, .s true, .s true, .s true, .s true, .s true, .s false, .s true, .s false, .s false, .f, .s false, .f, .s true, .s true, .s true, .s true, .t], 160⟩) (moreP (headOf Tryd.f39 0) ([((102 : Nat), Rn.to (301 : Nat)), ((103 : Nat), Rn.to (302 : Nat))]) Tryd.f39.ntmps ([(0, vP 63), (4, vN ((resN (subA (bytesOf B [] 0 N) i)) : Nat))]) (rdE 63 102 N ((T ++ [itm 5 i (resN (subA (bytesOf B [] 0 N) i)) 0 (resX (subA (bytesOf B [] 0 N) i)).opt (resX (subA (bytesOf B [] 0 N) i)).body])).length raw ++ itE 102 103 (T ++ [itm 5 i (resN (subA (bytesOf B [] 0 N) i)) 0 (resX (subA (bytesOf B [] 0 N) i)).opt (resX (subA (bytesOf B [] 0 N) i)).body])) 700) =
    (OkL [(decide ((↑i : Int) < (↑N : Int)), true), (decide ((0 : Int) ≤ (↑i : Int)) && (decide (N ≤ M) && bndB B N), true), (decide ((0 : Int) ≤ IntKind.i64.wrap ((↑i : Int) + (1 : Int))) && (decide (N ≤ M) && bndB B N), true), (atV N B (↑i : Int).toNat == (255 : Int), true), (decide ((0 : Int) ≤ IntKind.i64.wrap ((↑i : Int) + (1 : Int))) && (decide (N ≤ M) && bndB B N), true), (decide ((0 : Int) ≤ IntKind.i64.wrap ((↑i : Int) + (2 : Int))) && (decide (N ≤ M) && bndB B N), true), (atV N B (IntKind.i64.wrap ((↑i : Int) + (1 : Int))).toNat == (255 : Int), false), (decide (atV N B (IntKind.i64.wrap ((↑i : Int) + (1 : Int))).toNat ≥ (241 : Int)), true), (decide (atV N B (IntKind.i64.wrap ((↑i : Int) + (1 : Int))).toNat ≤ (249 : Int)), false), (decide (atV N B (IntKind.i64.wrap ((↑i : Int) + (1 : Int))).toNat ≥ (251 : Int)), false), (decide (atV N B (IntKind.i64.wrap ((↑i : Int) + (1 : Int))).toNat ≥ (251 : Int)), false), (atV N B (IntKind.i64.wrap ((↑i : Int) + (1 : Int))).toNat == (250 : Int), true), (T.length.beq T.length, true), (T.length.beq T.length, true), (decide ((0 : Int) ≤ (↑i : Int) ∧ (↑i : Int) ≤ (100000 : Int)) && (decide (N ≤ (100000 : Nat)) && (decide (N ≤ M) && (decide (T.length ≤ (100000 : Nat)) && (bndB B N && isOk (subA (bytesOf B [] (0 : Nat) N) (↑i : Int).toNat))))), true)] ∧ headOf Tryd.f39 (0 : Nat) = headOf Tryd.f39 (0 : Nat) ∧ ((0 : Nat) = (0 : Nat) ∧ (↑(resN (subA (bytesOf B [] (0 : Nat) N) i)) : Int) = (↑(resN (subA (bytesOf B [] (0 : Nat) N) (↑i : Int).toNat)) : Int)) ∧ (((0 : Nat) = (0 : Nat) ∧ N = N) ∧ raw = raw ∧ (0 : Nat) = (0 : Nat) ∧ (T ++ [itm (5 : Nat) i (resN (subA (bytesOf B [] (0 : Nat) N) i)) (0 : Nat) (resX (subA (bytesOf B [] (0 : Nat) N) i)).3 (resX (subA (bytesOf B [] (0 : Nat) N) i)).4]).length = T.length + (1 : Nat)) ∧ ((T ++ [itm (5 : Nat) i (resN (subA (bytesOf B [] (0 : Nat) N) i)) (0 : Nat) (resX (subA (bytesOf B [] (0 : Nat) N) i)).3 (resX (subA (bytesOf B [] (0 : Nat) N) i)).4]).length = T.length + (1 : Nat) ∧ (∀ (i_1 : Nat), i_1 < (T ++ [itm (5 : Nat) i (resN (subA (bytesOf B [] (0 : Nat) N) i)) (0 : Nat) (resX (subA (bytesOf B [] (0 : Nat) N) i)).3 (resX (subA (bytesOf B [] (0 : Nat) N) i)).4]).length → iK (T ++ [itm (5 : Nat) i (resN (subA (bytesOf B [] (0 : Nat) N) i)) (0 : Nat) (resX (subA (bytesOf B [] (0 : Nat) N) i)).3 (resX (subA (bytesOf B [] (0 : Nat) N) i)).4]) [i_1] = snF T.length (iK T) (5 : Int) [i_1]) ∧ (∀ (i_1 : Nat), i_1 < (T ++ [itm (5 : Nat) i (resN (subA (bytesOf B [] (0 : Nat) N) i)) (0 : Nat) (resX (subA (bytesOf B [] (0 : Nat) N) i)).3 (resX (subA (bytesOf B [] (0 : Nat) N) i)).4]).length → iF (T ++ [itm (5 : Nat) i (resN (subA (bytesOf B [] (0 : Nat) N) i)) (0 : Nat) (resX (subA (bytesOf B [] (0 : Nat) N) i)).3 (resX (subA (bytesOf B [] (0 : Nat) N) i)).4]) [i_1] = snF T.length (iF T) (↑i : Int) [i_1]) ∧ (∀ (i_1 : Nat), i_1 < (T ++ [itm (5 : Nat) i (resN (subA (bytesOf B [] (0 : Nat) N) i)) (0 : Nat) (resX (subA (bytesOf B [] (0 : Nat) N) i)).3 (resX (subA (bytesOf B [] (0 : Nat) N) i)).4]).length → iT (T ++ [itm (5 : Nat) i (resN (subA (bytesOf B [] (0 : Nat) N) i)) (0 : Nat) (resX (subA (bytesOf B [] (0 : Nat) N) i)).3 (resX (subA (bytesOf B [] (0 : Nat) N) i)).4]) [i_1] = snF T.length (iT T) (↑(resN (subA (bytesOf B [] (0 : Nat) N) (↑i : Int).toNat)) : Int) [i_1]) ∧ (∀ (i_1 : Nat), i_1 < (T ++ [itm (5 : Nat) i (resN (subA (bytesOf B [] (0 : Nat) N) i)) (0 : Nat) (resX (subA (bytesOf B [] (0 : Nat) N) i)).3 (resX (subA (bytesOf B [] (0 : Nat) N) i)).4]).length → iC (T ++ [itm (5 : Nat) i (resN (subA (bytesOf B [] (0 : Nat) N) i)) (0 : Nat) (resX (subA (bytesOf B [] (0 : Nat) N) i)).3 (resX (subA (bytesOf B [] (0 : Nat) N) i)).4]) [i_1] = snF T.length (iC T) (0 : Int) [i_1]) ∧ (∀ (i_1 : Nat), i_1 < (T ++ [itm (5 : Nat) i (resN (subA (bytesOf B [] (0 : Nat) N) i)) (0 : Nat) (resX (subA (bytesOf B [] (0 : Nat) N) i)).3 (resX (subA (bytesOf B [] (0 : Nat) N) i)).4]).length → iO (T ++ [itm (5 : Nat) i (resN (subA (bytesOf B [] (0 : Nat) N) i)) (0 : Nat) (resX (subA (bytesOf B [] (0 : Nat) N) i)).3 (resX (subA (bytesOf B [] (0 : Nat) N) i)).4]) [i_1] = snF T.length (iO T) (↑(resX (subA (bytesOf B [] (0 : Nat) N) (↑i : Int).toNat)).3 : Int) [i_1]) ∧ (∀ (i_1 : Nat), i_1 < (T ++ [itm (5 : Nat) i (resN (subA (bytesOf B [] (0 : Nat) N) i)) (0 : Nat) (resX (subA (bytesOf B [] (0 : Nat) N) i)).3 (resX (subA (bytesOf B [] (0 : Nat) N) i)).4]).length → iM (T ++ [itm (5 : Nat) i (resN (subA (bytesOf B [] (0 : Nat) N) i)) (0 : Nat) (resX (subA (bytesOf B [] (0 : Nat) N) i)).3 (resX (subA (bytesOf B [] (0 : Nat) N) i)).4]) [i_1] = snF T.length (fun is => iM T is + (1 : Nat)) (0 : Nat) [i_1]) ∧ ∀ (i_1 : Nat), i_1 < (T ++ [itm (5 : Nat) i (resN (subA (bytesOf B [] (0 : Nat) N) i)) (0 : Nat) (resX (subA (bytesOf B [] (0 : Nat) N) i)).3 (resX (subA (bytesOf B [] (0 : Nat) N) i)).4]).length → iW (T ++ [itm (5 : Nat) i (resN (subA (bytesOf B [] (0 : Nat) N) i)) (0 : Nat) (resX (subA (bytesOf B [] (0 : Nat) N) i)).3 (resX (subA (bytesOf B [] (0 : Nat) N) i)).4]) [i_1] = snF T.length (iW T) (resX (subA (bytesOf B [] (0 : Nat) N) (↑i : Int).toNat)).4.length [i_1]) ∧ (T ++ [itm (5 : Nat) i (resN (subA (bytesOf B [] (0 : Nat) N) i)) (0 : Nat) (resX (subA (bytesOf B [] (0 : Nat) N) i)).3 (resX (subA (bytesOf B [] (0 : Nat) N) i)).4]).length = T.length + (1 : Nat) ∧ ∀ (m : Nat), m < (T ++ [itm (5 : Nat) i (resN (subA (bytesOf B [] (0 : Nat) N) i)) (0 : Nat) (resX (subA (bytesOf B [] (0 : Nat) N) i)).3 (resX (subA (bytesOf B [] (0 : Nat) N) i)).4]).length → iL (T ++ [itm (5 : Nat) i (resN (subA (bytesOf B [] (0 : Nat) N) i)) (0 : Nat) (resX (subA (bytesOf B [] (0 : Nat) N) i)).3 (resX (subA (bytesOf B [] (0 : Nat) N) i)).4]) m = consN (resX (subA (bytesOf B [] (0 : Nat) N) (↑i : Int).toNat)).4.length (iL T) m ∧ ∀ (i_1 : Nat), i_1 < iL (T ++ [itm (5 : Nat) i (resN (subA (bytesOf B [] (0 : Nat) N) i)) (0 : Nat) (resX (subA (bytesOf B [] (0 : Nat) N) i)).3 (resX (subA (bytesOf B [] (0 : Nat) N) i)).4]) m → iZ (T ++ [itm (5 : Nat) i (resN (subA (bytesOf B [] (0 : Nat) N) i)) (0 : Nat) (resX (subA (bytesOf B [] (0 : Nat) N) i)).3 (resX (subA (bytesOf B [] (0 : Nat) N) i)).4]) [m, i_1] = consF (bF (resX (subA (bytesOf B [] (0 : Nat) N) (↑i : Int).toNat)).4) (iZ T) [m, i_1]) := by kernel_rfl

set_option maxHeartbeats 4000000 in
theorem rSo (t0 t1 : List UInt8) (N M : Nat) (raw : Bool) (B : Ix → Int) (T : List Itm) (i : Nat) (hi : i < N) (hN : N ≤ 100000) (hM : N ≤ M) (hB : bndB B N = true) (hT : T.length ≤ 100000) (h0 : atV N B i = 255) (h1 : atV N B (i + 1) = 250) (hs : isOk (subA (bytesOf B [] 0 N) i) = true)  (v : SV) (L' : HF) (next : RunsTo Tryd.prog 39 (headOf Tryd.f39 0) (envAt Tryd.f39.ntmps ([(0, vP 63), (4, vN ((resN (subA (bytesOf B [] 0 N) i)) : Nat))])) (Sx.look (sentEnts 19 144 [(0, t0), (4, t1)] ++ rB 60 M B ++ (rdE 63 102 N ((T ++ [itm 5 i (resN (subA (bytesOf B [] 0 N) i)) 0 (resX (subA (bytesOf B [] 0 N) i)).opt (resX (subA (bytesOf B [] 0 N) i)).body])).length raw ++ itE 102 103 (T ++ [itm 5 i (resN (subA (bytesOf B [] 0 N) i)) 0 (resX (subA (bytesOf B [] 0 N) i)).opt (resX (subA (bytesOf B [] 0 N) i)).body])))) 80 (v) (L') 700) :
    RunsTo Tryd.prog 39 (headOf Tryd.f39 0) (envAt Tryd.f39.ntmps ([(0, vP 63), (4, vN (i : Nat))])) (Sx.look (sentEnts 19 144 [(0, t0), (4, t1)] ++ rB 60 M B ++ (rdE 63 102 N (T).length raw ++ itE 102 103 T))) 80 (v) (L') 700 := by
  have w0 : IntKind.i64.wrap ((i : Int) + 1) = ((i + 1 : Nat) : Int) := by rw [wr64 (by omega)]; rfl
  have w1 : IntKind.i64.wrap ((i : Int) + 2) = ((i + 2 : Nat) : Int) := by rw [wr64 (by omega)]; rfl
  have w2 : IntKind.i64.wrap ((i : Int) + 3) = ((i + 3 : Nat) : Int) := by rw [wr64 (by omega)]; rfl
  have t0' : ((i : Int) + 1).toNat = i + 1 := by omega
  have t2' : ((i : Int) + 2).toNat = i + 2 := by omega
  refine runs_more baseROk (More.of (rSo_p0 t0 t1 N M raw B T i) ⟨?oo, rfl, ?rr⟩) (by kernel_rfl) (by kernel_rfl) rfl (gtL (by decide)) (by decide) next
  case oo =>
    clear next
    refine (okc ?_ (okc ?_ (okc ?_ (okc ?_ (okc ?_ (okc ?_ (okc ?_ (okc ?_ (okc ?_ (okc ?_ (okc ?_ (okc ?_ (okc ?_ (okc ?_ (okc ?_ okn)))))))))))))))
    all_goals first | exact hs | omega | (simp (disch := omega) only [SS, h0, h1, w0, w1, w2, Int.toNat_natCast, Go.Sx.sum, List.length_append, List.length_cons, List.length_nil, Nat.zero_add, hB, hs]; first | done | omega) | assumption | (simp_all; done) | (simp (disch := omega) only [SS, h0, h1, w0, w1, w2, Int.toNat_natCast, Go.Sx.sum, List.length_append, List.length_cons, List.length_nil, Nat.zero_add, hB, hs] at *; first | done | omega) | (refine Bool.and_eq_true_iff.2 ⟨decide_eq_true (by omega), Bool.and_eq_true_iff.2 ⟨decide_eq_true (by omega), hB⟩⟩) | (simp (disch := omega) only [SS, h0, h1, w0, w1, w2, Int.toNat_natCast, Go.Sx.sum, List.length_append, List.length_cons, List.length_nil, Nat.zero_add, hB, hs, hB, hs]; simp; omega)
  case rr =>
    clear next
    simp (disch := omega) only [SS, h0, h1, w0, w1, w2, Int.toNat_natCast, Go.Sx.sum, List.length_append, List.length_cons, List.length_nil, Nat.zero_add, hB, hs]
    repeat' apply And.intro
    all_goals first | exact fun k hk => sn_app _ _ _ _ _ (iK_app T _ _ rfl k hk) | exact fun k hk => sn_app _ _ _ _ _ (iF_app T _ _ rfl k hk) | exact fun k hk => sn_app _ _ _ _ _ (iT_app T _ _ rfl k hk) | exact fun k hk => sn_app _ _ _ _ _ (iC_app T _ _ rfl k hk) | exact fun k hk => sn_app _ _ _ _ _ (iO_app T _ _ rfl k hk) | exact fun k hk => sn_app _ _ _ _ _ (iW_app T _ _ rfl k hk) | exact fun k hk => sn_app _ _ _ _ _ (iM_app T _ _ _ (fun k hk => rfl) rfl k hk) | exact True.intro | with_reducible rfl | omega | exact iK_app T _ _ rfl | exact iF_app T _ _ rfl | exact iT_app T _ _ rfl | exact iC_app T _ _ rfl | exact iO_app T _ _ rfl | exact iW_app T _ _ rfl | exact iM_app T _ _ _ (fun k hk => rfl) rfl | exact iC_app T _ _ (by simp only [itm]; omega) | exact iO_app T _ _ (by simp only [itm]; omega) | exact iT_app T _ _ (by simp only [itm]; omega) | exact iL_cons T _ _ rfl | (intro m hm; exact ⟨iL_cons T _ _ rfl m hm, fun j hj => iZ_cons T _ _ m hm j (fun j hj => by first | exact absurd hj (Nat.not_lt_zero _) | rfl | (simp [itm]; done)) hj⟩) | (simp_all; done)

theorem rS13_p0 (t0 t1 : List UInt8) (N M : Nat) (raw : Bool) (B : Ix → Int) (T : List Itm) (i : Nat) :
    isEnd (evTill Tryd.prog sumsROk 300 (99) 900 39 (headOf Tryd.f39 0) (envAt Tryd.f39.ntmps ([(0, vP 63), (4, vN (i : Nat))])) (sentEnts 19 144 [(0, t0), (4, t1)] ++ rB 60 M B ++ (rdE 63 102 N (T).length raw ++ itE 102 103 T)) ⟨[.s true, .s true, .s true, .s false, .s false, .s false, .s true, .f, .t], 160⟩) (endP ([((141 : Nat), Rn.to (102 : Nat)), ((142 : Nat), Rn.to (103 : Nat))]) (.tup [(false, .vi .i64 fun _ => ((N - i : Nat) : Int)), (false, .vb fun _ => true)]) (rdE 63 141 N T.length raw ++ itE 141 142 T) 700) =
    (OkL [(decide ((↑i : Int) < (↑N : Int)), true), (decide ((0 : Int) ≤ (↑i : Int)) && (decide (N ≤ M) && bndB B N), true), (decide ((0 : Int) ≤ IntKind.i64.wrap ((↑i : Int) + (1 : Int))) && (decide (N ≤ M) && bndB B N), true), (atV N B (↑i : Int).toNat == (255 : Int), false), (atV N B (↑i : Int).toNat != (13 : Int), false), (raw, false), (decide (atV N B (IntKind.i64.wrap ((↑i : Int) + (1 : Int))).toNat < (0 : Int)), true)] ∧ ((↑(N - i) : Int) = IntKind.i64.wrap ((↑N : Int) - (↑i : Int)) ∧ true = true ∧ True) ∧ (((0 : Nat) = (0 : Nat) ∧ N = N) ∧ raw = raw ∧ (0 : Nat) = (0 : Nat) ∧ T.length = T.length) ∧ (T.length = T.length ∧ (∀ (i : Nat), i < T.length → iK T [i] = iK T [i]) ∧ (∀ (i : Nat), i < T.length → iF T [i] = iF T [i]) ∧ (∀ (i : Nat), i < T.length → iT T [i] = iT T [i]) ∧ (∀ (i : Nat), i < T.length → iC T [i] = iC T [i]) ∧ (∀ (i : Nat), i < T.length → iO T [i] = iO T [i]) ∧ (∀ (i : Nat), i < T.length → iM T [i] = iM T [i]) ∧ ∀ (i : Nat), i < T.length → iW T [i] = iW T [i]) ∧ T.length = T.length ∧ ∀ (m : Nat), m < T.length → iL T m = iL T m ∧ ∀ (i : Nat), i < iL T m → iZ T [m, i] = iZ T [m, i]) := by kernel_rfl

set_option maxHeartbeats 4000000 in
theorem rS13 (t0 t1 : List UInt8) (N M : Nat) (raw : Bool) (B : Ix → Int) (T : List Itm) (i : Nat) (hi : i < N) (hN : N ≤ 100000) (hM : N ≤ M) (hB : bndB B N = true) (hT : T.length ≤ 100000) (h0 : atV N B i = 13) (hr : raw = false) (h1 : atV N B (i + 1) < 0)  :
    RunsTo Tryd.prog 39 (headOf Tryd.f39 0) (envAt Tryd.f39.ntmps ([(0, vP 63), (4, vN (i : Nat))])) (Sx.look (sentEnts 19 144 [(0, t0), (4, t1)] ++ rB 60 M B ++ (rdE 63 102 N (T).length raw ++ itE 102 103 T))) 80 (.tup [(false, .vi .i64 fun _ => ((N - i : Nat) : Int)), (false, .vb fun _ => true)]) (Sx.look (rdE 63 141 N T.length raw ++ itE 141 142 T)) 700 := by
  have w0 : IntKind.i64.wrap ((i : Int) + 1) = ((i + 1 : Nat) : Int) := by rw [wr64 (by omega)]; rfl
  have w1 : IntKind.i64.wrap ((i : Int) + 2) = ((i + 2 : Nat) : Int) := by rw [wr64 (by omega)]; rfl
  have w2 : IntKind.i64.wrap ((i : Int) + 3) = ((i + 3 : Nat) : Int) := by rw [wr64 (by omega)]; rfl
  have t0' : ((i : Int) + 1).toNat = i + 1 := by omega
  have t2' : ((i : Int) + 2).toNat = i + 2 := by omega
  have wN : IntKind.i64.wrap ((N : Int) - (i : Int)) = ((N - i : Nat) : Int) := by rw [wr64 (by omega)]; omega
  refine runs_last baseROk (Sx.Ends.of (rS13_p0 t0 t1 N M raw B T i) ⟨?oo, ?rr⟩) (by kernel_rfl) rfl (gtL (by decide)) (by decide)
  case oo =>
    refine (okc ?_ (okc ?_ (okc ?_ (okc ?_ (okc ?_ (okc ?_ (okc ?_ okn)))))))
    all_goals first | omega | (simp (disch := omega) only [SS, h0, h1, hr, w0, w1, w2, Int.toNat_natCast, Go.Sx.sum, List.length_append, List.length_cons, List.length_nil, Nat.zero_add, hB, wN]; first | done | omega) | assumption | (simp_all; done) | (simp (disch := omega) only [SS, h0, h1, hr, w0, w1, w2, Int.toNat_natCast, Go.Sx.sum, List.length_append, List.length_cons, List.length_nil, Nat.zero_add, hB, wN] at *; first | done | omega) | (refine Bool.and_eq_true_iff.2 ⟨decide_eq_true (by omega), Bool.and_eq_true_iff.2 ⟨decide_eq_true (by omega), hB⟩⟩) | (simp (disch := omega) only [SS, h0, h1, hr, w0, w1, w2, Int.toNat_natCast, Go.Sx.sum, List.length_append, List.length_cons, List.length_nil, Nat.zero_add, hB, wN, hB]; simp; omega)
  case rr =>
    try simp (disch := omega) only [SS, h0, h1, hr, w0, w1, w2, Int.toNat_natCast, Go.Sx.sum, List.length_append, List.length_cons, List.length_nil, Nat.zero_add, hB, wN]
    repeat' apply And.intro
    all_goals first | exact True.intro | with_reducible rfl | omega | (intros; first | exact True.intro | with_reducible rfl | omega | (simp_all; done)) | (simp_all; done) | rfl

theorem rVs_p0 (t0 t1 : List UInt8) (N M : Nat) (raw : Bool) (B : Ix → Int) (T : List Itm) (i : Nat) (c : Nat) :
    isEnd (evTill Tryd.prog sumsROk 300 (99) 900 39 (headOf Tryd.f39 0) (envAt Tryd.f39.ntmps ([(0, vP 63), (4, vN (i : Nat))])) (sentEnts 19 144 [(0, t0), (4, t1)] ++ rB 60 M B ++ (rdE 63 102 N (T).length raw ++ itE 102 103 T)) ⟨[.s true, .s true, .s true, .s true, .s true, .s true, .s false, .s true, .s false, .s true, .s true, .s false, .s true, .s true, .f, .t], 160⟩) (endP ([((141 : Nat), Rn.to (102 : Nat)), ((142 : Nat), Rn.to (103 : Nat))]) (.tup [(false, .vi .i64 fun _ => ((N - i : Nat) : Int)), (false, .vb fun _ => true)]) (rdE 63 141 N T.length raw ++ itE 141 142 T) 700) =
    (OkL [(decide ((↑i : Int) < (↑N : Int)), true), (decide ((0 : Int) ≤ (↑i : Int)) && (decide (N ≤ M) && bndB B N), true), (decide ((0 : Int) ≤ IntKind.i64.wrap ((↑i : Int) + (1 : Int))) && (decide (N ≤ M) && bndB B N), true), (atV N B (↑i : Int).toNat == (255 : Int), true), (decide ((0 : Int) ≤ IntKind.i64.wrap ((↑i : Int) + (1 : Int))) && (decide (N ≤ M) && bndB B N), true), (decide ((0 : Int) ≤ IntKind.i64.wrap ((↑i : Int) + (2 : Int))) && (decide (N ≤ M) && bndB B N), true), (atV N B (IntKind.i64.wrap ((↑i : Int) + (1 : Int))).toNat == (255 : Int), false), (decide (atV N B (IntKind.i64.wrap ((↑i : Int) + (1 : Int))).toNat ≥ (241 : Int)), true), (decide (atV N B (IntKind.i64.wrap ((↑i : Int) + (1 : Int))).toNat ≤ (249 : Int)), false), (decide (atV N B (IntKind.i64.wrap ((↑i : Int) + (1 : Int))).toNat ≥ (251 : Int)), true), (decide (atV N B (IntKind.i64.wrap ((↑i : Int) + (1 : Int))).toNat ≤ (254 : Int)), true), (decide (atV N B (IntKind.i64.wrap ((↑i : Int) + (2 : Int))).toNat ≥ (0 : Int)), false), (decide (atV N B (IntKind.i64.wrap ((↑i : Int) + (1 : Int))).toNat ≥ (251 : Int)), true), (decide (atV N B (IntKind.i64.wrap ((↑i : Int) + (1 : Int))).toNat ≤ (254 : Int)), true)] ∧ ((↑(N - i) : Int) = IntKind.i64.wrap ((↑N : Int) - (↑i : Int)) ∧ true = true ∧ True) ∧ (((0 : Nat) = (0 : Nat) ∧ N = N) ∧ raw = raw ∧ (0 : Nat) = (0 : Nat) ∧ T.length = T.length) ∧ (T.length = T.length ∧ (∀ (i : Nat), i < T.length → iK T [i] = iK T [i]) ∧ (∀ (i : Nat), i < T.length → iF T [i] = iF T [i]) ∧ (∀ (i : Nat), i < T.length → iT T [i] = iT T [i]) ∧ (∀ (i : Nat), i < T.length → iC T [i] = iC T [i]) ∧ (∀ (i : Nat), i < T.length → iO T [i] = iO T [i]) ∧ (∀ (i : Nat), i < T.length → iM T [i] = iM T [i]) ∧ ∀ (i : Nat), i < T.length → iW T [i] = iW T [i]) ∧ T.length = T.length ∧ ∀ (m : Nat), m < T.length → iL T m = iL T m ∧ ∀ (i : Nat), i < iL T m → iZ T [m, i] = iZ T [m, i]) := by kernel_rfl

set_option maxHeartbeats 4000000 in
theorem rVs (t0 t1 : List UInt8) (N M : Nat) (raw : Bool) (B : Ix → Int) (T : List Itm) (i : Nat) (c : Nat) (hi : i < N) (hN : N ≤ 100000) (hM : N ≤ M) (hB : bndB B N = true) (hT : T.length ≤ 100000) (h0 : atV N B i = 255) (h1 : atV N B (i + 1) = (c : Int)) (h2 : 251 ≤ c ∧ c ≤ 254) (h3 : atV N B (i + 2) < 0)  :
    RunsTo Tryd.prog 39 (headOf Tryd.f39 0) (envAt Tryd.f39.ntmps ([(0, vP 63), (4, vN (i : Nat))])) (Sx.look (sentEnts 19 144 [(0, t0), (4, t1)] ++ rB 60 M B ++ (rdE 63 102 N (T).length raw ++ itE 102 103 T))) 80 (.tup [(false, .vi .i64 fun _ => ((N - i : Nat) : Int)), (false, .vb fun _ => true)]) (Sx.look (rdE 63 141 N T.length raw ++ itE 141 142 T)) 700 := by
  have w0 : IntKind.i64.wrap ((i : Int) + 1) = ((i + 1 : Nat) : Int) := by rw [wr64 (by omega)]; rfl
  have w1 : IntKind.i64.wrap ((i : Int) + 2) = ((i + 2 : Nat) : Int) := by rw [wr64 (by omega)]; rfl
  have w2 : IntKind.i64.wrap ((i : Int) + 3) = ((i + 3 : Nat) : Int) := by rw [wr64 (by omega)]; rfl
  have t0' : ((i : Int) + 1).toNat = i + 1 := by omega
  have t2' : ((i : Int) + 2).toNat = i + 2 := by omega
  have wN : IntKind.i64.wrap ((N : Int) - (i : Int)) = ((N - i : Nat) : Int) := by rw [wr64 (by omega)]; omega
  refine runs_last baseROk (Sx.Ends.of (rVs_p0 t0 t1 N M raw B T i c) ⟨?oo, ?rr⟩) (by kernel_rfl) rfl (gtL (by decide)) (by decide)
  case oo =>
    refine (okc ?_ (okc ?_ (okc ?_ (okc ?_ (okc ?_ (okc ?_ (okc ?_ (okc ?_ (okc ?_ (okc ?_ (okc ?_ (okc ?_ (okc ?_ (okc ?_ okn))))))))))))))
    all_goals first | omega | (simp (disch := omega) only [SS, h0, h1, h3, w0, w1, w2, Int.toNat_natCast, Go.Sx.sum, List.length_append, List.length_cons, List.length_nil, Nat.zero_add, hB, wN]; first | done | omega) | assumption | (simp_all; done) | (simp (disch := omega) only [SS, h0, h1, h3, w0, w1, w2, Int.toNat_natCast, Go.Sx.sum, List.length_append, List.length_cons, List.length_nil, Nat.zero_add, hB, wN] at *; first | done | omega) | (refine Bool.and_eq_true_iff.2 ⟨decide_eq_true (by omega), Bool.and_eq_true_iff.2 ⟨decide_eq_true (by omega), hB⟩⟩) | (simp (disch := omega) only [SS, h0, h1, h3, w0, w1, w2, Int.toNat_natCast, Go.Sx.sum, List.length_append, List.length_cons, List.length_nil, Nat.zero_add, hB, wN, hB]; simp; omega)
  case rr =>
    try simp (disch := omega) only [SS, h0, h1, h3, w0, w1, w2, Int.toNat_natCast, Go.Sx.sum, List.length_append, List.length_cons, List.length_nil, Nat.zero_add, hB, wN]
    repeat' apply And.intro
    all_goals first | exact True.intro | with_reducible rfl | omega | (intros; first | exact True.intro | with_reducible rfl | omega | (simp_all; done)) | (simp_all; done) | rfl

theorem rE_p0 (t0 t1 : List UInt8) (N M : Nat) (raw : Bool) (B : Ix → Int) (T : List Itm) (i : Nat) :
    isEnd (evTill Tryd.prog sumsROk 300 (99) 900 39 (headOf Tryd.f39 0) (envAt Tryd.f39.ntmps ([(0, vP 63), (4, vN (i : Nat))])) (sentEnts 19 144 [(0, t0), (4, t1)] ++ rB 60 M B ++ (rdE 63 102 N (T).length raw ++ itE 102 103 T)) ⟨[.s true, .s true, .s true, .s true, .s true, .s true, .s false, .s false, .f, .s false, .f, .s false, .f, .s false, .s true, .f, .t], 160⟩) (endP ([((141 : Nat), Rn.to (102 : Nat)), ((142 : Nat), Rn.to (103 : Nat))]) (.tup [(false, .vi .i64 fun _ => ((N - i : Nat) : Int)), (false, .vb fun _ => true)]) (rdE 63 141 N T.length raw ++ itE 141 142 T) 700) =
    (OkL [(decide ((↑i : Int) < (↑N : Int)), true), (decide ((0 : Int) ≤ (↑i : Int)) && (decide (N ≤ M) && bndB B N), true), (decide ((0 : Int) ≤ IntKind.i64.wrap ((↑i : Int) + (1 : Int))) && (decide (N ≤ M) && bndB B N), true), (atV N B (↑i : Int).toNat == (255 : Int), true), (decide ((0 : Int) ≤ IntKind.i64.wrap ((↑i : Int) + (1 : Int))) && (decide (N ≤ M) && bndB B N), true), (decide ((0 : Int) ≤ IntKind.i64.wrap ((↑i : Int) + (2 : Int))) && (decide (N ≤ M) && bndB B N), true), (atV N B (IntKind.i64.wrap ((↑i : Int) + (1 : Int))).toNat == (255 : Int), false), (decide (atV N B (IntKind.i64.wrap ((↑i : Int) + (1 : Int))).toNat ≥ (241 : Int)), false), (decide (atV N B (IntKind.i64.wrap ((↑i : Int) + (1 : Int))).toNat ≥ (251 : Int)), false), (decide (atV N B (IntKind.i64.wrap ((↑i : Int) + (1 : Int))).toNat ≥ (251 : Int)), false), (atV N B (IntKind.i64.wrap ((↑i : Int) + (1 : Int))).toNat == (250 : Int), false), (decide (atV N B (IntKind.i64.wrap ((↑i : Int) + (1 : Int))).toNat < (0 : Int)), true)] ∧ ((↑(N - i) : Int) = IntKind.i64.wrap ((↑N : Int) - (↑i : Int)) ∧ true = true ∧ True) ∧ (((0 : Nat) = (0 : Nat) ∧ N = N) ∧ raw = raw ∧ (0 : Nat) = (0 : Nat) ∧ T.length = T.length) ∧ (T.length = T.length ∧ (∀ (i : Nat), i < T.length → iK T [i] = iK T [i]) ∧ (∀ (i : Nat), i < T.length → iF T [i] = iF T [i]) ∧ (∀ (i : Nat), i < T.length → iT T [i] = iT T [i]) ∧ (∀ (i : Nat), i < T.length → iC T [i] = iC T [i]) ∧ (∀ (i : Nat), i < T.length → iO T [i] = iO T [i]) ∧ (∀ (i : Nat), i < T.length → iM T [i] = iM T [i]) ∧ ∀ (i : Nat), i < T.length → iW T [i] = iW T [i]) ∧ T.length = T.length ∧ ∀ (m : Nat), m < T.length → iL T m = iL T m ∧ ∀ (i : Nat), i < iL T m → iZ T [m, i] = iZ T [m, i]) := by kernel_rfl

set_option maxHeartbeats 4000000 in
theorem rE (t0 t1 : List UInt8) (N M : Nat) (raw : Bool) (B : Ix → Int) (T : List Itm) (i : Nat) (hi : i < N) (hN : N ≤ 100000) (hM : N ≤ M) (hB : bndB B N = true) (hT : T.length ≤ 100000) (h0 : atV N B i = 255) (h1 : atV N B (i + 1) < 0)  :
    RunsTo Tryd.prog 39 (headOf Tryd.f39 0) (envAt Tryd.f39.ntmps ([(0, vP 63), (4, vN (i : Nat))])) (Sx.look (sentEnts 19 144 [(0, t0), (4, t1)] ++ rB 60 M B ++ (rdE 63 102 N (T).length raw ++ itE 102 103 T))) 80 (.tup [(false, .vi .i64 fun _ => ((N - i : Nat) : Int)), (false, .vb fun _ => true)]) (Sx.look (rdE 63 141 N T.length raw ++ itE 141 142 T)) 700 := by
  have w0 : IntKind.i64.wrap ((i : Int) + 1) = ((i + 1 : Nat) : Int) := by rw [wr64 (by omega)]; rfl
  have w1 : IntKind.i64.wrap ((i : Int) + 2) = ((i + 2 : Nat) : Int) := by rw [wr64 (by omega)]; rfl
  have w2 : IntKind.i64.wrap ((i : Int) + 3) = ((i + 3 : Nat) : Int) := by rw [wr64 (by omega)]; rfl
  have t0' : ((i : Int) + 1).toNat = i + 1 := by omega
  have t2' : ((i : Int) + 2).toNat = i + 2 := by omega
  have wN : IntKind.i64.wrap ((N : Int) - (i : Int)) = ((N - i : Nat) : Int) := by rw [wr64 (by omega)]; omega
  refine runs_last baseROk (Sx.Ends.of (rE_p0 t0 t1 N M raw B T i) ⟨?oo, ?rr⟩) (by kernel_rfl) rfl (gtL (by decide)) (by decide)
  case oo =>
    refine (okc ?_ (okc ?_ (okc ?_ (okc ?_ (okc ?_ (okc ?_ (okc ?_ (okc ?_ (okc ?_ (okc ?_ (okc ?_ (okc ?_ okn))))))))))))
    all_goals first | omega | (simp (disch := omega) only [SS, h0, h1, w0, w1, w2, Int.toNat_natCast, Go.Sx.sum, List.length_append, List.length_cons, List.length_nil, Nat.zero_add, hB, wN]; first | done | omega) | assumption | (simp_all; done) | (simp (disch := omega) only [SS, h0, h1, w0, w1, w2, Int.toNat_natCast, Go.Sx.sum, List.length_append, List.length_cons, List.length_nil, Nat.zero_add, hB, wN] at *; first | done | omega) | (refine Bool.and_eq_true_iff.2 ⟨decide_eq_true (by omega), Bool.and_eq_true_iff.2 ⟨decide_eq_true (by omega), hB⟩⟩) | (simp (disch := omega) only [SS, h0, h1, w0, w1, w2, Int.toNat_natCast, Go.Sx.sum, List.length_append, List.length_cons, List.length_nil, Nat.zero_add, hB, wN, hB]; simp; omega)
  case rr =>
    try simp (disch := omega) only [SS, h0, h1, w0, w1, w2, Int.toNat_natCast, Go.Sx.sum, List.length_append, List.length_cons, List.length_nil, Nat.zero_add, hB, wN]
    repeat' apply And.intro
    all_goals first | exact True.intro | with_reducible rfl | omega | (intros; first | exact True.intro | with_reducible rfl | omega | (simp_all; done)) | (simp_all; done) | rfl

theorem rF_p0 (t0 t1 : List UInt8) (N M : Nat) (raw : Bool) (B : Ix → Int) (T : List Itm) (i : Nat) (c : Nat) :
    isEnd (evTill Tryd.prog sumsROk 300 (99) 900 39 (headOf Tryd.f39 0) (envAt Tryd.f39.ntmps ([(0, vP 63), (4, vN (i : Nat))])) (sentEnts 19 144 [(0, t0), (4, t1)] ++ rB 60 M B ++ (rdE 63 102 N (T).length raw ++ itE 102 103 T)) ⟨[.s true, .s true, .s true, .s true, .s true, .s true, .s false, .s false, .f, .s false, .f, .s false, .f, .s false, .s false, .f, .f], 160⟩) (endP ([((141 : Nat), Rn.to (102 : Nat)), ((142 : Nat), Rn.to (103 : Nat))]) (.tup [(false, .vi .i64 fun _ => 0), (false, .vb fun _ => false)]) (rdE 63 141 N T.length raw ++ itE 141 142 T) 700) =
    (OkL [(decide ((↑i : Int) < (↑N : Int)), true), (decide ((0 : Int) ≤ (↑i : Int)) && (decide (N ≤ M) && bndB B N), true), (decide ((0 : Int) ≤ IntKind.i64.wrap ((↑i : Int) + (1 : Int))) && (decide (N ≤ M) && bndB B N), true), (atV N B (↑i : Int).toNat == (255 : Int), true), (decide ((0 : Int) ≤ IntKind.i64.wrap ((↑i : Int) + (1 : Int))) && (decide (N ≤ M) && bndB B N), true), (decide ((0 : Int) ≤ IntKind.i64.wrap ((↑i : Int) + (2 : Int))) && (decide (N ≤ M) && bndB B N), true), (atV N B (IntKind.i64.wrap ((↑i : Int) + (1 : Int))).toNat == (255 : Int), false), (decide (atV N B (IntKind.i64.wrap ((↑i : Int) + (1 : Int))).toNat ≥ (241 : Int)), false), (decide (atV N B (IntKind.i64.wrap ((↑i : Int) + (1 : Int))).toNat ≥ (251 : Int)), false), (decide (atV N B (IntKind.i64.wrap ((↑i : Int) + (1 : Int))).toNat ≥ (251 : Int)), false), (atV N B (IntKind.i64.wrap ((↑i : Int) + (1 : Int))).toNat == (250 : Int), false), (decide (atV N B (IntKind.i64.wrap ((↑i : Int) + (1 : Int))).toNat < (0 : Int)), false)] ∧ ((0 : Int) = (0 : Int) ∧ false = false ∧ True) ∧ (((0 : Nat) = (0 : Nat) ∧ N = N) ∧ raw = raw ∧ (0 : Nat) = (0 : Nat) ∧ T.length = T.length) ∧ (T.length = T.length ∧ (∀ (i : Nat), i < T.length → iK T [i] = iK T [i]) ∧ (∀ (i : Nat), i < T.length → iF T [i] = iF T [i]) ∧ (∀ (i : Nat), i < T.length → iT T [i] = iT T [i]) ∧ (∀ (i : Nat), i < T.length → iC T [i] = iC T [i]) ∧ (∀ (i : Nat), i < T.length → iO T [i] = iO T [i]) ∧ (∀ (i : Nat), i < T.length → iM T [i] = iM T [i]) ∧ ∀ (i : Nat), i < T.length → iW T [i] = iW T [i]) ∧ T.length = T.length ∧ ∀ (m : Nat), m < T.length → iL T m = iL T m ∧ ∀ (i : Nat), i < iL T m → iZ T [m, i] = iZ T [m, i]) := by kernel_rfl

set_option maxHeartbeats 4000000 in
theorem rF (t0 t1 : List UInt8) (N M : Nat) (raw : Bool) (B : Ix → Int) (T : List Itm) (i : Nat) (c : Nat) (hi : i < N) (hN : N ≤ 100000) (hM : N ≤ M) (hB : bndB B N = true) (hT : T.length ≤ 100000) (h0 : atV N B i = 255) (h1 : atV N B (i + 1) = (c : Int)) (h2 : c < 241)  :
    RunsTo Tryd.prog 39 (headOf Tryd.f39 0) (envAt Tryd.f39.ntmps ([(0, vP 63), (4, vN (i : Nat))])) (Sx.look (sentEnts 19 144 [(0, t0), (4, t1)] ++ rB 60 M B ++ (rdE 63 102 N (T).length raw ++ itE 102 103 T))) 80 (.tup [(false, .vi .i64 fun _ => 0), (false, .vb fun _ => false)]) (Sx.look (rdE 63 141 N T.length raw ++ itE 141 142 T)) 700 := by
  have w0 : IntKind.i64.wrap ((i : Int) + 1) = ((i + 1 : Nat) : Int) := by rw [wr64 (by omega)]; rfl
  have w1 : IntKind.i64.wrap ((i : Int) + 2) = ((i + 2 : Nat) : Int) := by rw [wr64 (by omega)]; rfl
  have w2 : IntKind.i64.wrap ((i : Int) + 3) = ((i + 3 : Nat) : Int) := by rw [wr64 (by omega)]; rfl
  have t0' : ((i : Int) + 1).toNat = i + 1 := by omega
  have t2' : ((i : Int) + 2).toNat = i + 2 := by omega
  have wN : IntKind.i64.wrap ((N : Int) - (i : Int)) = ((N - i : Nat) : Int) := by rw [wr64 (by omega)]; omega
  refine runs_last baseROk (Sx.Ends.of (rF_p0 t0 t1 N M raw B T i c) ⟨?oo, ?rr⟩) (by kernel_rfl) rfl (gtL (by decide)) (by decide)
  case oo =>
    refine (okc ?_ (okc ?_ (okc ?_ (okc ?_ (okc ?_ (okc ?_ (okc ?_ (okc ?_ (okc ?_ (okc ?_ (okc ?_ (okc ?_ okn))))))))))))
    all_goals first | omega | (simp (disch := omega) only [SS, h0, h1, w0, w1, w2, Int.toNat_natCast, Go.Sx.sum, List.length_append, List.length_cons, List.length_nil, Nat.zero_add, hB, wN]; first | done | omega) | assumption | (simp_all; done) | (simp (disch := omega) only [SS, h0, h1, w0, w1, w2, Int.toNat_natCast, Go.Sx.sum, List.length_append, List.length_cons, List.length_nil, Nat.zero_add, hB, wN] at *; first | done | omega) | (refine Bool.and_eq_true_iff.2 ⟨decide_eq_true (by omega), Bool.and_eq_true_iff.2 ⟨decide_eq_true (by omega), hB⟩⟩) | (simp (disch := omega) only [SS, h0, h1, w0, w1, w2, Int.toNat_natCast, Go.Sx.sum, List.length_append, List.length_cons, List.length_nil, Nat.zero_add, hB, wN, hB]; simp; omega)
  case rr =>
    try simp (disch := omega) only [SS, h0, h1, w0, w1, w2, Int.toNat_natCast, Go.Sx.sum, List.length_append, List.length_cons, List.length_nil, Nat.zero_add, hB, wN]
    repeat' apply And.intro
    all_goals first | exact True.intro | with_reducible rfl | omega | (intros; first | exact True.intro | with_reducible rfl | omega | (simp_all; done)) | (simp_all; done) | rfl

theorem rSs_p0 (t0 t1 : List UInt8) (N M : Nat) (raw : Bool) (B : Ix → Int) (T : List Itm) (i : Nat) :
    isEnd (evTill Tryd.prog sumsRSh 300 (99) 900 39 (headOf Tryd.f39 0) (envAt Tryd.f39.ntmps ([(0, vP 63), (4, vN (i : Nat))])) (sentEnts 19 144 [(0, t0), (4, t1)] ++ rB 60 M B ++ (rdE 63 102 N (T).length raw ++ itE 102 103 T)) ⟨[.s true, .s true, .s true, .s true, .s true, .s true, .s false, .s true, .s false, .s false, .f, .s false, .f, .s true, .s true, .s true, .s true, .f, .t], 160⟩) (endP ([((141 : Nat), Rn.to (102 : Nat)), ((142 : Nat), Rn.to (103 : Nat))]) (.tup [(false, .vi .i64 fun _ => ((N - i : Nat) : Int)), (false, .vb fun _ => true)]) (rdE 63 141 N T.length raw ++ itE 141 142 T) 700) =
    (OkL [(decide ((↑i : Int) < (↑N : Int)), true), (decide ((0 : Int) ≤ (↑i : Int)) && (decide (N ≤ M) && bndB B N), true), (decide ((0 : Int) ≤ IntKind.i64.wrap ((↑i : Int) + (1 : Int))) && (decide (N ≤ M) && bndB B N), true), (atV N B (↑i : Int).toNat == (255 : Int), true), (decide ((0 : Int) ≤ IntKind.i64.wrap ((↑i : Int) + (1 : Int))) && (decide (N ≤ M) && bndB B N), true), (decide ((0 : Int) ≤ IntKind.i64.wrap ((↑i : Int) + (2 : Int))) && (decide (N ≤ M) && bndB B N), true), (atV N B (IntKind.i64.wrap ((↑i : Int) + (1 : Int))).toNat == (255 : Int), false), (decide (atV N B (IntKind.i64.wrap ((↑i : Int) + (1 : Int))).toNat ≥ (241 : Int)), true), (decide (atV N B (IntKind.i64.wrap ((↑i : Int) + (1 : Int))).toNat ≤ (249 : Int)), false), (decide (atV N B (IntKind.i64.wrap ((↑i : Int) + (1 : Int))).toNat ≥ (251 : Int)), false), (decide (atV N B (IntKind.i64.wrap ((↑i : Int) + (1 : Int))).toNat ≥ (251 : Int)), false), (atV N B (IntKind.i64.wrap ((↑i : Int) + (1 : Int))).toNat == (250 : Int), true), (T.length.beq T.length, true), (T.length.beq T.length, true), (decide ((0 : Int) ≤ (↑i : Int) ∧ (↑i : Int) ≤ (100000 : Int)) && (decide (N ≤ (100000 : Nat)) && (decide (N ≤ M) && (decide (T.length ≤ (100000 : Nat)) && (bndB B N && isShort (subA (bytesOf B [] (0 : Nat) N) (↑i : Int).toNat))))), true)] ∧ ((↑(N - i) : Int) = IntKind.i64.wrap ((↑N : Int) - (↑i : Int)) ∧ true = true ∧ True) ∧ (((0 : Nat) = (0 : Nat) ∧ N = N) ∧ raw = raw ∧ (0 : Nat) = (0 : Nat) ∧ T.length = T.length) ∧ (T.length = T.length ∧ (∀ (i : Nat), i < T.length → iK T [i] = iK T [i]) ∧ (∀ (i : Nat), i < T.length → iF T [i] = iF T [i]) ∧ (∀ (i : Nat), i < T.length → iT T [i] = iT T [i]) ∧ (∀ (i : Nat), i < T.length → iC T [i] = iC T [i]) ∧ (∀ (i : Nat), i < T.length → iO T [i] = iO T [i]) ∧ (∀ (i : Nat), i < T.length → iM T [i] = iM T [i]) ∧ ∀ (i : Nat), i < T.length → iW T [i] = iW T [i]) ∧ T.length = T.length ∧ ∀ (m : Nat), m < T.length → iL T m = iL T m ∧ ∀ (i : Nat), i < iL T m → iZ T [m, i] = iZ T [m, i]) := by kernel_rfl

set_option maxHeartbeats 4000000 in
theorem rSs (t0 t1 : List UInt8) (N M : Nat) (raw : Bool) (B : Ix → Int) (T : List Itm) (i : Nat) (hi : i < N) (hN : N ≤ 100000) (hM : N ≤ M) (hB : bndB B N = true) (hT : T.length ≤ 100000) (h0 : atV N B i = 255) (h1 : atV N B (i + 1) = 250) (hs : isShort (subA (bytesOf B [] 0 N) i) = true)  :
    RunsTo Tryd.prog 39 (headOf Tryd.f39 0) (envAt Tryd.f39.ntmps ([(0, vP 63), (4, vN (i : Nat))])) (Sx.look (sentEnts 19 144 [(0, t0), (4, t1)] ++ rB 60 M B ++ (rdE 63 102 N (T).length raw ++ itE 102 103 T))) 80 (.tup [(false, .vi .i64 fun _ => ((N - i : Nat) : Int)), (false, .vb fun _ => true)]) (Sx.look (rdE 63 141 N T.length raw ++ itE 141 142 T)) 700 := by
  have w0 : IntKind.i64.wrap ((i : Int) + 1) = ((i + 1 : Nat) : Int) := by rw [wr64 (by omega)]; rfl
  have w1 : IntKind.i64.wrap ((i : Int) + 2) = ((i + 2 : Nat) : Int) := by rw [wr64 (by omega)]; rfl
  have w2 : IntKind.i64.wrap ((i : Int) + 3) = ((i + 3 : Nat) : Int) := by rw [wr64 (by omega)]; rfl
  have t0' : ((i : Int) + 1).toNat = i + 1 := by omega
  have t2' : ((i : Int) + 2).toNat = i + 2 := by omega
  have wN : IntKind.i64.wrap ((N : Int) - (i : Int)) = ((N - i : Nat) : Int) := by rw [wr64 (by omega)]; omega
  refine runs_last baseRSh (Sx.Ends.of (rSs_p0 t0 t1 N M raw B T i) ⟨?oo, ?rr⟩) (by kernel_rfl) rfl (gtL (by decide)) (by decide)
  case oo =>
    refine (okc ?_ (okc ?_ (okc ?_ (okc ?_ (okc ?_ (okc ?_ (okc ?_ (okc ?_ (okc ?_ (okc ?_ (okc ?_ (okc ?_ (okc ?_ (okc ?_ (okc ?_ okn)))))))))))))))
    all_goals first | exact hs | omega | (simp (disch := omega) only [SS, h0, h1, w0, w1, w2, Int.toNat_natCast, Go.Sx.sum, List.length_append, List.length_cons, List.length_nil, Nat.zero_add, hB, hs, wN]; first | done | omega) | assumption | (simp_all; done) | (simp (disch := omega) only [SS, h0, h1, w0, w1, w2, Int.toNat_natCast, Go.Sx.sum, List.length_append, List.length_cons, List.length_nil, Nat.zero_add, hB, hs, wN] at *; first | done | omega) | (refine Bool.and_eq_true_iff.2 ⟨decide_eq_true (by omega), Bool.and_eq_true_iff.2 ⟨decide_eq_true (by omega), hB⟩⟩) | (simp (disch := omega) only [SS, h0, h1, w0, w1, w2, Int.toNat_natCast, Go.Sx.sum, List.length_append, List.length_cons, List.length_nil, Nat.zero_add, hB, hs, wN, hB, hs]; simp; omega)
  case rr =>
    try simp (disch := omega) only [SS, h0, h1, w0, w1, w2, Int.toNat_natCast, Go.Sx.sum, List.length_append, List.length_cons, List.length_nil, Nat.zero_add, hB, hs, wN]
    repeat' apply And.intro
    all_goals first | exact True.intro | with_reducible rfl | omega | (intros; first | exact True.intro | with_reducible rfl | omega | (simp_all; done)) | (simp_all; done) | rfl

theorem rSf_p0 (t0 t1 : List UInt8) (N M : Nat) (raw : Bool) (B : Ix → Int) (T : List Itm) (i : Nat) :
    isEnd (evTill Tryd.prog sumsRFo 300 (99) 900 39 (headOf Tryd.f39 0) (envAt Tryd.f39.ntmps ([(0, vP 63), (4, vN (i : Nat))])) (sentEnts 19 144 [(0, t0), (4, t1)] ++ rB 60 M B ++ (rdE 63 102 N (T).length raw ++ itE 102 103 T)) ⟨[.s true, .s true, .s true, .s true, .s true, .s true, .s false, .s true, .s false, .s false, .f, .s false, .f, .s true, .s true, .s true, .s true, .f, .f], 160⟩) (endP ([((141 : Nat), Rn.to (102 : Nat)), ((142 : Nat), Rn.to (103 : Nat))]) (.tup [(false, .vi .i64 fun _ => 0), (false, .vb fun _ => false)]) (rdE 63 141 N T.length raw ++ itE 141 142 T) 700) =
    (OkL [(decide ((↑i : Int) < (↑N : Int)), true), (decide ((0 : Int) ≤ (↑i : Int)) && (decide (N ≤ M) && bndB B N), true), (decide ((0 : Int) ≤ IntKind.i64.wrap ((↑i : Int) + (1 : Int))) && (decide (N ≤ M) && bndB B N), true), (atV N B (↑i : Int).toNat == (255 : Int), true), (decide ((0 : Int) ≤ IntKind.i64.wrap ((↑i : Int) + (1 : Int))) && (decide (N ≤ M) && bndB B N), true), (decide ((0 : Int) ≤ IntKind.i64.wrap ((↑i : Int) + (2 : Int))) && (decide (N ≤ M) && bndB B N), true), (atV N B (IntKind.i64.wrap ((↑i : Int) + (1 : Int))).toNat == (255 : Int), false), (decide (atV N B (IntKind.i64.wrap ((↑i : Int) + (1 : Int))).toNat ≥ (241 : Int)), true), (decide (atV N B (IntKind.i64.wrap ((↑i : Int) + (1 : Int))).toNat ≤ (249 : Int)), false), (decide (atV N B (IntKind.i64.wrap ((↑i : Int) + (1 : Int))).toNat ≥ (251 : Int)), false), (decide (atV N B (IntKind.i64.wrap ((↑i : Int) + (1 : Int))).toNat ≥ (251 : Int)), false), (atV N B (IntKind.i64.wrap ((↑i : Int) + (1 : Int))).toNat == (250 : Int), true), (T.length.beq T.length, true), (T.length.beq T.length, true), (decide ((0 : Int) ≤ (↑i : Int) ∧ (↑i : Int) ≤ (100000 : Int)) && (decide (N ≤ (100000 : Nat)) && (decide (N ≤ M) && (decide (T.length ≤ (100000 : Nat)) && (bndB B N && isForm (subA (bytesOf B [] (0 : Nat) N) (↑i : Int).toNat))))), true)] ∧ ((0 : Int) = (0 : Int) ∧ false = false ∧ True) ∧ (((0 : Nat) = (0 : Nat) ∧ N = N) ∧ raw = raw ∧ (0 : Nat) = (0 : Nat) ∧ T.length = T.length) ∧ (T.length = T.length ∧ (∀ (i : Nat), i < T.length → iK T [i] = iK T [i]) ∧ (∀ (i : Nat), i < T.length → iF T [i] = iF T [i]) ∧ (∀ (i : Nat), i < T.length → iT T [i] = iT T [i]) ∧ (∀ (i : Nat), i < T.length → iC T [i] = iC T [i]) ∧ (∀ (i : Nat), i < T.length → iO T [i] = iO T [i]) ∧ (∀ (i : Nat), i < T.length → iM T [i] = iM T [i]) ∧ ∀ (i : Nat), i < T.length → iW T [i] = iW T [i]) ∧ T.length = T.length ∧ ∀ (m : Nat), m < T.length → iL T m = iL T m ∧ ∀ (i : Nat), i < iL T m → iZ T [m, i] = iZ T [m, i]) := by kernel_rfl

set_option maxHeartbeats 4000000 in
theorem rSf (t0 t1 : List UInt8) (N M : Nat) (raw : Bool) (B : Ix → Int) (T : List Itm) (i : Nat) (hi : i < N) (hN : N ≤ 100000) (hM : N ≤ M) (hB : bndB B N = true) (hT : T.length ≤ 100000) (h0 : atV N B i = 255) (h1 : atV N B (i + 1) = 250) (hs : isForm (subA (bytesOf B [] 0 N) i) = true)  :
    RunsTo Tryd.prog 39 (headOf Tryd.f39 0) (envAt Tryd.f39.ntmps ([(0, vP 63), (4, vN (i : Nat))])) (Sx.look (sentEnts 19 144 [(0, t0), (4, t1)] ++ rB 60 M B ++ (rdE 63 102 N (T).length raw ++ itE 102 103 T))) 80 (.tup [(false, .vi .i64 fun _ => 0), (false, .vb fun _ => false)]) (Sx.look (rdE 63 141 N T.length raw ++ itE 141 142 T)) 700 := by
  have w0 : IntKind.i64.wrap ((i : Int) + 1) = ((i + 1 : Nat) : Int) := by rw [wr64 (by omega)]; rfl
  have w1 : IntKind.i64.wrap ((i : Int) + 2) = ((i + 2 : Nat) : Int) := by rw [wr64 (by omega)]; rfl
  have w2 : IntKind.i64.wrap ((i : Int) + 3) = ((i + 3 : Nat) : Int) := by rw [wr64 (by omega)]; rfl
  have t0' : ((i : Int) + 1).toNat = i + 1 := by omega
  have t2' : ((i : Int) + 2).toNat = i + 2 := by omega
  have wN : IntKind.i64.wrap ((N : Int) - (i : Int)) = ((N - i : Nat) : Int) := by rw [wr64 (by omega)]; omega
  refine runs_last baseRFo (Sx.Ends.of (rSf_p0 t0 t1 N M raw B T i) ⟨?oo, ?rr⟩) (by kernel_rfl) rfl (gtL (by decide)) (by decide)
  case oo =>
    refine (okc ?_ (okc ?_ (okc ?_ (okc ?_ (okc ?_ (okc ?_ (okc ?_ (okc ?_ (okc ?_ (okc ?_ (okc ?_ (okc ?_ (okc ?_ (okc ?_ (okc ?_ okn)))))))))))))))
    all_goals first | exact hs | omega | (simp (disch := omega) only [SS, h0, h1, w0, w1, w2, Int.toNat_natCast, Go.Sx.sum, List.length_append, List.length_cons, List.length_nil, Nat.zero_add, hB, hs, wN]; first | done | omega) | assumption | (simp_all; done) | (simp (disch := omega) only [SS, h0, h1, w0, w1, w2, Int.toNat_natCast, Go.Sx.sum, List.length_append, List.length_cons, List.length_nil, Nat.zero_add, hB, hs, wN] at *; first | done | omega) | (refine Bool.and_eq_true_iff.2 ⟨decide_eq_true (by omega), Bool.and_eq_true_iff.2 ⟨decide_eq_true (by omega), hB⟩⟩) | (simp (disch := omega) only [SS, h0, h1, w0, w1, w2, Int.toNat_natCast, Go.Sx.sum, List.length_append, List.length_cons, List.length_nil, Nat.zero_add, hB, hs, wN, hB, hs]; simp; omega)
  case rr =>
    try simp (disch := omega) only [SS, h0, h1, w0, w1, w2, Int.toNat_natCast, Go.Sx.sum, List.length_append, List.length_cons, List.length_nil, Nat.zero_add, hB, hs, wN]
    repeat' apply And.intro
    all_goals first | exact True.intro | with_reducible rfl | omega | (intros; first | exact True.intro | with_reducible rfl | omega | (simp_all; done)) | (simp_all; done) | rfl

theorem rEnd_p0 (t0 t1 : List UInt8) (N M : Nat) (raw : Bool) (B : Ix → Int) (T : List Itm) (i : Nat) :
    isEnd (evTill Tryd.prog sumsROk 300 (99) 900 39 (headOf Tryd.f39 0) (envAt Tryd.f39.ntmps ([(0, vP 63), (4, vN (i : Nat))])) (sentEnts 19 144 [(0, t0), (4, t1)] ++ rB 60 M B ++ (rdE 63 102 N (T).length raw ++ itE 102 103 T)) ⟨[.s false], 160⟩) (endP ([((141 : Nat), Rn.to (102 : Nat)), ((142 : Nat), Rn.to (103 : Nat))]) (.tup [(false, .vi .i64 fun _ => 0), (false, .vb fun _ => true)]) (rdE 63 141 N T.length raw ++ itE 141 142 T) 700) =
    (OkL [(decide ((↑i : Int) < (↑N : Int)), false)] ∧ ((0 : Int) = (0 : Int) ∧ true = true ∧ True) ∧ (((0 : Nat) = (0 : Nat) ∧ N = N) ∧ raw = raw ∧ (0 : Nat) = (0 : Nat) ∧ T.length = T.length) ∧ (T.length = T.length ∧ (∀ (i : Nat), i < T.length → iK T [i] = iK T [i]) ∧ (∀ (i : Nat), i < T.length → iF T [i] = iF T [i]) ∧ (∀ (i : Nat), i < T.length → iT T [i] = iT T [i]) ∧ (∀ (i : Nat), i < T.length → iC T [i] = iC T [i]) ∧ (∀ (i : Nat), i < T.length → iO T [i] = iO T [i]) ∧ (∀ (i : Nat), i < T.length → iM T [i] = iM T [i]) ∧ ∀ (i : Nat), i < T.length → iW T [i] = iW T [i]) ∧ T.length = T.length ∧ ∀ (m : Nat), m < T.length → iL T m = iL T m ∧ ∀ (i : Nat), i < iL T m → iZ T [m, i] = iZ T [m, i]) := by kernel_rfl

set_option maxHeartbeats 4000000 in
theorem rEnd (t0 t1 : List UInt8) (N M : Nat) (raw : Bool) (B : Ix → Int) (T : List Itm) (i : Nat) (hi : i = N)  :
    RunsTo Tryd.prog 39 (headOf Tryd.f39 0) (envAt Tryd.f39.ntmps ([(0, vP 63), (4, vN (i : Nat))])) (Sx.look (sentEnts 19 144 [(0, t0), (4, t1)] ++ rB 60 M B ++ (rdE 63 102 N (T).length raw ++ itE 102 103 T))) 80 (.tup [(false, .vi .i64 fun _ => 0), (false, .vb fun _ => true)]) (Sx.look (rdE 63 141 N T.length raw ++ itE 141 142 T)) 700 := by
  refine runs_last baseROk (Sx.Ends.of (rEnd_p0 t0 t1 N M raw B T i) ⟨?oo, ?rr⟩) (by kernel_rfl) rfl (gtL (by decide)) (by decide)
  case oo =>
    refine (okc ?_ okn)
    all_goals ((try simp (disch := omega) only [SS]); first | done | omega | assumption | (simp (disch := omega) only [SS] at *; first | done | omega | assumption) | (simp_all; done))
  case rr =>
    try simp (disch := omega) only [SS]
    repeat' apply And.intro
    all_goals first | exact True.intro | with_reducible rfl | omega | (intros; first | exact True.intro | with_reducible rfl | omega | (simp_all; done)) | (simp_all; done) | rfl

end Go.Proofs.YtcphocfnhekdaaaDoor

set_option linter.unusedSimpArgs false
set_option linter.unusedVariables false
set_option maxRecDepth 100000
namespace Go.Proofs.YtcphocfnhekdaaaDoor
open Go.Sx GramR

/-- The items up to the end, or up to what is none; how many bytes are left. -/
def goI (raw : Bool) : Nat → Nat → List UInt8 → List Itm × Option Nat
  | 0, _, s => ([], some s.length)
  | k + 1, at_, s => if s = [] then ([], some 0) else
    match itemI raw s with
    | .ok x n => ((x, at_, at_ + n) :: (goI raw k (at_ + n) (s.drop n)).1, (goI raw k (at_ + n) (s.drop n)).2)
    | .short => ([], some s.length)
    | .form => ([], none)
theorem goI_read (raw : Bool) : ∀ (k a : Nat) (s : List UInt8), readI raw k a s = match (goI raw k a s).2 with | some m => some ((goI raw k a s).1, m) | none => none
  | 0, a, s => rfl
  | k + 1, a, s => by
    simp only [readI, goI]
    by_cases h : s = []
    · rw [if_pos h, if_pos h]
    · rw [if_neg h, if_neg h]
      cases itemI raw s with
      | ok x n =>
        simp only
        rw [goI_read raw k (a + n) (s.drop n)]
        cases (goI raw k (a + n) (s.drop n)).2 <;> rfl
      | short => rfl
      | form => rfl
def allI (raw : Bool) (s : List UInt8) : List Itm × Option Nat := goI raw (s.length + 1) 0 s
theorem allI_parse (raw : Bool) (s : List UInt8) : parseI raw s = match (allI raw s).2 with | some m => some ((allI raw s).1, m) | none => none := goI_read raw _ 0 s
theorem goI_len (raw : Bool) : ∀ (k a : Nat) (s : List UInt8), (goI raw k a s).1.length ≤ s.length
  | 0, a, s => by simp [goI]
  | k + 1, a, s => by
    simp only [goI]
    by_cases h : s = []
    · rw [if_pos h]; simp
    · rw [if_neg h]
      cases hi : itemI raw s with
      | ok x n =>
        obtain ⟨h1, h2, _⟩ := item_pre raw s x n hi
        have := goI_len raw k (a + n) (s.drop n)
        rw [List.length_drop] at this
        simp only [List.length_cons]; omega
      | short => simp
      | form => simp
theorem allI_len (raw : Bool) (s : List UInt8) : (allI raw s).1.length ≤ s.length := goI_len raw _ 0 s
theorem bytes_at {B : Ix → Int} {N : Nat} (hB : bndB B N = true) : ∀ i, i < N → B [i] = (((bytesOf B [] 0 N).getD i 0).toNat : Int) := fun i hi => by
  have h0 := bndB_ok hB hi
  have := bytesOf_nat (B := B) (is := []) (st := 0) (n := N) hi (by simpa using h0)
  simpa using this.symm
theorem at_some {s : List UInt8} {N : Nat} {B : Ix → Int} (hs : s.length = N) (hB : ∀ i, i < N → B [i] = ((s.getD i 0).toNat : Int)) {i : Nat} (h : i < N) : atV N B i = ((s.getD i 0).toNat : Int) := by unfold atV; rw [if_neg (by omega), hB i h]
theorem at_none {N : Nat} {B : Ix → Int} {i : Nat} (h : N ≤ i) : atV N B i < 0 := by unfold atV; rw [if_pos h]; omega
def shR (a : Nat) : Res → Res | .ok x n => .ok x (n + a) | r => r
theorem subI_sh (o : Nat) : ∀ (k : Nat) (r b : List UInt8) (i a : Nat), r.length ≤ k → subI o r b (i + a) = shR a (subI o r b i) := by
  intro k
  induction k with
  | zero =>
    intro r b i a hk
    have : r = [] := List.length_eq_zero_iff.1 (by omega)
    subst this
    rfl
  | succ k ih =>
    intro r b i a hk
    match r, hk with
    | [], _ => rfl
    | c :: r, hk =>
      by_cases hc : c = 255
      · subst hc
        match r, hk with
        | [], _ => rw [sub_1, sub_1]; rfl
        | d :: r', hk =>
          by_cases hd : d = 255
          · subst hd; rw [sub_q, sub_q, show i + a + 2 = i + 2 + a by omega]; exact ih r' _ _ _ (by simp at hk; omega)
          · by_cases hd2 : d = 240
            · subst hd2; rw [sub_e, sub_e]; simp only [shR]; congr 1; omega
            · rw [sub_f _ _ _ _ hd hd2, sub_f _ _ _ _ hd hd2]; rfl
      · rw [sub_n _ _ _ _ hc, sub_n _ _ _ _ hc, show i + a + 1 = i + 1 + a by omega]
        exact ih r _ _ _ (by simpa using hk)
theorem sub_x (o : Nat) : ∀ (k : Nat) (r b : List UInt8) (i : Nat), r.length ≤ k → ∀ x n, subI o r b i = .ok x n → x.kind = 5 ∧ x.code = 0 := by
  intro k
  induction k with
  | zero =>
    intro r b i hk x n h
    have : r = [] := List.length_eq_zero_iff.1 (by omega)
    subst this
    cases h
  | succ k ih =>
    intro r b i hk x n h
    match r, hk, h with
    | [], _, h => cases h
    | c :: r, hk, h =>
      by_cases hc : c = 255
      · subst hc
        match r, hk, h with
        | [], _, h => rw [sub_1] at h; cases h
        | d :: r', hk, h =>
          by_cases hd : d = 255
          · subst hd; rw [sub_q] at h; exact ih r' _ _ (by simp at hk; omega) x n h
          · by_cases hd2 : d = 240
            · subst hd2; rw [sub_e] at h; simp only [Res.ok.injEq] at h; rw [← h.1]; exact ⟨rfl, rfl⟩
            · rw [sub_f _ _ _ _ hd hd2] at h; cases h
      · rw [sub_n _ _ _ _ hc] at h
        exact ih r _ _ (by simpa using hk) x n h
theorem item_x {raw : Bool} {r : List UInt8} {x : It} {n : Nat} (h : itemI raw (255 :: 250 :: r) = .ok x n) : x.kind = 5 ∧ x.code = 0 := by
  have e : itemI raw (255 :: 250 :: r) = cmdI (250 :: r) := by simp [itemI]
  rw [e] at h
  match r, h with
  | [], h =>
    have q : cmdI [250] = .short := by simp [cmdI]
    rw [q] at h; cases h
  | d :: r', h =>
    have q : cmdI (250 :: d :: r') = subI d.toNat r' [] 3 := by simp [cmdI]
    rw [q] at h; exact sub_x _ _ r' [] 3 (Nat.le_refl _) x n h
theorem rdL (t0 t1 : List UInt8) (N M : Nat) (raw : Bool) (B : Ix → Int) (s : List UInt8) (hN : N ≤ 100000) (hM : N ≤ M) (hB : bndB B N = true) (hbs : bytesOf B [] 0 N = s) : ∀ (k i : Nat) (T : List Itm), N - i < k → i ≤ N → T.length ≤ i →
    match (goI raw k i (s.drop i)).2 with
    | some mm => RunsTo Tryd.prog 39 (headOf Tryd.f39 0) (envAt Tryd.f39.ntmps ([(0, vP 63), (4, vN (i : Nat))])) (Sx.look (sentEnts 19 144 [(0, t0), (4, t1)] ++ rB 60 M B ++ (rdE 63 102 N (T).length raw ++ itE 102 103 T))) 80 (.tup [(false, .vi .i64 fun _ => (mm : Int)), (false, .vb fun _ => true)]) (Sx.look (rdE 63 141 N ((T ++ (goI raw k i (s.drop i)).1)).length raw ++ itE 141 142 (T ++ (goI raw k i (s.drop i)).1))) 700
    | none => RunsTo Tryd.prog 39 (headOf Tryd.f39 0) (envAt Tryd.f39.ntmps ([(0, vP 63), (4, vN (i : Nat))])) (Sx.look (sentEnts 19 144 [(0, t0), (4, t1)] ++ rB 60 M B ++ (rdE 63 102 N (T).length raw ++ itE 102 103 T))) 80 (.tup [(false, .vi .i64 fun _ => 0), (false, .vb fun _ => false)]) (Sx.look (rdE 63 141 N ((T ++ (goI raw k i (s.drop i)).1)).length raw ++ itE 141 142 (T ++ (goI raw k i (s.drop i)).1))) 700 := by
  have hs : s.length = N := by rw [← hbs]; exact bytesOf_len B [] 0 N
  have hv : ∀ i, i < N → B [i] = ((s.getD i 0).toNat : Int) := by rw [← hbs]; exact bytes_at hB
  intro k
  induction k with
  | zero => intro i T hk; omega
  | succ k ih =>
    intro i T hk hiN hTi
    simp only [goI]
    have hT : T.length ≤ 100000 := by omega
    by_cases he : i = N
    · rw [if_pos (show s.drop i = [] from List.drop_eq_nil_of_le (by omega))]
      simp only [List.append_nil]
      exact rEnd t0 t1 N M raw B T i he
    have hi : i < N := by omega
    have e0 := drop_at s (i := i) (by omega)
    rw [if_neg (by rw [e0]; simp)]
    have v0 := at_some hs hv hi
    have step : ∀ (x : It) (n : Nat), itemI raw (s.drop i) = .ok x n → (∀ v L', RunsTo Tryd.prog 39 (headOf Tryd.f39 0) (envAt Tryd.f39.ntmps ([(0, vP 63), (4, vN (i + n : Nat))])) (Sx.look (sentEnts 19 144 [(0, t0), (4, t1)] ++ rB 60 M B ++ (rdE 63 102 N ((T ++ [(x, i, i + n)])).length raw ++ itE 102 103 (T ++ [(x, i, i + n)])))) 80 (v) (L') 700 → RunsTo Tryd.prog 39 (headOf Tryd.f39 0) (envAt Tryd.f39.ntmps ([(0, vP 63), (4, vN (i : Nat))])) (Sx.look (sentEnts 19 144 [(0, t0), (4, t1)] ++ rB 60 M B ++ (rdE 63 102 N (T).length raw ++ itE 102 103 T))) 80 (v) (L') 700) →
        (match (match itemI raw (s.drop i) with
          | .ok x n => ((x, i, i + n) :: (goI raw k (i + n) ((s.drop i).drop n)).1, (goI raw k (i + n) ((s.drop i).drop n)).2)
          | .short => ([], some (s.drop i).length)
          | .form => ([], none)).2 with
        | some mm => RunsTo Tryd.prog 39 (headOf Tryd.f39 0) (envAt Tryd.f39.ntmps ([(0, vP 63), (4, vN (i : Nat))])) (Sx.look (sentEnts 19 144 [(0, t0), (4, t1)] ++ rB 60 M B ++ (rdE 63 102 N (T).length raw ++ itE 102 103 T))) 80 (.tup [(false, .vi .i64 fun _ => (mm : Int)), (false, .vb fun _ => true)]) (Sx.look (rdE 63 141 N ((T ++ (match itemI raw (s.drop i) with
          | .ok x n => ((x, i, i + n) :: (goI raw k (i + n) ((s.drop i).drop n)).1, (goI raw k (i + n) ((s.drop i).drop n)).2)
          | .short => ([], some (s.drop i).length)
          | .form => ([], none)).1)).length raw ++ itE 141 142 (T ++ (match itemI raw (s.drop i) with
          | .ok x n => ((x, i, i + n) :: (goI raw k (i + n) ((s.drop i).drop n)).1, (goI raw k (i + n) ((s.drop i).drop n)).2)
          | .short => ([], some (s.drop i).length)
          | .form => ([], none)).1))) 700
        | none => RunsTo Tryd.prog 39 (headOf Tryd.f39 0) (envAt Tryd.f39.ntmps ([(0, vP 63), (4, vN (i : Nat))])) (Sx.look (sentEnts 19 144 [(0, t0), (4, t1)] ++ rB 60 M B ++ (rdE 63 102 N (T).length raw ++ itE 102 103 T))) 80 (.tup [(false, .vi .i64 fun _ => 0), (false, .vb fun _ => false)]) (Sx.look (rdE 63 141 N ((T ++ (match itemI raw (s.drop i) with
          | .ok x n => ((x, i, i + n) :: (goI raw k (i + n) ((s.drop i).drop n)).1, (goI raw k (i + n) ((s.drop i).drop n)).2)
          | .short => ([], some (s.drop i).length)
          | .form => ([], none)).1)).length raw ++ itE 141 142 (T ++ (match itemI raw (s.drop i) with
          | .ok x n => ((x, i, i + n) :: (goI raw k (i + n) ((s.drop i).drop n)).1, (goI raw k (i + n) ((s.drop i).drop n)).2)
          | .short => ([], some (s.drop i).length)
          | .form => ([], none)).1))) 700) := by
      intro x n hx hstep
      obtain ⟨p1, p2, _⟩ := item_pre raw _ x n hx
      rw [List.length_drop] at p2
      have q := ih (i + n) (T ++ [(x, i, i + n)]) (by omega) (by omega) (by simp; omega)
      rw [hx]
      have hdd : (s.drop i).drop n = s.drop (i + n) := by rw [List.drop_drop]
      simp only
      rw [hdd]
      revert q
      rw [← List.append_cons]
      cases (goI raw k (i + n) (s.drop (i + n))).2 with
      | some mm => intro q; exact hstep _ _ q
      | none => intro q; exact hstep _ _ q
    have stop : itemI raw (s.drop i) = .short → RunsTo Tryd.prog 39 (headOf Tryd.f39 0) (envAt Tryd.f39.ntmps ([(0, vP 63), (4, vN (i : Nat))])) (Sx.look (sentEnts 19 144 [(0, t0), (4, t1)] ++ rB 60 M B ++ (rdE 63 102 N (T).length raw ++ itE 102 103 T))) 80 (.tup [(false, .vi .i64 fun _ => ((N - i : Nat) : Int)), (false, .vb fun _ => true)]) (Sx.look (rdE 63 141 N T.length raw ++ itE 141 142 T)) 700 →
        (match (match itemI raw (s.drop i) with
          | .ok x n => ((x, i, i + n) :: (goI raw k (i + n) ((s.drop i).drop n)).1, (goI raw k (i + n) ((s.drop i).drop n)).2)
          | .short => ([], some (s.drop i).length)
          | .form => ([], none)).2 with
        | some mm => RunsTo Tryd.prog 39 (headOf Tryd.f39 0) (envAt Tryd.f39.ntmps ([(0, vP 63), (4, vN (i : Nat))])) (Sx.look (sentEnts 19 144 [(0, t0), (4, t1)] ++ rB 60 M B ++ (rdE 63 102 N (T).length raw ++ itE 102 103 T))) 80 (.tup [(false, .vi .i64 fun _ => (mm : Int)), (false, .vb fun _ => true)]) (Sx.look (rdE 63 141 N ((T ++ (match itemI raw (s.drop i) with
          | .ok x n => ((x, i, i + n) :: (goI raw k (i + n) ((s.drop i).drop n)).1, (goI raw k (i + n) ((s.drop i).drop n)).2)
          | .short => ([], some (s.drop i).length)
          | .form => ([], none)).1)).length raw ++ itE 141 142 (T ++ (match itemI raw (s.drop i) with
          | .ok x n => ((x, i, i + n) :: (goI raw k (i + n) ((s.drop i).drop n)).1, (goI raw k (i + n) ((s.drop i).drop n)).2)
          | .short => ([], some (s.drop i).length)
          | .form => ([], none)).1))) 700
        | none => RunsTo Tryd.prog 39 (headOf Tryd.f39 0) (envAt Tryd.f39.ntmps ([(0, vP 63), (4, vN (i : Nat))])) (Sx.look (sentEnts 19 144 [(0, t0), (4, t1)] ++ rB 60 M B ++ (rdE 63 102 N (T).length raw ++ itE 102 103 T))) 80 (.tup [(false, .vi .i64 fun _ => 0), (false, .vb fun _ => false)]) (Sx.look (rdE 63 141 N ((T ++ (match itemI raw (s.drop i) with
          | .ok x n => ((x, i, i + n) :: (goI raw k (i + n) ((s.drop i).drop n)).1, (goI raw k (i + n) ((s.drop i).drop n)).2)
          | .short => ([], some (s.drop i).length)
          | .form => ([], none)).1)).length raw ++ itE 141 142 (T ++ (match itemI raw (s.drop i) with
          | .ok x n => ((x, i, i + n) :: (goI raw k (i + n) ((s.drop i).drop n)).1, (goI raw k (i + n) ((s.drop i).drop n)).2)
          | .short => ([], some (s.drop i).length)
          | .form => ([], none)).1))) 700) := by
      intro hx hstep
      rw [hx]
      simp only [List.append_nil, List.length_drop, hs]
      exact hstep
    have bad : itemI raw (s.drop i) = .form → RunsTo Tryd.prog 39 (headOf Tryd.f39 0) (envAt Tryd.f39.ntmps ([(0, vP 63), (4, vN (i : Nat))])) (Sx.look (sentEnts 19 144 [(0, t0), (4, t1)] ++ rB 60 M B ++ (rdE 63 102 N (T).length raw ++ itE 102 103 T))) 80 (.tup [(false, .vi .i64 fun _ => 0), (false, .vb fun _ => false)]) (Sx.look (rdE 63 141 N T.length raw ++ itE 141 142 T)) 700 →
        (match (match itemI raw (s.drop i) with
          | .ok x n => ((x, i, i + n) :: (goI raw k (i + n) ((s.drop i).drop n)).1, (goI raw k (i + n) ((s.drop i).drop n)).2)
          | .short => ([], some (s.drop i).length)
          | .form => ([], none)).2 with
        | some mm => RunsTo Tryd.prog 39 (headOf Tryd.f39 0) (envAt Tryd.f39.ntmps ([(0, vP 63), (4, vN (i : Nat))])) (Sx.look (sentEnts 19 144 [(0, t0), (4, t1)] ++ rB 60 M B ++ (rdE 63 102 N (T).length raw ++ itE 102 103 T))) 80 (.tup [(false, .vi .i64 fun _ => (mm : Int)), (false, .vb fun _ => true)]) (Sx.look (rdE 63 141 N ((T ++ (match itemI raw (s.drop i) with
          | .ok x n => ((x, i, i + n) :: (goI raw k (i + n) ((s.drop i).drop n)).1, (goI raw k (i + n) ((s.drop i).drop n)).2)
          | .short => ([], some (s.drop i).length)
          | .form => ([], none)).1)).length raw ++ itE 141 142 (T ++ (match itemI raw (s.drop i) with
          | .ok x n => ((x, i, i + n) :: (goI raw k (i + n) ((s.drop i).drop n)).1, (goI raw k (i + n) ((s.drop i).drop n)).2)
          | .short => ([], some (s.drop i).length)
          | .form => ([], none)).1))) 700
        | none => RunsTo Tryd.prog 39 (headOf Tryd.f39 0) (envAt Tryd.f39.ntmps ([(0, vP 63), (4, vN (i : Nat))])) (Sx.look (sentEnts 19 144 [(0, t0), (4, t1)] ++ rB 60 M B ++ (rdE 63 102 N (T).length raw ++ itE 102 103 T))) 80 (.tup [(false, .vi .i64 fun _ => 0), (false, .vb fun _ => false)]) (Sx.look (rdE 63 141 N ((T ++ (match itemI raw (s.drop i) with
          | .ok x n => ((x, i, i + n) :: (goI raw k (i + n) ((s.drop i).drop n)).1, (goI raw k (i + n) ((s.drop i).drop n)).2)
          | .short => ([], some (s.drop i).length)
          | .form => ([], none)).1)).length raw ++ itE 141 142 (T ++ (match itemI raw (s.drop i) with
          | .ok x n => ((x, i, i + n) :: (goI raw k (i + n) ((s.drop i).drop n)).1, (goI raw k (i + n) ((s.drop i).drop n)).2)
          | .short => ([], some (s.drop i).length)
          | .form => ([], none)).1))) 700) := by
      intro hx hstep
      rw [hx]
      simp only [List.append_nil]
      exact hstep
    generalize hc : s.getD i 0 = c at v0 e0
    rw [e0] at step stop bad ⊢
    by_cases h255 : c = 255
    · subst h255
      have v0 : atV N B i = 255 := v0
      have ec : ∀ r, itemI raw (255 :: r) = cmdI r := fun r => by simp [itemI]
      by_cases h1 : i + 1 = N
      · rw [show s.drop (i + 1) = [] from List.drop_eq_nil_of_le (by omega)] at step stop bad ⊢
        exact stop (by rw [ec]; rfl) (rE t0 t1 N M raw B T i hi hN hM hB hT v0 (at_none (by omega)))
      have e1 := drop_at s (i := i + 1) (by omega)
      have v1 := at_some hs hv (i := i + 1) (by omega)
      generalize hd : s.getD (i + 1) 0 = d at v1 e1
      have sbA : d = 250 → subA s i = shR i (itemI raw (255 :: d :: s.drop (i + 1 + 1))) := fun hd => by
        subst hd
        rw [ec]
        unfold subA
        by_cases h2 : s.length ≤ i + 2
        · rw [if_pos h2, show s.drop (i + 1 + 1) = [] from List.drop_eq_nil_of_le (by omega)]
          have q : cmdI [250] = .short := by simp [cmdI]
          rw [q]; rfl
        · rw [if_neg h2, drop_at s (i := i + 1 + 1) (by omega)]
          have qc : ∀ (d : UInt8) r', cmdI (250 :: d :: r') = subI d.toNat r' [] 3 := fun d r' => by simp [cmdI]
          rw [qc]
          have q := subI_sh (s.getD (i + 2) 0).toNat _ (s.drop (i + 3)) [] 3 i (Nat.le_refl _)
          rw [Nat.add_comm 3 i] at q
          exact q
      rw [e1] at step stop bad ⊢
      by_cases d255 : d = 255
      · subst d255
        exact step ⟨1, 255, 0, []⟩ 2 (by rw [ec]; simp [cmdI]) (fun v L' next => rI t0 t1 N M raw B T i hi hN hM hB hT v0 v1 v L' next)
      have dn : d.toNat ≠ 255 := fun e => d255 (u8eq e)
      have dl := d.toNat_lt
      by_cases dp : 241 ≤ d.toNat ∧ d.toNat ≤ 249
      · exact step ⟨3, d.toNat, 0, []⟩ 2 (by rw [ec]; simp [cmdI, d255, dp]) (fun v L' next => rP t0 t1 N M raw B T i d.toNat hi hN hM hB hT v0 v1 dp v L' next)
      by_cases dv : 251 ≤ d.toNat ∧ d.toNat ≤ 254
      · by_cases h2 : i + 2 = N
        · rw [show s.drop (i + 1 + 1) = [] from List.drop_eq_nil_of_le (by omega)] at step stop bad ⊢
          exact stop (by rw [ec]; simp [cmdI, d255, dp, dv]) (rVs t0 t1 N M raw B T i d.toNat hi hN hM hB hT v0 v1 dv (at_none (by omega)))
        · have e2 := drop_at s (i := i + 1 + 1) (by omega)
          have v2 := at_some hs hv (i := i + 2) (by omega)
          rw [e2] at step stop bad ⊢
          exact step ⟨4, d.toNat, (s.getD (i + 2) 0).toNat, []⟩ 3 (by rw [ec]; simp [cmdI, d255, dp, dv]) (fun v L' next => rV t0 t1 N M raw B T i d.toNat (s.getD (i + 2) 0).toNat hi hN hM hB hT v0 v1 dv v2 v L' next)
      by_cases ds : d = 250
      · have hsb := sbA ds
        subst ds
        have v1 : atV N B (i + 1) = 250 := v1
        cases hq : itemI raw (255 :: 250 :: s.drop (i + 1 + 1)) with
        | ok x n =>
          rw [hq] at hsb
          have hsb : subA s i = .ok x (n + i) := hsb
          obtain ⟨k1, k2⟩ := item_x hq
          have hx : (⟨5, 0, x.opt, x.body⟩ : It) = x := by cases x; simp_all
          rw [← hq]
          refine step x n hq (fun v L' next => ?_)
          refine rSo t0 t1 N M raw B T i hi hN hM hB hT v0 v1 (by rw [hbs, hsb]; rfl) v L' ?_
          rw [hbs, hsb]
          simp only [resN, resX, itm, hx]
          rw [Nat.add_comm n i]
          exact next
        | short => rw [← hq]; exact stop hq (rSs t0 t1 N M raw B T i hi hN hM hB hT v0 v1 (by rw [hbs, hsb, hq]; rfl))
        | form => rw [← hq]; exact bad hq (rSf t0 t1 N M raw B T i hi hN hM hB hT v0 v1 (by rw [hbs, hsb, hq]; rfl))
      · have hi2 : itemI raw (255 :: d :: s.drop (i + 1 + 1)) = .form := by
          rw [ec]; simp only [cmdI, if_neg d255, if_neg dp, if_neg dv, if_neg ds]
        have dn2 : d.toNat ≠ 250 := fun e => ds (u8eq e)
        exact bad hi2 (rF t0 t1 N M raw B T i d.toNat hi hN hM hB hT v0 v1 (by omega))
    · have cn : c.toNat ≠ 255 := fun e => h255 (u8eq e)
      by_cases h13 : c = 13
      · subst h13
        have v0 : atV N B i = 13 := v0
        cases raw with
        | true => exact step ⟨1, 13, 0, []⟩ 1 (by rw [itemI.eq_def]; simp) (fun v L' next => rA2 t0 t1 N M true B T i hi hN hM hB hT v0 rfl v L' next)
        | false =>
          by_cases h1 : i + 1 = N
          · rw [show s.drop (i + 1) = [] from List.drop_eq_nil_of_le (by omega)] at step stop bad ⊢
            exact stop (by simp [itemI]) (rS13 t0 t1 N M false B T i hi hN hM hB hT v0 rfl (at_none (by omega)))
          have e1 := drop_at s (i := i + 1) (by omega)
          have v1 := at_some hs hv (i := i + 1) (by omega)
          rw [e1] at step stop bad ⊢
          generalize s.getD (i + 1) 0 = d at v1 step stop bad ⊢
          by_cases d0 : d = 0
          · subst d0
            exact step ⟨2, 0, 0, []⟩ 2 (by simp [itemI]) (fun v L' next => rP0 t0 t1 N M false B T i hi hN hM hB hT v0 rfl v1 v L' next)
          by_cases d1 : d = 10
          · subst d1
            exact step ⟨2, 10, 0, []⟩ 2 (by simp [itemI]) (fun v L' next => rP1 t0 t1 N M false B T i hi hN hM hB hT v0 rfl v1 v L' next)
          have n0 : d.toNat ≠ 0 := fun e => d0 (u8eq e)
          have n1 : d.toNat ≠ 10 := fun e => d1 (u8eq e)
          exact step ⟨1, 13, 0, []⟩ 1 (by simp [itemI, d0, d1]) (fun v L' next => rL t0 t1 N M false B T i hi hN hM hB hT v0 rfl (by omega) (by omega) (by omega) v L' next)
      · have cn2 : c.toNat ≠ 13 := fun e => h13 (u8eq e)
        exact step ⟨1, c.toNat, 0, []⟩ 1 (by rw [itemI.eq_def]; simp [h255, h13]) (fun v L' next => rA1 t0 t1 N M raw B T i c.toNat hi hN hM hB hT v0 cn cn2 v L' next)
def ptT (raw : Bool) (N : Nat) (B : Ix → Int) : List Itm := (allI raw (bytesOf B [] 0 N)).1
def ptM (raw : Bool) (N : Nat) (B : Ix → Int) : Option Nat := (allI raw (bytesOf B [] 0 N)).2
def restN (raw : Bool) (N : Nat) (B : Ix → Int) : Nat := (ptM raw N B).getD 0
theorem rdOk (t0 t1 : List UInt8) (N M : Nat) (raw : Bool) (B : Ix → Int) (hN : N ≤ 100000) (hM : N ≤ M) (hB : bndB B N = true) (hr : (ptM raw N B).isSome = true) : RunsTo Tryd.prog 39 [.code (bodyOf Tryd.f39)] (envOf [vP 63] Tryd.f39.ntmps) (Sx.look (sentEnts 19 144 [(0, t0), (4, t1)] ++ rB 60 M B ++ (rd0 63 N raw))) 80 (.tup [(false, .vi .i64 fun _ => ((restN raw N B : Nat) : Int)), (false, .vb fun _ => true)]) (Sx.look (rdE 63 141 N ((ptT raw N B)).length raw ++ itE 141 142 (ptT raw N B))) 700 := by
  have q := rdL t0 t1 N M raw B (bytesOf B [] 0 N) hN hM hB rfl (N + 1) 0 [] (by omega) (by omega) (by simp)
  rw [List.drop_zero, List.nil_append] at q
  have he : goI raw (N + 1) 0 (bytesOf B [] 0 N) = (allI raw (bytesOf B [] 0 N)) := by unfold allI; rw [bytesOf_len]
  rw [he] at q
  have hr : ((allI raw (bytesOf B [] 0 N))).2.isSome = true := hr
  show RunsTo Tryd.prog 39 [.code (bodyOf Tryd.f39)] (envOf [vP 63] Tryd.f39.ntmps) (Sx.look (sentEnts 19 144 [(0, t0), (4, t1)] ++ rB 60 M B ++ (rd0 63 N raw))) 80 (.tup [(false, .vi .i64 fun _ => ((restN raw N B : Nat) : Int)), (false, .vb fun _ => true)]) (Sx.look (rdE 63 141 N ((ptT raw N B)).length raw ++ itE 141 142 (ptT raw N B))) 700
  unfold ptT
  try unfold restN
  try unfold ptM
  revert hr
  revert q
  cases hz : (allI raw (bytesOf B [] 0 N)).2 with
  | some mm => intro q hr; first | (cases hr; done) | exact rdStart t0 t1 N M raw B _ _ q
  | none => intro q hr; first | (cases hr; done) | exact rdStart t0 t1 N M raw B _ _ q
theorem rdFo (t0 t1 : List UInt8) (N M : Nat) (raw : Bool) (B : Ix → Int) (hN : N ≤ 100000) (hM : N ≤ M) (hB : bndB B N = true) (hr : (ptM raw N B).isNone = true) : RunsTo Tryd.prog 39 [.code (bodyOf Tryd.f39)] (envOf [vP 63] Tryd.f39.ntmps) (Sx.look (sentEnts 19 144 [(0, t0), (4, t1)] ++ rB 60 M B ++ (rd0 63 N raw))) 80 (.tup [(false, .vi .i64 fun _ => 0), (false, .vb fun _ => false)]) (Sx.look (rdE 63 141 N ((ptT raw N B)).length raw ++ itE 141 142 (ptT raw N B))) 700 := by
  have q := rdL t0 t1 N M raw B (bytesOf B [] 0 N) hN hM hB rfl (N + 1) 0 [] (by omega) (by omega) (by simp)
  rw [List.drop_zero, List.nil_append] at q
  have he : goI raw (N + 1) 0 (bytesOf B [] 0 N) = (allI raw (bytesOf B [] 0 N)) := by unfold allI; rw [bytesOf_len]
  rw [he] at q
  have hr : ((allI raw (bytesOf B [] 0 N))).2.isNone = true := hr
  show RunsTo Tryd.prog 39 [.code (bodyOf Tryd.f39)] (envOf [vP 63] Tryd.f39.ntmps) (Sx.look (sentEnts 19 144 [(0, t0), (4, t1)] ++ rB 60 M B ++ (rd0 63 N raw))) 80 (.tup [(false, .vi .i64 fun _ => 0), (false, .vb fun _ => false)]) (Sx.look (rdE 63 141 N ((ptT raw N B)).length raw ++ itE 141 142 (ptT raw N B))) 700
  unfold ptT
  try unfold restN
  try unfold ptM
  revert hr
  revert q
  cases hz : (allI raw (bytesOf B [] 0 N)).2 with
  | some mm => intro q hr; first | (cases hr; done) | exact rdStart t0 t1 N M raw B _ _ q
  | none => intro q hr; first | (cases hr; done) | exact rdStart t0 t1 N M raw B _ _ q
def rdOkP : PC := { args := [.v (.vp 63)], heap := [⟨63, true, 3, .tc (.vl 60 1 0) (.tc (.vb 2) (.tc .vl0 .t0))⟩, ⟨60, false, 1, .ta 4 (.vi .u8 5)⟩], gs := [0, 4], G := 19, tp := 144, n := 80, n' := 700, cond := fun e => decide (eN e 0 ≤ 100000) && (decide (eN e 0 ≤ eN e 4) && (bndB (eI e 5) (eN e 0) && (ptM (eB e 2 []) (eN e 0) (eI e 5)).isSome)), v := fun e => .tup [(false, .vi .i64 fun _ => ((restN (eB e 2 []) (eN e 0) (eI e 5) : Nat) : Int)), (false, .vb fun _ => true)], post := fun e => rdE 63 141 (eN e 0) ((ptT (eB e 2 []) (eN e 0) (eI e 5))).length (eB e 2 []) ++ itE 141 142 (ptT (eB e 2 []) (eN e 0) (eI e 5)) }
theorem rdOkP_pc : PC.Runs Tryd.prog 39 Tryd.f39 (bodyOf Tryd.f39) rdOkP := ⟨Tryd.func39, by kernel_rfl, (fun g hg => by first | (cases hg; done) | (revert g; show ∀ g ∈ ([0, 4] : List Nat), g < 19; decide)), fun e H hc => by
  have hc : (decide (eN e 0 ≤ 100000) && (decide (eN e 0 ≤ eN e 4) && (bndB (eI e 5) (eN e 0) && (ptM (eB e 2 []) (eN e 0) (eI e 5)).isSome))) = true := hc
  try simp only [Bool.and_eq_true, decide_eq_true_eq, Nat.beq_eq] at hc
  exact by obtain ⟨h1, h2, h3, h4⟩ := hc; have q := rdOk (textAt H (19 + 0)) (textAt H (19 + 4)) (eN e 0) (eN e 4) (eB e 2 []) (eI e 5) h1 h2 h3 h4; exact swap2 (s := sentEnts 19 144 [(0, textAt H (19 + 0)), (4, textAt H (19 + 4))]) (x := ⟨60, false, none, 1, .ta (eN e 4) (.vi .u8 (eI e 5))⟩) (show (60 : Nat) ≠ 63 by decide) q⟩
def rdFoP : PC := { args := [.v (.vp 63)], heap := [⟨63, true, 3, .tc (.vl 60 1 0) (.tc (.vb 2) (.tc .vl0 .t0))⟩, ⟨60, false, 1, .ta 4 (.vi .u8 5)⟩], gs := [0, 4], G := 19, tp := 144, n := 80, n' := 700, cond := fun e => decide (eN e 0 ≤ 100000) && (decide (eN e 0 ≤ eN e 4) && (bndB (eI e 5) (eN e 0) && (ptM (eB e 2 []) (eN e 0) (eI e 5)).isNone)), v := fun e => .tup [(false, .vi .i64 fun _ => 0), (false, .vb fun _ => false)], post := fun e => rdE 63 141 (eN e 0) ((ptT (eB e 2 []) (eN e 0) (eI e 5))).length (eB e 2 []) ++ itE 141 142 (ptT (eB e 2 []) (eN e 0) (eI e 5)) }
theorem rdFoP_pc : PC.Runs Tryd.prog 39 Tryd.f39 (bodyOf Tryd.f39) rdFoP := ⟨Tryd.func39, by kernel_rfl, (fun g hg => by first | (cases hg; done) | (revert g; show ∀ g ∈ ([0, 4] : List Nat), g < 19; decide)), fun e H hc => by
  have hc : (decide (eN e 0 ≤ 100000) && (decide (eN e 0 ≤ eN e 4) && (bndB (eI e 5) (eN e 0) && (ptM (eB e 2 []) (eN e 0) (eI e 5)).isNone))) = true := hc
  try simp only [Bool.and_eq_true, decide_eq_true_eq, Nat.beq_eq] at hc
  exact by obtain ⟨h1, h2, h3, h4⟩ := hc; have q := rdFo (textAt H (19 + 0)) (textAt H (19 + 4)) (eN e 0) (eN e 4) (eB e 2 []) (eI e 5) h1 h2 h3 h4; exact swap2 (s := sentEnts 19 144 [(0, textAt H (19 + 0)), (4, textAt H (19 + 4))]) (x := ⟨60, false, none, 1, .ta (eN e 4) (.vi .u8 (eI e 5))⟩) (show (60 : Nat) ≠ 63 by decide) q⟩
end Go.Proofs.YtcphocfnhekdaaaDoor

