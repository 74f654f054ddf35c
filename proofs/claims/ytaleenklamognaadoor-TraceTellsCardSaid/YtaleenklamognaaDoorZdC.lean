/- Trace: entries of rows; what was said. -/
import Derived.Test.YtaleenklamognaaDoorZcC
import Derived.Test.YtaleenklamognaaDoorSyRz
import Derived.Test.YtaleenklamognaaDoorZbC
set_option linter.unusedSimpArgs false
set_option linter.unusedVariables false
set_option maxRecDepth 100000
namespace Go.Proofs.YtaleenklamognaaDoor
open Go.Sx

open WordR
def sdT (X : Ix → List UInt8) (I : List Nat) : Nat → List UInt8
  | 0 => []
  | k + 1 => sdT X I k ++ X [I.getD k 0]
def lowX (X : Ix → List UInt8) (n : Nat) : Bool := (List.range n).all fun i => decide ((X [i]).length ≤ 500)
def bdF (l : Nat) : List Ent := [⟨l, true, none, 241000002, .tc .vp0 (.tc .vl0 .t0)⟩]
def bdU (l : Nat) : List Ent := [⟨l, true, none, 241000002, .tc (.vp l (fun _ => 0) []) (.tc .vl0 .t0)⟩]
theorem lowX_at {X : Ix → List UInt8} {n i : Nat} (h : lowX X n = true) (hi : i < n) : (X [i]).length ≤ 500 := of_decide_eq_true (List.all_eq_true.1 h i (List.mem_range.2 hi))
theorem sdT_len {X : Ix → List UInt8} {n : Nat} (h : lowX X n = true) (I : List Nat) (hI : ∀ i ∈ I, i < n) : ∀ k, k ≤ I.length → (sdT X I k).length ≤ 500 * k
  | 0, _ => by simp [sdT]
  | k + 1, hk => by
    have := sdT_len h I hI k (by omega)
    have hm : I.getD k 0 ∈ I := by
      rw [List.getD_eq_getElem?_getD, List.getElem?_eq_getElem (by omega)]; exact List.getElem_mem _
    have := lowX_at h (hI _ hm)
    rw [sdT, List.length_append]; omega
theorem onI_lt {nk : Nat} {F : Ix → Int} {K : Ix → Int} {n : Nat} : ∀ i ∈ onI nk F K n, i < n := fun i hi => List.mem_range.1 (List.mem_filter.1 hi).1
def sumsEN : List (FuncId × Summ) := [(107, erP.summ 46), (71, fwP.summ 46)]
theorem baseEN : Base0 Tryd.prog sumsEN := ((baseO.cons Tryd.func71 (by kernel_rfl) (PC.summ_ok fwP_pc gtopG)).cons Tryd.func107 (by kernel_rfl) (PC.summ_ok erP_pc gtopG))
theorem en0_p0 (H : List Ent) (r : RF) (n M cn : Nat) (ls : Nat → Nat) (T : Ix → List UInt8) :
    isEnd (evTill Tryd.prog sumsEN 400 (99) 900 27 [.code (bodyOf Tryd.f27)] (envOf [vL 61 13 n] Tryd.f27.ntmps) (((sentEnts 23 213 (textsIn 23 H errG)) ++ (rfE false 61 71 r M ++ famE 71 cn ls T)) ++ ([])) ⟨[.s true], 80⟩) (endP ([((141 : Nat), Rn.nil (13 : Nat))]) (.tup [(false, .vl 141 (fun _ => 0) 13 [] (fun _ => 0)), (false, .vb fun _ => false)]) (enE true 141 71 r.err (0)) 520) =
    (OkL [(decide ((↑n : Int) > (20 : Int)), true)] ∧ ((0 : Nat) = (0 : Nat) ∧ false = false ∧ True) ∧ (0 : Nat) = (0 : Nat)) := by kernel_rfl

set_option maxHeartbeats 4000000 in
theorem en0 (H : List Ent) (r : RF) (n M cn : Nat) (ls : Nat → Nat) (T : Ix → List UInt8) (h : 20 < n)  :
    RunsTo Tryd.prog 27 [.code (bodyOf Tryd.f27)] (envOf [vL 61 13 n] Tryd.f27.ntmps) (Sx.look (((sentEnts 23 213 (textsIn 23 H errG)) ++ (rfE false 61 71 r M ++ famE 71 cn ls T)) ++ ([]))) 80 (.tup [(false, .vl 141 (fun _ => 0) 13 [] (fun _ => 0)), (false, .vb fun _ => false)]) (Sx.look (enE true 141 71 r.err (0))) 520 := by
  refine runs_last baseEN (Sx.Ends.of (en0_p0 H r n M cn ls T) ⟨?oo, ?rr⟩) (by kernel_rfl) rfl (gtL (by decide)) (by decide)
  case oo =>
    refine (okc ?_ okn)
    all_goals ((try simp (disch := omega) only [SS]); first | done | omega | assumption | (simp (disch := omega) only [SS] at *; first | done | omega | assumption) | (simp_all; done))
  case rr =>
    try simp (disch := omega) only [SS]
    repeat' apply And.intro
    all_goals first | exact True.intro | with_reducible rfl | omega | (intros; first | exact True.intro | with_reducible rfl | omega | (simp_all; done)) | (simp_all; done) | rfl

theorem en1_p0 (H : List Ent) (r : RF) (n M cn : Nat) (ls : Nat → Nat) (T : Ix → List UInt8) :
    isMore (evTill Tryd.prog sumsEN 400 (behind Tryd.f27 0) 900 27 [.code (bodyOf Tryd.f27)] (envOf [vL 61 13 n] Tryd.f27.ntmps) (((sentEnts 23 213 (textsIn 23 H errG)) ++ (rfE false 61 71 r M ++ famE 71 cn ls T)) ++ ([])) ⟨[.s false], 80⟩) (moreP (headOf Tryd.f27 0) ([((101 : Nat), Rn.to (80 : Nat))]) Tryd.f27.ntmps ([(4, vL 101 13 (0)), (11, vL 61 13 n), (12, vN n), (13, vN (0 : Nat))]) ([⟨101, true, none, 13, .ta 0 (.tc (.vi .i64 fun _ => 0) (.tc (.vi .i64 fun _ => 0) (.tc (.vi .i64 fun _ => 0) (.tc (.vs fun _ => []) (.tc .vl0 (.tc (.tc (.vi .i64 fun _ => 0) (.tc (.vi .i64 fun _ => 0) (.tc (.vi .i64 fun _ => 0) (.tc (.vi .i64 fun _ => 0) (.tc (.vb fun _ => false) .t0))))) (.tc (.vi .i64 fun _ => 0) (.tc (.vi .i64 fun _ => 0) (.tc .ve0 .t0)))))))))⟩]) 520) =
    (OkL [(decide ((↑n : Int) > (20 : Int)), false)] ∧ headOf Tryd.f27 (0 : Nat) = headOf Tryd.f27 (0 : Nat) ∧ (((0 : Nat) = (0 : Nat) ∧ (0 : Nat) = (0 : Nat)) ∧ ((0 : Nat) = (0 : Nat) ∧ n = n) ∧ (↑n : Int) = (↑n : Int) ∧ (↑(0 : Nat) : Int) = (0 : Int)) ∧ (0 : Nat) = (0 : Nat) ∧ (∀ (i : Nat), i < (0 : Nat) → (0 : Int) = (0 : Int)) ∧ (∀ (i : Nat), i < (0 : Nat) → (0 : Int) = (0 : Int)) ∧ (∀ (i : Nat), i < (0 : Nat) → (0 : Int) = (0 : Int)) ∧ (∀ (i : Nat), i < (0 : Nat) → ([] : List UInt8) = []) ∧ True ∧ ((∀ (i : Nat), i < (0 : Nat) → (0 : Int) = (0 : Int)) ∧ (∀ (i : Nat), i < (0 : Nat) → (0 : Int) = (0 : Int)) ∧ (∀ (i : Nat), i < (0 : Nat) → (0 : Int) = (0 : Int)) ∧ (∀ (i : Nat), i < (0 : Nat) → (0 : Int) = (0 : Int)) ∧ ∀ (i : Nat), i < (0 : Nat) → false = false) ∧ (∀ (i : Nat), i < (0 : Nat) → (0 : Int) = (0 : Int)) ∧ (∀ (i : Nat), i < (0 : Nat) → (0 : Int) = (0 : Int)) ∧ True) := by kernel_rfl

set_option maxHeartbeats 4000000 in
theorem en1 (H : List Ent) (r : RF) (n M cn : Nat) (ls : Nat → Nat) (T : Ix → List UInt8) (h : n ≤ 20)  (v : SV) (L' : HF) (next : RunsTo Tryd.prog 27 (headOf Tryd.f27 0) (envAt Tryd.f27.ntmps ([(4, vL 101 13 (0)), (11, vL 61 13 n), (12, vN n), (13, vN (0 : Nat))])) (Sx.look (((sentEnts 23 213 (textsIn 23 H errG)) ++ (rfE false 61 71 r M ++ famE 71 cn ls T)) ++ ([⟨101, true, none, 13, .ta 0 (.tc (.vi .i64 fun _ => 0) (.tc (.vi .i64 fun _ => 0) (.tc (.vi .i64 fun _ => 0) (.tc (.vs fun _ => []) (.tc .vl0 (.tc (.tc (.vi .i64 fun _ => 0) (.tc (.vi .i64 fun _ => 0) (.tc (.vi .i64 fun _ => 0) (.tc (.vi .i64 fun _ => 0) (.tc (.vb fun _ => false) .t0))))) (.tc (.vi .i64 fun _ => 0) (.tc (.vi .i64 fun _ => 0) (.tc .ve0 .t0)))))))))⟩]))) 80 (v) (L') 520) :
    RunsTo Tryd.prog 27 [.code (bodyOf Tryd.f27)] (envOf [vL 61 13 n] Tryd.f27.ntmps) (Sx.look (((sentEnts 23 213 (textsIn 23 H errG)) ++ (rfE false 61 71 r M ++ famE 71 cn ls T)) ++ ([]))) 80 (v) (L') 520 := by
  refine runs_more baseEN (More.of (en1_p0 H r n M cn ls T) ⟨?oo, rfl, ?rr⟩) (by kernel_rfl) (by kernel_rfl) rfl (gtL (by decide)) (by decide) next
  case oo =>
    clear next
    refine (okc ?_ okn)
    all_goals ((try simp (disch := omega) only [SS]); first | done | omega | assumption | (simp (disch := omega) only [SS] at *; first | done | omega | assumption) | (simp_all; done))
  case rr =>
    clear next
    try simp (disch := omega) only [SS]
    repeat' apply And.intro
    all_goals first | exact True.intro | with_reducible rfl | omega | (intros; first | exact True.intro | with_reducible rfl | omega | (simp_all; done)) | (simp_all; done) | rfl

theorem en2_p0 (H : List Ent) (r : RF) (n M cn : Nat) (ls : Nat → Nat) (T : Ix → List UInt8) (i : Nat) :
    isMore (evTill Tryd.prog sumsEN 400 (behind Tryd.f27 0) 900 27 (headOf Tryd.f27 0) (envAt Tryd.f27.ntmps ([(4, vL 101 13 (i)), (11, vL 61 13 n), (12, vN n), (13, vN (i : Nat))])) (((sentEnts 23 213 (textsIn 23 H errG)) ++ (rfE false 61 71 r M ++ famE 71 cn ls T)) ++ (enE true 101 71 r.err (i))) ⟨[.s true, .s true, .s true, .s true, .s false, .s true, .s true, .s false, .t, .t, .s true, .s true], 110⟩) (moreP (headOf Tryd.f27 0) ([((101 : Nat), Rn.to (214 : Nat))]) Tryd.f27.ntmps ([(4, vL 101 13 (i + 1)), (11, vL 61 13 n), (12, vN n), (13, vN (i + 1 : Nat))]) (enE true 101 71 r.err (i + 1)) 520) =
    (OkL [(decide ((↑i : Int) < (↑n : Int)), true), (decide ((0 : Int) ≤ (↑i : Int) ∧ (↑i : Int) < (↑n : Int)), true), (((0 : Nat) + (↑i : Int).toNat).blt M, true), (((0 : Nat) + (↑i : Int).toNat).blt M, true), (decide ((↑(r.4 [(0 : Nat) + (↑i : Int).toNat]).length : Int) > (500 : Int)), false), ((r.5 [(0 : Nat) + (↑i : Int).toNat] + (1 : Nat) + (cn - (r.5 [(0 : Nat) + (↑i : Int).toNat] + (1 : Nat)))).beq cn, true), (decide (r.6 [(0 : Nat) + (↑i : Int).toNat] ≤ ls (r.5 [(0 : Nat) + (↑i : Int).toNat])) && decide ((12 : Int) ≤ (100000 : Int)), true), (!fewB (r.6 [(0 : Nat) + (↑i : Int).toNat]) (fun js => T (r.5 [(0 : Nat) + (↑i : Int).toNat] :: js)) (12 : Int) (200 : Int), false), (((0 : Nat) + i).ble i, true), (decide (((2 : Nat) * (i + (1 : Nat)) + (192 : Nat)) * (136 : Nat) ≤ (281474976710656 : Nat)), true)] ∧ headOf Tryd.f27 (0 : Nat) = headOf Tryd.f27 (0 : Nat) ∧ (((0 : Nat) = (0 : Nat) ∧ i + (1 : Nat) = i + (1 : Nat)) ∧ ((0 : Nat) = (0 : Nat) ∧ n = n) ∧ (↑n : Int) = (↑n : Int) ∧ (↑(i + (1 : Nat)) : Int) = IntKind.i64.wrap ((↑i : Int) + (1 : Int))) ∧ i + (1 : Nat) = i + (1 : Nat) ∧ (∀ (i_1 : Nat), i_1 < i + (1 : Nat) → r.1 [i_1] = appF i (0 : Nat) r.1 (fun js => r.1 (((0 : Nat) + (↑i : Int).toNat) :: List.tail (subIx (0 : Nat) js))) [i_1]) ∧ (∀ (i_1 : Nat), i_1 < i + (1 : Nat) → r.2 [i_1] = appF i (0 : Nat) r.2 (fun js => r.2 (((0 : Nat) + (↑i : Int).toNat) :: List.tail (subIx (0 : Nat) js))) [i_1]) ∧ (∀ (i_1 : Nat), i_1 < i + (1 : Nat) → r.3 [i_1] = appF i (0 : Nat) r.3 (fun js => r.3 (((0 : Nat) + (↑i : Int).toNat) :: List.tail (subIx (0 : Nat) js))) [i_1]) ∧ (∀ (i_1 : Nat), i_1 < i + (1 : Nat) → r.4 [i_1] = appF i (0 : Nat) r.4 (fun js => r.4 (((0 : Nat) + (↑i : Int).toNat) :: List.tail (subIx (0 : Nat) js))) [i_1]) ∧ ((∀ (i_1 : Nat), i_1 < i + (1 : Nat) → r.5 [i_1] = appF i (0 : Nat) r.5 (fun js => r.5 (((0 : Nat) + (↑i : Int).toNat) :: List.tail (subIx (0 : Nat) js))) [i_1]) ∧ ∀ (i_1 : Nat), i_1 < i + (1 : Nat) → r.6 [i_1] = appF i (0 : Nat) r.6 (fun js => r.6 (((0 : Nat) + (↑i : Int).toNat) :: List.tail (subIx (0 : Nat) js))) [i_1]) ∧ ((∀ (i_1 : Nat), i_1 < i + (1 : Nat) → r.7 [i_1] = appF i (0 : Nat) r.7 (fun js => r.7 (((0 : Nat) + (↑i : Int).toNat) :: List.tail (subIx (0 : Nat) js))) [i_1]) ∧ (∀ (i_1 : Nat), i_1 < i + (1 : Nat) → r.8 [i_1] = appF i (0 : Nat) r.8 (fun js => r.8 (((0 : Nat) + (↑i : Int).toNat) :: List.tail (subIx (0 : Nat) js))) [i_1]) ∧ (∀ (i_1 : Nat), i_1 < i + (1 : Nat) → r.9 [i_1] = appF i (0 : Nat) r.9 (fun js => r.9 (((0 : Nat) + (↑i : Int).toNat) :: List.tail (subIx (0 : Nat) js))) [i_1]) ∧ (∀ (i_1 : Nat), i_1 < i + (1 : Nat) → r.10 [i_1] = appF i (0 : Nat) r.10 (fun js => r.10 (((0 : Nat) + (↑i : Int).toNat) :: List.tail (subIx (0 : Nat) js))) [i_1]) ∧ ∀ (i_1 : Nat), i_1 < i + (1 : Nat) → r.11 [i_1] = appF i (0 : Nat) r.11 (fun js => r.11 (((0 : Nat) + (↑i : Int).toNat) :: List.tail (subIx (0 : Nat) js))) [i_1]) ∧ (∀ (i_1 : Nat), i_1 < i + (1 : Nat) → r.12 [i_1] = appF i (0 : Nat) r.12 (fun js => r.12 (((0 : Nat) + (↑i : Int).toNat) :: List.tail (subIx (0 : Nat) js))) [i_1]) ∧ (∀ (i_1 : Nat), i_1 < i + (1 : Nat) → r.13 [i_1] = appF i (0 : Nat) r.13 (fun js => r.13 (((0 : Nat) + (↑i : Int).toNat) :: List.tail (subIx (0 : Nat) js))) [i_1]) ∧ ∀ (i_1 : Nat), i_1 < i + (1 : Nat) → errI (r.15 [i_1]) = appF i (0 : Nat) (fun is => errI (r.15 is)) (fun js => errI (r.15 [(0 : Nat) + (↑i : Int).toNat])) [i_1]) := by kernel_rfl

set_option maxHeartbeats 4000000 in
theorem en2 (H : List Ent) (r : RF) (n M cn : Nat) (ls : Nat → Nat) (T : Ix → List UInt8) (i : Nat) (hi : i < n) (hn : n ≤ 20) (hM : n ≤ M) (ok : okMs r.M r.L n cn ls = true) (h0 : (r.X [i]).length ≤ 500) (h : fewB (r.L [i]) (fun js => T (r.M [i] :: js)) 12 200 = true)  (v : SV) (L' : HF) (next : RunsTo Tryd.prog 27 (headOf Tryd.f27 0) (envAt Tryd.f27.ntmps ([(4, vL 101 13 (i + 1)), (11, vL 61 13 n), (12, vN n), (13, vN (i + 1 : Nat))])) (Sx.look (((sentEnts 23 213 (textsIn 23 H errG)) ++ (rfE false 61 71 r M ++ famE 71 cn ls T)) ++ (enE true 101 71 r.err (i + 1)))) 80 (v) (L') 520) :
    RunsTo Tryd.prog 27 (headOf Tryd.f27 0) (envAt Tryd.f27.ntmps ([(4, vL 101 13 (i)), (11, vL 61 13 n), (12, vN n), (13, vN (i : Nat))])) (Sx.look (((sentEnts 23 213 (textsIn 23 H errG)) ++ (rfE false 61 71 r M ++ famE 71 cn ls T)) ++ (enE true 101 71 r.err (i)))) 80 (v) (L') 520 := by
  have hw : IntKind.i64.wrap ((i : Int) + 1) = ((i + 1 : Nat) : Int) := by rw [wr64 (by omega)]; rfl
  obtain ⟨a1, a2⟩ := okMs_at ok hi
  refine runs_more baseEN (More.of (en2_p0 H r n M cn ls T i) ⟨?oo, rfl, ?rr⟩) (by kernel_rfl) (by kernel_rfl) rfl (gtL (by decide)) (by decide) next
  case oo =>
    clear next
    refine (okc ?_ (okc ?_ (okc ?_ (okc ?_ (okc ?_ (okc ?_ (okc ?_ (okc ?_ (okc ?_ (okc ?_ okn))))))))))
    all_goals first | omega | exact h | exact a2 | (simp (disch := omega) only [SS, hw]; first | done | omega | exact h | exact a2 | assumption) | (simp_all; done) | (simp_all; omega)
  case rr =>
    clear next
    try simp (disch := omega) only [SS, hw, Go.Sx.sum, Nat.zero_add, List.length_append, List.length_cons, List.length_nil]
    repeat' apply And.intro
    all_goals first | exact True.intro | with_reducible rfl | omega | (intro k hk; exact (ap_row _ _ _ (fun _ => rfl) hk).symm) | (intro k hk; exact (ap_row _ (fun is => errI (r.B is)) _ (fun _ => rfl) hk).symm) | (intro k hk; obtain rfl : k = 0 := (by omega); rfl) | (simp_all; done)

theorem en3_p0 (H : List Ent) (r : RF) (n M cn : Nat) (ls : Nat → Nat) (T : Ix → List UInt8) (i : Nat) :
    isEnd (evTill Tryd.prog sumsEN 400 (99) 900 27 (headOf Tryd.f27 0) (envAt Tryd.f27.ntmps ([(4, vL 101 13 (i)), (11, vL 61 13 n), (12, vN n), (13, vN (i : Nat))])) (((sentEnts 23 213 (textsIn 23 H errG)) ++ (rfE false 61 71 r M ++ famE 71 cn ls T)) ++ (enE true 101 71 r.err (i))) ⟨[.s true, .s true, .s true, .s true, .s true], 110⟩) (endP ([((141 : Nat), Rn.nil (13 : Nat))]) (.tup [(false, .vl 141 (fun _ => 0) 13 [] (fun _ => 0)), (false, .vb fun _ => false)]) (enE true 141 71 r.err (0)) 520) =
    (OkL [(decide ((↑i : Int) < (↑n : Int)), true), (decide ((0 : Int) ≤ (↑i : Int) ∧ (↑i : Int) < (↑n : Int)), true), (((0 : Nat) + (↑i : Int).toNat).blt M, true), (((0 : Nat) + (↑i : Int).toNat).blt M, true), (decide ((↑(r.4 [(0 : Nat) + (↑i : Int).toNat]).length : Int) > (500 : Int)), true)] ∧ ((0 : Nat) = (0 : Nat) ∧ false = false ∧ True) ∧ (0 : Nat) = (0 : Nat)) := by kernel_rfl

set_option maxHeartbeats 4000000 in
theorem en3 (H : List Ent) (r : RF) (n M cn : Nat) (ls : Nat → Nat) (T : Ix → List UInt8) (i : Nat) (hi : i < n) (hn : n ≤ 20) (hM : n ≤ M) (ok : okMs r.M r.L n cn ls = true) (h0 : 500 < (r.X [i]).length)  :
    RunsTo Tryd.prog 27 (headOf Tryd.f27 0) (envAt Tryd.f27.ntmps ([(4, vL 101 13 (i)), (11, vL 61 13 n), (12, vN n), (13, vN (i : Nat))])) (Sx.look (((sentEnts 23 213 (textsIn 23 H errG)) ++ (rfE false 61 71 r M ++ famE 71 cn ls T)) ++ (enE true 101 71 r.err (i)))) 80 (.tup [(false, .vl 141 (fun _ => 0) 13 [] (fun _ => 0)), (false, .vb fun _ => false)]) (Sx.look (enE true 141 71 r.err (0))) 520 := by
  have hw : IntKind.i64.wrap ((i : Int) + 1) = ((i + 1 : Nat) : Int) := by rw [wr64 (by omega)]; rfl
  obtain ⟨a1, a2⟩ := okMs_at ok hi
  refine runs_last baseEN (Sx.Ends.of (en3_p0 H r n M cn ls T i) ⟨?oo, ?rr⟩) (by kernel_rfl) rfl (gtL (by decide)) (by decide)
  case oo =>
    refine (okc ?_ (okc ?_ (okc ?_ (okc ?_ (okc ?_ okn)))))
    all_goals first | omega | exact h | exact a2 | (simp (disch := omega) only [SS, hw]; first | done | omega | exact h | exact a2 | assumption) | (simp_all; done) | (simp_all; omega)
  case rr =>
    try simp (disch := omega) only [SS, hw]
    repeat' apply And.intro
    all_goals first | exact True.intro | with_reducible rfl | omega | (intros; first | exact True.intro | with_reducible rfl | omega | (simp_all; done)) | (simp_all; done) | rfl

theorem en3b_p0 (H : List Ent) (r : RF) (n M cn : Nat) (ls : Nat → Nat) (T : Ix → List UInt8) (i : Nat) :
    isEnd (evTill Tryd.prog sumsEN 400 (99) 900 27 (headOf Tryd.f27 0) (envAt Tryd.f27.ntmps ([(4, vL 101 13 (i)), (11, vL 61 13 n), (12, vN n), (13, vN (i : Nat))])) (((sentEnts 23 213 (textsIn 23 H errG)) ++ (rfE false 61 71 r M ++ famE 71 cn ls T)) ++ (enE true 101 71 r.err (i))) ⟨[.s true, .s true, .s true, .s true, .s false, .s true, .s true, .s true], 110⟩) (endP ([((141 : Nat), Rn.nil (13 : Nat))]) (.tup [(false, .vl 141 (fun _ => 0) 13 [] (fun _ => 0)), (false, .vb fun _ => false)]) (enE true 141 71 r.err (0)) 520) =
    (OkL [(decide ((↑i : Int) < (↑n : Int)), true), (decide ((0 : Int) ≤ (↑i : Int) ∧ (↑i : Int) < (↑n : Int)), true), (((0 : Nat) + (↑i : Int).toNat).blt M, true), (((0 : Nat) + (↑i : Int).toNat).blt M, true), (decide ((↑(r.4 [(0 : Nat) + (↑i : Int).toNat]).length : Int) > (500 : Int)), false), ((r.5 [(0 : Nat) + (↑i : Int).toNat] + (1 : Nat) + (cn - (r.5 [(0 : Nat) + (↑i : Int).toNat] + (1 : Nat)))).beq cn, true), (decide (r.6 [(0 : Nat) + (↑i : Int).toNat] ≤ ls (r.5 [(0 : Nat) + (↑i : Int).toNat])) && decide ((12 : Int) ≤ (100000 : Int)), true), (!fewB (r.6 [(0 : Nat) + (↑i : Int).toNat]) (fun js => T (r.5 [(0 : Nat) + (↑i : Int).toNat] :: js)) (12 : Int) (200 : Int), true)] ∧ ((0 : Nat) = (0 : Nat) ∧ false = false ∧ True) ∧ (0 : Nat) = (0 : Nat)) := by kernel_rfl

set_option maxHeartbeats 4000000 in
theorem en3b (H : List Ent) (r : RF) (n M cn : Nat) (ls : Nat → Nat) (T : Ix → List UInt8) (i : Nat) (hi : i < n) (hn : n ≤ 20) (hM : n ≤ M) (ok : okMs r.M r.L n cn ls = true) (h0 : (r.X [i]).length ≤ 500) (h : fewB (r.L [i]) (fun js => T (r.M [i] :: js)) 12 200 = false)  :
    RunsTo Tryd.prog 27 (headOf Tryd.f27 0) (envAt Tryd.f27.ntmps ([(4, vL 101 13 (i)), (11, vL 61 13 n), (12, vN n), (13, vN (i : Nat))])) (Sx.look (((sentEnts 23 213 (textsIn 23 H errG)) ++ (rfE false 61 71 r M ++ famE 71 cn ls T)) ++ (enE true 101 71 r.err (i)))) 80 (.tup [(false, .vl 141 (fun _ => 0) 13 [] (fun _ => 0)), (false, .vb fun _ => false)]) (Sx.look (enE true 141 71 r.err (0))) 520 := by
  have hw : IntKind.i64.wrap ((i : Int) + 1) = ((i + 1 : Nat) : Int) := by rw [wr64 (by omega)]; rfl
  obtain ⟨a1, a2⟩ := okMs_at ok hi
  refine runs_last baseEN (Sx.Ends.of (en3b_p0 H r n M cn ls T i) ⟨?oo, ?rr⟩) (by kernel_rfl) rfl (gtL (by decide)) (by decide)
  case oo =>
    refine (okc ?_ (okc ?_ (okc ?_ (okc ?_ (okc ?_ (okc ?_ (okc ?_ (okc ?_ okn))))))))
    all_goals first | omega | exact h | exact a2 | (simp (disch := omega) only [SS, hw]; first | done | omega | exact h | exact a2 | assumption) | (simp_all; done) | (simp_all; omega)
  case rr =>
    try simp (disch := omega) only [SS, hw]
    repeat' apply And.intro
    all_goals first | exact True.intro | with_reducible rfl | omega | (intros; first | exact True.intro | with_reducible rfl | omega | (simp_all; done)) | (simp_all; done) | rfl

theorem en4_p0 (H : List Ent) (r : RF) (n M cn : Nat) (ls : Nat → Nat) (T : Ix → List UInt8) (i : Nat) :
    isEnd (evTill Tryd.prog sumsEN 400 (99) 900 27 (headOf Tryd.f27 0) (envAt Tryd.f27.ntmps ([(4, vL 101 13 (i)), (11, vL 61 13 n), (12, vN n), (13, vN (i : Nat))])) (((sentEnts 23 213 (textsIn 23 H errG)) ++ (rfE false 61 71 r M ++ famE 71 cn ls T)) ++ (enE true 101 71 r.err (i))) ⟨[.s false], 110⟩) (endP ([((141 : Nat), Rn.to (101 : Nat))]) (.tup [(false, .vl 141 (fun _ => 0) 13 [] (fun _ => i)), (false, .vb fun _ => true)]) (enE true 141 71 r.err (i)) 520) =
    (OkL [(decide ((↑i : Int) < (↑n : Int)), false)] ∧ (((0 : Nat) = (0 : Nat) ∧ i = i) ∧ true = true ∧ True) ∧ i = i ∧ (∀ (i_1 : Nat), i_1 < i → r.1 [i_1] = r.1 [i_1]) ∧ (∀ (i_1 : Nat), i_1 < i → r.2 [i_1] = r.2 [i_1]) ∧ (∀ (i_1 : Nat), i_1 < i → r.3 [i_1] = r.3 [i_1]) ∧ (∀ (i_1 : Nat), i_1 < i → r.4 [i_1] = r.4 [i_1]) ∧ ((∀ (i_1 : Nat), i_1 < i → r.5 [i_1] = r.5 [i_1]) ∧ ∀ (i_1 : Nat), i_1 < i → r.6 [i_1] = r.6 [i_1]) ∧ ((∀ (i_1 : Nat), i_1 < i → r.7 [i_1] = r.7 [i_1]) ∧ (∀ (i_1 : Nat), i_1 < i → r.8 [i_1] = r.8 [i_1]) ∧ (∀ (i_1 : Nat), i_1 < i → r.9 [i_1] = r.9 [i_1]) ∧ (∀ (i_1 : Nat), i_1 < i → r.10 [i_1] = r.10 [i_1]) ∧ ∀ (i_1 : Nat), i_1 < i → r.11 [i_1] = r.11 [i_1]) ∧ (∀ (i_1 : Nat), i_1 < i → r.12 [i_1] = r.12 [i_1]) ∧ (∀ (i_1 : Nat), i_1 < i → r.13 [i_1] = r.13 [i_1]) ∧ ∀ (i_1 : Nat), i_1 < i → errI (r.15 [i_1]) = errI (r.15 [i_1])) := by kernel_rfl

set_option maxHeartbeats 4000000 in
theorem en4 (H : List Ent) (r : RF) (n M cn : Nat) (ls : Nat → Nat) (T : Ix → List UInt8) (i : Nat) (hi : i = n)  :
    RunsTo Tryd.prog 27 (headOf Tryd.f27 0) (envAt Tryd.f27.ntmps ([(4, vL 101 13 (i)), (11, vL 61 13 n), (12, vN n), (13, vN (i : Nat))])) (Sx.look (((sentEnts 23 213 (textsIn 23 H errG)) ++ (rfE false 61 71 r M ++ famE 71 cn ls T)) ++ (enE true 101 71 r.err (i)))) 80 (.tup [(false, .vl 141 (fun _ => 0) 13 [] (fun _ => i)), (false, .vb fun _ => true)]) (Sx.look (enE true 141 71 r.err (i))) 520 := by
  refine runs_last baseEN (Sx.Ends.of (en4_p0 H r n M cn ls T i) ⟨?oo, ?rr⟩) (by kernel_rfl) rfl (gtL (by decide)) (by decide)
  case oo =>
    refine (okc ?_ okn)
    all_goals ((try simp (disch := omega) only [SS]); first | done | omega | assumption | (simp (disch := omega) only [SS] at *; first | done | omega | assumption) | (simp_all; done))
  case rr =>
    try simp (disch := omega) only [SS]
    repeat' apply And.intro
    all_goals first | exact True.intro | with_reducible rfl | omega | (intros; first | exact True.intro | with_reducible rfl | omega | (simp_all; done)) | (simp_all; done) | rfl

theorem enT_ (H : List Ent) (r : RF) (n M cn : Nat) (ls : Nat → Nat) (T : Ix → List UInt8) (hM : n ≤ M) (ok : okMs r.M r.L n cn ls = true) : RunsTo Tryd.prog 27 [.code (bodyOf Tryd.f27)] (envOf [vL 61 13 n] Tryd.f27.ntmps) (Sx.look (((sentEnts 23 213 (textsIn 23 H errG)) ++ (rfE false 61 71 r M ++ famE 71 cn ls T)) ++ ([]))) 80 (.tup [(false, .vl 141 (fun _ => 0) 13 [] (fun _ => if rowsB r T n = true then n else 0)), (false, .vb fun _ => rowsB r T n)]) (Sx.look (enE true 141 71 r.err (if rowsB r T n = true then n else 0))) 520 := by
  unfold rowsB
  by_cases h : n ≤ 20
  · refine en1 H r n M cn ls T h _ _ ?_
    rw [decide_eq_true h, Bool.true_and]
    refine RunsTo.row0 (u' := enT 71 r.err) (B := []) ?_
    refine all_loop (ok := rowB r T) (R := fun i b => RunsTo Tryd.prog 27 (headOf Tryd.f27 0) (envAt Tryd.f27.ntmps ([(4, vL 101 13 (i)), (11, vL 61 13 n), (12, vN n), (13, vN (i : Nat))])) (Sx.look (((sentEnts 23 213 (textsIn 23 H errG)) ++ (rfE false 61 71 r M ++ famE 71 cn ls T)) ++ (enE true 101 71 r.err (i)))) 80 (.tup [(false, .vl 141 (fun _ => 0) 13 [] (fun _ => if b = true then n else 0)), (false, .vb fun _ => b)]) (Sx.look (enE true 141 71 r.err (if b = true then n else 0))) 520) (fun i hi hk b q => ?_) (fun i hi hk => ?_) ?_
    · unfold rowB at hk
      simp only [Bool.and_eq_true, decide_eq_true_eq] at hk
      exact en2 H r n M cn ls T i hi h hM ok hk.1 hk.2 _ _ q
    · unfold rowB at hk
      by_cases h0 : (r.X [i]).length ≤ 500
      · rw [decide_eq_true h0, Bool.true_and] at hk; exact en3b H r n M cn ls T i hi h hM ok h0 hk
      · exact en3 H r n M cn ls T i hi h hM ok (by omega)
    · exact en4 H r n M cn ls T n rfl
  · rw [decide_eq_false h, Bool.false_and]; exact en0 H r n M cn ls T (by omega)
def enP : PC := { args := [.v (.vl 61 13 0)], heap := [⟨61, false, 13, .ta 40 (.tc (.vi .i64 10) (.tc (.vi .i64 11) (.tc (.vi .i64 12) (.tc (.vs 13) (.tc (.vf 71 1 23 14) (.tc (.tc (.vi .i64 15) (.tc (.vi .i64 16) (.tc (.vi .i64 17) (.tc (.vi .i64 18) (.tc (.vb 19) .t0))))) (.tc (.vi .i64 20) (.tc (.vi .i64 21) (.tc (.vi .i64 22) .t0)))))))))⟩], fams := [⟨71, false, 1, 50, 51, .vs 52⟩], gs := [0, 1, 2, 3, 4, 5, 6, 7, 8, 9, 10, 11, 12, 13, 14, 15], G := 23, tp := 213, n := 80, n' := 520, cond := fun e => decide (eN e 0 ≤ eN e 40) && okMs ((⟨eI e 10, eI e 11, eI e 12, eS e 13, eM e 23, eM e 14, eI e 15, eI e 16, eI e 17, eI e 18, eB e 19, eI e 20, eI e 21, fun _ => 0, eI e 22⟩ : RF)).M ((⟨eI e 10, eI e 11, eI e 12, eS e 13, eM e 23, eM e 14, eI e 15, eI e 16, eI e 17, eI e 18, eB e 19, eI e 20, eI e 21, fun _ => 0, eI e 22⟩ : RF)).L (eN e 0) (eN e 50) (eL e 51), v := fun e => .tup [(false, .vl 141 (fun _ => 0) 13 [] (fun _ => (if rowsB (⟨eI e 10, eI e 11, eI e 12, eS e 13, eM e 23, eM e 14, eI e 15, eI e 16, eI e 17, eI e 18, eB e 19, eI e 20, eI e 21, fun _ => 0, eI e 22⟩ : RF) (eS e 52) (eN e 0) = true then eN e 0 else 0))), (false, .vb fun _ => rowsB (⟨eI e 10, eI e 11, eI e 12, eS e 13, eM e 23, eM e 14, eI e 15, eI e 16, eI e 17, eI e 18, eB e 19, eI e 20, eI e 21, fun _ => 0, eI e 22⟩ : RF) (eS e 52) (eN e 0))], post := fun e => enE true 141 71 (⟨eI e 10, eI e 11, eI e 12, eS e 13, eM e 23, eM e 14, eI e 15, eI e 16, eI e 17, eI e 18, eB e 19, eI e 20, eI e 21, fun _ => 0, eI e 22⟩ : RF).err (if rowsB (⟨eI e 10, eI e 11, eI e 12, eS e 13, eM e 23, eM e 14, eI e 15, eI e 16, eI e 17, eI e 18, eB e 19, eI e 20, eI e 21, fun _ => 0, eI e 22⟩ : RF) (eS e 52) (eN e 0) = true then eN e 0 else 0) }
theorem enP_pc : PC.Runs Tryd.prog 27 Tryd.f27 (bodyOf Tryd.f27) enP := ⟨Tryd.func27, by kernel_rfl, (fun g hg => by first | (cases hg; done) | (revert g; show ∀ g ∈ ([0, 1, 2, 3, 4, 5, 6, 7, 8, 9, 10, 11, 12, 13, 14, 15] : List Nat), g < 23; decide)), fun e H hc => by
  have hc : (decide (eN e 0 ≤ eN e 40) && okMs ((⟨eI e 10, eI e 11, eI e 12, eS e 13, eM e 23, eM e 14, eI e 15, eI e 16, eI e 17, eI e 18, eB e 19, eI e 20, eI e 21, fun _ => 0, eI e 22⟩ : RF)).M ((⟨eI e 10, eI e 11, eI e 12, eS e 13, eM e 23, eM e 14, eI e 15, eI e 16, eI e 17, eI e 18, eB e 19, eI e 20, eI e 21, fun _ => 0, eI e 22⟩ : RF)).L (eN e 0) (eN e 50) (eL e 51)) = true := hc
  try simp only [Bool.and_eq_true, decide_eq_true_eq, Nat.beq_eq] at hc
  exact enT_ H (⟨eI e 10, eI e 11, eI e 12, eS e 13, eM e 23, eM e 14, eI e 15, eI e 16, eI e 17, eI e 18, eB e 19, eI e 20, eI e 21, fun _ => 0, eI e 22⟩ : RF) (eN e 0) (eN e 40) (eN e 50) (eL e 51) (eS e 52) hc.1 hc.2⟩
def sumsST : List (FuncId × Summ) := [(32, zsnP.summ 46), (16, xS)]
theorem baseST : Base0 Tryd.prog sumsST := ((baseO.cons Tryd.func16 (by kernel_rfl) xnum_ok).cons Tryd.func32 (by kernel_rfl) (PC.summ_ok zsnP_pc gtopG))
theorem stt0_p0 (H : List Ent) (r r' : RF) (n m Ma Mb cn cm : Nat) (ls lm : Nat → Nat) (T U : Ix → List UInt8) :
    isEnd (evTill Tryd.prog sumsST 500 (99) 900 35 [.code (bodyOf Tryd.f35)] (envOf [vL 61 13 n, vL 62 13 m] Tryd.f35.ntmps) (((sentEnts 23 213 (textsIn 23 H errG)) ++ (enE false 61 71 r Ma ++ (rfE false 62 72 r' Mb ++ (famE 71 cn ls T ++ famE 72 cm lm U)))) ++ ([])) ⟨[.s true], 80⟩) (endP ([]) (vB false) ([]) 620) =
    (OkL [((↑n : Int) != (↑m : Int), true)] ∧ false = false ∧ True) := by kernel_rfl

set_option maxHeartbeats 4000000 in
theorem stt0 (H : List Ent) (r r' : RF) (n m Ma Mb cn cm : Nat) (ls lm : Nat → Nat) (T U : Ix → List UInt8) (h : n ≠ m)  :
    RunsTo Tryd.prog 35 [.code (bodyOf Tryd.f35)] (envOf [vL 61 13 n, vL 62 13 m] Tryd.f35.ntmps) (Sx.look (((sentEnts 23 213 (textsIn 23 H errG)) ++ (enE false 61 71 r Ma ++ (rfE false 62 72 r' Mb ++ (famE 71 cn ls T ++ famE 72 cm lm U)))) ++ ([]))) 80 (vB false) (Sx.look ([])) 620 := by
  refine runs_last baseST (Sx.Ends.of (stt0_p0 H r r' n m Ma Mb cn cm ls lm T U) ⟨?oo, ?rr⟩) (by kernel_rfl) rfl (gtL (by decide)) (by decide)
  case oo =>
    refine (okc ?_ okn)
    all_goals ((try simp (disch := omega) only [SS]); first | done | omega | assumption | (simp (disch := omega) only [SS] at *; first | done | omega | assumption) | (simp_all; done))
  case rr =>
    try simp (disch := omega) only [SS]
    repeat' apply And.intro
    all_goals first | exact True.intro | with_reducible rfl | omega | (intros; first | exact True.intro | with_reducible rfl | omega | (simp_all; done)) | (simp_all; done) | rfl

theorem stt1_p0 (H : List Ent) (r r' : RF) (n m Ma Mb cn cm : Nat) (ls lm : Nat → Nat) (T U : Ix → List UInt8) :
    isMore (evTill Tryd.prog sumsST 500 (behind Tryd.f35 0) 900 35 [.code (bodyOf Tryd.f35)] (envOf [vL 61 13 n, vL 62 13 m] Tryd.f35.ntmps) (((sentEnts 23 213 (textsIn 23 H errG)) ++ (enE false 61 71 r Ma ++ (rfE false 62 72 r' Mb ++ (famE 71 cn ls T ++ famE 72 cm lm U)))) ++ ([])) ⟨[.s false], 80⟩) (moreP (headOf Tryd.f35 0) ([]) Tryd.f35.ntmps ([(1, vL 62 13 m), (12, vL 61 13 n), (13, vN n), (14, vN (0 : Nat))]) ([]) 620) =
    (OkL [((↑n : Int) != (↑m : Int), false)] ∧ headOf Tryd.f35 (0 : Nat) = headOf Tryd.f35 (0 : Nat) ∧ (((0 : Nat) = (0 : Nat) ∧ m = m) ∧ ((0 : Nat) = (0 : Nat) ∧ n = n) ∧ (↑n : Int) = (↑n : Int) ∧ (↑(0 : Nat) : Int) = (0 : Int)) ∧ True) := by kernel_rfl

set_option maxHeartbeats 4000000 in
theorem stt1 (H : List Ent) (r r' : RF) (n m Ma Mb cn cm : Nat) (ls lm : Nat → Nat) (T U : Ix → List UInt8) (e : n = m)  (v : SV) (L' : HF) (next : RunsTo Tryd.prog 35 (headOf Tryd.f35 0) (envAt Tryd.f35.ntmps ([(1, vL 62 13 m), (12, vL 61 13 n), (13, vN n), (14, vN (0 : Nat))])) (Sx.look (((sentEnts 23 213 (textsIn 23 H errG)) ++ (enE false 61 71 r Ma ++ (rfE false 62 72 r' Mb ++ (famE 71 cn ls T ++ famE 72 cm lm U)))) ++ ([]))) 80 (v) (L') 620) :
    RunsTo Tryd.prog 35 [.code (bodyOf Tryd.f35)] (envOf [vL 61 13 n, vL 62 13 m] Tryd.f35.ntmps) (Sx.look (((sentEnts 23 213 (textsIn 23 H errG)) ++ (enE false 61 71 r Ma ++ (rfE false 62 72 r' Mb ++ (famE 71 cn ls T ++ famE 72 cm lm U)))) ++ ([]))) 80 (v) (L') 620 := by
  refine runs_more baseST (More.of (stt1_p0 H r r' n m Ma Mb cn cm ls lm T U) ⟨?oo, rfl, ?rr⟩) (by kernel_rfl) (by kernel_rfl) rfl (gtL (by decide)) (by decide) next
  case oo =>
    clear next
    refine (okc ?_ okn)
    all_goals ((try simp (disch := omega) only [SS]); first | done | omega | assumption | (simp (disch := omega) only [SS] at *; first | done | omega | assumption) | (simp_all; done))
  case rr =>
    clear next
    try simp (disch := omega) only [SS]
    repeat' apply And.intro
    all_goals first | exact True.intro | with_reducible rfl | omega | (intros; first | exact True.intro | with_reducible rfl | omega | (simp_all; done)) | (simp_all; done) | rfl

theorem stt2_p0 (H : List Ent) (r r' : RF) (n m Ma Mb cn cm : Nat) (ls lm : Nat → Nat) (T U : Ix → List UInt8) (i : Nat) :
    isMore (evTill Tryd.prog sumsST 500 (behind Tryd.f35 0) 900 35 (headOf Tryd.f35 0) (envAt Tryd.f35.ntmps ([(1, vL 62 13 m), (12, vL 61 13 n), (13, vN n), (14, vN (i : Nat))])) (((sentEnts 23 213 (textsIn 23 H errG)) ++ (enE false 61 71 r Ma ++ (rfE false 62 72 r' Mb ++ (famE 71 cn ls T ++ famE 72 cm lm U)))) ++ ([])) ⟨[.s true, .s true, .s true, .s true, .s true, .s true, .s true, .s true, .s true, .s true, .s false], 110⟩) (moreP (headOf Tryd.f35 0) ([]) Tryd.f35.ntmps ([(1, vL 62 13 m), (12, vL 61 13 n), (13, vN n), (14, vN (i + 1 : Nat))]) ([]) 620) =
    (OkL [(decide ((↑i : Int) < (↑n : Int)), true), (decide ((0 : Int) ≤ (↑i : Int) ∧ (↑i : Int) < (↑n : Int)), true), (((0 : Nat) + (↑i : Int).toNat).blt Ma, true), (((0 : Nat) + (↑i : Int).toNat).blt Ma, true), (decide ((0 : Int) ≤ (↑i : Int) ∧ (↑i : Int) < (↑m : Int)), true), (((0 : Nat) + (↑i : Int).toNat).blt Mb, true), (((0 : Nat) + (↑i : Int).toNat).blt Mb, true), ((r'.5 [(0 : Nat) + (↑i : Int).toNat] + (1 : Nat) + (cm - (r'.5 [(0 : Nat) + (↑i : Int).toNat] + (1 : Nat)))).beq cm, true), ((r.5 [(0 : Nat) + (↑i : Int).toNat] + (1 : Nat) + (cn - (r.5 [(0 : Nat) + (↑i : Int).toNat] + (1 : Nat)))).beq cn, true), (decide (r.6 [(0 : Nat) + (↑i : Int).toNat] ≤ ls (r.5 [(0 : Nat) + (↑i : Int).toNat])) && (decide (r'.6 [(0 : Nat) + (↑i : Int).toNat] ≤ lm (r'.5 [(0 : Nat) + (↑i : Int).toNat])) && decide (r.6 [(0 : Nat) + (↑i : Int).toNat] ≤ (100000 : Nat))), true), (!sameW { K := fun js => r.1 (((0 : Nat) + (↑i : Int).toNat) :: js), N := fun js => r.2 (((0 : Nat) + (↑i : Int).toNat) :: js), C := fun js => r.3 (((0 : Nat) + (↑i : Int).toNat) :: js), X := fun js => r.4 (((0 : Nat) + (↑i : Int).toNat) :: js), M := fun x => (0 : Nat), L := fun x => r.6 [(0 : Nat) + (↑i : Int).toNat], nk := fun js => r.7 (((0 : Nat) + (↑i : Int).toNat) :: js), nc := fun js => r.8 (((0 : Nat) + (↑i : Int).toNat) :: js), ns := fun js => r.9 (((0 : Nat) + (↑i : Int).toNat) :: js), no := fun js => r.10 (((0 : Nat) + (↑i : Int).toNat) :: js), nb := fun js => r.11 (((0 : Nat) + (↑i : Int).toNat) :: js), V := fun js => r.12 (((0 : Nat) + (↑i : Int).toNat) :: js), O := fun js => r.13 (((0 : Nat) + (↑i : Int).toNat) :: js), E := fun x => (0 : Nat), B := fun js => xnum (r.14 [(0 : Nat) + (↑i : Int).toNat]) } { K := fun js => r'.1 (((0 : Nat) + (↑i : Int).toNat) :: js), N := fun js => r'.2 (((0 : Nat) + (↑i : Int).toNat) :: js), C := fun js => r'.3 (((0 : Nat) + (↑i : Int).toNat) :: js), X := fun js => r'.4 (((0 : Nat) + (↑i : Int).toNat) :: js), M := fun x => (0 : Nat), L := fun x => r'.6 [(0 : Nat) + (↑i : Int).toNat], nk := fun js => r'.7 (((0 : Nat) + (↑i : Int).toNat) :: js), nc := fun js => r'.8 (((0 : Nat) + (↑i : Int).toNat) :: js), ns := fun js => r'.9 (((0 : Nat) + (↑i : Int).toNat) :: js), no := fun js => r'.10 (((0 : Nat) + (↑i : Int).toNat) :: js), nb := fun js => r'.11 (((0 : Nat) + (↑i : Int).toNat) :: js), V := fun js => r'.12 (((0 : Nat) + (↑i : Int).toNat) :: js), O := fun js => r'.13 (((0 : Nat) + (↑i : Int).toNat) :: js), E := fun x => (0 : Nat), B := fun js => r'.15 (((0 : Nat) + (↑i : Int).toNat) :: js) } (fun js => T (r.5 [(0 : Nat) + (↑i : Int).toNat] :: js)) fun js => U (r'.5 [(0 : Nat) + (↑i : Int).toNat] :: js), false)] ∧ headOf Tryd.f35 (0 : Nat) = headOf Tryd.f35 (0 : Nat) ∧ (((0 : Nat) = (0 : Nat) ∧ m = m) ∧ ((0 : Nat) = (0 : Nat) ∧ n = n) ∧ (↑n : Int) = (↑n : Int) ∧ (↑(i + (1 : Nat)) : Int) = IntKind.i64.wrap ((↑i : Int) + (1 : Int))) ∧ True) := by kernel_rfl

set_option maxHeartbeats 4000000 in
theorem stt2 (H : List Ent) (r r' : RF) (n m Ma Mb cn cm : Nat) (ls lm : Nat → Nat) (T U : Ix → List UInt8) (i : Nat) (hi : i < n) (e : n = m) (hn : n ≤ 100000) (ha : n ≤ Ma) (hb : m ≤ Mb) (o1 : okM r.M r.L n cn ls = true) (o2 : okM r'.M r'.L m cm lm = true) (h : sameAw r r' T U i i = true)  (v : SV) (L' : HF) (next : RunsTo Tryd.prog 35 (headOf Tryd.f35 0) (envAt Tryd.f35.ntmps ([(1, vL 62 13 m), (12, vL 61 13 n), (13, vN n), (14, vN (i + 1 : Nat))])) (Sx.look (((sentEnts 23 213 (textsIn 23 H errG)) ++ (enE false 61 71 r Ma ++ (rfE false 62 72 r' Mb ++ (famE 71 cn ls T ++ famE 72 cm lm U)))) ++ ([]))) 80 (v) (L') 620) :
    RunsTo Tryd.prog 35 (headOf Tryd.f35 0) (envAt Tryd.f35.ntmps ([(1, vL 62 13 m), (12, vL 61 13 n), (13, vN n), (14, vN (i : Nat))])) (Sx.look (((sentEnts 23 213 (textsIn 23 H errG)) ++ (enE false 61 71 r Ma ++ (rfE false 62 72 r' Mb ++ (famE 71 cn ls T ++ famE 72 cm lm U)))) ++ ([]))) 80 (v) (L') 620 := by
  have hw : IntKind.i64.wrap ((i : Int) + 1) = ((i + 1 : Nat) : Int) := by rw [wr64 (by omega)]; rfl
  obtain ⟨a1, a2, a3⟩ := okM_at o1 hi
  obtain ⟨b1, b2, b3⟩ := okM_at o2 (show i < m by omega)
  refine runs_more baseST (More.of (stt2_p0 H r r' n m Ma Mb cn cm ls lm T U i) ⟨?oo, rfl, ?rr⟩) (by kernel_rfl) (by kernel_rfl) rfl (gtL (by decide)) (by decide) next
  case oo =>
    clear next
    refine (okc ?_ (okc ?_ (okc ?_ (okc ?_ (okc ?_ (okc ?_ (okc ?_ (okc ?_ (okc ?_ (okc ?_ (okc ?_ okn)))))))))))
    all_goals first | omega | exact h | exact ⟨a2, b2, a3⟩ | (simp (disch := omega) only [SS, hw]; first | done | omega | exact h | exact ⟨a2, b2, a3⟩ | assumption) | (simp_all; done) | (simp_all; omega)
  case rr =>
    clear next
    try simp (disch := omega) only [SS, hw]
    repeat' apply And.intro
    all_goals first | exact True.intro | with_reducible rfl | omega | (intros; first | exact True.intro | with_reducible rfl | omega | (simp_all; done)) | (simp_all; done) | rfl

theorem stt3_p0 (H : List Ent) (r r' : RF) (n m Ma Mb cn cm : Nat) (ls lm : Nat → Nat) (T U : Ix → List UInt8) (i : Nat) :
    isEnd (evTill Tryd.prog sumsST 500 (99) 900 35 (headOf Tryd.f35 0) (envAt Tryd.f35.ntmps ([(1, vL 62 13 m), (12, vL 61 13 n), (13, vN n), (14, vN (i : Nat))])) (((sentEnts 23 213 (textsIn 23 H errG)) ++ (enE false 61 71 r Ma ++ (rfE false 62 72 r' Mb ++ (famE 71 cn ls T ++ famE 72 cm lm U)))) ++ ([])) ⟨[.s true, .s true, .s true, .s true, .s true, .s true, .s true, .s true, .s true, .s true, .s true], 110⟩) (endP ([]) (vB false) ([]) 620) =
    (OkL [(decide ((↑i : Int) < (↑n : Int)), true), (decide ((0 : Int) ≤ (↑i : Int) ∧ (↑i : Int) < (↑n : Int)), true), (((0 : Nat) + (↑i : Int).toNat).blt Ma, true), (((0 : Nat) + (↑i : Int).toNat).blt Ma, true), (decide ((0 : Int) ≤ (↑i : Int) ∧ (↑i : Int) < (↑m : Int)), true), (((0 : Nat) + (↑i : Int).toNat).blt Mb, true), (((0 : Nat) + (↑i : Int).toNat).blt Mb, true), ((r'.5 [(0 : Nat) + (↑i : Int).toNat] + (1 : Nat) + (cm - (r'.5 [(0 : Nat) + (↑i : Int).toNat] + (1 : Nat)))).beq cm, true), ((r.5 [(0 : Nat) + (↑i : Int).toNat] + (1 : Nat) + (cn - (r.5 [(0 : Nat) + (↑i : Int).toNat] + (1 : Nat)))).beq cn, true), (decide (r.6 [(0 : Nat) + (↑i : Int).toNat] ≤ ls (r.5 [(0 : Nat) + (↑i : Int).toNat])) && (decide (r'.6 [(0 : Nat) + (↑i : Int).toNat] ≤ lm (r'.5 [(0 : Nat) + (↑i : Int).toNat])) && decide (r.6 [(0 : Nat) + (↑i : Int).toNat] ≤ (100000 : Nat))), true), (!sameW { K := fun js => r.1 (((0 : Nat) + (↑i : Int).toNat) :: js), N := fun js => r.2 (((0 : Nat) + (↑i : Int).toNat) :: js), C := fun js => r.3 (((0 : Nat) + (↑i : Int).toNat) :: js), X := fun js => r.4 (((0 : Nat) + (↑i : Int).toNat) :: js), M := fun x => (0 : Nat), L := fun x => r.6 [(0 : Nat) + (↑i : Int).toNat], nk := fun js => r.7 (((0 : Nat) + (↑i : Int).toNat) :: js), nc := fun js => r.8 (((0 : Nat) + (↑i : Int).toNat) :: js), ns := fun js => r.9 (((0 : Nat) + (↑i : Int).toNat) :: js), no := fun js => r.10 (((0 : Nat) + (↑i : Int).toNat) :: js), nb := fun js => r.11 (((0 : Nat) + (↑i : Int).toNat) :: js), V := fun js => r.12 (((0 : Nat) + (↑i : Int).toNat) :: js), O := fun js => r.13 (((0 : Nat) + (↑i : Int).toNat) :: js), E := fun x => (0 : Nat), B := fun js => xnum (r.14 [(0 : Nat) + (↑i : Int).toNat]) } { K := fun js => r'.1 (((0 : Nat) + (↑i : Int).toNat) :: js), N := fun js => r'.2 (((0 : Nat) + (↑i : Int).toNat) :: js), C := fun js => r'.3 (((0 : Nat) + (↑i : Int).toNat) :: js), X := fun js => r'.4 (((0 : Nat) + (↑i : Int).toNat) :: js), M := fun x => (0 : Nat), L := fun x => r'.6 [(0 : Nat) + (↑i : Int).toNat], nk := fun js => r'.7 (((0 : Nat) + (↑i : Int).toNat) :: js), nc := fun js => r'.8 (((0 : Nat) + (↑i : Int).toNat) :: js), ns := fun js => r'.9 (((0 : Nat) + (↑i : Int).toNat) :: js), no := fun js => r'.10 (((0 : Nat) + (↑i : Int).toNat) :: js), nb := fun js => r'.11 (((0 : Nat) + (↑i : Int).toNat) :: js), V := fun js => r'.12 (((0 : Nat) + (↑i : Int).toNat) :: js), O := fun js => r'.13 (((0 : Nat) + (↑i : Int).toNat) :: js), E := fun x => (0 : Nat), B := fun js => r'.15 (((0 : Nat) + (↑i : Int).toNat) :: js) } (fun js => T (r.5 [(0 : Nat) + (↑i : Int).toNat] :: js)) fun js => U (r'.5 [(0 : Nat) + (↑i : Int).toNat] :: js), true)] ∧ false = false ∧ True) := by kernel_rfl

set_option maxHeartbeats 4000000 in
theorem stt3 (H : List Ent) (r r' : RF) (n m Ma Mb cn cm : Nat) (ls lm : Nat → Nat) (T U : Ix → List UInt8) (i : Nat) (hi : i < n) (e : n = m) (hn : n ≤ 100000) (ha : n ≤ Ma) (hb : m ≤ Mb) (o1 : okM r.M r.L n cn ls = true) (o2 : okM r'.M r'.L m cm lm = true) (h : sameAw r r' T U i i = false)  :
    RunsTo Tryd.prog 35 (headOf Tryd.f35 0) (envAt Tryd.f35.ntmps ([(1, vL 62 13 m), (12, vL 61 13 n), (13, vN n), (14, vN (i : Nat))])) (Sx.look (((sentEnts 23 213 (textsIn 23 H errG)) ++ (enE false 61 71 r Ma ++ (rfE false 62 72 r' Mb ++ (famE 71 cn ls T ++ famE 72 cm lm U)))) ++ ([]))) 80 (vB false) (Sx.look ([])) 620 := by
  have hw : IntKind.i64.wrap ((i : Int) + 1) = ((i + 1 : Nat) : Int) := by rw [wr64 (by omega)]; rfl
  obtain ⟨a1, a2, a3⟩ := okM_at o1 hi
  obtain ⟨b1, b2, b3⟩ := okM_at o2 (show i < m by omega)
  refine runs_last baseST (Sx.Ends.of (stt3_p0 H r r' n m Ma Mb cn cm ls lm T U i) ⟨?oo, ?rr⟩) (by kernel_rfl) rfl (gtL (by decide)) (by decide)
  case oo =>
    refine (okc ?_ (okc ?_ (okc ?_ (okc ?_ (okc ?_ (okc ?_ (okc ?_ (okc ?_ (okc ?_ (okc ?_ (okc ?_ okn)))))))))))
    all_goals first | omega | exact h | exact ⟨a2, b2, a3⟩ | (simp (disch := omega) only [SS, hw]; first | done | omega | exact h | exact ⟨a2, b2, a3⟩ | assumption) | (simp_all; done) | (simp_all; omega)
  case rr =>
    try simp (disch := omega) only [SS, hw]
    repeat' apply And.intro
    all_goals first | exact True.intro | with_reducible rfl | omega | (intros; first | exact True.intro | with_reducible rfl | omega | (simp_all; done)) | (simp_all; done) | rfl

theorem stt4_p0 (H : List Ent) (r r' : RF) (n m Ma Mb cn cm : Nat) (ls lm : Nat → Nat) (T U : Ix → List UInt8) (i : Nat) :
    isEnd (evTill Tryd.prog sumsST 500 (99) 900 35 (headOf Tryd.f35 0) (envAt Tryd.f35.ntmps ([(1, vL 62 13 m), (12, vL 61 13 n), (13, vN n), (14, vN (i : Nat))])) (((sentEnts 23 213 (textsIn 23 H errG)) ++ (enE false 61 71 r Ma ++ (rfE false 62 72 r' Mb ++ (famE 71 cn ls T ++ famE 72 cm lm U)))) ++ ([])) ⟨[.s false], 110⟩) (endP ([]) (YES) ([]) 620) =
    (OkL [(decide ((↑i : Int) < (↑n : Int)), false)] ∧ true = true ∧ True) := by kernel_rfl

set_option maxHeartbeats 4000000 in
theorem stt4 (H : List Ent) (r r' : RF) (n m Ma Mb cn cm : Nat) (ls lm : Nat → Nat) (T U : Ix → List UInt8) (i : Nat) (hi : i = n)  :
    RunsTo Tryd.prog 35 (headOf Tryd.f35 0) (envAt Tryd.f35.ntmps ([(1, vL 62 13 m), (12, vL 61 13 n), (13, vN n), (14, vN (i : Nat))])) (Sx.look (((sentEnts 23 213 (textsIn 23 H errG)) ++ (enE false 61 71 r Ma ++ (rfE false 62 72 r' Mb ++ (famE 71 cn ls T ++ famE 72 cm lm U)))) ++ ([]))) 80 (YES) (Sx.look ([])) 620 := by
  refine runs_last baseST (Sx.Ends.of (stt4_p0 H r r' n m Ma Mb cn cm ls lm T U i) ⟨?oo, ?rr⟩) (by kernel_rfl) rfl (gtL (by decide)) (by decide)
  case oo =>
    refine (okc ?_ okn)
    all_goals ((try simp (disch := omega) only [SS]); first | done | omega | assumption | (simp (disch := omega) only [SS] at *; first | done | omega | assumption) | (simp_all; done))
  case rr =>
    try simp (disch := omega) only [SS]
    repeat' apply And.intro
    all_goals first | exact True.intro | with_reducible rfl | omega | (intros; first | exact True.intro | with_reducible rfl | omega | (simp_all; done)) | (simp_all; done) | rfl

theorem sttT (H : List Ent) (r r' : RF) (n m Ma Mb cn cm : Nat) (ls lm : Nat → Nat) (T U : Ix → List UInt8) (hn : n ≤ 100000) (ha : n ≤ Ma) (hb : m ≤ Mb) (o1 : okM r.M r.L n cn ls = true) (o2 : okM r'.M r'.L m cm lm = true) : RunsTo Tryd.prog 35 [.code (bodyOf Tryd.f35)] (envOf [vL 61 13 n, vL 62 13 m] Tryd.f35.ntmps) (Sx.look (((sentEnts 23 213 (textsIn 23 H errG)) ++ (enE false 61 71 r Ma ++ (rfE false 62 72 r' Mb ++ (famE 71 cn ls T ++ famE 72 cm lm U)))) ++ ([]))) 80 (vB ((n == m) && (List.range n).all fun i => sameAw r r' T U i i)) (Sx.look []) 620 := by
  by_cases h : n = m
  · refine stt1 H r r' n m Ma Mb cn cm ls lm T U h _ _ ?_
    rw [show (n == m) = true from beq_iff_eq.2 h, Bool.true_and]
    exact all_loop (ok := fun i => sameAw r r' T U i i) (R := fun i b => RunsTo Tryd.prog 35 (headOf Tryd.f35 0) (envAt Tryd.f35.ntmps ([(1, vL 62 13 m), (12, vL 61 13 n), (13, vN n), (14, vN (i : Nat))])) (Sx.look (((sentEnts 23 213 (textsIn 23 H errG)) ++ (enE false 61 71 r Ma ++ (rfE false 62 72 r' Mb ++ (famE 71 cn ls T ++ famE 72 cm lm U)))) ++ ([]))) 80 (vB b) (Sx.look []) 620) (fun i hi hk b q => stt2 H r r' n m Ma Mb cn cm ls lm T U i hi h hn ha hb o1 o2 hk _ _ q) (fun i hi hk => stt3 H r r' n m Ma Mb cn cm ls lm T U i hi h hn ha hb o1 o2 hk) (stt4 H r r' n m Ma Mb cn cm ls lm T U n rfl)
  · rw [show (n == m) = false from beq_eq_false_iff_ne.2 h, Bool.false_and]; exact stt0 H r r' n m Ma Mb cn cm ls lm T U h
def sttP : PC := { args := [.v (.vl 61 13 0), .v (.vl 62 13 1)], heap := [⟨61, false, 13, .ta 40 (.tc (.vi .i64 10) (.tc (.vi .i64 11) (.tc (.vi .i64 12) (.tc (.vs 13) (.tc (.vf 71 1 23 14) (.tc (.tc (.vi .i64 15) (.tc (.vi .i64 16) (.tc (.vi .i64 17) (.tc (.vi .i64 18) (.tc (.vb 19) .t0))))) (.tc (.vi .i64 20) (.tc (.vi .i64 21) (.tc (.vx 213 errL 22) .t0)))))))))⟩, ⟨62, false, 13, .ta 42 (.tc (.vi .i64 110) (.tc (.vi .i64 111) (.tc (.vi .i64 112) (.tc (.vs 113) (.tc (.vf 72 1 123 114) (.tc (.tc (.vi .i64 115) (.tc (.vi .i64 116) (.tc (.vi .i64 117) (.tc (.vi .i64 118) (.tc (.vb 119) .t0))))) (.tc (.vi .i64 120) (.tc (.vi .i64 121) (.tc (.vi .i64 122) .t0)))))))))⟩], fams := [⟨71, false, 1, 50, 51, .vs 52⟩, ⟨72, false, 1, 60, 61, .vs 62⟩], gs := [0, 1, 2, 3, 4, 5, 6, 7, 8, 9, 10, 11, 12, 13, 14, 15], G := 23, tp := 213, n := 80, n' := 620, cond := fun e => decide (eN e 0 ≤ 100000) && (decide (eN e 0 ≤ eN e 40) && (decide (eN e 1 ≤ eN e 42) && (okM ((⟨eI e 10, eI e 11, eI e 12, eS e 13, eM e 23, eM e 14, eI e 15, eI e 16, eI e 17, eI e 18, eB e 19, eI e 20, eI e 21, eM e 22, fun _ => 0⟩ : RF)).M ((⟨eI e 10, eI e 11, eI e 12, eS e 13, eM e 23, eM e 14, eI e 15, eI e 16, eI e 17, eI e 18, eB e 19, eI e 20, eI e 21, eM e 22, fun _ => 0⟩ : RF)).L (eN e 0) (eN e 50) (eL e 51) && okM ((⟨eI e 110, eI e 111, eI e 112, eS e 113, eM e 123, eM e 114, eI e 115, eI e 116, eI e 117, eI e 118, eB e 119, eI e 120, eI e 121, fun _ => 0, eI e 122⟩ : RF)).M ((⟨eI e 110, eI e 111, eI e 112, eS e 113, eM e 123, eM e 114, eI e 115, eI e 116, eI e 117, eI e 118, eB e 119, eI e 120, eI e 121, fun _ => 0, eI e 122⟩ : RF)).L (eN e 1) (eN e 60) (eL e 61)))), v := fun e => vB ((eN e 0 == eN e 1) && (List.range (eN e 0)).all fun i => sameAw (⟨eI e 10, eI e 11, eI e 12, eS e 13, eM e 23, eM e 14, eI e 15, eI e 16, eI e 17, eI e 18, eB e 19, eI e 20, eI e 21, eM e 22, fun _ => 0⟩ : RF) (⟨eI e 110, eI e 111, eI e 112, eS e 113, eM e 123, eM e 114, eI e 115, eI e 116, eI e 117, eI e 118, eB e 119, eI e 120, eI e 121, fun _ => 0, eI e 122⟩ : RF) (eS e 52) (eS e 62) i i), post := fun e => [] }
theorem sttP_pc : PC.Runs Tryd.prog 35 Tryd.f35 (bodyOf Tryd.f35) sttP := ⟨Tryd.func35, by kernel_rfl, (fun g hg => by first | (cases hg; done) | (revert g; show ∀ g ∈ ([0, 1, 2, 3, 4, 5, 6, 7, 8, 9, 10, 11, 12, 13, 14, 15] : List Nat), g < 23; decide)), fun e H hc => by
  have hc : (decide (eN e 0 ≤ 100000) && (decide (eN e 0 ≤ eN e 40) && (decide (eN e 1 ≤ eN e 42) && (okM ((⟨eI e 10, eI e 11, eI e 12, eS e 13, eM e 23, eM e 14, eI e 15, eI e 16, eI e 17, eI e 18, eB e 19, eI e 20, eI e 21, eM e 22, fun _ => 0⟩ : RF)).M ((⟨eI e 10, eI e 11, eI e 12, eS e 13, eM e 23, eM e 14, eI e 15, eI e 16, eI e 17, eI e 18, eB e 19, eI e 20, eI e 21, eM e 22, fun _ => 0⟩ : RF)).L (eN e 0) (eN e 50) (eL e 51) && okM ((⟨eI e 110, eI e 111, eI e 112, eS e 113, eM e 123, eM e 114, eI e 115, eI e 116, eI e 117, eI e 118, eB e 119, eI e 120, eI e 121, fun _ => 0, eI e 122⟩ : RF)).M ((⟨eI e 110, eI e 111, eI e 112, eS e 113, eM e 123, eM e 114, eI e 115, eI e 116, eI e 117, eI e 118, eB e 119, eI e 120, eI e 121, fun _ => 0, eI e 122⟩ : RF)).L (eN e 1) (eN e 60) (eL e 61))))) = true := hc
  try simp only [Bool.and_eq_true, decide_eq_true_eq, Nat.beq_eq] at hc
  exact sttT H (⟨eI e 10, eI e 11, eI e 12, eS e 13, eM e 23, eM e 14, eI e 15, eI e 16, eI e 17, eI e 18, eB e 19, eI e 20, eI e 21, eM e 22, fun _ => 0⟩ : RF) (⟨eI e 110, eI e 111, eI e 112, eS e 113, eM e 123, eM e 114, eI e 115, eI e 116, eI e 117, eI e 118, eB e 119, eI e 120, eI e 121, fun _ => 0, eI e 122⟩ : RF) (eN e 0) (eN e 1) (eN e 40) (eN e 42) (eN e 50) (eN e 60) (eL e 51) (eL e 61) (eS e 52) (eS e 62) hc.1 hc.2.1 hc.2.2.1 hc.2.2.2.1 hc.2.2.2.2⟩
def sumsSD : List (FuncId × Summ) := [(28, onP.summ 46), (100, bldCk 120), (69, bldStr 120 5)]
theorem baseSD : Base0 Tryd.prog sumsSD := (((baseO.cons Tryd.func69 (by kernel_rfl) bdStr).cons Tryd.func100 (by kernel_rfl) bdCk).cons Tryd.func28 (by kernel_rfl) (PC.summ_ok onP_pc gtopG))
theorem sd0_p0 (r : RF) (n M : Nat) (I : List Nat) :
    isMore (evTill Tryd.prog sumsSD 500 (behind Tryd.f36 0) 900 36 [.code (bodyOf Tryd.f36)] (envOf [vL 61 13 n] Tryd.f36.ntmps) (enE false 61 71 r M ++ ([])) ⟨[.s true], 80⟩) (moreP (headOf Tryd.f36 0) ([((101 : Nat), Rn.to (80 : Nat)), ((104 : Nat), Rn.to (143 : Nat))]) Tryd.f36.ntmps ([(3, vP 101), (8, vL 104 13 I.length), (9, vN I.length), (10, vN (0 : Nat))]) (bdF 101 ++ enE true 104 71 (r.sel I) I.length) 900) =
    (OkL [(decide (n ≤ (1000 : Nat)) && (decide (n ≤ M) && (decide ((1 : Nat) ≤ (1 : Nat)) && decide ((1 : Nat) ≤ (100000 : Nat)))), true)] ∧ headOf Tryd.f36 (0 : Nat) = headOf Tryd.f36 (0 : Nat) ∧ ((0 : Nat) = (0 : Nat) ∧ ((0 : Nat) = (0 : Nat) ∧ I.length = (onI (1 : Nat) (fun is => (1 : Int)) r.1 n).length) ∧ (↑I.length : Int) = (↑(onI (1 : Nat) (fun is => (1 : Int)) r.1 n).length : Int) ∧ (↑(0 : Nat) : Int) = (0 : Int)) ∧ (True ∧ True) ∧ I.length = (onI (1 : Nat) (fun is => (1 : Int)) r.1 n).length ∧ (∀ (i : Nat), i < I.length → ixI I r.1 [i] = ixI (onI (1 : Nat) (fun is => (1 : Int)) r.1 n) r.1 [i]) ∧ (∀ (i : Nat), i < I.length → ixI I r.2 [i] = ixI (onI (1 : Nat) (fun is => (1 : Int)) r.1 n) r.2 [i]) ∧ (∀ (i : Nat), i < I.length → ixI I r.3 [i] = ixI (onI (1 : Nat) (fun is => (1 : Int)) r.1 n) r.3 [i]) ∧ (∀ (i : Nat), i < I.length → ixI I r.4 [i] = ixI (onI (1 : Nat) (fun is => (1 : Int)) r.1 n) r.4 [i]) ∧ ((∀ (i : Nat), i < I.length → ixI I r.5 [i] = ixI (onI (1 : Nat) (fun is => (1 : Int)) r.1 n) r.5 [i]) ∧ ∀ (i : Nat), i < I.length → ixI I r.6 [i] = ixI (onI (1 : Nat) (fun is => (1 : Int)) r.1 n) r.6 [i]) ∧ ((∀ (i : Nat), i < I.length → ixI I r.7 [i] = ixI (onI (1 : Nat) (fun is => (1 : Int)) r.1 n) r.7 [i]) ∧ (∀ (i : Nat), i < I.length → ixI I r.8 [i] = ixI (onI (1 : Nat) (fun is => (1 : Int)) r.1 n) r.8 [i]) ∧ (∀ (i : Nat), i < I.length → ixI I r.9 [i] = ixI (onI (1 : Nat) (fun is => (1 : Int)) r.1 n) r.9 [i]) ∧ (∀ (i : Nat), i < I.length → ixI I r.10 [i] = ixI (onI (1 : Nat) (fun is => (1 : Int)) r.1 n) r.10 [i]) ∧ ∀ (i : Nat), i < I.length → ixI I r.11 [i] = ixI (onI (1 : Nat) (fun is => (1 : Int)) r.1 n) r.11 [i]) ∧ (∀ (i : Nat), i < I.length → ixI I r.12 [i] = ixI (onI (1 : Nat) (fun is => (1 : Int)) r.1 n) r.12 [i]) ∧ (∀ (i : Nat), i < I.length → ixI I r.13 [i] = ixI (onI (1 : Nat) (fun is => (1 : Int)) r.1 n) r.13 [i]) ∧ ∀ (i : Nat), i < I.length → ixI I r.14 [i] = ixI (onI (1 : Nat) (fun is => (1 : Int)) r.1 n) r.14 [i]) := by kernel_rfl

set_option maxHeartbeats 4000000 in
theorem sd0 (r : RF) (n M : Nat) (I : List Nat) (hn : n ≤ 1000) (hM : n ≤ M) (hI : onI 1 (fun _ => 1) r.K n = I)  (v : SV) (L' : HF) (next : RunsTo Tryd.prog 36 (headOf Tryd.f36 0) (envAt Tryd.f36.ntmps ([(3, vP 101), (8, vL 104 13 I.length), (9, vN I.length), (10, vN (0 : Nat))])) (Sx.look (enE false 61 71 r M ++ (bdF 101 ++ enE true 104 71 (r.sel I) I.length))) 80 (v) (L') 900) :
    RunsTo Tryd.prog 36 [.code (bodyOf Tryd.f36)] (envOf [vL 61 13 n] Tryd.f36.ntmps) (Sx.look (enE false 61 71 r M ++ ([]))) 80 (v) (L') 900 := by
  refine runs_more baseSD (More.of (sd0_p0 r n M I) ⟨?oo, rfl, ?rr⟩) (by kernel_rfl) (by kernel_rfl) rfl (gtL (by decide)) (by decide) next
  case oo =>
    clear next
    refine (okc ?_ okn)
    all_goals ((try simp (disch := omega) only [SS, hI]); first | done | omega | assumption | (simp (disch := omega) only [SS, hI] at *; first | done | omega | assumption) | (simp_all; done))
  case rr =>
    clear next
    try simp (disch := omega) only [SS]
    try rw [hI]
    repeat' apply And.intro
    all_goals first | exact True.intro | with_reducible rfl | omega | (intros; rfl) | (simp_all; done) | rfl

theorem sdfe_p0 (r : RF) (n M : Nat) (I : List Nat) (i : Nat) :
    isMore (evTill Tryd.prog sumsSD 500 (behind Tryd.f36 0) 900 36 (headOf Tryd.f36 0) (envAt Tryd.f36.ntmps ([(3, vP 101), (8, vL 104 13 I.length), (9, vN I.length), (10, vN (i : Nat))])) (enE false 61 71 r M ++ (bdF 101 ++ enE true 104 71 (r.sel I) I.length)) ⟨[.s true, .s true, .s true, .s true, .s true], 110⟩) (moreP (headOf Tryd.f36 0) ([]) Tryd.f36.ntmps ([(3, vP 101), (8, vL 104 13 I.length), (9, vN I.length), (10, vN (i + 1 : Nat))]) (bdU 101 ++ enE true 104 71 (r.sel I) I.length) 900) =
    (OkL [(decide ((↑i : Int) < (↑I.length : Int)), true), (decide ((0 : Int) ≤ (↑i : Int) ∧ (↑i : Int) < (↑I.length : Int)), true), (((0 : Nat) + (↑i : Int).toNat).blt I.length, true), (((0 : Nat) + (↑i : Int).toNat).blt I.length, true), ((ixI I r.4 [(0 : Nat) + (↑i : Int).toNat]).length.beq (0 : Nat), true)] ∧ headOf Tryd.f36 (0 : Nat) = headOf Tryd.f36 (0 : Nat) ∧ ((0 : Nat) = (0 : Nat) ∧ ((0 : Nat) = (0 : Nat) ∧ I.length = I.length) ∧ (↑I.length : Int) = (↑I.length : Int) ∧ (↑(i + (1 : Nat)) : Int) = IntKind.i64.wrap ((↑i : Int) + (1 : Int))) ∧ ((0 : Nat) = (0 : Nat) ∧ True) ∧ I.length = I.length ∧ (∀ (i : Nat), i < I.length → ixI I r.1 [i] = ixI I r.1 [i]) ∧ (∀ (i : Nat), i < I.length → ixI I r.2 [i] = ixI I r.2 [i]) ∧ (∀ (i : Nat), i < I.length → ixI I r.3 [i] = ixI I r.3 [i]) ∧ (∀ (i : Nat), i < I.length → ixI I r.4 [i] = ixI I r.4 [i]) ∧ ((∀ (i : Nat), i < I.length → ixI I r.5 [i] = ixI I r.5 [i]) ∧ ∀ (i : Nat), i < I.length → ixI I r.6 [i] = ixI I r.6 [i]) ∧ ((∀ (i : Nat), i < I.length → ixI I r.7 [i] = ixI I r.7 [i]) ∧ (∀ (i : Nat), i < I.length → ixI I r.8 [i] = ixI I r.8 [i]) ∧ (∀ (i : Nat), i < I.length → ixI I r.9 [i] = ixI I r.9 [i]) ∧ (∀ (i : Nat), i < I.length → ixI I r.10 [i] = ixI I r.10 [i]) ∧ ∀ (i : Nat), i < I.length → ixI I r.11 [i] = ixI I r.11 [i]) ∧ (∀ (i : Nat), i < I.length → ixI I r.12 [i] = ixI I r.12 [i]) ∧ (∀ (i : Nat), i < I.length → ixI I r.13 [i] = ixI I r.13 [i]) ∧ ∀ (i : Nat), i < I.length → ixI I r.14 [i] = ixI I r.14 [i]) := by kernel_rfl

set_option maxHeartbeats 4000000 in
theorem sdfe (r : RF) (n M : Nat) (I : List Nat) (i : Nat) (hi : i < I.length) (hn : I.length ≤ 1000) (hx : ixI I r.X [i] = [])  (v : SV) (L' : HF) (next : RunsTo Tryd.prog 36 (headOf Tryd.f36 0) (envAt Tryd.f36.ntmps ([(3, vP 101), (8, vL 104 13 I.length), (9, vN I.length), (10, vN (i + 1 : Nat))])) (Sx.look (enE false 61 71 r M ++ (bdU 101 ++ enE true 104 71 (r.sel I) I.length))) 80 (v) (L') 900) :
    RunsTo Tryd.prog 36 (headOf Tryd.f36 0) (envAt Tryd.f36.ntmps ([(3, vP 101), (8, vL 104 13 I.length), (9, vN I.length), (10, vN (i : Nat))])) (Sx.look (enE false 61 71 r M ++ (bdF 101 ++ enE true 104 71 (r.sel I) I.length))) 80 (v) (L') 900 := by
  have hw : IntKind.i64.wrap ((i : Int) + 1) = ((i + 1 : Nat) : Int) := by rw [wr64 (by omega)]; rfl
  refine runs_more baseSD (More.of (sdfe_p0 r n M I i) ⟨?oo, rfl, ?rr⟩) (by kernel_rfl) (by kernel_rfl) rfl (gtL (by decide)) (by decide) next
  case oo =>
    clear next
    refine (okc ?_ (okc ?_ (okc ?_ (okc ?_ (okc ?_ okn)))))
    all_goals ((try simp (disch := omega) only [SS, hw, hx, List.length_nil]); first | done | omega | assumption | (simp (disch := omega) only [SS, hw, hx, List.length_nil] at *; first | done | omega | assumption) | (simp_all; done))
  case rr =>
    clear next
    try simp (disch := omega) only [SS, hw, hx, List.length_nil]
    repeat' apply And.intro
    all_goals first | exact True.intro | with_reducible rfl | omega | (intros; first | exact True.intro | with_reducible rfl | omega | (simp_all; done)) | (simp_all; done) | rfl

theorem sdee_p0 (r : RF) (n M : Nat) (I : List Nat) (i : Nat) :
    isMore (evTill Tryd.prog sumsSD 500 (behind Tryd.f36 0) 900 36 (headOf Tryd.f36 0) (envAt Tryd.f36.ntmps ([(3, vP 101), (8, vL 104 13 I.length), (9, vN I.length), (10, vN (i : Nat))])) (enE false 61 71 r M ++ (bdU 101 ++ enE true 104 71 (r.sel I) I.length)) ⟨[.s true, .s true, .s true, .s true, .s true], 110⟩) (moreP (headOf Tryd.f36 0) ([]) Tryd.f36.ntmps ([(3, vP 101), (8, vL 104 13 I.length), (9, vN I.length), (10, vN (i + 1 : Nat))]) (bdU 101 ++ enE true 104 71 (r.sel I) I.length) 900) =
    (OkL [(decide ((↑i : Int) < (↑I.length : Int)), true), (decide ((0 : Int) ≤ (↑i : Int) ∧ (↑i : Int) < (↑I.length : Int)), true), (((0 : Nat) + (↑i : Int).toNat).blt I.length, true), (((0 : Nat) + (↑i : Int).toNat).blt I.length, true), ((ixI I r.4 [(0 : Nat) + (↑i : Int).toNat]).length.beq (0 : Nat), true)] ∧ headOf Tryd.f36 (0 : Nat) = headOf Tryd.f36 (0 : Nat) ∧ ((0 : Nat) = (0 : Nat) ∧ ((0 : Nat) = (0 : Nat) ∧ I.length = I.length) ∧ (↑I.length : Int) = (↑I.length : Int) ∧ (↑(i + (1 : Nat)) : Int) = IntKind.i64.wrap ((↑i : Int) + (1 : Int))) ∧ ((0 : Nat) = (0 : Nat) ∧ True) ∧ I.length = I.length ∧ (∀ (i : Nat), i < I.length → ixI I r.1 [i] = ixI I r.1 [i]) ∧ (∀ (i : Nat), i < I.length → ixI I r.2 [i] = ixI I r.2 [i]) ∧ (∀ (i : Nat), i < I.length → ixI I r.3 [i] = ixI I r.3 [i]) ∧ (∀ (i : Nat), i < I.length → ixI I r.4 [i] = ixI I r.4 [i]) ∧ ((∀ (i : Nat), i < I.length → ixI I r.5 [i] = ixI I r.5 [i]) ∧ ∀ (i : Nat), i < I.length → ixI I r.6 [i] = ixI I r.6 [i]) ∧ ((∀ (i : Nat), i < I.length → ixI I r.7 [i] = ixI I r.7 [i]) ∧ (∀ (i : Nat), i < I.length → ixI I r.8 [i] = ixI I r.8 [i]) ∧ (∀ (i : Nat), i < I.length → ixI I r.9 [i] = ixI I r.9 [i]) ∧ (∀ (i : Nat), i < I.length → ixI I r.10 [i] = ixI I r.10 [i]) ∧ ∀ (i : Nat), i < I.length → ixI I r.11 [i] = ixI I r.11 [i]) ∧ (∀ (i : Nat), i < I.length → ixI I r.12 [i] = ixI I r.12 [i]) ∧ (∀ (i : Nat), i < I.length → ixI I r.13 [i] = ixI I r.13 [i]) ∧ ∀ (i : Nat), i < I.length → ixI I r.14 [i] = ixI I r.14 [i]) := by kernel_rfl

set_option maxHeartbeats 4000000 in
theorem sdee (r : RF) (n M : Nat) (I : List Nat) (i : Nat) (hi : i < I.length) (hn : I.length ≤ 1000) (hx : ixI I r.X [i] = [])  (v : SV) (L' : HF) (next : RunsTo Tryd.prog 36 (headOf Tryd.f36 0) (envAt Tryd.f36.ntmps ([(3, vP 101), (8, vL 104 13 I.length), (9, vN I.length), (10, vN (i + 1 : Nat))])) (Sx.look (enE false 61 71 r M ++ (bdU 101 ++ enE true 104 71 (r.sel I) I.length))) 80 (v) (L') 900) :
    RunsTo Tryd.prog 36 (headOf Tryd.f36 0) (envAt Tryd.f36.ntmps ([(3, vP 101), (8, vL 104 13 I.length), (9, vN I.length), (10, vN (i : Nat))])) (Sx.look (enE false 61 71 r M ++ (bdU 101 ++ enE true 104 71 (r.sel I) I.length))) 80 (v) (L') 900 := by
  have hw : IntKind.i64.wrap ((i : Int) + 1) = ((i + 1 : Nat) : Int) := by rw [wr64 (by omega)]; rfl
  refine runs_more baseSD (More.of (sdee_p0 r n M I i) ⟨?oo, rfl, ?rr⟩) (by kernel_rfl) (by kernel_rfl) rfl (gtL (by decide)) (by decide) next
  case oo =>
    clear next
    refine (okc ?_ (okc ?_ (okc ?_ (okc ?_ (okc ?_ okn)))))
    all_goals ((try simp (disch := omega) only [SS, hw, hx, List.length_nil]); first | done | omega | assumption | (simp (disch := omega) only [SS, hw, hx, List.length_nil] at *; first | done | omega | assumption) | (simp_all; done))
  case rr =>
    clear next
    try simp (disch := omega) only [SS, hw, hx, List.length_nil]
    repeat' apply And.intro
    all_goals first | exact True.intro | with_reducible rfl | omega | (intros; first | exact True.intro | with_reducible rfl | omega | (simp_all; done)) | (simp_all; done) | rfl

theorem sdfu_p0 (r : RF) (n M : Nat) (I : List Nat) (i : Nat) (x : List UInt8) :
    isMore (evTill Tryd.prog sumsSD 500 (behind Tryd.f36 0) 900 36 (headOf Tryd.f36 0) (envAt Tryd.f36.ntmps ([(3, vP 101), (8, vL 104 13 I.length), (9, vN I.length), (10, vN (i : Nat))])) (enE false 61 71 r M ++ (bdF 101 ++ enE true 104 71 (r.sel I) I.length)) ⟨[.s true, .s true, .s true, .s true, .s false, .s true], 110⟩) (moreP (headOf Tryd.f36 0) ([((102 : Nat), Rn.to (111 : Nat))]) Tryd.f36.ntmps ([(3, vP 101), (8, vL 104 13 I.length), (9, vN I.length), (10, vN (i + 1 : Nat))]) (bdT 101 102 (x) ++ enE true 104 71 (r.sel I) I.length) 900) =
    (OkL [(decide ((↑i : Int) < (↑I.length : Int)), true), (decide ((0 : Int) ≤ (↑i : Int) ∧ (↑i : Int) < (↑I.length : Int)), true), (((0 : Nat) + (↑i : Int).toNat).blt I.length, true), (((0 : Nat) + (↑i : Int).toNat).blt I.length, true), ((ixI I r.4 [(0 : Nat) + (↑i : Int).toNat]).length.beq (0 : Nat), false), (decide (((2 : Nat) * (ixI I r.4 [(0 : Nat) + (↑i : Int).toNat]).length + (192 : Nat)) * (1 : Nat) ≤ (281474976710656 : Nat)), true)] ∧ headOf Tryd.f36 (0 : Nat) = headOf Tryd.f36 (0 : Nat) ∧ ((0 : Nat) = (0 : Nat) ∧ ((0 : Nat) = (0 : Nat) ∧ I.length = I.length) ∧ (↑I.length : Int) = (↑I.length : Int) ∧ (↑(i + (1 : Nat)) : Int) = IntKind.i64.wrap ((↑i : Int) + (1 : Int))) ∧ ((0 : Nat) = (0 : Nat) ∧ (0 : Nat) = (0 : Nat) ∧ x.length = (ixI I r.4 [(0 : Nat) + (↑i : Int).toNat]).length) ∧ (x.length = (ixI I r.4 [(0 : Nat) + (↑i : Int).toNat]).length ∧ ∀ (i_1 : Nat), i_1 < x.length → (↑(x.getD i_1 (0 : UInt8)).toNat : Int) = (↑((ixI I r.4 [(0 : Nat) + (↑i : Int).toNat]).getD i_1 (0 : UInt8)).toNat : Int)) ∧ I.length = I.length ∧ (∀ (i : Nat), i < I.length → ixI I r.1 [i] = ixI I r.1 [i]) ∧ (∀ (i : Nat), i < I.length → ixI I r.2 [i] = ixI I r.2 [i]) ∧ (∀ (i : Nat), i < I.length → ixI I r.3 [i] = ixI I r.3 [i]) ∧ (∀ (i : Nat), i < I.length → ixI I r.4 [i] = ixI I r.4 [i]) ∧ ((∀ (i : Nat), i < I.length → ixI I r.5 [i] = ixI I r.5 [i]) ∧ ∀ (i : Nat), i < I.length → ixI I r.6 [i] = ixI I r.6 [i]) ∧ ((∀ (i : Nat), i < I.length → ixI I r.7 [i] = ixI I r.7 [i]) ∧ (∀ (i : Nat), i < I.length → ixI I r.8 [i] = ixI I r.8 [i]) ∧ (∀ (i : Nat), i < I.length → ixI I r.9 [i] = ixI I r.9 [i]) ∧ (∀ (i : Nat), i < I.length → ixI I r.10 [i] = ixI I r.10 [i]) ∧ ∀ (i : Nat), i < I.length → ixI I r.11 [i] = ixI I r.11 [i]) ∧ (∀ (i : Nat), i < I.length → ixI I r.12 [i] = ixI I r.12 [i]) ∧ (∀ (i : Nat), i < I.length → ixI I r.13 [i] = ixI I r.13 [i]) ∧ ∀ (i : Nat), i < I.length → ixI I r.14 [i] = ixI I r.14 [i]) := by kernel_rfl

set_option maxHeartbeats 4000000 in
theorem sdfu (r : RF) (n M : Nat) (I : List Nat) (i : Nat) (x : List UInt8) (hi : i < I.length) (hn : I.length ≤ 1000) (hx : ixI I r.X [i] = x) (h0 : 0 < x.length) (h1 : x.length ≤ 100000)  (v : SV) (L' : HF) (next : RunsTo Tryd.prog 36 (headOf Tryd.f36 0) (envAt Tryd.f36.ntmps ([(3, vP 101), (8, vL 104 13 I.length), (9, vN I.length), (10, vN (i + 1 : Nat))])) (Sx.look (enE false 61 71 r M ++ (bdT 101 102 (x) ++ enE true 104 71 (r.sel I) I.length))) 80 (v) (L') 900) :
    RunsTo Tryd.prog 36 (headOf Tryd.f36 0) (envAt Tryd.f36.ntmps ([(3, vP 101), (8, vL 104 13 I.length), (9, vN I.length), (10, vN (i : Nat))])) (Sx.look (enE false 61 71 r M ++ (bdF 101 ++ enE true 104 71 (r.sel I) I.length))) 80 (v) (L') 900 := by
  have hw : IntKind.i64.wrap ((i : Int) + 1) = ((i + 1 : Nat) : Int) := by rw [wr64 (by omega)]; rfl
  refine runs_more baseSD (More.of (sdfu_p0 r n M I i x) ⟨?oo, rfl, ?rr⟩) (by kernel_rfl) (by kernel_rfl) rfl (gtL (by decide)) (by decide) next
  case oo =>
    clear next
    refine (okc ?_ (okc ?_ (okc ?_ (okc ?_ (okc ?_ (okc ?_ okn))))))
    all_goals first | omega | (simp (disch := omega) only [SS, hw, hx]; first | done | omega | assumption) | (simp_all; done) | (simp_all; omega)
  case rr =>
    clear next
    try simp (disch := omega) only [SS, hw, hx, Go.Sx.sum, Nat.zero_add, List.length_append]
    repeat' apply And.intro
    all_goals first | exact True.intro | with_reducible rfl | omega | (intro k hk; exact hap k (by simpa using hk)) | (intro k hk; rfl) | (intros; first | rfl | (simp_all; done)) | (simp_all; done) | rfl

theorem sdeu_p0 (r : RF) (n M : Nat) (I : List Nat) (i : Nat) (x : List UInt8) :
    isMore (evTill Tryd.prog sumsSD 500 (behind Tryd.f36 0) 900 36 (headOf Tryd.f36 0) (envAt Tryd.f36.ntmps ([(3, vP 101), (8, vL 104 13 I.length), (9, vN I.length), (10, vN (i : Nat))])) (enE false 61 71 r M ++ (bdU 101 ++ enE true 104 71 (r.sel I) I.length)) ⟨[.s true, .s true, .s true, .s true, .s false, .s true], 110⟩) (moreP (headOf Tryd.f36 0) ([((102 : Nat), Rn.to (111 : Nat))]) Tryd.f36.ntmps ([(3, vP 101), (8, vL 104 13 I.length), (9, vN I.length), (10, vN (i + 1 : Nat))]) (bdT 101 102 (x) ++ enE true 104 71 (r.sel I) I.length) 900) =
    (OkL [(decide ((↑i : Int) < (↑I.length : Int)), true), (decide ((0 : Int) ≤ (↑i : Int) ∧ (↑i : Int) < (↑I.length : Int)), true), (((0 : Nat) + (↑i : Int).toNat).blt I.length, true), (((0 : Nat) + (↑i : Int).toNat).blt I.length, true), ((ixI I r.4 [(0 : Nat) + (↑i : Int).toNat]).length.beq (0 : Nat), false), (decide (((2 : Nat) * (ixI I r.4 [(0 : Nat) + (↑i : Int).toNat]).length + (192 : Nat)) * (1 : Nat) ≤ (281474976710656 : Nat)), true)] ∧ headOf Tryd.f36 (0 : Nat) = headOf Tryd.f36 (0 : Nat) ∧ ((0 : Nat) = (0 : Nat) ∧ ((0 : Nat) = (0 : Nat) ∧ I.length = I.length) ∧ (↑I.length : Int) = (↑I.length : Int) ∧ (↑(i + (1 : Nat)) : Int) = IntKind.i64.wrap ((↑i : Int) + (1 : Int))) ∧ ((0 : Nat) = (0 : Nat) ∧ (0 : Nat) = (0 : Nat) ∧ x.length = (ixI I r.4 [(0 : Nat) + (↑i : Int).toNat]).length) ∧ (x.length = (ixI I r.4 [(0 : Nat) + (↑i : Int).toNat]).length ∧ ∀ (i_1 : Nat), i_1 < x.length → (↑(x.getD i_1 (0 : UInt8)).toNat : Int) = (↑((ixI I r.4 [(0 : Nat) + (↑i : Int).toNat]).getD i_1 (0 : UInt8)).toNat : Int)) ∧ I.length = I.length ∧ (∀ (i : Nat), i < I.length → ixI I r.1 [i] = ixI I r.1 [i]) ∧ (∀ (i : Nat), i < I.length → ixI I r.2 [i] = ixI I r.2 [i]) ∧ (∀ (i : Nat), i < I.length → ixI I r.3 [i] = ixI I r.3 [i]) ∧ (∀ (i : Nat), i < I.length → ixI I r.4 [i] = ixI I r.4 [i]) ∧ ((∀ (i : Nat), i < I.length → ixI I r.5 [i] = ixI I r.5 [i]) ∧ ∀ (i : Nat), i < I.length → ixI I r.6 [i] = ixI I r.6 [i]) ∧ ((∀ (i : Nat), i < I.length → ixI I r.7 [i] = ixI I r.7 [i]) ∧ (∀ (i : Nat), i < I.length → ixI I r.8 [i] = ixI I r.8 [i]) ∧ (∀ (i : Nat), i < I.length → ixI I r.9 [i] = ixI I r.9 [i]) ∧ (∀ (i : Nat), i < I.length → ixI I r.10 [i] = ixI I r.10 [i]) ∧ ∀ (i : Nat), i < I.length → ixI I r.11 [i] = ixI I r.11 [i]) ∧ (∀ (i : Nat), i < I.length → ixI I r.12 [i] = ixI I r.12 [i]) ∧ (∀ (i : Nat), i < I.length → ixI I r.13 [i] = ixI I r.13 [i]) ∧ ∀ (i : Nat), i < I.length → ixI I r.14 [i] = ixI I r.14 [i]) := by kernel_rfl

set_option maxHeartbeats 4000000 in
theorem sdeu (r : RF) (n M : Nat) (I : List Nat) (i : Nat) (x : List UInt8) (hi : i < I.length) (hn : I.length ≤ 1000) (hx : ixI I r.X [i] = x) (h0 : 0 < x.length) (h1 : x.length ≤ 100000)  (v : SV) (L' : HF) (next : RunsTo Tryd.prog 36 (headOf Tryd.f36 0) (envAt Tryd.f36.ntmps ([(3, vP 101), (8, vL 104 13 I.length), (9, vN I.length), (10, vN (i + 1 : Nat))])) (Sx.look (enE false 61 71 r M ++ (bdT 101 102 (x) ++ enE true 104 71 (r.sel I) I.length))) 80 (v) (L') 900) :
    RunsTo Tryd.prog 36 (headOf Tryd.f36 0) (envAt Tryd.f36.ntmps ([(3, vP 101), (8, vL 104 13 I.length), (9, vN I.length), (10, vN (i : Nat))])) (Sx.look (enE false 61 71 r M ++ (bdU 101 ++ enE true 104 71 (r.sel I) I.length))) 80 (v) (L') 900 := by
  have hw : IntKind.i64.wrap ((i : Int) + 1) = ((i + 1 : Nat) : Int) := by rw [wr64 (by omega)]; rfl
  refine runs_more baseSD (More.of (sdeu_p0 r n M I i x) ⟨?oo, rfl, ?rr⟩) (by kernel_rfl) (by kernel_rfl) rfl (gtL (by decide)) (by decide) next
  case oo =>
    clear next
    refine (okc ?_ (okc ?_ (okc ?_ (okc ?_ (okc ?_ (okc ?_ okn))))))
    all_goals first | omega | (simp (disch := omega) only [SS, hw, hx]; first | done | omega | assumption) | (simp_all; done) | (simp_all; omega)
  case rr =>
    clear next
    try simp (disch := omega) only [SS, hw, hx, Go.Sx.sum, Nat.zero_add, List.length_append]
    repeat' apply And.intro
    all_goals first | exact True.intro | with_reducible rfl | omega | (intro k hk; exact hap k (by simpa using hk)) | (intro k hk; rfl) | (intros; first | rfl | (simp_all; done)) | (simp_all; done) | rfl

theorem sduu_p0 (r : RF) (n M : Nat) (I : List Nat) (i : Nat) (o x : List UInt8) :
    isMore (evTill Tryd.prog sumsSD 500 (behind Tryd.f36 0) 900 36 (headOf Tryd.f36 0) (envAt Tryd.f36.ntmps ([(3, vP 101), (8, vL 104 13 I.length), (9, vN I.length), (10, vN (i : Nat))])) (enE false 61 71 r M ++ (bdT 101 102 (o) ++ enE true 104 71 (r.sel I) I.length)) ⟨[.s true, .s true, .s true, .s true, .s true, .s true], 110⟩) (moreP (headOf Tryd.f36 0) ([((102 : Nat), Rn.to (111 : Nat))]) Tryd.f36.ntmps ([(3, vP 101), (8, vL 104 13 I.length), (9, vN I.length), (10, vN (i + 1 : Nat))]) (bdT 101 102 (o ++ x) ++ enE true 104 71 (r.sel I) I.length) 900) =
    (OkL [(decide ((↑i : Int) < (↑I.length : Int)), true), (decide ((0 : Int) ≤ (↑i : Int) ∧ (↑i : Int) < (↑I.length : Int)), true), (((0 : Nat) + (↑i : Int).toNat).blt I.length, true), (((0 : Nat) + (↑i : Int).toNat).blt I.length, true), (((0 : Nat) + o.length).ble o.length, true), (decide (((2 : Nat) * (o.length + (ixI I r.4 [(0 : Nat) + (↑i : Int).toNat]).length) + (192 : Nat)) * (1 : Nat) ≤ (281474976710656 : Nat)), true)] ∧ headOf Tryd.f36 (0 : Nat) = headOf Tryd.f36 (0 : Nat) ∧ ((0 : Nat) = (0 : Nat) ∧ ((0 : Nat) = (0 : Nat) ∧ I.length = I.length) ∧ (↑I.length : Int) = (↑I.length : Int) ∧ (↑(i + (1 : Nat)) : Int) = IntKind.i64.wrap ((↑i : Int) + (1 : Int))) ∧ ((0 : Nat) = (0 : Nat) ∧ (0 : Nat) = (0 : Nat) ∧ (o ++ x).length = o.length + (ixI I r.4 [(0 : Nat) + (↑i : Int).toNat]).length) ∧ ((o ++ x).length = o.length + (ixI I r.4 [(0 : Nat) + (↑i : Int).toNat]).length ∧ ∀ (i_1 : Nat), i_1 < (o ++ x).length → (↑((o ++ x).getD i_1 (0 : UInt8)).toNat : Int) = appF o.length (0 : Nat) (fun is => (↑(o.getD (List.headD is (0 : Nat)) (0 : UInt8)).toNat : Int)) (fun is => (↑((ixI I r.4 [(0 : Nat) + (↑i : Int).toNat]).getD (List.headD is (0 : Nat)) (0 : UInt8)).toNat : Int)) [i_1]) ∧ I.length = I.length ∧ (∀ (i : Nat), i < I.length → ixI I r.1 [i] = ixI I r.1 [i]) ∧ (∀ (i : Nat), i < I.length → ixI I r.2 [i] = ixI I r.2 [i]) ∧ (∀ (i : Nat), i < I.length → ixI I r.3 [i] = ixI I r.3 [i]) ∧ (∀ (i : Nat), i < I.length → ixI I r.4 [i] = ixI I r.4 [i]) ∧ ((∀ (i : Nat), i < I.length → ixI I r.5 [i] = ixI I r.5 [i]) ∧ ∀ (i : Nat), i < I.length → ixI I r.6 [i] = ixI I r.6 [i]) ∧ ((∀ (i : Nat), i < I.length → ixI I r.7 [i] = ixI I r.7 [i]) ∧ (∀ (i : Nat), i < I.length → ixI I r.8 [i] = ixI I r.8 [i]) ∧ (∀ (i : Nat), i < I.length → ixI I r.9 [i] = ixI I r.9 [i]) ∧ (∀ (i : Nat), i < I.length → ixI I r.10 [i] = ixI I r.10 [i]) ∧ ∀ (i : Nat), i < I.length → ixI I r.11 [i] = ixI I r.11 [i]) ∧ (∀ (i : Nat), i < I.length → ixI I r.12 [i] = ixI I r.12 [i]) ∧ (∀ (i : Nat), i < I.length → ixI I r.13 [i] = ixI I r.13 [i]) ∧ ∀ (i : Nat), i < I.length → ixI I r.14 [i] = ixI I r.14 [i]) := by kernel_rfl

set_option maxHeartbeats 4000000 in
theorem sduu (r : RF) (n M : Nat) (I : List Nat) (i : Nat) (o x : List UInt8) (hi : i < I.length) (hn : I.length ≤ 1000) (hx : ixI I r.X [i] = x) (h1 : x.length ≤ 100000) (ho : o.length ≤ 500000)  (v : SV) (L' : HF) (next : RunsTo Tryd.prog 36 (headOf Tryd.f36 0) (envAt Tryd.f36.ntmps ([(3, vP 101), (8, vL 104 13 I.length), (9, vN I.length), (10, vN (i + 1 : Nat))])) (Sx.look (enE false 61 71 r M ++ (bdT 101 102 (o ++ x) ++ enE true 104 71 (r.sel I) I.length))) 80 (v) (L') 900) :
    RunsTo Tryd.prog 36 (headOf Tryd.f36 0) (envAt Tryd.f36.ntmps ([(3, vP 101), (8, vL 104 13 I.length), (9, vN I.length), (10, vN (i : Nat))])) (Sx.look (enE false 61 71 r M ++ (bdT 101 102 (o) ++ enE true 104 71 (r.sel I) I.length))) 80 (v) (L') 900 := by
  have hw : IntKind.i64.wrap ((i : Int) + 1) = ((i + 1 : Nat) : Int) := by rw [wr64 (by omega)]; rfl
  have hap := app_bytes o x (fun is => ((x.getD (is.headD 0) 0).toNat : Int)) (fun j hj => rfl)
  refine runs_more baseSD (More.of (sduu_p0 r n M I i o x) ⟨?oo, rfl, ?rr⟩) (by kernel_rfl) (by kernel_rfl) rfl (gtL (by decide)) (by decide) next
  case oo =>
    clear next
    refine (okc ?_ (okc ?_ (okc ?_ (okc ?_ (okc ?_ (okc ?_ okn))))))
    all_goals first | omega | (simp (disch := omega) only [SS, hw, hx]; first | done | omega | assumption) | (simp_all; done) | (simp_all; omega)
  case rr =>
    clear next
    try simp (disch := omega) only [SS, hw, hx, Go.Sx.sum, Nat.zero_add, List.length_append]
    repeat' apply And.intro
    all_goals first | exact True.intro | with_reducible rfl | omega | (intro k hk; exact hap k (by simpa using hk)) | (intro k hk; rfl) | (intros; first | rfl | (simp_all; done)) | (simp_all; done) | rfl

theorem sdF_p0 (r : RF) (n M : Nat) (I : List Nat) (i : Nat) :
    isEnd (evTill Tryd.prog sumsSD 500 (99) 900 36 (headOf Tryd.f36 0) (envAt Tryd.f36.ntmps ([(3, vP 101), (8, vL 104 13 I.length), (9, vN I.length), (10, vN (i : Nat))])) (enE false 61 71 r M ++ (bdF 101 ++ enE true 104 71 (r.sel I) I.length)) ⟨[.s false], 110⟩) (endP ([]) (vS []) ([]) 900) =
    (OkL [(decide ((↑i : Int) < (↑I.length : Int)), false)] ∧ ([] : List UInt8) = [] ∧ True) := by kernel_rfl

set_option maxHeartbeats 4000000 in
theorem sdF (r : RF) (n M : Nat) (I : List Nat) (i : Nat) (hi : i = I.length)  :
    RunsTo Tryd.prog 36 (headOf Tryd.f36 0) (envAt Tryd.f36.ntmps ([(3, vP 101), (8, vL 104 13 I.length), (9, vN I.length), (10, vN (i : Nat))])) (Sx.look (enE false 61 71 r M ++ (bdF 101 ++ enE true 104 71 (r.sel I) I.length))) 80 (vS []) (Sx.look ([])) 900 := by
  refine runs_last baseSD (Sx.Ends.of (sdF_p0 r n M I i) ⟨?oo, ?rr⟩) (by kernel_rfl) rfl (gtL (by decide)) (by decide)
  case oo =>
    refine (okc ?_ okn)
    all_goals ((try simp (disch := omega) only [SS]); first | done | omega | assumption | (simp (disch := omega) only [SS] at *; first | done | omega | assumption) | (simp_all; done))
  case rr =>
    try simp (disch := omega) only [SS]
    repeat' apply And.intro
    all_goals first | exact True.intro | with_reducible rfl | omega | (intros; first | exact True.intro | with_reducible rfl | omega | (simp_all; done)) | (simp_all; done) | rfl

theorem sdE_p0 (r : RF) (n M : Nat) (I : List Nat) (i : Nat) :
    isEnd (evTill Tryd.prog sumsSD 500 (99) 900 36 (headOf Tryd.f36 0) (envAt Tryd.f36.ntmps ([(3, vP 101), (8, vL 104 13 I.length), (9, vN I.length), (10, vN (i : Nat))])) (enE false 61 71 r M ++ (bdU 101 ++ enE true 104 71 (r.sel I) I.length)) ⟨[.s false], 110⟩) (endP ([]) (vS []) ([]) 900) =
    (OkL [(decide ((↑i : Int) < (↑I.length : Int)), false)] ∧ ([] : List UInt8) = [] ∧ True) := by kernel_rfl

set_option maxHeartbeats 4000000 in
theorem sdE (r : RF) (n M : Nat) (I : List Nat) (i : Nat) (hi : i = I.length)  :
    RunsTo Tryd.prog 36 (headOf Tryd.f36 0) (envAt Tryd.f36.ntmps ([(3, vP 101), (8, vL 104 13 I.length), (9, vN I.length), (10, vN (i : Nat))])) (Sx.look (enE false 61 71 r M ++ (bdU 101 ++ enE true 104 71 (r.sel I) I.length))) 80 (vS []) (Sx.look ([])) 900 := by
  refine runs_last baseSD (Sx.Ends.of (sdE_p0 r n M I i) ⟨?oo, ?rr⟩) (by kernel_rfl) rfl (gtL (by decide)) (by decide)
  case oo =>
    refine (okc ?_ okn)
    all_goals ((try simp (disch := omega) only [SS]); first | done | omega | assumption | (simp (disch := omega) only [SS] at *; first | done | omega | assumption) | (simp_all; done))
  case rr =>
    try simp (disch := omega) only [SS]
    repeat' apply And.intro
    all_goals first | exact True.intro | with_reducible rfl | omega | (intros; first | exact True.intro | with_reducible rfl | omega | (simp_all; done)) | (simp_all; done) | rfl

theorem sdU_p0 (r : RF) (n M : Nat) (I : List Nat) (i : Nat) (o : List UInt8) :
    isEnd (evTill Tryd.prog sumsSD 500 (99) 900 36 (headOf Tryd.f36 0) (envAt Tryd.f36.ntmps ([(3, vP 101), (8, vL 104 13 I.length), (9, vN I.length), (10, vN (i : Nat))])) (enE false 61 71 r M ++ (bdT 101 102 (o) ++ enE true 104 71 (r.sel I) I.length)) ⟨[.s false, .s true, .s true, .s true], 110⟩) (endP ([]) (vS o) ([]) 900) =
    (OkL [(decide ((↑i : Int) < (↑I.length : Int)), false), (Nat.blt (0 : Nat) o.length, true), (o.length.ble o.length, true), (o.length.ble (1000000 : Nat), true)] ∧ o = bytesOf (fun is => (↑(o.getD (List.headD is (0 : Nat)) (0 : UInt8)).toNat : Int)) [] (0 : Nat) o.length ∧ True) := by kernel_rfl

set_option maxHeartbeats 4000000 in
theorem sdU (r : RF) (n M : Nat) (I : List Nat) (i : Nat) (o : List UInt8) (hi : i = I.length) (h0 : 0 < o.length) (ho : o.length ≤ 500000)  :
    RunsTo Tryd.prog 36 (headOf Tryd.f36 0) (envAt Tryd.f36.ntmps ([(3, vP 101), (8, vL 104 13 I.length), (9, vN I.length), (10, vN (i : Nat))])) (Sx.look (enE false 61 71 r M ++ (bdT 101 102 (o) ++ enE true 104 71 (r.sel I) I.length))) 80 (vS o) (Sx.look ([])) 900 := by
  refine runs_last baseSD (Sx.Ends.of (sdU_p0 r n M I i o) ⟨?oo, ?rr⟩) (by kernel_rfl) rfl (gtL (by decide)) (by decide)
  case oo =>
    refine (okc ?_ (okc ?_ (okc ?_ (okc ?_ okn))))
    all_goals ((try simp (disch := omega) only [SS]); first | done | omega | assumption | (simp (disch := omega) only [SS] at *; first | done | omega | assumption) | (simp_all; done))
  case rr =>
    refine ⟨?_, trivial⟩
    exact (bytes_is rfl (fun j hj => rfl)).symm

theorem sdRun (r : RF) (n M : Nat) (I : List Nat) (hn : n ≤ 1000) (hM : n ≤ M) (hI : onI 1 (fun _ => 1) r.K n = I) (hx : lowX r.X n = true) : RunsTo Tryd.prog 36 [.code (bodyOf Tryd.f36)] (envOf [vL 61 13 n] Tryd.f36.ntmps) (Sx.look (enE false 61 71 r M ++ ([]))) 80 (vS (sdT r.X I I.length)) (Sx.look []) 900 := by
  have hlt : ∀ i ∈ I, i < n := by rw [← hI]; exact onI_lt
  have hIl : I.length ≤ n := by rw [← hI]; exact onI_len _ _ _ _
  have hX : ∀ i, i < I.length → (ixI I r.X [i]).length ≤ 500 := fun i hi => by
    show (r.X [I.getD i 0]).length ≤ 500
    refine lowX_at hx (hlt _ ?_)
    rw [List.getD_eq_getElem?_getD, List.getElem?_eq_getElem hi]; exact List.getElem_mem _
  have hU : ∀ k i, i + k = I.length → sdT r.X I i ≠ [] → RunsTo Tryd.prog 36 (headOf Tryd.f36 0) (envAt Tryd.f36.ntmps ([(3, vP 101), (8, vL 104 13 I.length), (9, vN I.length), (10, vN (i : Nat))])) (Sx.look (enE false 61 71 r M ++ (bdT 101 102 (sdT r.X I i) ++ enE true 104 71 (r.sel I) I.length))) 80 (vS (sdT r.X I I.length)) (Sx.look []) 900 := by
    intro k
    induction k with
    | zero =>
      intro i hi h0
      have hl := sdT_len hx I hlt i (by omega)
      have e : i = I.length := by omega
      subst e
      exact sdU r n M I _ _ rfl (List.length_pos_iff.2 h0) (by omega)
    | succ k ih =>
      intro i hi h0
      have hl := sdT_len hx I hlt i (by omega)
      have := hX i (by omega)
      refine sduu r n M I i _ _ (by omega) (by omega) rfl (by omega) (by omega) _ _ ?_
      exact ih (i + 1) (by omega) (by rw [sdT]; simp [h0])
  have step : ∀ i, i < I.length → sdT r.X I i = [] → (r.X [I.getD i 0] ≠ []) → sdT r.X I (i + 1) = r.X [I.getD i 0] := fun i _ h0 _ => by rw [sdT, h0, List.nil_append]
  have hE : ∀ k i, i + k = I.length → sdT r.X I i = [] → RunsTo Tryd.prog 36 (headOf Tryd.f36 0) (envAt Tryd.f36.ntmps ([(3, vP 101), (8, vL 104 13 I.length), (9, vN I.length), (10, vN (i : Nat))])) (Sx.look (enE false 61 71 r M ++ (bdU 101 ++ enE true 104 71 (r.sel I) I.length))) 80 (vS (sdT r.X I I.length)) (Sx.look []) 900 := by
    intro k
    induction k with
    | zero =>
      intro i hi h0
      have e : i = I.length := by omega
      have h2 : sdT r.X I I.length = [] := by rw [← e]; exact h0
      rw [h2]
      exact sdE r n M I _ e
    | succ k ih =>
      intro i hi h0
      by_cases h1 : r.X [I.getD i 0] = []
      · exact sdee r n M I i (by omega) (by omega) h1 _ _ (ih (i + 1) (by omega) (by rw [sdT, h0, h1]; rfl))
      · have := hX i (by omega)
        have q := hU k (i + 1) (by omega) (by rw [step i (by omega) h0 h1]; exact h1)
        rw [step i (by omega) h0 h1] at q
        exact sdeu r n M I i _ (by omega) (by omega) rfl (List.length_pos_iff.2 h1) (by omega) _ _ q
  refine sd0 r n M I hn hM hI _ _ ?_
  by_cases h : I.length = 0
  · have h2 : sdT r.X I I.length = [] := by rw [h]; rfl
    rw [h2]
    exact sdF r n M I 0 h.symm
  · by_cases h1 : r.X [I.getD 0 0] = []
    · exact sdfe r n M I 0 (by omega) (by omega) h1 _ _ (hE (I.length - 1) 1 (by omega) (by rw [sdT, h1]; rfl))
    · have := hX 0 (by omega)
      have q := hU (I.length - 1) 1 (by omega) (by rw [step 0 (by omega) rfl h1]; exact h1)
      rw [show (1 : Nat) = 0 + 1 from rfl, step 0 (by omega) rfl h1] at q
      exact sdfu r n M I 0 _ (by omega) (by omega) rfl (List.length_pos_iff.2 h1) (by omega) _ _ q
def sdP : PC := { args := [.v (.vl 61 13 0)], heap := [⟨61, false, 13, .ta 40 (.tc (.vi .i64 10) (.tc (.vi .i64 11) (.tc (.vi .i64 12) (.tc (.vs 13) (.tc (.vf 71 1 23 14) (.tc (.tc (.vi .i64 15) (.tc (.vi .i64 16) (.tc (.vi .i64 17) (.tc (.vi .i64 18) (.tc (.vb 19) .t0))))) (.tc (.vi .i64 20) (.tc (.vi .i64 21) (.tc (.vx 213 errL 22) .t0)))))))))⟩], gs := [], G := 23, tp := 213, n := 80, n' := 900, cond := fun e => decide (eN e 0 ≤ 1000) && (decide (eN e 0 ≤ eN e 40) && lowX ((⟨eI e 10, eI e 11, eI e 12, eS e 13, eM e 23, eM e 14, eI e 15, eI e 16, eI e 17, eI e 18, eB e 19, eI e 20, eI e 21, eM e 22, fun _ => 0⟩ : RF)).X (eN e 0)), v := fun e => vS (sdT ((⟨eI e 10, eI e 11, eI e 12, eS e 13, eM e 23, eM e 14, eI e 15, eI e 16, eI e 17, eI e 18, eB e 19, eI e 20, eI e 21, eM e 22, fun _ => 0⟩ : RF)).X (onI 1 (fun _ => 1) ((⟨eI e 10, eI e 11, eI e 12, eS e 13, eM e 23, eM e 14, eI e 15, eI e 16, eI e 17, eI e 18, eB e 19, eI e 20, eI e 21, eM e 22, fun _ => 0⟩ : RF)).K (eN e 0)) (onI 1 (fun _ => 1) ((⟨eI e 10, eI e 11, eI e 12, eS e 13, eM e 23, eM e 14, eI e 15, eI e 16, eI e 17, eI e 18, eB e 19, eI e 20, eI e 21, eM e 22, fun _ => 0⟩ : RF)).K (eN e 0)).length), post := fun e => [] }
theorem sdP_pc : PC.Runs Tryd.prog 36 Tryd.f36 (bodyOf Tryd.f36) sdP := ⟨Tryd.func36, by kernel_rfl, (fun g hg => by first | (cases hg; done) | (revert g; show ∀ g ∈ ([] : List Nat), g < 23; decide)), fun e H hc => by
  have hc : (decide (eN e 0 ≤ 1000) && (decide (eN e 0 ≤ eN e 40) && lowX ((⟨eI e 10, eI e 11, eI e 12, eS e 13, eM e 23, eM e 14, eI e 15, eI e 16, eI e 17, eI e 18, eB e 19, eI e 20, eI e 21, eM e 22, fun _ => 0⟩ : RF)).X (eN e 0))) = true := hc
  try simp only [Bool.and_eq_true, decide_eq_true_eq, Nat.beq_eq] at hc
  exact sdRun (⟨eI e 10, eI e 11, eI e 12, eS e 13, eM e 23, eM e 14, eI e 15, eI e 16, eI e 17, eI e 18, eB e 19, eI e 20, eI e 21, eM e 22, fun _ => 0⟩ : RF) (eN e 0) (eN e 40) _ hc.1 hc.2.1 rfl hc.2.2⟩
end Go.Proofs.YtaleenklamognaaDoor

set_option linter.unusedSimpArgs false
set_option linter.unusedVariables false
set_option maxRecDepth 100000
namespace Go.Proofs.YtaleenklamognaaDoor
open Go.Sx

open WordR
def sameAA (r r' : RF) (T U : Ix → List UInt8) (i : Nat) : Bool := sameW (r.err.num.at i) (r'.err.num.at i) (fun js => T (r.M [i] :: js)) (fun js => U (r'.M [i] :: js))
def eqI (a b : Int) : Int := if a = b then 1 else 0
def cntT (r : RF) : Nat → Ix → Int
  | 0 => fun _ => 0
  | i + 1 => fun is => cntT r i is + eqI (r.K [i]) ((is.headD 0 : Nat) : Int)
def sdA (r : RF) : Nat → List UInt8
  | 0 => []
  | i + 1 => sdA r i ++ if r.K [i] = 1 then r.X [i] else []
def RF.src (r : RF) : RF := ⟨r.K, r.N, r.C, r.X, fun is => is.headD 0, r.L, r.nk, r.nc, r.ns, r.no, r.nb, r.V, r.O, r.E, r.B⟩
def sumsTT : List (FuncId × Summ) := [(26, tavP.summ 46), (27, enP.summ 46), (29, saP.summ 46), (28, onP.summ 46), (36, sdP.summ 46), (35, sttP.summ 46), (32, zsnP.summ 46), (16, xS), (33, zhaP.summ 46)]
theorem baseTT : Base0 Tryd.prog sumsTT := (((((((((baseO.cons Tryd.func33 (by kernel_rfl) (PC.summ_ok zhaP_pc gtopG)).cons Tryd.func16 (by kernel_rfl) xnum_ok).cons Tryd.func32 (by kernel_rfl) (PC.summ_ok zsnP_pc gtopG)).cons Tryd.func35 (by kernel_rfl) (PC.summ_ok sttP_pc gtopG)).cons Tryd.func36 (by kernel_rfl) (PC.summ_ok sdP_pc gtopG)).cons Tryd.func28 (by kernel_rfl) (PC.summ_ok onP_pc gtopG)).cons Tryd.func29 (by kernel_rfl) (PC.summ_ok saP_pc gtopG)).cons Tryd.func27 (by kernel_rfl) (PC.summ_ok enP_pc gtopG)).cons Tryd.func26 (by kernel_rfl) (PC.summ_ok tavP_pc gtopG))
theorem eqI_y {a b : Int} (h : a = b) : eqI a b = 1 := if_pos h
theorem eqI_n {a b : Int} (h : a ≠ b) : eqI a b = 0 := if_neg h
theorem cntT_s (r : RF) (i q : Nat) : cntT r (i + 1) [q] = cntT r i [q] + eqI (r.K [i]) (q : Int) := rfl
theorem cnt_le (r : RF) (is : Ix) : ∀ i, 0 ≤ cntT r i is ∧ cntT r i is ≤ i
  | 0 => ⟨Int.le_refl _, Int.le_refl _⟩
  | i + 1 => by
    have := cnt_le r is i
    show 0 ≤ cntT r i is + eqI (r.K [i]) _ ∧ cntT r i is + eqI (r.K [i]) _ ≤ _
    unfold eqI
    split <;> omega
theorem cnt_in (r : RF) {i : Nat} (hK : 0 ≤ r.K [i] ∧ r.K [i] < 12) (hi : i ≤ 1000) (q : Nat) : cntT r (i + 1) [q] = upd (cntT r i) [(r.K [i]).toNat] (IntKind.i64.wrap (cntT r i [(r.K [i]).toNat] + 1)) [q] := by
  have h := cnt_le r [(r.K [i]).toNat] i
  rw [wr64 (by omega), cntT_s]
  by_cases e : q = (r.K [i]).toNat
  · subst e; rw [upd_same, eqI_y (by omega)]
  · rw [upd_other _ _ (by simpa using e), eqI_n (by omega)]; omega
theorem cnt_out (r : RF) {i : Nat} (hK : ¬ (0 ≤ r.K [i] ∧ r.K [i] < 12)) {q : Nat} (hq : q < 12) : cntT r (i + 1) [q] = cntT r i [q] := by
  rw [cntT_s, eqI_n (by omega)]; omega
theorem tt1_p0 (t0 t1 t2 t3 t4 t5 t6 t7 t8 t9 t10 t11 t12 t13 t14 t15 : List UInt8) (r r' : RF) (n m k : Nat) (T U : Ix → List UInt8) (F : Ix → Int) :
    isEnd (evTill Tryd.prog sumsTT 900 (99) 900 8 [.code (bodyOf Tryd.f8)] (envOf [vL 100 13 n, vL 102 13 m, vL 104 1 k] Tryd.f8.ntmps) ((tqS t0 t1 t2 t3 t4 t5 t6 t7 t8 t9 t10 t11 t12 t13 t14 t15 ++ (rfE false 100 101 r.src n ++ famE 101 n (fun i => r.L [i]) T) ++ (rfE false 102 103 r'.src m ++ famE 103 m (fun i => r'.L [i]) U) ++ [⟨104, false, none, 1, .ta k (.vi .i64 F)⟩]) ++ ([])) ⟨[.t, .f, .s true, .s true, .s true], 110⟩) (endP ([]) (YES) ([]) 30000) =
    (OkL [(decide (n ≤ n) && okMs (fun is => List.headD is (0 : Nat)) r.6 n n fun i => r.6 [i], true), (decide (m ≤ m) && okMs (fun is => List.headD is (0 : Nat)) r'.6 m m fun i => r'.6 [i], true), (!rowsB { K := r.1, N := r.2, C := r.3, X := r.4, M := fun is => List.headD is (0 : Nat), L := r.6, nk := r.7, nc := r.8, ns := r.9, no := r.10, nb := r.11, V := r.12, O := r.13, E := fun x => (0 : Nat), B := r.15 } T n, true)] ∧ true = true ∧ True) := by kernel_rfl

set_option maxHeartbeats 4000000 in
theorem tt1 (t0 t1 t2 t3 t4 t5 t6 t7 t8 t9 t10 t11 t12 t13 t14 t15 : List UInt8) (r r' : RF) (n m k : Nat) (T U : Ix → List UInt8) (F : Ix → Int) (o1 : okMs r.src.M r.L n n (fun i => r.L [i]) = true) (o2 : okMs r'.src.M r'.L m m (fun i => r'.L [i]) = true) (h1 : rowsB r.src T n = false)  :
    RunsTo Tryd.prog 8 [.code (bodyOf Tryd.f8)] (envOf [vL 100 13 n, vL 102 13 m, vL 104 1 k] Tryd.f8.ntmps) (Sx.look ((tqS t0 t1 t2 t3 t4 t5 t6 t7 t8 t9 t10 t11 t12 t13 t14 t15 ++ (rfE false 100 101 r.src n ++ famE 101 n (fun i => r.L [i]) T) ++ (rfE false 102 103 r'.src m ++ famE 103 m (fun i => r'.L [i]) U) ++ [⟨104, false, none, 1, .ta k (.vi .i64 F)⟩]) ++ ([]))) 110 (YES) (Sx.look ([])) 30000 := by
  refine runs_last baseTT (Sx.Ends.of (tt1_p0 t0 t1 t2 t3 t4 t5 t6 t7 t8 t9 t10 t11 t12 t13 t14 t15 r r' n m k T U F) ⟨?oo, ?rr⟩) (by kernel_rfl) rfl (gtL (by decide)) (by decide)
  case oo =>
    refine (okc ?_ (okc ?_ (okc ?_ okn)))
    all_goals first | omega | exact o1 | exact o2 | exact ⟨Nat.le_refl _, o1⟩ | exact ⟨Nat.le_refl _, o2⟩ | (simp (disch := omega) only [SS, h1]; first | done | omega | assumption | exact ⟨Nat.le_refl _, o1⟩ | exact ⟨Nat.le_refl _, o2⟩) | (simp_all; done) | (simp_all; omega)
  case rr =>
    try simp (disch := omega) only [SS, h1]
    repeat' apply And.intro
    all_goals first | exact True.intro | with_reducible rfl | omega | (intros; first | exact True.intro | with_reducible rfl | omega | (simp_all; done)) | (simp_all; done) | rfl

theorem tt2_p0 (t0 t1 t2 t3 t4 t5 t6 t7 t8 t9 t10 t11 t12 t13 t14 t15 : List UInt8) (r r' : RF) (n m k : Nat) (T U : Ix → List UInt8) (F : Ix → Int) :
    isEnd (evTill Tryd.prog sumsTT 900 (99) 900 8 [.code (bodyOf Tryd.f8)] (envOf [vL 100 13 n, vL 102 13 m, vL 104 1 k] Tryd.f8.ntmps) ((tqS t0 t1 t2 t3 t4 t5 t6 t7 t8 t9 t10 t11 t12 t13 t14 t15 ++ (rfE false 100 101 r.src n ++ famE 101 n (fun i => r.L [i]) T) ++ (rfE false 102 103 r'.src m ++ famE 103 m (fun i => r'.L [i]) U) ++ [⟨104, false, none, 1, .ta k (.vi .i64 F)⟩]) ++ ([])) ⟨[.t, .f, .s true, .s true, .s false, .s true], 110⟩) (endP ([]) (YES) ([]) 30000) =
    (OkL [(decide (n ≤ n) && okMs (fun is => List.headD is (0 : Nat)) r.6 n n fun i => r.6 [i], true), (decide (m ≤ m) && okMs (fun is => List.headD is (0 : Nat)) r'.6 m m fun i => r'.6 [i], true), (!rowsB { K := r.1, N := r.2, C := r.3, X := r.4, M := fun is => List.headD is (0 : Nat), L := r.6, nk := r.7, nc := r.8, ns := r.9, no := r.10, nb := r.11, V := r.12, O := r.13, E := fun x => (0 : Nat), B := r.15 } T n, false), (!rowsB { K := r'.1, N := r'.2, C := r'.3, X := r'.4, M := fun is => List.headD is (0 : Nat), L := r'.6, nk := r'.7, nc := r'.8, ns := r'.9, no := r'.10, nb := r'.11, V := r'.12, O := r'.13, E := fun x => (0 : Nat), B := r'.15 } U m, true)] ∧ true = true ∧ True) := by kernel_rfl

set_option maxHeartbeats 4000000 in
theorem tt2 (t0 t1 t2 t3 t4 t5 t6 t7 t8 t9 t10 t11 t12 t13 t14 t15 : List UInt8) (r r' : RF) (n m k : Nat) (T U : Ix → List UInt8) (F : Ix → Int) (o1 : okMs r.src.M r.L n n (fun i => r.L [i]) = true) (o2 : okMs r'.src.M r'.L m m (fun i => r'.L [i]) = true) (h1 : rowsB r.src T n = true) (h2 : rowsB r'.src U m = false)  :
    RunsTo Tryd.prog 8 [.code (bodyOf Tryd.f8)] (envOf [vL 100 13 n, vL 102 13 m, vL 104 1 k] Tryd.f8.ntmps) (Sx.look ((tqS t0 t1 t2 t3 t4 t5 t6 t7 t8 t9 t10 t11 t12 t13 t14 t15 ++ (rfE false 100 101 r.src n ++ famE 101 n (fun i => r.L [i]) T) ++ (rfE false 102 103 r'.src m ++ famE 103 m (fun i => r'.L [i]) U) ++ [⟨104, false, none, 1, .ta k (.vi .i64 F)⟩]) ++ ([]))) 110 (YES) (Sx.look ([])) 30000 := by
  refine runs_last baseTT (Sx.Ends.of (tt2_p0 t0 t1 t2 t3 t4 t5 t6 t7 t8 t9 t10 t11 t12 t13 t14 t15 r r' n m k T U F) ⟨?oo, ?rr⟩) (by kernel_rfl) rfl (gtL (by decide)) (by decide)
  case oo =>
    refine (okc ?_ (okc ?_ (okc ?_ (okc ?_ okn))))
    all_goals first | omega | exact o1 | exact o2 | exact ⟨Nat.le_refl _, o1⟩ | exact ⟨Nat.le_refl _, o2⟩ | (simp (disch := omega) only [SS, h1, h2]; first | done | omega | assumption | exact ⟨Nat.le_refl _, o1⟩ | exact ⟨Nat.le_refl _, o2⟩) | (simp_all; done) | (simp_all; omega)
  case rr =>
    try simp (disch := omega) only [SS, h1, h2]
    repeat' apply And.intro
    all_goals first | exact True.intro | with_reducible rfl | omega | (intros; first | exact True.intro | with_reducible rfl | omega | (simp_all; done)) | (simp_all; done) | rfl

theorem tt3_p0 (t0 t1 t2 t3 t4 t5 t6 t7 t8 t9 t10 t11 t12 t13 t14 t15 : List UInt8) (r r' : RF) (n m k : Nat) (T U : Ix → List UInt8) (F : Ix → Int) :
    isEnd (evTill Tryd.prog sumsTT 900 (99) 900 8 [.code (bodyOf Tryd.f8)] (envOf [vL 100 13 n, vL 102 13 m, vL 104 1 k] Tryd.f8.ntmps) ((tqS t0 t1 t2 t3 t4 t5 t6 t7 t8 t9 t10 t11 t12 t13 t14 t15 ++ (rfE false 100 101 r.src n ++ famE 101 n (fun i => r.L [i]) T) ++ (rfE false 102 103 r'.src m ++ famE 103 m (fun i => r'.L [i]) U) ++ [⟨104, false, none, 1, .ta k (.vi .i64 F)⟩]) ++ ([])) ⟨[.t, .f, .s true, .s true, .s false, .s false, .s true], 110⟩) (endP ([]) (YES) ([]) 30000) =
    (OkL [(decide (n ≤ n) && okMs (fun is => List.headD is (0 : Nat)) r.6 n n fun i => r.6 [i], true), (decide (m ≤ m) && okMs (fun is => List.headD is (0 : Nat)) r'.6 m m fun i => r'.6 [i], true), (!rowsB { K := r.1, N := r.2, C := r.3, X := r.4, M := fun is => List.headD is (0 : Nat), L := r.6, nk := r.7, nc := r.8, ns := r.9, no := r.10, nb := r.11, V := r.12, O := r.13, E := fun x => (0 : Nat), B := r.15 } T n, false), (!rowsB { K := r'.1, N := r'.2, C := r'.3, X := r'.4, M := fun is => List.headD is (0 : Nat), L := r'.6, nk := r'.7, nc := r'.8, ns := r'.9, no := r'.10, nb := r'.11, V := r'.12, O := r'.13, E := fun x => (0 : Nat), B := r'.15 } U m, false), (decide ((↑k : Int) > (10 : Int)), true)] ∧ true = true ∧ True) := by kernel_rfl

set_option maxHeartbeats 4000000 in
theorem tt3 (t0 t1 t2 t3 t4 t5 t6 t7 t8 t9 t10 t11 t12 t13 t14 t15 : List UInt8) (r r' : RF) (n m k : Nat) (T U : Ix → List UInt8) (F : Ix → Int) (o1 : okMs r.src.M r.L n n (fun i => r.L [i]) = true) (o2 : okMs r'.src.M r'.L m m (fun i => r'.L [i]) = true) (h1 : rowsB r.src T n = true) (h2 : rowsB r'.src U m = true) (h3 : 10 < k)  :
    RunsTo Tryd.prog 8 [.code (bodyOf Tryd.f8)] (envOf [vL 100 13 n, vL 102 13 m, vL 104 1 k] Tryd.f8.ntmps) (Sx.look ((tqS t0 t1 t2 t3 t4 t5 t6 t7 t8 t9 t10 t11 t12 t13 t14 t15 ++ (rfE false 100 101 r.src n ++ famE 101 n (fun i => r.L [i]) T) ++ (rfE false 102 103 r'.src m ++ famE 103 m (fun i => r'.L [i]) U) ++ [⟨104, false, none, 1, .ta k (.vi .i64 F)⟩]) ++ ([]))) 110 (YES) (Sx.look ([])) 30000 := by
  refine runs_last baseTT (Sx.Ends.of (tt3_p0 t0 t1 t2 t3 t4 t5 t6 t7 t8 t9 t10 t11 t12 t13 t14 t15 r r' n m k T U F) ⟨?oo, ?rr⟩) (by kernel_rfl) rfl (gtL (by decide)) (by decide)
  case oo =>
    refine (okc ?_ (okc ?_ (okc ?_ (okc ?_ (okc ?_ okn)))))
    all_goals first | omega | exact o1 | exact o2 | exact ⟨Nat.le_refl _, o1⟩ | exact ⟨Nat.le_refl _, o2⟩ | (simp (disch := omega) only [SS, h1, h2]; first | done | omega | assumption | exact ⟨Nat.le_refl _, o1⟩ | exact ⟨Nat.le_refl _, o2⟩) | (simp_all; done) | (simp_all; omega)
  case rr =>
    try simp (disch := omega) only [SS, h1, h2]
    repeat' apply And.intro
    all_goals first | exact True.intro | with_reducible rfl | omega | (intros; first | exact True.intro | with_reducible rfl | omega | (simp_all; done)) | (simp_all; done) | rfl

theorem tt4_p0 (t0 t1 t2 t3 t4 t5 t6 t7 t8 t9 t10 t11 t12 t13 t14 t15 : List UInt8) (r r' : RF) (n m k : Nat) (T U : Ix → List UInt8) (F : Ix → Int) (e0 : Bool) :
    isMore (evTill Tryd.prog sumsTT 900 (behind Tryd.f8 0) 900 8 [.code (bodyOf Tryd.f8)] (envOf [vL 100 13 n, vL 102 13 m, vL 104 1 k] Tryd.f8.ntmps) ((tqS t0 t1 t2 t3 t4 t5 t6 t7 t8 t9 t10 t11 t12 t13 t14 t15 ++ (rfE false 100 101 r.src n ++ famE 101 n (fun i => r.L [i]) T) ++ (rfE false 102 103 r'.src m ++ famE 103 m (fun i => r'.L [i]) U) ++ [⟨104, false, none, 1, .ta k (.vi .i64 F)⟩]) ++ ([])) ⟨[.t, .f, .s true, .s true, .s false, .s false, .s false], 110⟩) (moreP (headOf Tryd.f8 0) ([((111 : Nat), Rn.to (1291 : Nat)), ((112 : Nat), Rn.to (1731 : Nat)), ((113 : Nat), Rn.to (2110 : Nat)), ((114 : Nat), Rn.to (2111 : Nat))]) Tryd.f8.ntmps ([(2, vL 104 1 k), (7, vL 111 13 n), (9, vL 112 13 m), (11, vB (e0)), (12, vL 113 13 (([] : List Nat)).length), (13, vS ([])), (14, vP 114), (50, vL 111 13 n), (51, vN n), (52, vN (0 : Nat))]) (enE true 111 101 r.src.err n ++ (enE true 112 103 r'.src.err m ++ (⟨113, true, none, 13, .ta 0 (.tc (.vi .i64 fun _ => 0) (.tc (.vi .i64 fun _ => 0) (.tc (.vi .i64 fun _ => 0) (.tc (.vs fun _ => []) (.tc .vl0 (.tc (.tc (.vi .i64 fun _ => 0) (.tc (.vi .i64 fun _ => 0) (.tc (.vi .i64 fun _ => 0) (.tc (.vi .i64 fun _ => 0) (.tc (.vb fun _ => false) .t0))))) (.tc (.vi .i64 fun _ => 0) (.tc (.vi .i64 fun _ => 0) (.tc (.vi .i64 fun _ => 0) .t0)))))))))⟩ :: [⟨114, true, none, 133000012, .ta 12 (.vi .i64 (cntT r 0))⟩]))) 30000) =
    (OkL [(decide (n ≤ n) && okMs (fun is => List.headD is (0 : Nat)) r.6 n n fun i => r.6 [i], true), (decide (m ≤ m) && okMs (fun is => List.headD is (0 : Nat)) r'.6 m m fun i => r'.6 [i], true), (!rowsB { K := r.1, N := r.2, C := r.3, X := r.4, M := fun is => List.headD is (0 : Nat), L := r.6, nk := r.7, nc := r.8, ns := r.9, no := r.10, nb := r.11, V := r.12, O := r.13, E := fun x => (0 : Nat), B := r.15 } T n, false), (!rowsB { K := r'.1, N := r'.2, C := r'.3, X := r'.4, M := fun is => List.headD is (0 : Nat), L := r'.6, nk := r'.7, nc := r'.8, ns := r'.9, no := r'.10, nb := r'.11, V := r'.12, O := r'.13, E := fun x => (0 : Nat), B := r'.15 } U m, false), (decide ((↑k : Int) > (10 : Int)), false)] ∧ headOf Tryd.f8 (0 : Nat) = headOf Tryd.f8 (0 : Nat) ∧ (((0 : Nat) = (0 : Nat) ∧ k = k) ∧ ((0 : Nat) = (0 : Nat) ∧ n = if rowsB { K := r.1, N := r.2, C := r.3, X := r.4, M := fun is => List.headD is (0 : Nat), L := r.6, nk := r.7, nc := r.8, ns := r.9, no := r.10, nb := r.11, V := r.12, O := r.13, E := fun x => (0 : Nat), B := r.15 } T n = true then n else (0 : Nat)) ∧ ((0 : Nat) = (0 : Nat) ∧ m = if rowsB { K := r'.1, N := r'.2, C := r'.3, X := r'.4, M := fun is => List.headD is (0 : Nat), L := r'.6, nk := r'.7, nc := r'.8, ns := r'.9, no := r'.10, nb := r'.11, V := r'.12, O := r'.13, E := fun x => (0 : Nat), B := r'.15 } U m = true then m else (0 : Nat)) ∧ e0 = ((↑(if rowsB { K := r.1, N := r.2, C := r.3, X := r.4, M := fun is => List.headD is (0 : Nat), L := r.6, nk := r.7, nc := r.8, ns := r.9, no := r.10, nb := r.11, V := r.12, O := r.13, E := fun x => (0 : Nat), B := r.15 } T n = true then n else (0 : Nat)) : Int) == (↑(if rowsB { K := r'.1, N := r'.2, C := r'.3, X := r'.4, M := fun is => List.headD is (0 : Nat), L := r'.6, nk := r'.7, nc := r'.8, ns := r'.9, no := r'.10, nb := r'.11, V := r'.12, O := r'.13, E := fun x => (0 : Nat), B := r'.15 } U m = true then m else (0 : Nat)) : Int)) ∧ ((0 : Nat) = (0 : Nat) ∧ (0 : Nat) = (0 : Nat)) ∧ ([] : List UInt8) = [] ∧ (0 : Nat) = (0 : Nat) ∧ ((0 : Nat) = (0 : Nat) ∧ n = if rowsB { K := r.1, N := r.2, C := r.3, X := r.4, M := fun is => List.headD is (0 : Nat), L := r.6, nk := r.7, nc := r.8, ns := r.9, no := r.10, nb := r.11, V := r.12, O := r.13, E := fun x => (0 : Nat), B := r.15 } T n = true then n else (0 : Nat)) ∧ (↑n : Int) = (↑(if rowsB { K := r.1, N := r.2, C := r.3, X := r.4, M := fun is => List.headD is (0 : Nat), L := r.6, nk := r.7, nc := r.8, ns := r.9, no := r.10, nb := r.11, V := r.12, O := r.13, E := fun x => (0 : Nat), B := r.15 } T n = true then n else (0 : Nat)) : Int) ∧ (↑(0 : Nat) : Int) = (0 : Int)) ∧ ((n = if rowsB { K := r.1, N := r.2, C := r.3, X := r.4, M := fun is => List.headD is (0 : Nat), L := r.6, nk := r.7, nc := r.8, ns := r.9, no := r.10, nb := r.11, V := r.12, O := r.13, E := fun x => (0 : Nat), B := r.15 } T n = true then n else (0 : Nat)) ∧ (∀ (i : Nat), i < n → r.1 [i] = r.1 [i]) ∧ (∀ (i : Nat), i < n → r.2 [i] = r.2 [i]) ∧ (∀ (i : Nat), i < n → r.3 [i] = r.3 [i]) ∧ (∀ (i : Nat), i < n → r.4 [i] = r.4 [i]) ∧ ((∀ (i : Nat), i < n → i = i) ∧ ∀ (i : Nat), i < n → r.6 [i] = r.6 [i]) ∧ ((∀ (i : Nat), i < n → r.7 [i] = r.7 [i]) ∧ (∀ (i : Nat), i < n → r.8 [i] = r.8 [i]) ∧ (∀ (i : Nat), i < n → r.9 [i] = r.9 [i]) ∧ (∀ (i : Nat), i < n → r.10 [i] = r.10 [i]) ∧ ∀ (i : Nat), i < n → r.11 [i] = r.11 [i]) ∧ (∀ (i : Nat), i < n → r.12 [i] = r.12 [i]) ∧ (∀ (i : Nat), i < n → r.13 [i] = r.13 [i]) ∧ ∀ (i : Nat), i < n → errI (r.15 [i]) = errI (r.15 [i])) ∧ ((m = if rowsB { K := r'.1, N := r'.2, C := r'.3, X := r'.4, M := fun is => List.headD is (0 : Nat), L := r'.6, nk := r'.7, nc := r'.8, ns := r'.9, no := r'.10, nb := r'.11, V := r'.12, O := r'.13, E := fun x => (0 : Nat), B := r'.15 } U m = true then m else (0 : Nat)) ∧ (∀ (i : Nat), i < m → r'.1 [i] = r'.1 [i]) ∧ (∀ (i : Nat), i < m → r'.2 [i] = r'.2 [i]) ∧ (∀ (i : Nat), i < m → r'.3 [i] = r'.3 [i]) ∧ (∀ (i : Nat), i < m → r'.4 [i] = r'.4 [i]) ∧ ((∀ (i : Nat), i < m → i = i) ∧ ∀ (i : Nat), i < m → r'.6 [i] = r'.6 [i]) ∧ ((∀ (i : Nat), i < m → r'.7 [i] = r'.7 [i]) ∧ (∀ (i : Nat), i < m → r'.8 [i] = r'.8 [i]) ∧ (∀ (i : Nat), i < m → r'.9 [i] = r'.9 [i]) ∧ (∀ (i : Nat), i < m → r'.10 [i] = r'.10 [i]) ∧ ∀ (i : Nat), i < m → r'.11 [i] = r'.11 [i]) ∧ (∀ (i : Nat), i < m → r'.12 [i] = r'.12 [i]) ∧ (∀ (i : Nat), i < m → r'.13 [i] = r'.13 [i]) ∧ ∀ (i : Nat), i < m → errI (r'.15 [i]) = errI (r'.15 [i])) ∧ ((0 : Nat) = (0 : Nat) ∧ (∀ (i : Nat), i < (0 : Nat) → (0 : Int) = (0 : Int)) ∧ (∀ (i : Nat), i < (0 : Nat) → (0 : Int) = (0 : Int)) ∧ (∀ (i : Nat), i < (0 : Nat) → (0 : Int) = (0 : Int)) ∧ (∀ (i : Nat), i < (0 : Nat) → ([] : List UInt8) = []) ∧ True ∧ ((∀ (i : Nat), i < (0 : Nat) → (0 : Int) = (0 : Int)) ∧ (∀ (i : Nat), i < (0 : Nat) → (0 : Int) = (0 : Int)) ∧ (∀ (i : Nat), i < (0 : Nat) → (0 : Int) = (0 : Int)) ∧ (∀ (i : Nat), i < (0 : Nat) → (0 : Int) = (0 : Int)) ∧ ∀ (i : Nat), i < (0 : Nat) → false = false) ∧ (∀ (i : Nat), i < (0 : Nat) → (0 : Int) = (0 : Int)) ∧ (∀ (i : Nat), i < (0 : Nat) → (0 : Int) = (0 : Int)) ∧ ∀ (i : Nat), i < (0 : Nat) → (0 : Int) = (0 : Int)) ∧ (12 : Nat) = (12 : Nat) ∧ ∀ (i : Nat), i < (12 : Nat) → cntT r (0 : Nat) [i] = (0 : Int)) := by kernel_rfl

set_option maxHeartbeats 4000000 in
theorem tt4 (t0 t1 t2 t3 t4 t5 t6 t7 t8 t9 t10 t11 t12 t13 t14 t15 : List UInt8) (r r' : RF) (n m k : Nat) (T U : Ix → List UInt8) (F : Ix → Int) (e0 : Bool) (o1 : okMs r.src.M r.L n n (fun i => r.L [i]) = true) (o2 : okMs r'.src.M r'.L m m (fun i => r'.L [i]) = true) (h1 : rowsB r.src T n = true) (h2 : rowsB r'.src U m = true) (h3 : k ≤ 10) (he : ((n : Int) == (m : Int)) = e0)  (next : RunsTo Tryd.prog 8 (headOf Tryd.f8 0) (envAt Tryd.f8.ntmps ([(2, vL 104 1 k), (7, vL 111 13 n), (9, vL 112 13 m), (11, vB (e0)), (12, vL 113 13 (([] : List Nat)).length), (13, vS ([])), (14, vP 114), (50, vL 111 13 n), (51, vN n), (52, vN (0 : Nat))])) (Sx.look ((tqS t0 t1 t2 t3 t4 t5 t6 t7 t8 t9 t10 t11 t12 t13 t14 t15 ++ (rfE false 100 101 r.src n ++ famE 101 n (fun i => r.L [i]) T) ++ (rfE false 102 103 r'.src m ++ famE 103 m (fun i => r'.L [i]) U) ++ [⟨104, false, none, 1, .ta k (.vi .i64 F)⟩]) ++ (enE true 111 101 r.src.err n ++ (enE true 112 103 r'.src.err m ++ (⟨113, true, none, 13, .ta 0 (.tc (.vi .i64 fun _ => 0) (.tc (.vi .i64 fun _ => 0) (.tc (.vi .i64 fun _ => 0) (.tc (.vs fun _ => []) (.tc .vl0 (.tc (.tc (.vi .i64 fun _ => 0) (.tc (.vi .i64 fun _ => 0) (.tc (.vi .i64 fun _ => 0) (.tc (.vi .i64 fun _ => 0) (.tc (.vb fun _ => false) .t0))))) (.tc (.vi .i64 fun _ => 0) (.tc (.vi .i64 fun _ => 0) (.tc (.vi .i64 fun _ => 0) .t0)))))))))⟩ :: [⟨114, true, none, 133000012, .ta 12 (.vi .i64 (cntT r 0))⟩]))))) 110 (YES) (Sx.look []) 30000) :
    RunsTo Tryd.prog 8 [.code (bodyOf Tryd.f8)] (envOf [vL 100 13 n, vL 102 13 m, vL 104 1 k] Tryd.f8.ntmps) (Sx.look ((tqS t0 t1 t2 t3 t4 t5 t6 t7 t8 t9 t10 t11 t12 t13 t14 t15 ++ (rfE false 100 101 r.src n ++ famE 101 n (fun i => r.L [i]) T) ++ (rfE false 102 103 r'.src m ++ famE 103 m (fun i => r'.L [i]) U) ++ [⟨104, false, none, 1, .ta k (.vi .i64 F)⟩]) ++ ([]))) 110 (YES) (Sx.look []) 30000 := by
  have g1 : rowsB (⟨r.K, r.N, r.C, r.X, fun is => List.headD is 0, r.L, r.nk, r.nc, r.ns, r.no, r.nb, r.V, r.O, fun x => 0, r.B⟩ : RF) T n = true := h1
  have g2 : rowsB (⟨r'.K, r'.N, r'.C, r'.X, fun is => List.headD is 0, r'.L, r'.nk, r'.nc, r'.ns, r'.no, r'.nb, r'.V, r'.O, fun x => 0, r'.B⟩ : RF) U m = true := h2
  refine runs_more baseTT (More.of (tt4_p0 t0 t1 t2 t3 t4 t5 t6 t7 t8 t9 t10 t11 t12 t13 t14 t15 r r' n m k T U F e0) ⟨?oo, rfl, ?rr⟩) (by kernel_rfl) (by kernel_rfl) rfl (gtL (by decide)) (by decide) next
  case oo =>
    clear next
    refine (okc ?_ (okc ?_ (okc ?_ (okc ?_ (okc ?_ okn)))))
    all_goals first | omega | exact o1 | exact o2 | exact ⟨Nat.le_refl _, o1⟩ | exact ⟨Nat.le_refl _, o2⟩ | (simp (disch := omega) only [SS, h1, h2]; first | done | omega | assumption | exact ⟨Nat.le_refl _, o1⟩ | exact ⟨Nat.le_refl _, o2⟩) | (simp_all; done) | (simp_all; omega)
  case rr =>
    clear next
    try simp only [g1, g2, if_true]
    repeat' apply And.intro
    all_goals first | exact True.intro | exact he.symm | with_reducible rfl | omega | (intros; first | exact True.intro | with_reducible rfl | omega | (simp_all; done) | rfl) | (simp_all; done) | rfl

end Go.Proofs.YtaleenklamognaaDoor

