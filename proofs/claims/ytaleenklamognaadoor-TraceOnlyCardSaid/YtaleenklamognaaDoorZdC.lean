/- Trace: entries of rows; what was said. -/
import Derived.Test.YtaleenklamognaaDoorZcC
import Derived.Test.YtaleenklamognaaDoorSyRz
import Derived.Test.YtaleenklamognaaDoorSyIt
import Derived.Test.YtaleenklamognaaDoorProg
import Derived.Lib.ItoaLen
set_option linter.unusedSimpArgs false
set_option linter.unusedVariables false
set_option maxRecDepth 100000
namespace Go.Proofs.YtaleenklamognaaDoor
open Go.Sx

open WordR
theorem onI_lt {nk : Nat} {F : Ix → Int} {K : Ix → Int} {n : Nat} : ∀ i ∈ onI nk F K n, i < n := fun i hi => List.mem_range.1 (List.mem_filter.1 hi).1
def sumsEN : List (FuncId × Summ) := [(107, erP.summ 46), (71, fwP.summ 46)]
theorem baseEN : Base0 Tryd.prog sumsEN := ((baseO.cons Tryd.func71 (by kernel_rfl) (PC.summ_ok fwP_pc gtopG)).cons Tryd.func107 (by kernel_rfl) (PC.summ_ok erP_pc gtopG))
theorem en0_p0 (H : List Ent) (r : RF) (n M cn : Nat) (ls : Nat → Nat) (T : Ix → List UInt8) :
    isEnd (evTill Tryd.prog sumsEN 400 (99) 900 27 [.code (bodyOf Tryd.f27)] (envOf [vL 61 13 n] Tryd.f27.ntmps) (((sentEnts 23 213 (textsIn 23 H errG)) ++ (rfE false 61 71 r M ++ famE 71 cn ls T)) ++ ([])) ⟨[.s true], 80⟩) (endP ([((141 : Nat), Rn.nil (13 : Nat))]) (.tup [(false, .vl 141 (fun _ => 0) 13 [] (fun _ => 0)), (false, .vb fun _ => false)]) (enE true 141 71 r.err (0)) 520) =
    (OkL [(decide ((↑n : Int) > (20 : Int)), true)] ∧ ((0 : Nat) = (0 : Nat) ∧ false = false ∧ True) ∧ (0 : Nat) = (0 : Nat)) := by kernel_rfl

set_option maxHeartbeats 4000000 in
theorem en0 (H : List Ent) (r : RF) (n M cn : Nat) (ls : Nat → Nat) (T : Ix → List UInt8) (h : 20 < n)  :
    RunsTo Tryd.prog 27 [.code (bodyOf Tryd.f27)] (envOf [vL 61 13 n] Tryd.f27.ntmps) (Sx.look (((sentEnts 23 213 (textsIn 23 H errG)) ++ (rfE false 61 71 r M ++ famE 71 cn ls T)) ++ ([]))) 80 (.tup [(false, .vl 141 (fun _ => 0) 13 [] (fun _ => 0)), (false, .vb fun _ => false)]) (Sx.look (enE true 141 71 r.err (0))) 520 := by
  refine runs_last baseEN (Sx.Ends.of (en0_p0 H r n M cn ls T) ⟨?oo, ?rr⟩) (by kernel_rfl) rfl (gtL (by decide)) (by decide)
  case oo =>
    refine (okc ?_ okn)
    all_goals ((try simp (disch := omega) only [SS]); first | done | omega | assumption | (simp (disch := omega) only [SS] at *; first | done | omega | assumption) | (simp_all; done))
  case rr =>
    try simp (disch := omega) only [SS]
    repeat' apply And.intro
    all_goals first | exact True.intro | with_reducible rfl | omega | (intros; first | exact True.intro | with_reducible rfl | omega | (simp_all; done)) | (simp_all; done) | rfl

theorem en1_p0 (H : List Ent) (r : RF) (n M cn : Nat) (ls : Nat → Nat) (T : Ix → List UInt8) :
    isMore (evTill Tryd.prog sumsEN 400 (behind Tryd.f27 0) 900 27 [.code (bodyOf Tryd.f27)] (envOf [vL 61 13 n] Tryd.f27.ntmps) (((sentEnts 23 213 (textsIn 23 H errG)) ++ (rfE false 61 71 r M ++ famE 71 cn ls T)) ++ ([])) ⟨[.s false], 80⟩) (moreP (headOf Tryd.f27 0) ([((101 : Nat), Rn.to (80 : Nat))]) Tryd.f27.ntmps ([(4, vL 101 13 (0)), (11, vL 61 13 n), (12, vN n), (13, vN (0 : Nat))]) ([⟨101, true, none, 13, .ta 0 (.tc (.vi .i64 fun _ => 0) (.tc (.vi .i64 fun _ => 0) (.tc (.vi .i64 fun _ => 0) (.tc (.vs fun _ => []) (.tc .vl0 (.tc (.tc (.vi .i64 fun _ => 0) (.tc (.vi .i64 fun _ => 0) (.tc (.vi .i64 fun _ => 0) (.tc (.vi .i64 fun _ => 0) (.tc (.vb fun _ => false) .t0))))) (.tc (.vi .i64 fun _ => 0) (.tc (.vi .i64 fun _ => 0) (.tc .ve0 .t0)))))))))⟩]) 520) =
    (OkL [(decide ((↑n : Int) > (20 : Int)), false)] ∧ headOf Tryd.f27 (0 : Nat) = headOf Tryd.f27 (0 : Nat) ∧ (((0 : Nat) = (0 : Nat) ∧ (0 : Nat) = (0 : Nat)) ∧ ((0 : Nat) = (0 : Nat) ∧ n = n) ∧ (↑n : Int) = (↑n : Int) ∧ (↑(0 : Nat) : Int) = (0 : Int)) ∧ (0 : Nat) = (0 : Nat) ∧ (∀ (i : Nat), i < (0 : Nat) → (0 : Int) = (0 : Int)) ∧ (∀ (i : Nat), i < (0 : Nat) → (0 : Int) = (0 : Int)) ∧ (∀ (i : Nat), i < (0 : Nat) → (0 : Int) = (0 : Int)) ∧ (∀ (i : Nat), i < (0 : Nat) → ([] : List UInt8) = []) ∧ True ∧ ((∀ (i : Nat), i < (0 : Nat) → (0 : Int) = (0 : Int)) ∧ (∀ (i : Nat), i < (0 : Nat) → (0 : Int) = (0 : Int)) ∧ (∀ (i : Nat), i < (0 : Nat) → (0 : Int) = (0 : Int)) ∧ (∀ (i : Nat), i < (0 : Nat) → (0 : Int) = (0 : Int)) ∧ ∀ (i : Nat), i < (0 : Nat) → false = false) ∧ (∀ (i : Nat), i < (0 : Nat) → (0 : Int) = (0 : Int)) ∧ (∀ (i : Nat), i < (0 : Nat) → (0 : Int) = (0 : Int)) ∧ True) := by kernel_rfl

set_option maxHeartbeats 4000000 in
theorem en1 (H : List Ent) (r : RF) (n M cn : Nat) (ls : Nat → Nat) (T : Ix → List UInt8) (h : n ≤ 20)  (v : SV) (L' : HF) (next : RunsTo Tryd.prog 27 (headOf Tryd.f27 0) (envAt Tryd.f27.ntmps ([(4, vL 101 13 (0)), (11, vL 61 13 n), (12, vN n), (13, vN (0 : Nat))])) (Sx.look (((sentEnts 23 213 (textsIn 23 H errG)) ++ (rfE false 61 71 r M ++ famE 71 cn ls T)) ++ ([⟨101, true, none, 13, .ta 0 (.tc (.vi .i64 fun _ => 0) (.tc (.vi .i64 fun _ => 0) (.tc (.vi .i64 fun _ => 0) (.tc (.vs fun _ => []) (.tc .vl0 (.tc (.tc (.vi .i64 fun _ => 0) (.tc (.vi .i64 fun _ => 0) (.tc (.vi .i64 fun _ => 0) (.tc (.vi .i64 fun _ => 0) (.tc (.vb fun _ => false) .t0))))) (.tc (.vi .i64 fun _ => 0) (.tc (.vi .i64 fun _ => 0) (.tc .ve0 .t0)))))))))⟩]))) 80 (v) (L') 520) :
    RunsTo Tryd.prog 27 [.code (bodyOf Tryd.f27)] (envOf [vL 61 13 n] Tryd.f27.ntmps) (Sx.look (((sentEnts 23 213 (textsIn 23 H errG)) ++ (rfE false 61 71 r M ++ famE 71 cn ls T)) ++ ([]))) 80 (v) (L') 520 := by
  refine runs_more baseEN (More.of (en1_p0 H r n M cn ls T) ⟨?oo, rfl, ?rr⟩) (by kernel_rfl) (by kernel_rfl) rfl (gtL (by decide)) (by decide) next
  case oo =>
    clear next
    refine (okc ?_ okn)
    all_goals ((try simp (disch := omega) only [SS]); first | done | omega | assumption | (simp (disch := omega) only [SS] at *; first | done | omega | assumption) | (simp_all; done))
  case rr =>
    clear next
    try simp (disch := omega) only [SS]
    repeat' apply And.intro
    all_goals first | exact True.intro | with_reducible rfl | omega | (intros; first | exact True.intro | with_reducible rfl | omega | (simp_all; done)) | (simp_all; done) | rfl

theorem en2_p0 (H : List Ent) (r : RF) (n M cn : Nat) (ls : Nat → Nat) (T : Ix → List UInt8) (i : Nat) :
    isMore (evTill Tryd.prog sumsEN 400 (behind Tryd.f27 0) 900 27 (headOf Tryd.f27 0) (envAt Tryd.f27.ntmps ([(4, vL 101 13 (i)), (11, vL 61 13 n), (12, vN n), (13, vN (i : Nat))])) (((sentEnts 23 213 (textsIn 23 H errG)) ++ (rfE false 61 71 r M ++ famE 71 cn ls T)) ++ (enE true 101 71 r.err (i))) ⟨[.s true, .s true, .s true, .s true, .s false, .s true, .s true, .s false, .t, .t, .s true, .s true], 110⟩) (moreP (headOf Tryd.f27 0) ([((101 : Nat), Rn.to (214 : Nat))]) Tryd.f27.ntmps ([(4, vL 101 13 (i + 1)), (11, vL 61 13 n), (12, vN n), (13, vN (i + 1 : Nat))]) (enE true 101 71 r.err (i + 1)) 520) =
    (OkL [(decide ((↑i : Int) < (↑n : Int)), true), (decide ((0 : Int) ≤ (↑i : Int) ∧ (↑i : Int) < (↑n : Int)), true), (((0 : Nat) + (↑i : Int).toNat).blt M, true), (((0 : Nat) + (↑i : Int).toNat).blt M, true), (decide ((↑(r.4 [(0 : Nat) + (↑i : Int).toNat]).length : Int) > (500 : Int)), false), ((r.5 [(0 : Nat) + (↑i : Int).toNat] + (1 : Nat) + (cn - (r.5 [(0 : Nat) + (↑i : Int).toNat] + (1 : Nat)))).beq cn, true), (decide (r.6 [(0 : Nat) + (↑i : Int).toNat] ≤ ls (r.5 [(0 : Nat) + (↑i : Int).toNat])) && decide ((12 : Int) ≤ (100000 : Int)), true), (!fewB (r.6 [(0 : Nat) + (↑i : Int).toNat]) (fun js => T (r.5 [(0 : Nat) + (↑i : Int).toNat] :: js)) (12 : Int) (200 : Int), false), (((0 : Nat) + i).ble i, true), (decide (((2 : Nat) * (i + (1 : Nat)) + (192 : Nat)) * (136 : Nat) ≤ (281474976710656 : Nat)), true)] ∧ headOf Tryd.f27 (0 : Nat) = headOf Tryd.f27 (0 : Nat) ∧ (((0 : Nat) = (0 : Nat) ∧ i + (1 : Nat) = i + (1 : Nat)) ∧ ((0 : Nat) = (0 : Nat) ∧ n = n) ∧ (↑n : Int) = (↑n : Int) ∧ (↑(i + (1 : Nat)) : Int) = IntKind.i64.wrap ((↑i : Int) + (1 : Int))) ∧ i + (1 : Nat) = i + (1 : Nat) ∧ (∀ (i_1 : Nat), i_1 < i + (1 : Nat) → r.1 [i_1] = appF i (0 : Nat) r.1 (fun js => r.1 (((0 : Nat) + (↑i : Int).toNat) :: List.tail (subIx (0 : Nat) js))) [i_1]) ∧ (∀ (i_1 : Nat), i_1 < i + (1 : Nat) → r.2 [i_1] = appF i (0 : Nat) r.2 (fun js => r.2 (((0 : Nat) + (↑i : Int).toNat) :: List.tail (subIx (0 : Nat) js))) [i_1]) ∧ (∀ (i_1 : Nat), i_1 < i + (1 : Nat) → r.3 [i_1] = appF i (0 : Nat) r.3 (fun js => r.3 (((0 : Nat) + (↑i : Int).toNat) :: List.tail (subIx (0 : Nat) js))) [i_1]) ∧ (∀ (i_1 : Nat), i_1 < i + (1 : Nat) → r.4 [i_1] = appF i (0 : Nat) r.4 (fun js => r.4 (((0 : Nat) + (↑i : Int).toNat) :: List.tail (subIx (0 : Nat) js))) [i_1]) ∧ ((∀ (i_1 : Nat), i_1 < i + (1 : Nat) → r.5 [i_1] = appF i (0 : Nat) r.5 (fun js => r.5 (((0 : Nat) + (↑i : Int).toNat) :: List.tail (subIx (0 : Nat) js))) [i_1]) ∧ ∀ (i_1 : Nat), i_1 < i + (1 : Nat) → r.6 [i_1] = appF i (0 : Nat) r.6 (fun js => r.6 (((0 : Nat) + (↑i : Int).toNat) :: List.tail (subIx (0 : Nat) js))) [i_1]) ∧ ((∀ (i_1 : Nat), i_1 < i + (1 : Nat) → r.7 [i_1] = appF i (0 : Nat) r.7 (fun js => r.7 (((0 : Nat) + (↑i : Int).toNat) :: List.tail (subIx (0 : Nat) js))) [i_1]) ∧ (∀ (i_1 : Nat), i_1 < i + (1 : Nat) → r.8 [i_1] = appF i (0 : Nat) r.8 (fun js => r.8 (((0 : Nat) + (↑i : Int).toNat) :: List.tail (subIx (0 : Nat) js))) [i_1]) ∧ (∀ (i_1 : Nat), i_1 < i + (1 : Nat) → r.9 [i_1] = appF i (0 : Nat) r.9 (fun js => r.9 (((0 : Nat) + (↑i : Int).toNat) :: List.tail (subIx (0 : Nat) js))) [i_1]) ∧ (∀ (i_1 : Nat), i_1 < i + (1 : Nat) → r.10 [i_1] = appF i (0 : Nat) r.10 (fun js => r.10 (((0 : Nat) + (↑i : Int).toNat) :: List.tail (subIx (0 : Nat) js))) [i_1]) ∧ ∀ (i_1 : Nat), i_1 < i + (1 : Nat) → r.11 [i_1] = appF i (0 : Nat) r.11 (fun js => r.11 (((0 : Nat) + (↑i : Int).toNat) :: List.tail (subIx (0 : Nat) js))) [i_1]) ∧ (∀ (i_1 : Nat), i_1 < i + (1 : Nat) → r.12 [i_1] = appF i (0 : Nat) r.12 (fun js => r.12 (((0 : Nat) + (↑i : Int).toNat) :: List.tail (subIx (0 : Nat) js))) [i_1]) ∧ (∀ (i_1 : Nat), i_1 < i + (1 : Nat) → r.13 [i_1] = appF i (0 : Nat) r.13 (fun js => r.13 (((0 : Nat) + (↑i : Int).toNat) :: List.tail (subIx (0 : Nat) js))) [i_1]) ∧ ∀ (i_1 : Nat), i_1 < i + (1 : Nat) → errI (r.15 [i_1]) = appF i (0 : Nat) (fun is => errI (r.15 is)) (fun js => errI (r.15 [(0 : Nat) + (↑i : Int).toNat])) [i_1]) := by kernel_rfl

set_option maxHeartbeats 4000000 in
theorem en2 (H : List Ent) (r : RF) (n M cn : Nat) (ls : Nat → Nat) (T : Ix → List UInt8) (i : Nat) (hi : i < n) (hn : n ≤ 20) (hM : n ≤ M) (ok : okMs r.M r.L n cn ls = true) (h0 : (r.X [i]).length ≤ 500) (h : fewB (r.L [i]) (fun js => T (r.M [i] :: js)) 12 200 = true)  (v : SV) (L' : HF) (next : RunsTo Tryd.prog 27 (headOf Tryd.f27 0) (envAt Tryd.f27.ntmps ([(4, vL 101 13 (i + 1)), (11, vL 61 13 n), (12, vN n), (13, vN (i + 1 : Nat))])) (Sx.look (((sentEnts 23 213 (textsIn 23 H errG)) ++ (rfE false 61 71 r M ++ famE 71 cn ls T)) ++ (enE true 101 71 r.err (i + 1)))) 80 (v) (L') 520) :
    RunsTo Tryd.prog 27 (headOf Tryd.f27 0) (envAt Tryd.f27.ntmps ([(4, vL 101 13 (i)), (11, vL 61 13 n), (12, vN n), (13, vN (i : Nat))])) (Sx.look (((sentEnts 23 213 (textsIn 23 H errG)) ++ (rfE false 61 71 r M ++ famE 71 cn ls T)) ++ (enE true 101 71 r.err (i)))) 80 (v) (L') 520 := by
  have hw : IntKind.i64.wrap ((i : Int) + 1) = ((i + 1 : Nat) : Int) := by rw [wr64 (by omega)]; rfl
  obtain ⟨a1, a2⟩ := okMs_at ok hi
  refine runs_more baseEN (More.of (en2_p0 H r n M cn ls T i) ⟨?oo, rfl, ?rr⟩) (by kernel_rfl) (by kernel_rfl) rfl (gtL (by decide)) (by decide) next
  case oo =>
    clear next
    refine (okc ?_ (okc ?_ (okc ?_ (okc ?_ (okc ?_ (okc ?_ (okc ?_ (okc ?_ (okc ?_ (okc ?_ okn))))))))))
    all_goals first | omega | exact h | exact a2 | (simp (disch := omega) only [SS, hw]; first | done | omega | exact h | exact a2 | assumption) | (simp_all; done) | (simp_all; omega)
  case rr =>
    clear next
    try simp (disch := omega) only [SS, hw, Go.Sx.sum, Nat.zero_add, List.length_append, List.length_cons, List.length_nil]
    repeat' apply And.intro
    all_goals first | exact True.intro | with_reducible rfl | omega | (intro k hk; exact (ap_row _ _ _ (fun _ => rfl) hk).symm) | (intro k hk; exact (ap_row _ (fun is => errI (r.B is)) _ (fun _ => rfl) hk).symm) | (intro k hk; obtain rfl : k = 0 := (by omega); rfl) | (simp_all; done)

theorem en3_p0 (H : List Ent) (r : RF) (n M cn : Nat) (ls : Nat → Nat) (T : Ix → List UInt8) (i : Nat) :
    isEnd (evTill Tryd.prog sumsEN 400 (99) 900 27 (headOf Tryd.f27 0) (envAt Tryd.f27.ntmps ([(4, vL 101 13 (i)), (11, vL 61 13 n), (12, vN n), (13, vN (i : Nat))])) (((sentEnts 23 213 (textsIn 23 H errG)) ++ (rfE false 61 71 r M ++ famE 71 cn ls T)) ++ (enE true 101 71 r.err (i))) ⟨[.s true, .s true, .s true, .s true, .s true], 110⟩) (endP ([((141 : Nat), Rn.nil (13 : Nat))]) (.tup [(false, .vl 141 (fun _ => 0) 13 [] (fun _ => 0)), (false, .vb fun _ => false)]) (enE true 141 71 r.err (0)) 520) =
    (OkL [(decide ((↑i : Int) < (↑n : Int)), true), (decide ((0 : Int) ≤ (↑i : Int) ∧ (↑i : Int) < (↑n : Int)), true), (((0 : Nat) + (↑i : Int).toNat).blt M, true), (((0 : Nat) + (↑i : Int).toNat).blt M, true), (decide ((↑(r.4 [(0 : Nat) + (↑i : Int).toNat]).length : Int) > (500 : Int)), true)] ∧ ((0 : Nat) = (0 : Nat) ∧ false = false ∧ True) ∧ (0 : Nat) = (0 : Nat)) := by kernel_rfl

set_option maxHeartbeats 4000000 in
theorem en3 (H : List Ent) (r : RF) (n M cn : Nat) (ls : Nat → Nat) (T : Ix → List UInt8) (i : Nat) (hi : i < n) (hn : n ≤ 20) (hM : n ≤ M) (ok : okMs r.M r.L n cn ls = true) (h0 : 500 < (r.X [i]).length)  :
    RunsTo Tryd.prog 27 (headOf Tryd.f27 0) (envAt Tryd.f27.ntmps ([(4, vL 101 13 (i)), (11, vL 61 13 n), (12, vN n), (13, vN (i : Nat))])) (Sx.look (((sentEnts 23 213 (textsIn 23 H errG)) ++ (rfE false 61 71 r M ++ famE 71 cn ls T)) ++ (enE true 101 71 r.err (i)))) 80 (.tup [(false, .vl 141 (fun _ => 0) 13 [] (fun _ => 0)), (false, .vb fun _ => false)]) (Sx.look (enE true 141 71 r.err (0))) 520 := by
  have hw : IntKind.i64.wrap ((i : Int) + 1) = ((i + 1 : Nat) : Int) := by rw [wr64 (by omega)]; rfl
  obtain ⟨a1, a2⟩ := okMs_at ok hi
  refine runs_last baseEN (Sx.Ends.of (en3_p0 H r n M cn ls T i) ⟨?oo, ?rr⟩) (by kernel_rfl) rfl (gtL (by decide)) (by decide)
  case oo =>
    refine (okc ?_ (okc ?_ (okc ?_ (okc ?_ (okc ?_ okn)))))
    all_goals first | omega | exact h | exact a2 | (simp (disch := omega) only [SS, hw]; first | done | omega | exact h | exact a2 | assumption) | (simp_all; done) | (simp_all; omega)
  case rr =>
    try simp (disch := omega) only [SS, hw]
    repeat' apply And.intro
    all_goals first | exact True.intro | with_reducible rfl | omega | (intros; first | exact True.intro | with_reducible rfl | omega | (simp_all; done)) | (simp_all; done) | rfl

theorem en3b_p0 (H : List Ent) (r : RF) (n M cn : Nat) (ls : Nat → Nat) (T : Ix → List UInt8) (i : Nat) :
    isEnd (evTill Tryd.prog sumsEN 400 (99) 900 27 (headOf Tryd.f27 0) (envAt Tryd.f27.ntmps ([(4, vL 101 13 (i)), (11, vL 61 13 n), (12, vN n), (13, vN (i : Nat))])) (((sentEnts 23 213 (textsIn 23 H errG)) ++ (rfE false 61 71 r M ++ famE 71 cn ls T)) ++ (enE true 101 71 r.err (i))) ⟨[.s true, .s true, .s true, .s true, .s false, .s true, .s true, .s true], 110⟩) (endP ([((141 : Nat), Rn.nil (13 : Nat))]) (.tup [(false, .vl 141 (fun _ => 0) 13 [] (fun _ => 0)), (false, .vb fun _ => false)]) (enE true 141 71 r.err (0)) 520) =
    (OkL [(decide ((↑i : Int) < (↑n : Int)), true), (decide ((0 : Int) ≤ (↑i : Int) ∧ (↑i : Int) < (↑n : Int)), true), (((0 : Nat) + (↑i : Int).toNat).blt M, true), (((0 : Nat) + (↑i : Int).toNat).blt M, true), (decide ((↑(r.4 [(0 : Nat) + (↑i : Int).toNat]).length : Int) > (500 : Int)), false), ((r.5 [(0 : Nat) + (↑i : Int).toNat] + (1 : Nat) + (cn - (r.5 [(0 : Nat) + (↑i : Int).toNat] + (1 : Nat)))).beq cn, true), (decide (r.6 [(0 : Nat) + (↑i : Int).toNat] ≤ ls (r.5 [(0 : Nat) + (↑i : Int).toNat])) && decide ((12 : Int) ≤ (100000 : Int)), true), (!fewB (r.6 [(0 : Nat) + (↑i : Int).toNat]) (fun js => T (r.5 [(0 : Nat) + (↑i : Int).toNat] :: js)) (12 : Int) (200 : Int), true)] ∧ ((0 : Nat) = (0 : Nat) ∧ false = false ∧ True) ∧ (0 : Nat) = (0 : Nat)) := by kernel_rfl

set_option maxHeartbeats 4000000 in
theorem en3b (H : List Ent) (r : RF) (n M cn : Nat) (ls : Nat → Nat) (T : Ix → List UInt8) (i : Nat) (hi : i < n) (hn : n ≤ 20) (hM : n ≤ M) (ok : okMs r.M r.L n cn ls = true) (h0 : (r.X [i]).length ≤ 500) (h : fewB (r.L [i]) (fun js => T (r.M [i] :: js)) 12 200 = false)  :
    RunsTo Tryd.prog 27 (headOf Tryd.f27 0) (envAt Tryd.f27.ntmps ([(4, vL 101 13 (i)), (11, vL 61 13 n), (12, vN n), (13, vN (i : Nat))])) (Sx.look (((sentEnts 23 213 (textsIn 23 H errG)) ++ (rfE false 61 71 r M ++ famE 71 cn ls T)) ++ (enE true 101 71 r.err (i)))) 80 (.tup [(false, .vl 141 (fun _ => 0) 13 [] (fun _ => 0)), (false, .vb fun _ => false)]) (Sx.look (enE true 141 71 r.err (0))) 520 := by
  have hw : IntKind.i64.wrap ((i : Int) + 1) = ((i + 1 : Nat) : Int) := by rw [wr64 (by omega)]; rfl
  obtain ⟨a1, a2⟩ := okMs_at ok hi
  refine runs_last baseEN (Sx.Ends.of (en3b_p0 H r n M cn ls T i) ⟨?oo, ?rr⟩) (by kernel_rfl) rfl (gtL (by decide)) (by decide)
  case oo =>
    refine (okc ?_ (okc ?_ (okc ?_ (okc ?_ (okc ?_ (okc ?_ (okc ?_ (okc ?_ okn))))))))
    all_goals first | omega | exact h | exact a2 | (simp (disch := omega) only [SS, hw]; first | done | omega | exact h | exact a2 | assumption) | (simp_all; done) | (simp_all; omega)
  case rr =>
    try simp (disch := omega) only [SS, hw]
    repeat' apply And.intro
    all_goals first | exact True.intro | with_reducible rfl | omega | (intros; first | exact True.intro | with_reducible rfl | omega | (simp_all; done)) | (simp_all; done) | rfl

theorem en4_p0 (H : List Ent) (r : RF) (n M cn : Nat) (ls : Nat → Nat) (T : Ix → List UInt8) (i : Nat) :
    isEnd (evTill Tryd.prog sumsEN 400 (99) 900 27 (headOf Tryd.f27 0) (envAt Tryd.f27.ntmps ([(4, vL 101 13 (i)), (11, vL 61 13 n), (12, vN n), (13, vN (i : Nat))])) (((sentEnts 23 213 (textsIn 23 H errG)) ++ (rfE false 61 71 r M ++ famE 71 cn ls T)) ++ (enE true 101 71 r.err (i))) ⟨[.s false], 110⟩) (endP ([((141 : Nat), Rn.to (101 : Nat))]) (.tup [(false, .vl 141 (fun _ => 0) 13 [] (fun _ => i)), (false, .vb fun _ => true)]) (enE true 141 71 r.err (i)) 520) =
    (OkL [(decide ((↑i : Int) < (↑n : Int)), false)] ∧ (((0 : Nat) = (0 : Nat) ∧ i = i) ∧ true = true ∧ True) ∧ i = i ∧ (∀ (i_1 : Nat), i_1 < i → r.1 [i_1] = r.1 [i_1]) ∧ (∀ (i_1 : Nat), i_1 < i → r.2 [i_1] = r.2 [i_1]) ∧ (∀ (i_1 : Nat), i_1 < i → r.3 [i_1] = r.3 [i_1]) ∧ (∀ (i_1 : Nat), i_1 < i → r.4 [i_1] = r.4 [i_1]) ∧ ((∀ (i_1 : Nat), i_1 < i → r.5 [i_1] = r.5 [i_1]) ∧ ∀ (i_1 : Nat), i_1 < i → r.6 [i_1] = r.6 [i_1]) ∧ ((∀ (i_1 : Nat), i_1 < i → r.7 [i_1] = r.7 [i_1]) ∧ (∀ (i_1 : Nat), i_1 < i → r.8 [i_1] = r.8 [i_1]) ∧ (∀ (i_1 : Nat), i_1 < i → r.9 [i_1] = r.9 [i_1]) ∧ (∀ (i_1 : Nat), i_1 < i → r.10 [i_1] = r.10 [i_1]) ∧ ∀ (i_1 : Nat), i_1 < i → r.11 [i_1] = r.11 [i_1]) ∧ (∀ (i_1 : Nat), i_1 < i → r.12 [i_1] = r.12 [i_1]) ∧ (∀ (i_1 : Nat), i_1 < i → r.13 [i_1] = r.13 [i_1]) ∧ ∀ (i_1 : Nat), i_1 < i → errI (r.15 [i_1]) = errI (r.15 [i_1])) := by kernel_rfl

set_option maxHeartbeats 4000000 in
theorem en4 (H : List Ent) (r : RF) (n M cn : Nat) (ls : Nat → Nat) (T : Ix → List UInt8) (i : Nat) (hi : i = n)  :
    RunsTo Tryd.prog 27 (headOf Tryd.f27 0) (envAt Tryd.f27.ntmps ([(4, vL 101 13 (i)), (11, vL 61 13 n), (12, vN n), (13, vN (i : Nat))])) (Sx.look (((sentEnts 23 213 (textsIn 23 H errG)) ++ (rfE false 61 71 r M ++ famE 71 cn ls T)) ++ (enE true 101 71 r.err (i)))) 80 (.tup [(false, .vl 141 (fun _ => 0) 13 [] (fun _ => i)), (false, .vb fun _ => true)]) (Sx.look (enE true 141 71 r.err (i))) 520 := by
  refine runs_last baseEN (Sx.Ends.of (en4_p0 H r n M cn ls T i) ⟨?oo, ?rr⟩) (by kernel_rfl) rfl (gtL (by decide)) (by decide)
  case oo =>
    refine (okc ?_ okn)
    all_goals ((try simp (disch := omega) only [SS]); first | done | omega | assumption | (simp (disch := omega) only [SS] at *; first | done | omega | assumption) | (simp_all; done))
  case rr =>
    try simp (disch := omega) only [SS]
    repeat' apply And.intro
    all_goals first | exact True.intro | with_reducible rfl | omega | (intros; first | exact True.intro | with_reducible rfl | omega | (simp_all; done)) | (simp_all; done) | rfl

theorem enT_ (H : List Ent) (r : RF) (n M cn : Nat) (ls : Nat → Nat) (T : Ix → List UInt8) (hM : n ≤ M) (ok : okMs r.M r.L n cn ls = true) : RunsTo Tryd.prog 27 [.code (bodyOf Tryd.f27)] (envOf [vL 61 13 n] Tryd.f27.ntmps) (Sx.look (((sentEnts 23 213 (textsIn 23 H errG)) ++ (rfE false 61 71 r M ++ famE 71 cn ls T)) ++ ([]))) 80 (.tup [(false, .vl 141 (fun _ => 0) 13 [] (fun _ => if rowsB r T n = true then n else 0)), (false, .vb fun _ => rowsB r T n)]) (Sx.look (enE true 141 71 r.err (if rowsB r T n = true then n else 0))) 520 := by
  unfold rowsB
  by_cases h : n ≤ 20
  · refine en1 H r n M cn ls T h _ _ ?_
    rw [decide_eq_true h, Bool.true_and]
    refine RunsTo.row0 (u' := enT 71 r.err) (B := []) ?_
    refine all_loop (ok := rowB r T) (R := fun i b => RunsTo Tryd.prog 27 (headOf Tryd.f27 0) (envAt Tryd.f27.ntmps ([(4, vL 101 13 (i)), (11, vL 61 13 n), (12, vN n), (13, vN (i : Nat))])) (Sx.look (((sentEnts 23 213 (textsIn 23 H errG)) ++ (rfE false 61 71 r M ++ famE 71 cn ls T)) ++ (enE true 101 71 r.err (i)))) 80 (.tup [(false, .vl 141 (fun _ => 0) 13 [] (fun _ => if b = true then n else 0)), (false, .vb fun _ => b)]) (Sx.look (enE true 141 71 r.err (if b = true then n else 0))) 520) (fun i hi hk b q => ?_) (fun i hi hk => ?_) ?_
    · unfold rowB at hk
      simp only [Bool.and_eq_true, decide_eq_true_eq] at hk
      exact en2 H r n M cn ls T i hi h hM ok hk.1 hk.2 _ _ q
    · unfold rowB at hk
      by_cases h0 : (r.X [i]).length ≤ 500
      · rw [decide_eq_true h0, Bool.true_and] at hk; exact en3b H r n M cn ls T i hi h hM ok h0 hk
      · exact en3 H r n M cn ls T i hi h hM ok (by omega)
    · exact en4 H r n M cn ls T n rfl
  · rw [decide_eq_false h, Bool.false_and]; exact en0 H r n M cn ls T (by omega)
def enP : PC := { args := [.v (.vl 61 13 0)], heap := [⟨61, false, 13, .ta 40 (.tc (.vi .i64 10) (.tc (.vi .i64 11) (.tc (.vi .i64 12) (.tc (.vs 13) (.tc (.vf 71 1 23 14) (.tc (.tc (.vi .i64 15) (.tc (.vi .i64 16) (.tc (.vi .i64 17) (.tc (.vi .i64 18) (.tc (.vb 19) .t0))))) (.tc (.vi .i64 20) (.tc (.vi .i64 21) (.tc (.vi .i64 22) .t0)))))))))⟩], fams := [⟨71, false, 1, 50, 51, .vs 52⟩], gs := [0, 1, 2, 3, 4, 5, 6, 7, 8, 9, 10, 11, 12, 13, 14, 15], G := 23, tp := 213, n := 80, n' := 520, cond := fun e => decide (eN e 0 ≤ eN e 40) && okMs ((⟨eI e 10, eI e 11, eI e 12, eS e 13, eM e 23, eM e 14, eI e 15, eI e 16, eI e 17, eI e 18, eB e 19, eI e 20, eI e 21, fun _ => 0, eI e 22⟩ : RF)).M ((⟨eI e 10, eI e 11, eI e 12, eS e 13, eM e 23, eM e 14, eI e 15, eI e 16, eI e 17, eI e 18, eB e 19, eI e 20, eI e 21, fun _ => 0, eI e 22⟩ : RF)).L (eN e 0) (eN e 50) (eL e 51), v := fun e => .tup [(false, .vl 141 (fun _ => 0) 13 [] (fun _ => (if rowsB (⟨eI e 10, eI e 11, eI e 12, eS e 13, eM e 23, eM e 14, eI e 15, eI e 16, eI e 17, eI e 18, eB e 19, eI e 20, eI e 21, fun _ => 0, eI e 22⟩ : RF) (eS e 52) (eN e 0) = true then eN e 0 else 0))), (false, .vb fun _ => rowsB (⟨eI e 10, eI e 11, eI e 12, eS e 13, eM e 23, eM e 14, eI e 15, eI e 16, eI e 17, eI e 18, eB e 19, eI e 20, eI e 21, fun _ => 0, eI e 22⟩ : RF) (eS e 52) (eN e 0))], post := fun e => enE true 141 71 (⟨eI e 10, eI e 11, eI e 12, eS e 13, eM e 23, eM e 14, eI e 15, eI e 16, eI e 17, eI e 18, eB e 19, eI e 20, eI e 21, fun _ => 0, eI e 22⟩ : RF).err (if rowsB (⟨eI e 10, eI e 11, eI e 12, eS e 13, eM e 23, eM e 14, eI e 15, eI e 16, eI e 17, eI e 18, eB e 19, eI e 20, eI e 21, fun _ => 0, eI e 22⟩ : RF) (eS e 52) (eN e 0) = true then eN e 0 else 0) }
theorem enP_pc : PC.Runs Tryd.prog 27 Tryd.f27 (bodyOf Tryd.f27) enP := ⟨Tryd.func27, by kernel_rfl, (fun g hg => by first | (cases hg; done) | (revert g; show ∀ g ∈ ([0, 1, 2, 3, 4, 5, 6, 7, 8, 9, 10, 11, 12, 13, 14, 15] : List Nat), g < 23; decide)), fun e H hc => by
  have hc : (decide (eN e 0 ≤ eN e 40) && okMs ((⟨eI e 10, eI e 11, eI e 12, eS e 13, eM e 23, eM e 14, eI e 15, eI e 16, eI e 17, eI e 18, eB e 19, eI e 20, eI e 21, fun _ => 0, eI e 22⟩ : RF)).M ((⟨eI e 10, eI e 11, eI e 12, eS e 13, eM e 23, eM e 14, eI e 15, eI e 16, eI e 17, eI e 18, eB e 19, eI e 20, eI e 21, fun _ => 0, eI e 22⟩ : RF)).L (eN e 0) (eN e 50) (eL e 51)) = true := hc
  try simp only [Bool.and_eq_true, decide_eq_true_eq, Nat.beq_eq] at hc
  exact enT_ H (⟨eI e 10, eI e 11, eI e 12, eS e 13, eM e 23, eM e 14, eI e 15, eI e 16, eI e 17, eI e 18, eB e 19, eI e 20, eI e 21, fun _ => 0, eI e 22⟩ : RF) (eN e 0) (eN e 40) (eN e 50) (eL e 51) (eS e 52) hc.1 hc.2⟩
end Go.Proofs.YtaleenklamognaaDoor

set_option linter.unusedVariables false
set_option maxRecDepth 100000
namespace Go.Proofs.YtaleenklamognaaDoor
open Go.Sx Go.Shelf
def itRen : Ren := ⟨fun | 129 => 157 | 283 => 159 | 285 => 161 | n => n, fun | 37 => 118 | 46 => 49 | 51 => 206 | 53 => 193 | n => n, fun | n => n⟩
theorem itLays129 : Go.Proofs.Lays.n129 Tryd.prog itRen := {
  mixed := by kernel_rfl
  f129 := Tryd.func157.trans (congrArg some (by kernel_rfl))
  t3 := Tryd.underlying3
  a3 := Tryd.isAgg3
  z3 := Tryd.sizeOf3
  v3 := Tryd.zeroValue3
  t4 := Tryd.underlying4
  a4 := Tryd.isAgg4
  z4 := Tryd.sizeOf4
  v4 := Tryd.zeroValue4
  t5 := Tryd.underlying5
  a5 := Tryd.isAgg5
  z5 := Tryd.sizeOf5
  v5 := Tryd.zeroValue5
  t9 := Tryd.underlying9
  a9 := Tryd.isAgg9
  z9 := Tryd.sizeOf9
  v9 := Tryd.zeroValue9
  t46 := Tryd.underlying49
  a46 := Tryd.isAgg49
  z46 := Tryd.sizeOf49
  v46 := Tryd.zeroValue49
  t53 := Tryd.underlying193
  a53 := Tryd.isAgg193
  z53 := Tryd.sizeOf193
  v53 := Tryd.zeroValue193 }
theorem itLays283 : Go.Proofs.Lays.n283 Tryd.prog itRen := {
  mixed := by kernel_rfl
  f283 := Tryd.func159.trans (congrArg some (by kernel_rfl))
  t3 := Tryd.underlying3
  a3 := Tryd.isAgg3
  z3 := Tryd.sizeOf3
  v3 := Tryd.zeroValue3
  t4 := Tryd.underlying4
  a4 := Tryd.isAgg4
  z4 := Tryd.sizeOf4
  v4 := Tryd.zeroValue4
  t9 := Tryd.underlying9
  a9 := Tryd.isAgg9
  z9 := Tryd.sizeOf9
  v9 := Tryd.zeroValue9 }
theorem itLays285 : Go.Proofs.Lays.n285 Tryd.prog itRen := {
  mixed := by kernel_rfl
  f285 := Tryd.func161.trans (congrArg some (by kernel_rfl))
  t0 := Tryd.underlying0
  a0 := Tryd.isAgg0
  z0 := Tryd.sizeOf0
  v0 := Tryd.zeroValue0
  t3 := Tryd.underlying3
  a3 := Tryd.isAgg3
  z3 := Tryd.sizeOf3
  v3 := Tryd.zeroValue3
  t4 := Tryd.underlying4
  a4 := Tryd.isAgg4
  z4 := Tryd.sizeOf4
  v4 := Tryd.zeroValue4
  t5 := Tryd.underlying5
  a5 := Tryd.isAgg5
  z5 := Tryd.sizeOf5
  v5 := Tryd.zeroValue5
  t9 := Tryd.underlying9
  a9 := Tryd.isAgg9
  z9 := Tryd.sizeOf9
  v9 := Tryd.zeroValue9
  t37 := Tryd.underlying118
  a37 := Tryd.isAgg118
  z37 := Tryd.sizeOf118
  v37 := Tryd.zeroValue118
  t51 := Tryd.underlying206
  a51 := Tryd.isAgg206
  z51 := Tryd.sizeOf206
  v51 := Tryd.zeroValue206
  t53 := Tryd.underlying193
  a53 := Tryd.isAgg193
  z53 := Tryd.sizeOf193
  v53 := Tryd.zeroValue193 }
theorem lenOK : ∀ args H x e d y, lenB args H x = .ok e d y → OkL d → (∀ a ∈ args, ∀ l ∈ a.labs, l < x.nl) → WFh (Sx.look H) x.nl → gtop Tryd.prog ≤ x.nl → CallOK Tryd.prog 157 args H x.nl e y.nl := by
  have h := lenB_ok itLays129
  rw [show itRen.f 129 = 157 by kernel_rfl] at h
  exact h
theorem smlOK : ∀ args H x e d y, smlB args H x = .ok e d y → OkL d → (∀ a ∈ args, ∀ l ∈ a.labs, l < x.nl) → WFh (Sx.look H) x.nl → gtop Tryd.prog ≤ x.nl → CallOK Tryd.prog 159 args H x.nl e y.nl := by
  have h := smlB_ok itLays283
  rw [show itRen.f 283 = 159 by kernel_rfl] at h
  exact h
theorem fmtOK : ∀ args H x e d y, fmtB args H x = .ok e d y → OkL d → (∀ a ∈ args, ∀ l ∈ a.labs, l < x.nl) → WFh (Sx.look H) x.nl → gtop Tryd.prog ≤ x.nl → CallOK Tryd.prog 161 args H x.nl e y.nl := by
  have h := fmtB_ok itLays285
  rw [show itRen.f 285 = 161 by kernel_rfl] at h
  exact h
end Go.Proofs.YtaleenklamognaaDoor

set_option linter.unusedSimpArgs false
set_option linter.unusedVariables false
set_option maxRecDepth 100000
namespace Go.Proofs.YtaleenklamognaaDoor
open Go.Sx

def pwF (F : Ix → Int) : List Ent := [⟨19, false, none, 20, .ta 20 (.vi .u64 F)⟩]
def pwOK (F : Ix → Int) : Bool := (List.range 20).all fun i => decide (F [i] = ((10 ^ i : Nat) : Int))
theorem pwOK_at {F : Ix → Int} {i : Nat} (h : pwOK F = true) (hi : i < 20) : F [i] = ((10 ^ i : Nat) : Int) := of_decide_eq_true (List.all_eq_true.1 h i (List.mem_range.2 hi))
theorem l10_at {L : Nat} (h : L ≤ 64) : ishr .i64 (IntKind.i64.wrap ((L : Int) * 78913)) 18 = ((Lib.l10 L : Nat) : Int) := by
  have : ((List.range 65).all fun L => decide (ishr .i64 (IntKind.i64.wrap ((L : Int) * 78913)) 18 = ((Lib.l10 L : Nat) : Int))) = true := by kernel_rfl
  exact of_decide_eq_true (List.all_eq_true.1 this L (List.mem_range.2 (by omega)))
theorem bytes_fmt (u : Int) (nd : Nat) (F0 : Ix → Int) (h : nd = Lib.nDigits u.toNat) : bytesOf (cpyF nd 1 F0 (dgF u nd)) [] 1 nd = Lib.decDigits u.toNat := by
  rw [Lib.decDigits_eq, ← h]
  unfold bytesOf
  apply List.map_congr_left
  intro j hj
  have hj := List.mem_range.1 hj
  simp only [List.nil_append, cpyF, dgF]
  rw [if_pos (by omega)]
  simp only [List.headD, Nat.add_sub_cancel_left, Int.toNat_natCast]
  simp
theorem bytes_neg (u : Int) (nd : Nat) (F0 : Ix → Int) (h : nd = Lib.nDigits u.toNat) : bytesOf (upd (cpyF nd 1 F0 (dgF u nd)) [0] 45) [] 0 (1 + nd) = 45 :: Lib.decDigits u.toNat := by
  rw [← bytes_fmt u nd F0 h, Nat.add_comm 1 nd]
  unfold bytesOf
  rw [List.range_succ_eq_map, List.map_cons, List.map_map]
  congr 1
  apply List.map_congr_left
  intro j hj
  simp only [Function.comp, List.nil_append, Nat.zero_add, Nat.succ_eq_add_one]
  rw [upd_other _ _ (by simp)]
  rw [Nat.add_comm j 1]
def sumsIA : List (FuncId × Summ) := [(157, lenB)]
theorem baseIA : Base0 Tryd.prog sumsIA := (baseO.cons Tryd.func157 (by kernel_rfl) lenOK)
theorem ndY_p0 (F : Ix → Int) (x : Int) :
    isEnd (evTill Tryd.prog sumsIA 300 (99) 900 160 [.code (bodyOf Tryd.f160)] (envOf [.v (.vi .u64 fun _ => x)] Tryd.f160.ntmps) (pwF F ++ ([])) ⟨[.s true, .t, .s true, .s true, .s true], 80⟩) (endP ([]) (vN (Lib.nDigits x.toNat)) ([]) 90) =
    (OkL [(decide ((0 : Int) ≤ x ∧ x ≤ (18446744073709551615 : Int)), true), (decide ((0 : Int) ≤ ishr IntKind.i64 (IntKind.i64.wrap ((↑(Lib.bitLen x.toNat) : Int) * (78913 : Int))) (18 : Int) ∧ ishr IntKind.i64 (IntKind.i64.wrap ((↑(Lib.bitLen x.toNat) : Int) * (78913 : Int))) (18 : Int) < (↑(20 : Nat) : Int)), true), ((ishr IntKind.i64 (IntKind.i64.wrap ((↑(Lib.bitLen x.toNat) : Int) * (78913 : Int))) (18 : Int)).toNat.blt (20 : Nat), true), (decide (x ≥ F [(ishr IntKind.i64 (IntKind.i64.wrap ((↑(Lib.bitLen x.toNat) : Int) * (78913 : Int))) (18 : Int)).toNat]), true)] ∧ (↑(Lib.nDigits x.toNat) : Int) = IntKind.i64.wrap (ishr IntKind.i64 (IntKind.i64.wrap ((↑(Lib.bitLen x.toNat) : Int) * (78913 : Int))) (18 : Int) + (1 : Int)) ∧ True) := by kernel_rfl

set_option maxHeartbeats 4000000 in
theorem ndY (F : Ix → Int) (x : Int) (hF : pwOK F = true) (h1 : 1 ≤ x) (h2 : x < 18446744073709551616) (hc : ((10 ^ Lib.l10 (Lib.bitLen x.toNat) : Nat) : Int) ≤ x)  :
    RunsTo Tryd.prog 160 [.code (bodyOf Tryd.f160)] (envOf [.v (.vi .u64 fun _ => x)] Tryd.f160.ntmps) (Sx.look (pwF F ++ ([]))) 80 (vN (Lib.nDigits x.toNat)) (Sx.look ([])) 90 := by
  have hL : Lib.bitLen x.toNat ≤ 64 := Lib.bitLen_le x.toNat 64 (Nat.le_refl _) (by omega)
  have hl := l10_at hL
  obtain ⟨e1, e2⟩ := Lib.numDigits_eq x.toNat (by omega) (by omega)
  have ht := pwOK_at hF (show Lib.l10 (Lib.bitLen x.toNat) < 20 by omega)
  refine runs_last baseIA (Sx.Ends.of (ndY_p0 F x) ⟨?oo, ?rr⟩) (by kernel_rfl) rfl (gtL (by decide)) (by decide)
  case oo =>
    refine (okc ?_ (okc ?_ (okc ?_ (okc ?_ okn))))
    all_goals first | omega | (simp (disch := omega) only [SS, hl, ht]; first | done | omega) | (simp_all; done) | (simp_all; omega)
  case rr =>
    refine ⟨?_, trivial⟩
    rw [← e1]
    simp only [hl]
    first | (rw [if_pos (by omega)]; first | (rw [wr64 (by omega)]; push_cast; omega) | (push_cast; omega)) | (rw [if_neg (by omega)]; first | (rw [wr64 (by omega)]; push_cast; omega) | (push_cast; omega))

theorem ndN_p0 (F : Ix → Int) (x : Int) :
    isEnd (evTill Tryd.prog sumsIA 300 (99) 900 160 [.code (bodyOf Tryd.f160)] (envOf [.v (.vi .u64 fun _ => x)] Tryd.f160.ntmps) (pwF F ++ ([])) ⟨[.s true, .t, .s true, .s true, .s false], 80⟩) (endP ([]) (vN (Lib.nDigits x.toNat)) ([]) 90) =
    (OkL [(decide ((0 : Int) ≤ x ∧ x ≤ (18446744073709551615 : Int)), true), (decide ((0 : Int) ≤ ishr IntKind.i64 (IntKind.i64.wrap ((↑(Lib.bitLen x.toNat) : Int) * (78913 : Int))) (18 : Int) ∧ ishr IntKind.i64 (IntKind.i64.wrap ((↑(Lib.bitLen x.toNat) : Int) * (78913 : Int))) (18 : Int) < (↑(20 : Nat) : Int)), true), ((ishr IntKind.i64 (IntKind.i64.wrap ((↑(Lib.bitLen x.toNat) : Int) * (78913 : Int))) (18 : Int)).toNat.blt (20 : Nat), true), (decide (x ≥ F [(ishr IntKind.i64 (IntKind.i64.wrap ((↑(Lib.bitLen x.toNat) : Int) * (78913 : Int))) (18 : Int)).toNat]), false)] ∧ (↑(Lib.nDigits x.toNat) : Int) = IntKind.i64.wrap (ishr IntKind.i64 (IntKind.i64.wrap ((↑(Lib.bitLen x.toNat) : Int) * (78913 : Int))) (18 : Int) + (0 : Int)) ∧ True) := by kernel_rfl

set_option maxHeartbeats 4000000 in
theorem ndN (F : Ix → Int) (x : Int) (hF : pwOK F = true) (h1 : 1 ≤ x) (h2 : x < 18446744073709551616) (hc : ¬ (((10 ^ Lib.l10 (Lib.bitLen x.toNat) : Nat) : Int) ≤ x))  :
    RunsTo Tryd.prog 160 [.code (bodyOf Tryd.f160)] (envOf [.v (.vi .u64 fun _ => x)] Tryd.f160.ntmps) (Sx.look (pwF F ++ ([]))) 80 (vN (Lib.nDigits x.toNat)) (Sx.look ([])) 90 := by
  have hL : Lib.bitLen x.toNat ≤ 64 := Lib.bitLen_le x.toNat 64 (Nat.le_refl _) (by omega)
  have hl := l10_at hL
  obtain ⟨e1, e2⟩ := Lib.numDigits_eq x.toNat (by omega) (by omega)
  have ht := pwOK_at hF (show Lib.l10 (Lib.bitLen x.toNat) < 20 by omega)
  refine runs_last baseIA (Sx.Ends.of (ndN_p0 F x) ⟨?oo, ?rr⟩) (by kernel_rfl) rfl (gtL (by decide)) (by decide)
  case oo =>
    refine (okc ?_ (okc ?_ (okc ?_ (okc ?_ okn))))
    all_goals first | omega | (simp (disch := omega) only [SS, hl, ht]; first | done | omega) | (simp_all; done) | (simp_all; omega)
  case rr =>
    refine ⟨?_, trivial⟩
    rw [← e1]
    simp only [hl]
    first | (rw [if_pos (by omega)]; first | (rw [wr64 (by omega)]; push_cast; omega) | (push_cast; omega)) | (rw [if_neg (by omega)]; first | (rw [wr64 (by omega)]; push_cast; omega) | (push_cast; omega))

theorem ndT (F : Ix → Int) (x : Int) (hF : pwOK F = true) (h1 : 1 ≤ x) (h2 : x < 18446744073709551616) : RunsTo Tryd.prog 160 [.code (bodyOf Tryd.f160)] (envOf [.v (.vi .u64 fun _ => x)] Tryd.f160.ntmps) (Sx.look (pwF F ++ ([]))) 80 (vN (Lib.nDigits x.toNat)) (Sx.look []) 90 := by
  by_cases hc : ((10 ^ Lib.l10 (Lib.bitLen x.toNat) : Nat) : Int) ≤ x
  · exact ndY F x hF h1 h2 hc
  · exact ndN F x hF h1 h2 hc
def ndP : PC := { args := [.v (.vi .u64 0)], heap := [], fams := [], tabs := [⟨19, false, 20, .tn 20 (.vi .u64 9)⟩], gs := [], G := 23, tp := 213, n := 80, n' := 90, cond := fun e => pwOK (eI e 9) && (decide (1 ≤ eI e 0 []) && decide (eI e 0 [] < 18446744073709551616)), v := fun e => vN (Lib.nDigits (eI e 0 []).toNat), post := fun e => [] }
theorem ndP_pc : PC.Runs Tryd.prog 160 Tryd.f160 (bodyOf Tryd.f160) ndP := ⟨Tryd.func160, by kernel_rfl, (fun g hg => by first | (cases hg; done) | (revert g; show ∀ g ∈ ([] : List Nat), g < 23; decide)), fun e H hc => by
  have hc : (pwOK (eI e 9) && (decide (1 ≤ eI e 0 []) && decide (eI e 0 [] < 18446744073709551616))) = true := hc
  try simp only [Bool.and_eq_true, decide_eq_true_eq, Nat.beq_eq] at hc
  exact ndT (eI e 9) (eI e 0 []) hc.1 hc.2.1 hc.2.2⟩
def sumsIB : List (FuncId × Summ) := [(160, ndP.summ 46), (161, fmtB), (159, smlB)]
theorem baseIB : Base0 Tryd.prog sumsIB := (((baseO.cons Tryd.func159 (by kernel_rfl) smlOK).cons Tryd.func161 (by kernel_rfl) fmtOK).cons Tryd.func160 (by kernel_rfl) (PC.summ_ok ndP_pc gtopG))
theorem zftS_p0 (F : Ix → Int) (n : Int) :
    isEnd (evTill Tryd.prog sumsIB 400 (99) 900 142 [.code (bodyOf Tryd.f142)] (envOf [vN n, vN 10] Tryd.f142.ntmps) (pwF F ++ ([])) ⟨[.t, .s true, .s true, .s true], 80⟩) (endP ([]) (vS (Lib.itoa n)) ([]) 110) =
    (OkL [(decide ((0 : Int) ≤ n), true), (decide (n < (100 : Int)), true), (decide ((0 : Int) ≤ n ∧ n ≤ (99 : Int)), true)] ∧ Lib.itoa n = Lib.decDigits n.toNat ∧ True) := by kernel_rfl

set_option maxHeartbeats 4000000 in
theorem zftS (F : Ix → Int) (n : Int) (h : 0 ≤ n ∧ n < 100)  :
    RunsTo Tryd.prog 142 [.code (bodyOf Tryd.f142)] (envOf [vN n, vN 10] Tryd.f142.ntmps) (Sx.look (pwF F ++ ([]))) 80 (vS (Lib.itoa n)) (Sx.look ([])) 110 := by
  have hi : Lib.itoa n = Lib.decDigits n.toNat := if_neg (by omega)
  refine runs_last baseIB (Sx.Ends.of (zftS_p0 F n) ⟨?oo, ?rr⟩) (by kernel_rfl) rfl (gtL (by decide)) (by decide)
  case oo =>
    refine (okc ?_ (okc ?_ (okc ?_ okn)))
    all_goals ((try simp (disch := omega) only [SS, hi]); first | done | omega | assumption | (simp (disch := omega) only [SS, hi] at *; first | done | omega | assumption) | (simp_all; done))
  case rr =>
    refine ⟨?_, trivial⟩
    rw [hi]; try rfl

theorem zftP_p0 (F : Ix → Int) (n : Int) :
    isEnd (evTill Tryd.prog sumsIB 400 (99) 900 142 [.code (bodyOf Tryd.f142)] (envOf [vN n, vN 10] Tryd.f142.ntmps) (pwF F ++ ([])) ⟨[.t, .s true, .s false, .s false, .s true, .s true, .s true, .s true, .s true, .s true, .s true, .s true, .s false, .s true, .s true, .s true], 80⟩) (endP ([]) (vS (Lib.itoa n)) ([]) 110) =
    (OkL [(decide ((0 : Int) ≤ n), true), (decide (n < (100 : Int)), false), (decide (n < (0 : Int)), false), (pwOK F && (decide ((1 : Int) ≤ IntKind.u64.wrap n) && decide (IntKind.u64.wrap n < (18446744073709551616 : Int))), true), (decide ((0 : Int) ≤ IntKind.i64.wrap ((1 : Int) + (↑(Lib.nDigits (IntKind.u64.wrap n).toNat) : Int)) ∧ IntKind.i64.wrap ((1 : Int) + (↑(Lib.nDigits (IntKind.u64.wrap n).toNat) : Int)) ≤ (↑(24 : Nat) : Int)), true), (decide ((0 : Int) ≤ (1 : Int) ∧ (1 : Int) ≤ IntKind.i64.wrap ((1 : Int) + (↑(Lib.nDigits (IntKind.u64.wrap n).toNat) : Int)) ∧ (1 : Int) < (↑(24 : Nat) : Int)), true), (((1 : Nat) + ((IntKind.i64.wrap ((1 : Int) + (↑(Lib.nDigits (IntKind.u64.wrap n).toNat) : Int))).toNat - (1 : Nat))).ble (24 : Nat), true), (decide ((0 : Int) ≤ IntKind.u64.wrap n ∧ IntKind.u64.wrap n < (18446744073709551616 : Int)), true), (decide ((IntKind.u64.wrap n).toNat < (10 : Nat) ^ ((IntKind.i64.wrap ((1 : Int) + (↑(Lib.nDigits (IntKind.u64.wrap n).toNat) : Int))).toNat - (1 : Nat))), true), (decide ((0 : Nat) < (IntKind.i64.wrap ((1 : Int) + (↑(Lib.nDigits (IntKind.u64.wrap n).toNat) : Int))).toNat - (1 : Nat) ∧ (IntKind.i64.wrap ((1 : Int) + (↑(Lib.nDigits (IntKind.u64.wrap n).toNat) : Int))).toNat - (1 : Nat) < (1000 : Nat)), true), ((List.range ((IntKind.i64.wrap ((1 : Int) + (↑(Lib.nDigits (IntKind.u64.wrap n).toNat) : Int))).toNat - (1 : Nat))).all fun j => decide ((0 : Int) ≤ (0 : Int) ∧ (0 : Int) < (256 : Int)), true), (decide (n < (0 : Int)), false), (decide ((0 : Int) ≤ IntKind.i64.wrap ((1 : Int) + (↑(Lib.nDigits (IntKind.u64.wrap n).toNat) : Int)) ∧ IntKind.i64.wrap ((1 : Int) + (↑(Lib.nDigits (IntKind.u64.wrap n).toNat) : Int)) ≤ (↑(24 : Nat) : Int)), true), (decide ((0 : Int) ≤ (1 : Int) ∧ (1 : Int) ≤ IntKind.i64.wrap ((1 : Int) + (↑(Lib.nDigits (IntKind.u64.wrap n).toNat) : Int)) ∧ (1 : Int) < (↑(24 : Nat) : Int)), true), (((1 : Nat) + ((IntKind.i64.wrap ((1 : Int) + (↑(Lib.nDigits (IntKind.u64.wrap n).toNat) : Int))).toNat - (1 : Nat))).ble (24 : Nat), true)] ∧ Lib.itoa n = bytesOf (cpyF ((IntKind.i64.wrap ((1 : Int) + (↑(Lib.nDigits (IntKind.u64.wrap n).toNat) : Int))).toNat - (1 : Nat)) (1 : Nat) (fun x => (0 : Int)) fun is => (↑(Lib.dg (IntKind.u64.wrap n).toNat ((IntKind.i64.wrap ((1 : Int) + (↑(Lib.nDigits (IntKind.u64.wrap n).toNat) : Int))).toNat - (1 : Nat) - (1 : Nat) - List.headD is (0 : Nat))).toNat : Int)) [] (1 : Nat) ((IntKind.i64.wrap ((1 : Int) + (↑(Lib.nDigits (IntKind.u64.wrap n).toNat) : Int))).toNat - (1 : Nat)) ∧ True) := by kernel_rfl

set_option maxHeartbeats 4000000 in
theorem zftP (F : Ix → Int) (n : Int) (hF : pwOK F = true) (h : 100 ≤ n ∧ n < 9223372036854775808)  :
    RunsTo Tryd.prog 142 [.code (bodyOf Tryd.f142)] (envOf [vN n, vN 10] Tryd.f142.ntmps) (Sx.look (pwF F ++ ([]))) 80 (vS (Lib.itoa n)) (Sx.look ([])) 110 := by
  have hi : Lib.itoa n = Lib.decDigits n.toNat := if_neg (by omega)
  have hu : IntKind.u64.wrap n = n := by simp only [IntKind.wrap, IntKind.bits, IntKind.signed]; simp; omega
  have hnd := Lib.nDigits_le20 n.toNat (by omega)
  have hnp := Lib.nDigits_pos n.toNat
  have hnl := Lib.lt_pow_nDigits n.toNat
  have hw : IntKind.i64.wrap (1 + ((Lib.nDigits n.toNat : Nat) : Int)) = ((1 + Lib.nDigits n.toNat : Nat) : Int) := by rw [wr64 (by omega)]; push_cast; omega
  refine runs_last baseIB (Sx.Ends.of (zftP_p0 F n) ⟨?oo, ?rr⟩) (by kernel_rfl) rfl (gtL (by decide)) (by decide)
  case oo =>
    refine (okc ?_ (okc ?_ (okc ?_ (okc ?_ (okc ?_ (okc ?_ (okc ?_ (okc ?_ (okc ?_ (okc ?_ (okc ?_ (okc ?_ (okc ?_ (okc ?_ (okc ?_ okn)))))))))))))))
    all_goals first | omega | assumption | (simp only [Int.toNat_natCast, Nat.add_sub_cancel_left, decide_eq_true_eq, hu, hw]; first | exact hnl | omega | exact ⟨by omega, by omega⟩) |  (simp (disch := omega) only [SS, hu, hw]; first | done | omega | assumption) | (simp only [byteOk]; simp; done) | exact ⟨hF, by omega, by omega⟩ | (simp_all [byteOk]; done) | (simp_all; omega)
  case rr =>
    refine ⟨?_, trivial⟩
    rw [hi]
    try simp only [hu, hw, Int.toNat_natCast, Nat.add_sub_cancel_left]
    exact (bytes_fmt n (Lib.nDigits n.toNat) (fun _ => 0) rfl).symm

theorem zftN_p0 (F : Ix → Int) (n : Int) (u : Int) :
    isEnd (evTill Tryd.prog sumsIB 400 (99) 900 142 [.code (bodyOf Tryd.f142)] (envOf [vN n, vN 10] Tryd.f142.ntmps) (pwF F ++ ([])) ⟨[.t, .s false, .s true, .s true, .s true, .s true, .s true, .s true, .s true, .s true, .s true, .s true, .t, .t, .s true, .s true], 80⟩) (endP ([]) (vS (Lib.itoa n)) ([]) 110) =
    (OkL [(decide ((0 : Int) ≤ n), false), (decide (n < (0 : Int)), true), (pwOK F && (decide ((1 : Int) ≤ IntKind.u64.wrap ((0 : Int) - IntKind.u64.wrap n)) && decide (IntKind.u64.wrap ((0 : Int) - IntKind.u64.wrap n) < (18446744073709551616 : Int))), true), (decide ((0 : Int) ≤ IntKind.i64.wrap ((1 : Int) + (↑(Lib.nDigits (IntKind.u64.wrap ((0 : Int) - IntKind.u64.wrap n)).toNat) : Int)) ∧ IntKind.i64.wrap ((1 : Int) + (↑(Lib.nDigits (IntKind.u64.wrap ((0 : Int) - IntKind.u64.wrap n)).toNat) : Int)) ≤ (↑(24 : Nat) : Int)), true), (decide ((0 : Int) ≤ (1 : Int) ∧ (1 : Int) ≤ IntKind.i64.wrap ((1 : Int) + (↑(Lib.nDigits (IntKind.u64.wrap ((0 : Int) - IntKind.u64.wrap n)).toNat) : Int)) ∧ (1 : Int) < (↑(24 : Nat) : Int)), true), (((1 : Nat) + ((IntKind.i64.wrap ((1 : Int) + (↑(Lib.nDigits (IntKind.u64.wrap ((0 : Int) - IntKind.u64.wrap n)).toNat) : Int))).toNat - (1 : Nat))).ble (24 : Nat), true), (decide ((0 : Int) ≤ IntKind.u64.wrap ((0 : Int) - IntKind.u64.wrap n) ∧ IntKind.u64.wrap ((0 : Int) - IntKind.u64.wrap n) < (18446744073709551616 : Int)), true), (decide ((IntKind.u64.wrap ((0 : Int) - IntKind.u64.wrap n)).toNat < (10 : Nat) ^ ((IntKind.i64.wrap ((1 : Int) + (↑(Lib.nDigits (IntKind.u64.wrap ((0 : Int) - IntKind.u64.wrap n)).toNat) : Int))).toNat - (1 : Nat))), true), (decide ((0 : Nat) < (IntKind.i64.wrap ((1 : Int) + (↑(Lib.nDigits (IntKind.u64.wrap ((0 : Int) - IntKind.u64.wrap n)).toNat) : Int))).toNat - (1 : Nat) ∧ (IntKind.i64.wrap ((1 : Int) + (↑(Lib.nDigits (IntKind.u64.wrap ((0 : Int) - IntKind.u64.wrap n)).toNat) : Int))).toNat - (1 : Nat) < (1000 : Nat)), true), ((List.range ((IntKind.i64.wrap ((1 : Int) + (↑(Lib.nDigits (IntKind.u64.wrap ((0 : Int) - IntKind.u64.wrap n)).toNat) : Int))).toNat - (1 : Nat))).all fun j => decide ((0 : Int) ≤ (0 : Int) ∧ (0 : Int) < (256 : Int)), true), (decide (n < (0 : Int)), true), (decide ((0 : Int) ≤ IntKind.i64.wrap ((1 : Int) + (↑(Lib.nDigits (IntKind.u64.wrap ((0 : Int) - IntKind.u64.wrap n)).toNat) : Int)) ∧ IntKind.i64.wrap ((1 : Int) + (↑(Lib.nDigits (IntKind.u64.wrap ((0 : Int) - IntKind.u64.wrap n)).toNat) : Int)) ≤ (↑(24 : Nat) : Int)), true), (((0 : Nat) + (IntKind.i64.wrap ((1 : Int) + (↑(Lib.nDigits (IntKind.u64.wrap ((0 : Int) - IntKind.u64.wrap n)).toNat) : Int))).toNat).ble (24 : Nat), true)] ∧ Lib.itoa n = bytesOf (upd (cpyF ((IntKind.i64.wrap ((1 : Int) + (↑(Lib.nDigits (IntKind.u64.wrap ((0 : Int) - IntKind.u64.wrap n)).toNat) : Int))).toNat - (1 : Nat)) (1 : Nat) (fun x => (0 : Int)) fun is => (↑(Lib.dg (IntKind.u64.wrap ((0 : Int) - IntKind.u64.wrap n)).toNat ((IntKind.i64.wrap ((1 : Int) + (↑(Lib.nDigits (IntKind.u64.wrap ((0 : Int) - IntKind.u64.wrap n)).toNat) : Int))).toNat - (1 : Nat) - (1 : Nat) - List.headD is (0 : Nat))).toNat : Int)) [(0 : Nat)] (45 : Int)) [] (0 : Nat) (IntKind.i64.wrap ((1 : Int) + (↑(Lib.nDigits (IntKind.u64.wrap ((0 : Int) - IntKind.u64.wrap n)).toNat) : Int))).toNat ∧ True) := by kernel_rfl

set_option maxHeartbeats 4000000 in
theorem zftN (F : Ix → Int) (n : Int) (u : Int) (hF : pwOK F = true) (h : -9223372036854775808 ≤ n ∧ n < 0) (hu : u = -n)  :
    RunsTo Tryd.prog 142 [.code (bodyOf Tryd.f142)] (envOf [vN n, vN 10] Tryd.f142.ntmps) (Sx.look (pwF F ++ ([]))) 80 (vS (Lib.itoa n)) (Sx.look ([])) 110 := by
  have hi : Lib.itoa n = 45 :: Lib.decDigits u.toNat := by unfold Lib.itoa; rw [if_pos (by omega)]; congr 2; omega
  have hz : IntKind.u64.wrap (0 - IntKind.u64.wrap n) = u := by simp only [IntKind.wrap, IntKind.bits, IntKind.signed]; simp; omega
  have hnd := Lib.nDigits_le20 u.toNat (by omega)
  have hnp := Lib.nDigits_pos u.toNat
  have hnl := Lib.lt_pow_nDigits u.toNat
  have hw : IntKind.i64.wrap (1 + ((Lib.nDigits u.toNat : Nat) : Int)) = ((1 + Lib.nDigits u.toNat : Nat) : Int) := by rw [wr64 (by omega)]; push_cast; omega
  refine runs_last baseIB (Sx.Ends.of (zftN_p0 F n u) ⟨?oo, ?rr⟩) (by kernel_rfl) rfl (gtL (by decide)) (by decide)
  case oo =>
    refine (okc ?_ (okc ?_ (okc ?_ (okc ?_ (okc ?_ (okc ?_ (okc ?_ (okc ?_ (okc ?_ (okc ?_ (okc ?_ (okc ?_ (okc ?_ okn)))))))))))))
    all_goals first | omega | assumption | (simp only [Int.toNat_natCast, Nat.add_sub_cancel_left, decide_eq_true_eq, hz, hw]; first | exact hnl | omega | exact ⟨by omega, by omega⟩) |  (simp (disch := omega) only [SS, hz, hw]; first | done | omega | assumption) | (simp only [byteOk]; simp; done) | exact ⟨hF, by omega, by omega⟩ | (simp_all [byteOk]; done) | (simp_all; omega)
  case rr =>
    refine ⟨?_, trivial⟩
    rw [hi]
    try simp only [hz, hw, Int.toNat_natCast, Nat.add_sub_cancel_left]
    exact (bytes_neg u (Lib.nDigits u.toNat) (fun _ => 0) rfl).symm

theorem zftT (F : Ix → Int) (n : Int) (hF : pwOK F = true) (h : -9223372036854775808 ≤ n ∧ n < 9223372036854775808) : RunsTo Tryd.prog 142 [.code (bodyOf Tryd.f142)] (envOf [vN n, vN 10] Tryd.f142.ntmps) (Sx.look (pwF F ++ ([]))) 80 (vS (Lib.itoa n)) (Sx.look []) 110 := by
  by_cases h1 : n < 0
  · exact zftN F n (-n) hF ⟨h.1, h1⟩ rfl
  · by_cases h2 : n < 100
    · exact zftS F n ⟨by omega, h2⟩
    · exact zftP F n hF ⟨by omega, h.2⟩
end Go.Proofs.YtaleenklamognaaDoor

set_option linter.unusedSimpArgs false
set_option linter.unusedVariables false
set_option maxRecDepth 100000
namespace Go.Proofs.YtaleenklamognaaDoor
open Go.Sx

open WordR
def wdE (W : Ix → List UInt8) : List Ent := [⟨16, false, none, 16, .ta 16 (.vs W)⟩]
def inR (n : Int) : Bool := decide (-9223372036854775808 ≤ n ∧ n < 9223372036854775808)
def wdOK (W : Ix → List UInt8) : Bool := (List.range 16).all fun i => decide ((W [i]).length ≤ 10)
def wordC (W : Ix → List UInt8) (c : Int) : List UInt8 := if 240 ≤ c ∧ c ≤ 255 then W [(c - 240).toNat] else []
def cmdV (W : Ix → List UInt8) (c : Int) : List UInt8 := if wordC W c = [] then Lib.itoa c else wordC W c
def wdO (o : Int) : List UInt8 := if o = 0 then [98, 105, 110, 97, 114, 121] else if o = 1 then [101, 99, 104, 111] else if o = 3 then [115, 103, 97] else if o = 5 then [115, 116, 97, 116, 117, 115] else if o = 6 then [109, 97, 114, 107] else if o = 24 then [116, 116, 121, 112, 101] else if o = 31 then [110, 97, 119, 115] else if o = 34 then [108, 105, 110, 101, 109, 111, 100, 101] else []
def nmV (o : Int) : List UInt8 := if o < 0 ∨ 256 ≤ o then [] else if wdO o = [] then Lib.itoa o else wdO o
def optV (o : Int) : List UInt8 := if nmV o = [] then Lib.itoa o else nmV o
def sidV (n : Int) : List UInt8 := if n = 0 then [117, 115] else if n = 1 then [104, 105, 109] else Lib.itoa n
theorem itoa_len {n : Int} (h : inR n = true) : (Lib.itoa n).length ≤ 21 := by
  have h := of_decide_eq_true h
  unfold Lib.itoa
  split
  · rw [List.length_cons, Lib.decDigits_length]
    have := Lib.nDigits_le20 n.natAbs (by omega)
    omega
  · rw [Lib.decDigits_length]
    have := Lib.nDigits_le20 n.toNat (by omega)
    omega
theorem itoa_ne (n : Int) : Lib.itoa n ≠ [] := by
  intro h
  have := congrArg List.length h
  unfold Lib.itoa at this
  split at this
  · simp at this
  · rw [Lib.decDigits_length] at this
    have := Lib.nDigits_pos n.toNat
    simp_all
theorem wordC_len {W : Ix → List UInt8} (h : wdOK W = true) (c : Int) : (wordC W c).length ≤ 10 := by
  unfold wordC
  split
  · exact of_decide_eq_true (List.all_eq_true.1 h _ (List.mem_range.2 (by omega)))
  · simp
theorem cmdV_len {W : Ix → List UInt8} (h : wdOK W = true) {c : Int} (hc : inR c = true) : (cmdV W c).length ≤ 21 := by
  unfold cmdV
  split
  · exact itoa_len hc
  · have := wordC_len h c; omega
theorem wdO_len (o : Int) : (wdO o).length ≤ 8 := by
  unfold wdO
  repeat' split
  all_goals simp
theorem nmV_len {o : Int} (h : inR o = true) : (nmV o).length ≤ 21 := by
  unfold nmV
  split
  · simp
  · split
    · exact itoa_len h
    · have := wdO_len o; omega
theorem optV_len {o : Int} (h : inR o = true) : (optV o).length ≤ 21 := by
  unfold optV
  split
  · exact itoa_len h
  · exact nmV_len h
theorem sidV_len {o : Int} (h : inR o = true) : (sidV o).length ≤ 21 := by
  unfold sidV
  repeat' split
  · simp
  · simp
  · exact itoa_len h
theorem zfiT10 (F : Ix → Int) (n b : Int) (hb : b = 10) (hF : pwOK F = true) (h : inR n = true) : RunsTo Tryd.prog 142 [.code (bodyOf Tryd.f142)] (envOf [vN n, vN b] Tryd.f142.ntmps) (Sx.look (pwF F)) 80 (vS (Lib.itoa n)) (Sx.look []) 110 := by
  subst hb
  have := zftT F n hF (of_decide_eq_true h)
  simpa using this
def zfiP : PC := { args := [.v (.vi .i64 0), .v (.vi .i64 1)], heap := [], fams := [], tabs := [⟨19, false, 20, .tn 20 (.vi .u64 9)⟩], gs := [], G := 23, tp := 213, n := 80, n' := 110, cond := fun e => decide (eI e 1 [] = 10) && (pwOK (eI e 9) && inR (eI e 0 [])), v := fun e => vS (Lib.itoa (eI e 0 [])), post := fun e => [] }
theorem zfiP_pc : PC.Runs Tryd.prog 142 Tryd.f142 (bodyOf Tryd.f142) zfiP := ⟨Tryd.func142, by kernel_rfl, (fun g hg => by first | (cases hg; done) | (revert g; show ∀ g ∈ ([] : List Nat), g < 23; decide)), fun e H hc => by
  have hc : (decide (eI e 1 [] = 10) && (pwOK (eI e 9) && inR (eI e 0 []))) = true := hc
  try simp only [Bool.and_eq_true, decide_eq_true_eq, Nat.beq_eq] at hc
  exact zfiT10 (eI e 9) (eI e 0 []) (eI e 1 []) hc.1 hc.2.1 hc.2.2⟩
def sumsJA : List (FuncId × Summ) := [(142, zfiP.summ 46)]
theorem baseJA : Base0 Tryd.prog sumsJA := (baseO.cons Tryd.func142 (by kernel_rfl) (PC.summ_ok zfiP_pc gtopG))
theorem zit_p0 (F : Ix → Int) (n : Int) :
    isEnd (evTill Tryd.prog sumsJA 300 (99) 900 101 [.code (bodyOf Tryd.f101)] (envOf [vN n] Tryd.f101.ntmps) (pwF F ++ ([])) ⟨[.s true], 80⟩) (endP ([]) (vS (Lib.itoa n)) ([]) 120) =
    (OkL [(decide ((10 : Int) = (10 : Int)) && (pwOK F && inR n), true)] ∧ Lib.itoa n = Lib.itoa n ∧ True) := by kernel_rfl

set_option maxHeartbeats 4000000 in
theorem zit (F : Ix → Int) (n : Int) (hF : pwOK F = true) (hn : inR n = true)  :
    RunsTo Tryd.prog 101 [.code (bodyOf Tryd.f101)] (envOf [vN n] Tryd.f101.ntmps) (Sx.look (pwF F ++ ([]))) 80 (vS (Lib.itoa n)) (Sx.look ([])) 120 := by
  refine runs_last baseJA (Sx.Ends.of (zit_p0 F n) ⟨?oo, ?rr⟩) (by kernel_rfl) rfl (gtL (by decide)) (by decide)
  case oo =>
    refine (okc ?_ okn)
    all_goals first | rfl | omega | assumption | exact ⟨hF, hn⟩ | exact ⟨rfl, hF, hn⟩ | (simp (disch := omega) only [SS]; first | done | omega | assumption | exact ⟨hF, hn⟩) | (simp_all; done) | (simp_all; omega)
  case rr =>
    exact ⟨rfl, trivial⟩

def zitP : PC := { args := [.v (.vi .i64 0)], heap := [], fams := [], tabs := [⟨19, false, 20, .tn 20 (.vi .u64 9)⟩], gs := [], G := 23, tp := 213, n := 80, n' := 120, cond := fun e => pwOK (eI e 9) && inR (eI e 0 []), v := fun e => vS (Lib.itoa (eI e 0 [])), post := fun e => [] }
theorem zitP_pc : PC.Runs Tryd.prog 101 Tryd.f101 (bodyOf Tryd.f101) zitP := ⟨Tryd.func101, by kernel_rfl, (fun g hg => by first | (cases hg; done) | (revert g; show ∀ g ∈ ([] : List Nat), g < 23; decide)), fun e H hc => by
  have hc : (pwOK (eI e 9) && inR (eI e 0 [])) = true := hc
  try simp only [Bool.and_eq_true, decide_eq_true_eq, Nat.beq_eq] at hc
  exact zit (eI e 9) (eI e 0 []) hc.1 hc.2⟩
theorem zww1_p0 (W : Ix → List UInt8) (c : Int) :
    isEnd (evTill Tryd.prog [] 300 (99) 900 125 [.code (bodyOf Tryd.f125)] (envOf [vN c] Tryd.f125.ntmps) (wdE W ++ ([])) ⟨[.s false, .s false, .s true, .s true], 80⟩) (endP ([]) (vS (wordC W c)) ([]) 85) =
    (OkL [(decide (c < (240 : Int)), false), (decide (c > (255 : Int)), false), (decide ((0 : Int) ≤ IntKind.i64.wrap (c - (240 : Int)) ∧ IntKind.i64.wrap (c - (240 : Int)) < (↑(16 : Nat) : Int)), true), ((IntKind.i64.wrap (c - (240 : Int))).toNat.blt (16 : Nat), true)] ∧ wordC W c = W [(IntKind.i64.wrap (c - (240 : Int))).toNat] ∧ True) := by kernel_rfl

set_option maxHeartbeats 4000000 in
theorem zww1 (W : Ix → List UInt8) (c : Int) (h : 240 ≤ c ∧ c ≤ 255)  :
    RunsTo Tryd.prog 125 [.code (bodyOf Tryd.f125)] (envOf [vN c] Tryd.f125.ntmps) (Sx.look (wdE W ++ ([]))) 80 (vS (wordC W c)) (Sx.look ([])) 85 := by
  have hv : wordC W c = W [(c - 240).toNat] := if_pos h
  have hw : IntKind.i64.wrap (c - 240) = c - 240 := wr64 (by omega)
  refine runs_last baseO (Sx.Ends.of (zww1_p0 W c) ⟨?oo, ?rr⟩) (by kernel_rfl) rfl (gtL (by decide)) (by decide)
  case oo =>
    refine (okc ?_ (okc ?_ (okc ?_ (okc ?_ okn))))
    all_goals ((try simp (disch := omega) only [SS, hw]); first | done | omega | assumption | (simp (disch := omega) only [SS, hw] at *; first | done | omega | assumption) | (simp_all; done))
  case rr =>
    refine ⟨?_, trivial⟩
    rw [hv]; first | rfl | (simp only [hw]; done) | (simp [hw]; done)

theorem zww2_p0 (W : Ix → List UInt8) (c : Int) :
    isEnd (evTill Tryd.prog [] 300 (99) 900 125 [.code (bodyOf Tryd.f125)] (envOf [vN c] Tryd.f125.ntmps) (wdE W ++ ([])) ⟨[.s false, .s true], 80⟩) (endP ([]) (vS (wordC W c)) ([]) 85) =
    (OkL [(decide (c < (240 : Int)), false), (decide (c > (255 : Int)), true)] ∧ wordC W c = [] ∧ True) := by kernel_rfl
theorem zww2_p1 (W : Ix → List UInt8) (c : Int) :
    isEnd (evTill Tryd.prog [] 300 (99) 900 125 [.code (bodyOf Tryd.f125)] (envOf [vN c] Tryd.f125.ntmps) (wdE W ++ ([])) ⟨[.s true], 80⟩) (endP ([]) (vS (wordC W c)) ([]) 85) =
    (OkL [(decide (c < (240 : Int)), true)] ∧ wordC W c = [] ∧ True) := by kernel_rfl

set_option maxHeartbeats 4000000 in
theorem zww2 (W : Ix → List UInt8) (c : Int) (h : ¬ (240 ≤ c ∧ c ≤ 255))  :
    RunsTo Tryd.prog 125 [.code (bodyOf Tryd.f125)] (envOf [vN c] Tryd.f125.ntmps) (Sx.look (wdE W ++ ([]))) 80 (vS (wordC W c)) (Sx.look ([])) 85 := by
  have hv : wordC W c = [] := if_neg h
  refine bcase (c := (decide (c < (240 : Int)))) (fun gg0 => ?_) (fun gg0 => ?_)
  · refine runs_last baseO (Sx.Ends.of (zww2_p0 W c) ⟨?oo, ?rr⟩) (by kernel_rfl) rfl (gtL (by decide)) (by decide)
    case oo =>
      refine (okc gg0 (okc ?_ okn))
      all_goals ((try simp (disch := omega) only [SS]); first | done | omega | assumption | (simp (disch := omega) only [SS] at *; first | done | omega | assumption) | (simp_all; done))
    case rr =>
      refine ⟨?_, trivial⟩
      rw [hv]
  · refine runs_last baseO (Sx.Ends.of (zww2_p1 W c) ⟨?oo, ?rr⟩) (by kernel_rfl) rfl (gtL (by decide)) (by decide)
    case oo =>
      refine (okc gg0 okn)
      all_goals ((try simp (disch := omega) only [SS]); first | done | omega | assumption | (simp (disch := omega) only [SS] at *; first | done | omega | assumption) | (simp_all; done))
    case rr =>
      refine ⟨?_, trivial⟩
      rw [hv]

theorem zwwT (W : Ix → List UInt8) (c : Int) : RunsTo Tryd.prog 125 [.code (bodyOf Tryd.f125)] (envOf [vN c] Tryd.f125.ntmps) (Sx.look (wdE W ++ ([]))) 80 (vS (wordC W c)) (Sx.look []) 85 := by
  by_cases h : 240 ≤ c ∧ c ≤ 255
  · exact zww1 W c h
  · exact zww2 W c h
def zwwP : PC := { args := [.v (.vi .i64 0)], heap := [], fams := [], tabs := [⟨16, false, 16, .tn 16 (.vs 8)⟩], gs := [], G := 23, tp := 213, n := 80, n' := 85, cond := fun e => true, v := fun e => vS (wordC (eS e 8) (eI e 0 [])), post := fun e => [] }
theorem zwwP_pc : PC.Runs Tryd.prog 125 Tryd.f125 (bodyOf Tryd.f125) zwwP := ⟨Tryd.func125, by kernel_rfl, (fun g hg => by first | (cases hg; done) | (revert g; show ∀ g ∈ ([] : List Nat), g < 23; decide)), fun e H hc => by
  have hc : (true) = true := hc
  try simp only [Bool.and_eq_true, decide_eq_true_eq, Nat.beq_eq] at hc
  exact zwwT (eS e 8) (eI e 0 [])⟩
theorem zwo_p0 (o : Int) :
    isEnd (evTill Tryd.prog [] 300 (99) 900 143 [.code (bodyOf Tryd.f143)] (envOf [vN o] Tryd.f143.ntmps) ([] ++ ([])) ⟨[.s false, .s false, .s false, .s false, .s false, .s false, .s false, .s false], 80⟩) (endP ([]) (vS (wdO o)) ([]) 85) =
    (OkL [(o == (0 : Int), false), (o == (1 : Int), false), (o == (3 : Int), false), (o == (5 : Int), false), (o == (6 : Int), false), (o == (24 : Int), false), (o == (31 : Int), false), (o == (34 : Int), false)] ∧ wdO o = [] ∧ True) := by kernel_rfl
theorem zwo_p1 (o : Int) :
    isEnd (evTill Tryd.prog [] 300 (99) 900 143 [.code (bodyOf Tryd.f143)] (envOf [vN o] Tryd.f143.ntmps) ([] ++ ([])) ⟨[.s false, .s false, .s false, .s false, .s false, .s false, .s false, .s true], 80⟩) (endP ([]) (vS (wdO o)) ([]) 85) =
    (OkL [(o == (0 : Int), false), (o == (1 : Int), false), (o == (3 : Int), false), (o == (5 : Int), false), (o == (6 : Int), false), (o == (24 : Int), false), (o == (31 : Int), false), (o == (34 : Int), true)] ∧ wdO o = [(108 : UInt8), (105 : UInt8), (110 : UInt8), (101 : UInt8), (109 : UInt8), (111 : UInt8), (100 : UInt8), (101 : UInt8)] ∧ True) := by kernel_rfl
theorem zwo_p2 (o : Int) :
    isEnd (evTill Tryd.prog [] 300 (99) 900 143 [.code (bodyOf Tryd.f143)] (envOf [vN o] Tryd.f143.ntmps) ([] ++ ([])) ⟨[.s false, .s false, .s false, .s false, .s false, .s false, .s true], 80⟩) (endP ([]) (vS (wdO o)) ([]) 85) =
    (OkL [(o == (0 : Int), false), (o == (1 : Int), false), (o == (3 : Int), false), (o == (5 : Int), false), (o == (6 : Int), false), (o == (24 : Int), false), (o == (31 : Int), true)] ∧ wdO o = [(110 : UInt8), (97 : UInt8), (119 : UInt8), (115 : UInt8)] ∧ True) := by kernel_rfl
theorem zwo_p3 (o : Int) :
    isEnd (evTill Tryd.prog [] 300 (99) 900 143 [.code (bodyOf Tryd.f143)] (envOf [vN o] Tryd.f143.ntmps) ([] ++ ([])) ⟨[.s false, .s false, .s false, .s false, .s false, .s true], 80⟩) (endP ([]) (vS (wdO o)) ([]) 85) =
    (OkL [(o == (0 : Int), false), (o == (1 : Int), false), (o == (3 : Int), false), (o == (5 : Int), false), (o == (6 : Int), false), (o == (24 : Int), true)] ∧ wdO o = [(116 : UInt8), (116 : UInt8), (121 : UInt8), (112 : UInt8), (101 : UInt8)] ∧ True) := by kernel_rfl
theorem zwo_p4 (o : Int) :
    isEnd (evTill Tryd.prog [] 300 (99) 900 143 [.code (bodyOf Tryd.f143)] (envOf [vN o] Tryd.f143.ntmps) ([] ++ ([])) ⟨[.s false, .s false, .s false, .s false, .s true], 80⟩) (endP ([]) (vS (wdO o)) ([]) 85) =
    (OkL [(o == (0 : Int), false), (o == (1 : Int), false), (o == (3 : Int), false), (o == (5 : Int), false), (o == (6 : Int), true)] ∧ wdO o = [(109 : UInt8), (97 : UInt8), (114 : UInt8), (107 : UInt8)] ∧ True) := by kernel_rfl
theorem zwo_p5 (o : Int) :
    isEnd (evTill Tryd.prog [] 300 (99) 900 143 [.code (bodyOf Tryd.f143)] (envOf [vN o] Tryd.f143.ntmps) ([] ++ ([])) ⟨[.s false, .s false, .s false, .s true], 80⟩) (endP ([]) (vS (wdO o)) ([]) 85) =
    (OkL [(o == (0 : Int), false), (o == (1 : Int), false), (o == (3 : Int), false), (o == (5 : Int), true)] ∧ wdO o = [(115 : UInt8), (116 : UInt8), (97 : UInt8), (116 : UInt8), (117 : UInt8), (115 : UInt8)] ∧ True) := by kernel_rfl
theorem zwo_p6 (o : Int) :
    isEnd (evTill Tryd.prog [] 300 (99) 900 143 [.code (bodyOf Tryd.f143)] (envOf [vN o] Tryd.f143.ntmps) ([] ++ ([])) ⟨[.s false, .s false, .s true], 80⟩) (endP ([]) (vS (wdO o)) ([]) 85) =
    (OkL [(o == (0 : Int), false), (o == (1 : Int), false), (o == (3 : Int), true)] ∧ wdO o = [(115 : UInt8), (103 : UInt8), (97 : UInt8)] ∧ True) := by kernel_rfl
theorem zwo_p7 (o : Int) :
    isEnd (evTill Tryd.prog [] 300 (99) 900 143 [.code (bodyOf Tryd.f143)] (envOf [vN o] Tryd.f143.ntmps) ([] ++ ([])) ⟨[.s false, .s true], 80⟩) (endP ([]) (vS (wdO o)) ([]) 85) =
    (OkL [(o == (0 : Int), false), (o == (1 : Int), true)] ∧ wdO o = [(101 : UInt8), (99 : UInt8), (104 : UInt8), (111 : UInt8)] ∧ True) := by kernel_rfl
theorem zwo_p8 (o : Int) :
    isEnd (evTill Tryd.prog [] 300 (99) 900 143 [.code (bodyOf Tryd.f143)] (envOf [vN o] Tryd.f143.ntmps) ([] ++ ([])) ⟨[.s true], 80⟩) (endP ([]) (vS (wdO o)) ([]) 85) =
    (OkL [(o == (0 : Int), true)] ∧ wdO o = [(98 : UInt8), (105 : UInt8), (110 : UInt8), (97 : UInt8), (114 : UInt8), (121 : UInt8)] ∧ True) := by kernel_rfl

set_option maxHeartbeats 4000000 in
theorem zwo (o : Int)  :
    RunsTo Tryd.prog 143 [.code (bodyOf Tryd.f143)] (envOf [vN o] Tryd.f143.ntmps) (Sx.look ([] ++ ([]))) 80 (vS (wdO o)) (Sx.look ([])) 85 := by
  refine bcase (c := (o == (0 : Int))) (fun gg0 => ?_) (fun gg0 => ?_)
  · refine bcase (c := (o == (1 : Int))) (fun gg1 => ?_) (fun gg1 => ?_)
    · refine bcase (c := (o == (3 : Int))) (fun gg2 => ?_) (fun gg2 => ?_)
      · refine bcase (c := (o == (5 : Int))) (fun gg3 => ?_) (fun gg3 => ?_)
        · refine bcase (c := (o == (6 : Int))) (fun gg4 => ?_) (fun gg4 => ?_)
          · refine bcase (c := (o == (24 : Int))) (fun gg5 => ?_) (fun gg5 => ?_)
            · refine bcase (c := (o == (31 : Int))) (fun gg6 => ?_) (fun gg6 => ?_)
              · refine bcase (c := (o == (34 : Int))) (fun gg7 => ?_) (fun gg7 => ?_)
                · refine runs_last baseO (Sx.Ends.of (zwo_p0 o) ⟨?oo, ?rr⟩) (by kernel_rfl) rfl (gtL (by decide)) (by decide)
                  case oo =>
                    refine (okc gg0 (okc gg1 (okc gg2 (okc gg3 (okc gg4 (okc gg5 (okc gg6 (okc gg7 okn))))))))
                    all_goals ((try simp (disch := omega) only [SS]); first | done | omega | assumption | (simp (disch := omega) only [SS] at *; first | done | omega | assumption) | (simp_all; done))
                  case rr =>
                    refine ⟨?_, trivial⟩
                    simp only [wdO]; simp_all
                · refine runs_last baseO (Sx.Ends.of (zwo_p1 o) ⟨?oo, ?rr⟩) (by kernel_rfl) rfl (gtL (by decide)) (by decide)
                  case oo =>
                    refine (okc gg0 (okc gg1 (okc gg2 (okc gg3 (okc gg4 (okc gg5 (okc gg6 (okc gg7 okn))))))))
                    all_goals ((try simp (disch := omega) only [SS]); first | done | omega | assumption | (simp (disch := omega) only [SS] at *; first | done | omega | assumption) | (simp_all; done))
                  case rr =>
                    refine ⟨?_, trivial⟩
                    simp only [wdO]; simp_all
              · refine runs_last baseO (Sx.Ends.of (zwo_p2 o) ⟨?oo, ?rr⟩) (by kernel_rfl) rfl (gtL (by decide)) (by decide)
                case oo =>
                  refine (okc gg0 (okc gg1 (okc gg2 (okc gg3 (okc gg4 (okc gg5 (okc gg6 okn)))))))
                  all_goals ((try simp (disch := omega) only [SS]); first | done | omega | assumption | (simp (disch := omega) only [SS] at *; first | done | omega | assumption) | (simp_all; done))
                case rr =>
                  refine ⟨?_, trivial⟩
                  simp only [wdO]; simp_all
            · refine runs_last baseO (Sx.Ends.of (zwo_p3 o) ⟨?oo, ?rr⟩) (by kernel_rfl) rfl (gtL (by decide)) (by decide)
              case oo =>
                refine (okc gg0 (okc gg1 (okc gg2 (okc gg3 (okc gg4 (okc gg5 okn))))))
                all_goals ((try simp (disch := omega) only [SS]); first | done | omega | assumption | (simp (disch := omega) only [SS] at *; first | done | omega | assumption) | (simp_all; done))
              case rr =>
                refine ⟨?_, trivial⟩
                simp only [wdO]; simp_all
          · refine runs_last baseO (Sx.Ends.of (zwo_p4 o) ⟨?oo, ?rr⟩) (by kernel_rfl) rfl (gtL (by decide)) (by decide)
            case oo =>
              refine (okc gg0 (okc gg1 (okc gg2 (okc gg3 (okc gg4 okn)))))
              all_goals ((try simp (disch := omega) only [SS]); first | done | omega | assumption | (simp (disch := omega) only [SS] at *; first | done | omega | assumption) | (simp_all; done))
            case rr =>
              refine ⟨?_, trivial⟩
              simp only [wdO]; simp_all
        · refine runs_last baseO (Sx.Ends.of (zwo_p5 o) ⟨?oo, ?rr⟩) (by kernel_rfl) rfl (gtL (by decide)) (by decide)
          case oo =>
            refine (okc gg0 (okc gg1 (okc gg2 (okc gg3 okn))))
            all_goals ((try simp (disch := omega) only [SS]); first | done | omega | assumption | (simp (disch := omega) only [SS] at *; first | done | omega | assumption) | (simp_all; done))
          case rr =>
            refine ⟨?_, trivial⟩
            simp only [wdO]; simp_all
      · refine runs_last baseO (Sx.Ends.of (zwo_p6 o) ⟨?oo, ?rr⟩) (by kernel_rfl) rfl (gtL (by decide)) (by decide)
        case oo =>
          refine (okc gg0 (okc gg1 (okc gg2 okn)))
          all_goals ((try simp (disch := omega) only [SS]); first | done | omega | assumption | (simp (disch := omega) only [SS] at *; first | done | omega | assumption) | (simp_all; done))
        case rr =>
          refine ⟨?_, trivial⟩
          simp only [wdO]; simp_all
    · refine runs_last baseO (Sx.Ends.of (zwo_p7 o) ⟨?oo, ?rr⟩) (by kernel_rfl) rfl (gtL (by decide)) (by decide)
      case oo =>
        refine (okc gg0 (okc gg1 okn))
        all_goals ((try simp (disch := omega) only [SS]); first | done | omega | assumption | (simp (disch := omega) only [SS] at *; first | done | omega | assumption) | (simp_all; done))
      case rr =>
        refine ⟨?_, trivial⟩
        simp only [wdO]; simp_all
  · refine runs_last baseO (Sx.Ends.of (zwo_p8 o) ⟨?oo, ?rr⟩) (by kernel_rfl) rfl (gtL (by decide)) (by decide)
    case oo =>
      refine (okc gg0 okn)
      all_goals ((try simp (disch := omega) only [SS]); first | done | omega | assumption | (simp (disch := omega) only [SS] at *; first | done | omega | assumption) | (simp_all; done))
    case rr =>
      refine ⟨?_, trivial⟩
      simp only [wdO]; simp_all

def zwoP : PC := { args := [.v (.vi .i64 0)], heap := [], gs := [], G := 23, tp := 213, n := 80, n' := 85, cond := fun e => true, v := fun e => vS (wdO (eI e 0 [])), post := fun e => [] }
theorem zwoP_pc : PC.Runs Tryd.prog 143 Tryd.f143 (bodyOf Tryd.f143) zwoP := ⟨Tryd.func143, by kernel_rfl, (fun g hg => by first | (cases hg; done) | (revert g; show ∀ g ∈ ([] : List Nat), g < 23; decide)), fun e H hc => by
  have hc : (true) = true := hc
  try simp only [Bool.and_eq_true, decide_eq_true_eq, Nat.beq_eq] at hc
  exact zwo (eI e 0 [])⟩
def sumsJB : List (FuncId × Summ) := [(125, zwwP.summ 46), (143, zwoP.summ 46), (101, zitP.summ 46)]
theorem baseJB : Base0 Tryd.prog sumsJB := (((baseO.cons Tryd.func101 (by kernel_rfl) (PC.summ_ok zitP_pc gtopG)).cons Tryd.func143 (by kernel_rfl) (PC.summ_ok zwoP_pc gtopG)).cons Tryd.func125 (by kernel_rfl) (PC.summ_ok zwwP_pc gtopG))
theorem zcm1_p0 (F : Ix → Int) (W : Ix → List UInt8) (n : Int) :
    isEnd (evTill Tryd.prog sumsJB 300 (99) 900 102 [.code (bodyOf Tryd.f102)] (envOf [vN n] Tryd.f102.ntmps) ((pwF F ++ wdE W) ++ ([])) ⟨[.t, .s true, .s true], 80⟩) (endP ([]) (vS (cmdV W n)) ([]) 130) =
    (OkL [(wordC W n == [], true), (pwOK F && inR n, true)] ∧ cmdV W n = Lib.itoa n ∧ True) := by kernel_rfl

set_option maxHeartbeats 4000000 in
theorem zcm1 (F : Ix → Int) (W : Ix → List UInt8) (n : Int) (hF : pwOK F = true) (hn : inR n = true) (hz : wordC W n = [])  :
    RunsTo Tryd.prog 102 [.code (bodyOf Tryd.f102)] (envOf [vN n] Tryd.f102.ntmps) (Sx.look ((pwF F ++ wdE W) ++ ([]))) 80 (vS (cmdV W n)) (Sx.look ([])) 130 := by
  have hv : cmdV W n = Lib.itoa n := if_pos hz
  refine runs_last baseJB (Sx.Ends.of (zcm1_p0 F W n) ⟨?oo, ?rr⟩) (by kernel_rfl) rfl (gtL (by decide)) (by decide)
  case oo =>
    refine (okc ?_ (okc ?_ okn))
    all_goals first | omega | assumption | exact ⟨hF, hn⟩ | (simp (disch := omega) only [SS, hz]; first | done | omega | assumption | exact ⟨hF, hn⟩) | (simp_all; done) | (simp_all; omega)
  case rr =>
    refine ⟨?_, trivial⟩
    rw [hv]

theorem zcm2_p0 (F : Ix → Int) (W : Ix → List UInt8) (n : Int) :
    isEnd (evTill Tryd.prog sumsJB 300 (99) 900 102 [.code (bodyOf Tryd.f102)] (envOf [vN n] Tryd.f102.ntmps) ((pwF F ++ wdE W) ++ ([])) ⟨[.t, .s false], 80⟩) (endP ([]) (vS (cmdV W n)) ([]) 130) =
    (OkL [(wordC W n == [], false)] ∧ cmdV W n = wordC W n ∧ True) := by kernel_rfl

set_option maxHeartbeats 4000000 in
theorem zcm2 (F : Ix → Int) (W : Ix → List UInt8) (n : Int) (hz : wordC W n ≠ [])  :
    RunsTo Tryd.prog 102 [.code (bodyOf Tryd.f102)] (envOf [vN n] Tryd.f102.ntmps) (Sx.look ((pwF F ++ wdE W) ++ ([]))) 80 (vS (cmdV W n)) (Sx.look ([])) 130 := by
  have hv : cmdV W n = wordC W n := if_neg hz
  refine runs_last baseJB (Sx.Ends.of (zcm2_p0 F W n) ⟨?oo, ?rr⟩) (by kernel_rfl) rfl (gtL (by decide)) (by decide)
  case oo =>
    refine (okc ?_ okn)
    all_goals first | omega | assumption | exact ⟨hF, hn⟩ | (simp (disch := omega) only [SS, hz]; first | done | omega | assumption | exact ⟨hF, hn⟩) | (simp_all; done) | (simp_all; omega)
  case rr =>
    refine ⟨?_, trivial⟩
    rw [hv]

theorem zcmT (F : Ix → Int) (W : Ix → List UInt8) (n : Int) (hF : pwOK F = true) (hn : inR n = true) : RunsTo Tryd.prog 102 [.code (bodyOf Tryd.f102)] (envOf [vN n] Tryd.f102.ntmps) (Sx.look ((pwF F ++ wdE W) ++ ([]))) 80 (vS (cmdV W n)) (Sx.look []) 130 := by
  by_cases hz : wordC W n = []
  · exact zcm1 F W n hF hn hz
  · exact zcm2 F W n hz
def zcmP : PC := { args := [.v (.vi .i64 0)], heap := [], fams := [], tabs := [⟨19, false, 20, .tn 20 (.vi .u64 9)⟩, ⟨16, false, 16, .tn 16 (.vs 8)⟩], gs := [], G := 23, tp := 213, n := 80, n' := 130, cond := fun e => pwOK (eI e 9) && inR (eI e 0 []), v := fun e => vS (cmdV (eS e 8) (eI e 0 [])), post := fun e => [] }
theorem zcmP_pc : PC.Runs Tryd.prog 102 Tryd.f102 (bodyOf Tryd.f102) zcmP := ⟨Tryd.func102, by kernel_rfl, (fun g hg => by first | (cases hg; done) | (revert g; show ∀ g ∈ ([] : List Nat), g < 23; decide)), fun e H hc => by
  have hc : (pwOK (eI e 9) && inR (eI e 0 [])) = true := hc
  try simp only [Bool.and_eq_true, decide_eq_true_eq, Nat.beq_eq] at hc
  exact zcmT (eI e 9) (eS e 8) (eI e 0 []) hc.1 hc.2⟩
theorem zop1_p0 (F : Ix → Int) (n : Int) :
    isEnd (evTill Tryd.prog sumsJB 400 (99) 900 103 [.code (bodyOf Tryd.f103)] (envOf [vN n] Tryd.f103.ntmps) (pwF F ++ ([])) ⟨[.s false, .s true, .t, .s true], 80⟩) (endP ([]) (vS (optV n)) ([]) 180) =
    (OkL [(decide (n < (0 : Int)), false), (decide (n ≥ (256 : Int)), true), (pwOK F && inR n, true)] ∧ optV n = Lib.itoa n ∧ True) := by kernel_rfl
theorem zop1_p1 (F : Ix → Int) (n : Int) :
    isEnd (evTill Tryd.prog sumsJB 400 (99) 900 103 [.code (bodyOf Tryd.f103)] (envOf [vN n] Tryd.f103.ntmps) (pwF F ++ ([])) ⟨[.s true, .t, .s true], 80⟩) (endP ([]) (vS (optV n)) ([]) 180) =
    (OkL [(decide (n < (0 : Int)), true), (pwOK F && inR n, true)] ∧ optV n = Lib.itoa n ∧ True) := by kernel_rfl

set_option maxHeartbeats 4000000 in
theorem zop1 (F : Ix → Int) (n : Int) (hF : pwOK F = true) (hn : inR n = true) (h : n < 0 ∨ 256 ≤ n)  :
    RunsTo Tryd.prog 103 [.code (bodyOf Tryd.f103)] (envOf [vN n] Tryd.f103.ntmps) (Sx.look (pwF F ++ ([]))) 80 (vS (optV n)) (Sx.look ([])) 180 := by
  have hv : optV n = Lib.itoa n := by unfold optV nmV; rw [if_pos h]; rfl
  have hz : True := trivial
  refine bcase (c := (decide (n < (0 : Int)))) (fun gg0 => ?_) (fun gg0 => ?_)
  · refine runs_last baseJB (Sx.Ends.of (zop1_p0 F n) ⟨?oo, ?rr⟩) (by kernel_rfl) rfl (gtL (by decide)) (by decide)
    case oo =>
      refine (okc gg0 (okc ?_ (okc ?_ okn)))
      all_goals first | omega | assumption | exact ⟨hF, hn⟩ | (simp (disch := omega) only [SS, hz]; first | done | omega | assumption | exact ⟨hF, hn⟩) | (simp_all; done) | (simp_all; omega)
    case rr =>
      refine ⟨?_, trivial⟩
      rw [hv]
  · refine runs_last baseJB (Sx.Ends.of (zop1_p1 F n) ⟨?oo, ?rr⟩) (by kernel_rfl) rfl (gtL (by decide)) (by decide)
    case oo =>
      refine (okc gg0 (okc ?_ okn))
      all_goals first | omega | assumption | exact ⟨hF, hn⟩ | (simp (disch := omega) only [SS, hz]; first | done | omega | assumption | exact ⟨hF, hn⟩) | (simp_all; done) | (simp_all; omega)
    case rr =>
      refine ⟨?_, trivial⟩
      rw [hv]

theorem zop2_p0 (F : Ix → Int) (n : Int) :
    isEnd (evTill Tryd.prog sumsJB 400 (99) 900 103 [.code (bodyOf Tryd.f103)] (envOf [vN n] Tryd.f103.ntmps) (pwF F ++ ([])) ⟨[.s false, .s false, .t, .s false, .s true, .s false], 80⟩) (endP ([]) (vS (optV n)) ([]) 180) =
    (OkL [(decide (n < (0 : Int)), false), (decide (n ≥ (256 : Int)), false), (!wdO n == [], false), (pwOK F && inR n, true), (Lib.itoa n == [], false)] ∧ optV n = Lib.itoa n ∧ True) := by kernel_rfl

set_option maxHeartbeats 4000000 in
theorem zop2 (F : Ix → Int) (n : Int) (hF : pwOK F = true) (hn : inR n = true) (h : ¬ (n < 0 ∨ 256 ≤ n)) (hz : wdO n = [])  :
    RunsTo Tryd.prog 103 [.code (bodyOf Tryd.f103)] (envOf [vN n] Tryd.f103.ntmps) (Sx.look (pwF F ++ ([]))) 80 (vS (optV n)) (Sx.look ([])) 180 := by
  have hi := itoa_ne n
  have hv : optV n = Lib.itoa n := by unfold optV nmV; rw [if_neg h, if_pos hz, if_neg hi]
  refine runs_last baseJB (Sx.Ends.of (zop2_p0 F n) ⟨?oo, ?rr⟩) (by kernel_rfl) rfl (gtL (by decide)) (by decide)
  case oo =>
    refine (okc ?_ (okc ?_ (okc ?_ (okc ?_ (okc ?_ okn)))))
    all_goals first | omega | assumption | exact ⟨hF, hn⟩ | (simp (disch := omega) only [SS, hz]; first | done | omega | assumption | exact ⟨hF, hn⟩) | (simp_all; done) | (simp_all; omega)
  case rr =>
    refine ⟨?_, trivial⟩
    rw [hv]

theorem zop3_p0 (F : Ix → Int) (n : Int) :
    isEnd (evTill Tryd.prog sumsJB 400 (99) 900 103 [.code (bodyOf Tryd.f103)] (envOf [vN n] Tryd.f103.ntmps) (pwF F ++ ([])) ⟨[.s false, .s false, .t, .s true, .s false], 80⟩) (endP ([]) (vS (optV n)) ([]) 180) =
    (OkL [(decide (n < (0 : Int)), false), (decide (n ≥ (256 : Int)), false), (!wdO n == [], true), (wdO n == [], false)] ∧ optV n = wdO n ∧ True) := by kernel_rfl

set_option maxHeartbeats 4000000 in
theorem zop3 (F : Ix → Int) (n : Int) (h : ¬ (n < 0 ∨ 256 ≤ n)) (hz : wdO n ≠ [])  :
    RunsTo Tryd.prog 103 [.code (bodyOf Tryd.f103)] (envOf [vN n] Tryd.f103.ntmps) (Sx.look (pwF F ++ ([]))) 80 (vS (optV n)) (Sx.look ([])) 180 := by
  have hv : optV n = wdO n := by unfold optV nmV; rw [if_neg h, if_neg hz, if_neg hz]
  refine runs_last baseJB (Sx.Ends.of (zop3_p0 F n) ⟨?oo, ?rr⟩) (by kernel_rfl) rfl (gtL (by decide)) (by decide)
  case oo =>
    refine (okc ?_ (okc ?_ (okc ?_ (okc ?_ okn))))
    all_goals first | omega | assumption | exact ⟨hF, hn⟩ | (simp (disch := omega) only [SS, hz]; first | done | omega | assumption | exact ⟨hF, hn⟩) | (simp_all; done) | (simp_all; omega)
  case rr =>
    refine ⟨?_, trivial⟩
    rw [hv]

theorem zopT (F : Ix → Int) (n : Int) (hF : pwOK F = true) (hn : inR n = true) : RunsTo Tryd.prog 103 [.code (bodyOf Tryd.f103)] (envOf [vN n] Tryd.f103.ntmps) (Sx.look (pwF F ++ ([]))) 80 (vS (optV n)) (Sx.look []) 180 := by
  by_cases h : n < 0 ∨ 256 ≤ n
  · exact zop1 F n hF hn h
  · by_cases hz : wdO n = []
    · exact zop2 F n hF hn h hz
    · exact zop3 F n h hz
def zopP : PC := { args := [.v (.vi .i64 0)], heap := [], fams := [], tabs := [⟨19, false, 20, .tn 20 (.vi .u64 9)⟩], gs := [], G := 23, tp := 213, n := 80, n' := 180, cond := fun e => pwOK (eI e 9) && inR (eI e 0 []), v := fun e => vS (optV (eI e 0 [])), post := fun e => [] }
theorem zopP_pc : PC.Runs Tryd.prog 103 Tryd.f103 (bodyOf Tryd.f103) zopP := ⟨Tryd.func103, by kernel_rfl, (fun g hg => by first | (cases hg; done) | (revert g; show ∀ g ∈ ([] : List Nat), g < 23; decide)), fun e H hc => by
  have hc : (pwOK (eI e 9) && inR (eI e 0 [])) = true := hc
  try simp only [Bool.and_eq_true, decide_eq_true_eq, Nat.beq_eq] at hc
  exact zopT (eI e 9) (eI e 0 []) hc.1 hc.2⟩
theorem zsi_p0 (F : Ix → Int) (n : Int) :
    isEnd (evTill Tryd.prog sumsJB 300 (99) 900 127 [.code (bodyOf Tryd.f127)] (envOf [vN n] Tryd.f127.ntmps) (pwF F ++ ([])) ⟨[.s false, .s false, .s true], 80⟩) (endP ([]) (vS (sidV n)) ([]) 125) =
    (OkL [(n == (0 : Int), false), (n == (1 : Int), false), (pwOK F && inR n, true)] ∧ sidV n = Lib.itoa n ∧ True) := by kernel_rfl
theorem zsi_p1 (F : Ix → Int) (n : Int) :
    isEnd (evTill Tryd.prog sumsJB 300 (99) 900 127 [.code (bodyOf Tryd.f127)] (envOf [vN n] Tryd.f127.ntmps) (pwF F ++ ([])) ⟨[.s false, .s true], 80⟩) (endP ([]) (vS (sidV n)) ([]) 125) =
    (OkL [(n == (0 : Int), false), (n == (1 : Int), true)] ∧ sidV n = [(104 : UInt8), (105 : UInt8), (109 : UInt8)] ∧ True) := by kernel_rfl
theorem zsi_p2 (F : Ix → Int) (n : Int) :
    isEnd (evTill Tryd.prog sumsJB 300 (99) 900 127 [.code (bodyOf Tryd.f127)] (envOf [vN n] Tryd.f127.ntmps) (pwF F ++ ([])) ⟨[.s true], 80⟩) (endP ([]) (vS (sidV n)) ([]) 125) =
    (OkL [(n == (0 : Int), true)] ∧ sidV n = [(117 : UInt8), (115 : UInt8)] ∧ True) := by kernel_rfl

set_option maxHeartbeats 4000000 in
theorem zsi (F : Ix → Int) (n : Int) (hF : pwOK F = true) (hn : inR n = true)  :
    RunsTo Tryd.prog 127 [.code (bodyOf Tryd.f127)] (envOf [vN n] Tryd.f127.ntmps) (Sx.look (pwF F ++ ([]))) 80 (vS (sidV n)) (Sx.look ([])) 125 := by
  have hz : True := trivial
  refine bcase (c := (n == (0 : Int))) (fun gg0 => ?_) (fun gg0 => ?_)
  · refine bcase (c := (n == (1 : Int))) (fun gg1 => ?_) (fun gg1 => ?_)
    · refine runs_last baseJB (Sx.Ends.of (zsi_p0 F n) ⟨?oo, ?rr⟩) (by kernel_rfl) rfl (gtL (by decide)) (by decide)
      case oo =>
        refine (okc gg0 (okc gg1 (okc ?_ okn)))
        all_goals first | omega | assumption | exact ⟨hF, hn⟩ | (simp (disch := omega) only [SS, hz]; first | done | omega | assumption | exact ⟨hF, hn⟩) | (simp_all; done) | (simp_all; omega)
      case rr =>
        refine ⟨?_, trivial⟩
        simp only [sidV]; simp_all
    · refine runs_last baseJB (Sx.Ends.of (zsi_p1 F n) ⟨?oo, ?rr⟩) (by kernel_rfl) rfl (gtL (by decide)) (by decide)
      case oo =>
        refine (okc gg0 (okc gg1 okn))
        all_goals first | omega | assumption | exact ⟨hF, hn⟩ | (simp (disch := omega) only [SS, hz]; first | done | omega | assumption | exact ⟨hF, hn⟩) | (simp_all; done) | (simp_all; omega)
      case rr =>
        refine ⟨?_, trivial⟩
        simp only [sidV]; simp_all
  · refine runs_last baseJB (Sx.Ends.of (zsi_p2 F n) ⟨?oo, ?rr⟩) (by kernel_rfl) rfl (gtL (by decide)) (by decide)
    case oo =>
      refine (okc gg0 okn)
      all_goals first | omega | assumption | exact ⟨hF, hn⟩ | (simp (disch := omega) only [SS, hz]; first | done | omega | assumption | exact ⟨hF, hn⟩) | (simp_all; done) | (simp_all; omega)
    case rr =>
      refine ⟨?_, trivial⟩
      simp only [sidV]; simp_all

def zsiP : PC := { args := [.v (.vi .i64 0)], heap := [], fams := [], tabs := [⟨19, false, 20, .tn 20 (.vi .u64 9)⟩], gs := [], G := 23, tp := 213, n := 80, n' := 125, cond := fun e => pwOK (eI e 9) && inR (eI e 0 []), v := fun e => vS (sidV (eI e 0 [])), post := fun e => [] }
theorem zsiP_pc : PC.Runs Tryd.prog 127 Tryd.f127 (bodyOf Tryd.f127) zsiP := ⟨Tryd.func127, by kernel_rfl, (fun g hg => by first | (cases hg; done) | (revert g; show ∀ g ∈ ([] : List Nat), g < 23; decide)), fun e H hc => by
  have hc : (pwOK (eI e 9) && inR (eI e 0 [])) = true := hc
  try simp only [Bool.and_eq_true, decide_eq_true_eq, Nat.beq_eq] at hc
  exact zsi (eI e 9) (eI e 0 []) hc.1 hc.2⟩
end Go.Proofs.YtaleenklamognaaDoor

