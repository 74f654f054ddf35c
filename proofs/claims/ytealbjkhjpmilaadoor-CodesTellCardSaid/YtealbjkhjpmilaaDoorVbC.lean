/- Codes: the law CodesTell. -/
import Derived.Test.YtealbjkhjpmilaaDoorVaC
set_option linter.unusedSimpArgs false
set_option linter.unusedVariables false
set_option maxRecDepth 100000
namespace Go.Proofs.YtealbjkhjpmilaaDoor
open Go.Sx


def wantF (w : List UInt8) : Nat → Int
  | 0 => 0
  | i + 1 => if wF [i] = w then 240 + (i : Int) else wantF w i
theorem wantF_bnd (w : List UInt8) : ∀ i, i ≤ 16 → 0 ≤ wantF w i ∧ wantF w i ≤ 255
  | 0, _ => by simp [wantF]
  | i + 1, h => by
    have := wantF_bnd w i (by omega)
    simp only [wantF]
    split <;> omega
theorem wordC_in {c : Int} (h : 240 ≤ c ∧ c ≤ 255) : wordC c = wF [(c - 240).toNat] := if_pos h
theorem wordC_out {c : Int} (h : ¬ (240 ≤ c ∧ c ≤ 255)) : wordC c = [] := if_neg h
def sumsL : List (FuncId × Summ) := [(42, alP.summ 50), (80, ixP.summ 50), (50, woP.summ 50), (46, rwP.summ 50)]
theorem baseL : Base0 Tryd.prog sumsL := ((((baseO.cons Tryd.func46 (by kernel_rfl) (PC.summ_ok rwP_pc gtopG)).cons Tryd.func50 (by kernel_rfl) (PC.summ_ok woP_pc gtopG)).cons Tryd.func80 (by kernel_rfl) (PC.summ_ok ixP_pc gtopG)).cons Tryd.func42 (by kernel_rfl) (PC.summ_ok alP_pc gtopG))
theorem ltLong_p0 (c : Int) (a : Bool) (w : List UInt8) :
    isEnd (evTill Tryd.prog sumsL 400 (99) 900 9 [.code (bodyOf Tryd.f9)] (envOf [vN c, vB a, vS w] Tryd.f9.ntmps) (tabE ++ ([])) ⟨[.t, .f, .s true], 110⟩) (endP ([]) (YES) ([]) 900) =
    (OkL [(decide ((↑w.length : Int) > (100 : Int)), true)] ∧ true = true ∧ True) := by kernel_rfl

set_option maxHeartbeats 4000000 in
theorem ltLong (c : Int) (a : Bool) (w : List UInt8) (hl : 100 < w.length) :
    RunsTo Tryd.prog 9 [.code (bodyOf Tryd.f9)] (envOf [vN c, vB a, vS w] Tryd.f9.ntmps) (Sx.look (tabE ++ ([]))) 110 (YES) (Sx.look ([])) 900 := by
  refine runs_last baseL (Sx.Ends.of (ltLong_p0 c a w) ⟨?oo, ?rr⟩) (by kernel_rfl) rfl (gtL (by decide)) (by decide)
  case oo =>
    refine (okc ?_ okn)
    all_goals ((try simp (disch := omega) only [SS]); first | done | omega | assumption | (simp (disch := omega) only [SS] at *; first | done | omega | assumption) | (simp_all; done) | grind)
  case rr =>
    try simp (disch := omega) only [SS]
    repeat' apply And.intro
    all_goals first | exact True.intro | with_reducible rfl | omega | (intros; first | exact True.intro | with_reducible rfl | omega | (simp_all; done)) | (simp_all; done) | rfl

theorem ltLoY_p0 (c : Int) (a : Bool) (w : List UInt8) :
    isMore (evTill Tryd.prog sumsL 400 (behind Tryd.f9 0) 900 9 [.code (bodyOf Tryd.f9)] (envOf [vN c, vB a, vS w] Tryd.f9.ntmps) (tabE ++ ([])) ⟨[.t, .f, .s false, .s false, .t, .s true, .s true, .t, .s false, .f, .f, .s false, .s false, .f, .s false, .f, .t, .s false, .t], 110⟩) (moreP (headOf Tryd.f9 0) ([((120 : Nat), Rn.to (350 : Nat))]) Tryd.f9.ntmps ([(0, vN c), (2, vS w), (10, vN (240 + ixF wF w 16 0)), (11, vB (true)), (12, vN (0)), (68, vL 120 1 16), (69, vN 16), (70, vN 0)]) ([⟨120, true, none, 1, .ta 16 (.vs wF)⟩]) 900) =
    (OkL [(decide ((↑w.length : Int) > (100 : Int)), false), (decide (c ≥ (251 : Int)), false), (decide (c < (251 : Int)), true), (decide (c < (240 : Int)), true), (![] == wordC c, false), (decide (c ≥ (241 : Int)), false), (decide (c > (240 : Int)), false), (decide (c ≥ (251 : Int)), false), (decide (ixF wF w (16 : Nat) (0 : Nat) < (0 : Int)), false)] ∧ headOf Tryd.f9 (0 : Nat) = headOf Tryd.f9 (0 : Nat) ∧ (c = c ∧ w = w ∧ (240 : Int) + ixF wF w (16 : Nat) (0 : Nat) = IntKind.i64.wrap ((240 : Int) + ixF wF w (16 : Nat) (0 : Nat)) ∧ true = true ∧ (0 : Int) = (0 : Int) ∧ ((0 : Nat) = (0 : Nat) ∧ (16 : Nat) = (16 : Nat)) ∧ (16 : Int) = (↑(16 : Nat) : Int) ∧ (0 : Int) = (0 : Int)) ∧ (16 : Nat) = (16 : Nat) ∧ ∀ (i : Nat), i < (16 : Nat) → wF [i] = wF [i]) := by kernel_rfl

set_option maxHeartbeats 4000000 in
theorem ltLoY (c : Int) (a : Bool) (w : List UInt8) (hl : w.length ≤ 100) (h1 : c < 240) (hx : 0 ≤ ixF wF w 16 0) (next : RunsTo Tryd.prog 9 (headOf Tryd.f9 0) (envAt Tryd.f9.ntmps ([(0, vN c), (2, vS w), (10, vN (240 + ixF wF w 16 0)), (11, vB (true)), (12, vN (0)), (68, vL 120 1 16), (69, vN 16), (70, vN 0)])) (Sx.look (tabE ++ ([⟨120, true, none, 1, .ta 16 (.vs wF)⟩]))) 110 (YES) (Sx.look []) 900) :
    RunsTo Tryd.prog 9 [.code (bodyOf Tryd.f9)] (envOf [vN c, vB a, vS w] Tryd.f9.ntmps) (Sx.look (tabE ++ ([]))) 110 (YES) (Sx.look []) 900 := by
  have hwc := wordC_out (c := c) (by omega)
  have hb := ixF_ge wF w 16 0
  have hq : IntKind.i64.wrap (240 + ixF wF w 16 0) = 240 + ixF wF w 16 0 := wr64 (by omega)
  refine runs_more baseL (More.of (ltLoY_p0 c a w) ⟨?oo, rfl, ?rr⟩) (by kernel_rfl) (by kernel_rfl) rfl (gtL (by decide)) (by decide) next
  case oo =>
    clear next
    refine (okc ?_ (okc ?_ (okc ?_ (okc ?_ (okc ?_ (okc ?_ (okc ?_ (okc ?_ (okc ?_ okn)))))))))
    all_goals ((try simp (disch := omega) only [SS, hwc, hq]); first | done | omega | assumption | (simp (disch := omega) only [SS, hwc, hq] at *; first | done | omega | assumption) | (simp_all; done) | grind)
  case rr =>
    clear next
    try simp (disch := omega) only [SS, hwc, hq]
    repeat' apply And.intro
    all_goals first | exact True.intro | with_reducible rfl | omega | (intros; first | exact True.intro | with_reducible rfl | omega | (simp_all; done)) | (simp_all; done) | rfl

theorem ltLoN_p0 (c : Int) (a : Bool) (w : List UInt8) :
    isMore (evTill Tryd.prog sumsL 400 (behind Tryd.f9 0) 900 9 [.code (bodyOf Tryd.f9)] (envOf [vN c, vB a, vS w] Tryd.f9.ntmps) (tabE ++ ([])) ⟨[.t, .f, .s false, .s false, .t, .s true, .s true, .t, .s false, .f, .f, .s false, .s false, .f, .s false, .f, .t, .s true, .t], 110⟩) (moreP (headOf Tryd.f9 0) ([((120 : Nat), Rn.to (350 : Nat))]) Tryd.f9.ntmps ([(0, vN c), (2, vS w), (10, vN (0)), (11, vB (false)), (12, vN (0)), (68, vL 120 1 16), (69, vN 16), (70, vN 0)]) ([⟨120, true, none, 1, .ta 16 (.vs wF)⟩]) 900) =
    (OkL [(decide ((↑w.length : Int) > (100 : Int)), false), (decide (c ≥ (251 : Int)), false), (decide (c < (251 : Int)), true), (decide (c < (240 : Int)), true), (![] == wordC c, false), (decide (c ≥ (241 : Int)), false), (decide (c > (240 : Int)), false), (decide (c ≥ (251 : Int)), false), (decide (ixF wF w (16 : Nat) (0 : Nat) < (0 : Int)), true)] ∧ headOf Tryd.f9 (0 : Nat) = headOf Tryd.f9 (0 : Nat) ∧ (c = c ∧ w = w ∧ (0 : Int) = (0 : Int) ∧ false = false ∧ (0 : Int) = (0 : Int) ∧ ((0 : Nat) = (0 : Nat) ∧ (16 : Nat) = (16 : Nat)) ∧ (16 : Int) = (↑(16 : Nat) : Int) ∧ (0 : Int) = (0 : Int)) ∧ (16 : Nat) = (16 : Nat) ∧ ∀ (i : Nat), i < (16 : Nat) → wF [i] = wF [i]) := by kernel_rfl

set_option maxHeartbeats 4000000 in
theorem ltLoN (c : Int) (a : Bool) (w : List UInt8) (hl : w.length ≤ 100) (h1 : c < 240) (hx : ixF wF w 16 0 < 0) (next : RunsTo Tryd.prog 9 (headOf Tryd.f9 0) (envAt Tryd.f9.ntmps ([(0, vN c), (2, vS w), (10, vN (0)), (11, vB (false)), (12, vN (0)), (68, vL 120 1 16), (69, vN 16), (70, vN 0)])) (Sx.look (tabE ++ ([⟨120, true, none, 1, .ta 16 (.vs wF)⟩]))) 110 (YES) (Sx.look []) 900) :
    RunsTo Tryd.prog 9 [.code (bodyOf Tryd.f9)] (envOf [vN c, vB a, vS w] Tryd.f9.ntmps) (Sx.look (tabE ++ ([]))) 110 (YES) (Sx.look []) 900 := by
  have hwc := wordC_out (c := c) (by omega)
  have hb := ixF_ge wF w 16 0
  have hq : IntKind.i64.wrap (240 + ixF wF w 16 0) = 240 + ixF wF w 16 0 := wr64 (by omega)
  refine runs_more baseL (More.of (ltLoN_p0 c a w) ⟨?oo, rfl, ?rr⟩) (by kernel_rfl) (by kernel_rfl) rfl (gtL (by decide)) (by decide) next
  case oo =>
    clear next
    refine (okc ?_ (okc ?_ (okc ?_ (okc ?_ (okc ?_ (okc ?_ (okc ?_ (okc ?_ (okc ?_ okn)))))))))
    all_goals ((try simp (disch := omega) only [SS, hwc, hq]); first | done | omega | assumption | (simp (disch := omega) only [SS, hwc, hq] at *; first | done | omega | assumption) | (simp_all; done) | grind)
  case rr =>
    clear next
    try simp (disch := omega) only [SS, hwc, hq]
    repeat' apply And.intro
    all_goals first | exact True.intro | with_reducible rfl | omega | (intros; first | exact True.intro | with_reducible rfl | omega | (simp_all; done)) | (simp_all; done) | rfl

theorem ltHiY_p0 (c : Int) (a : Bool) (w : List UInt8) :
    isMore (evTill Tryd.prog sumsL 400 (behind Tryd.f9 0) 900 9 [.code (bodyOf Tryd.f9)] (envOf [vN c, vB a, vS w] Tryd.f9.ntmps) (tabE ++ ([])) ⟨[.t, .f, .s false, .s true, .s true, .s false, .s true, .s false, .s true, .t, .s false, .f, .f, .s true, .s true, .s false, .s true, .s false, .t, .s false, .t], 110⟩) (moreP (headOf Tryd.f9 0) ([((120 : Nat), Rn.to (350 : Nat))]) Tryd.f9.ntmps ([(0, vN c), (2, vS w), (10, vN (240 + ixF wF w 16 0)), (11, vB (true)), (12, vN (0)), (68, vL 120 1 16), (69, vN 16), (70, vN 0)]) ([⟨120, true, none, 1, .ta 16 (.vs wF)⟩]) 900) =
    (OkL [(decide ((↑w.length : Int) > (100 : Int)), false), (decide (c ≥ (251 : Int)), true), (!decide (c ≤ (254 : Int)), true), (decide (c < (251 : Int)), false), (decide (c > (254 : Int)), true), (decide (c < (240 : Int)), false), (decide (c > (255 : Int)), true), (![] == wordC c, false), (decide (c ≥ (241 : Int)), true), (decide (c > (240 : Int)), true), (!decide (c ≤ (249 : Int)) == decide (c < (250 : Int)), false), (decide (c ≥ (251 : Int)), true), (!decide (c ≤ (254 : Int)) == false, false), (decide (ixF wF w (16 : Nat) (0 : Nat) < (0 : Int)), false)] ∧ headOf Tryd.f9 (0 : Nat) = headOf Tryd.f9 (0 : Nat) ∧ (c = c ∧ w = w ∧ (240 : Int) + ixF wF w (16 : Nat) (0 : Nat) = IntKind.i64.wrap ((240 : Int) + ixF wF w (16 : Nat) (0 : Nat)) ∧ true = true ∧ (0 : Int) = (0 : Int) ∧ ((0 : Nat) = (0 : Nat) ∧ (16 : Nat) = (16 : Nat)) ∧ (16 : Int) = (↑(16 : Nat) : Int) ∧ (0 : Int) = (0 : Int)) ∧ (16 : Nat) = (16 : Nat) ∧ ∀ (i : Nat), i < (16 : Nat) → wF [i] = wF [i]) := by kernel_rfl

set_option maxHeartbeats 4000000 in
theorem ltHiY (c : Int) (a : Bool) (w : List UInt8) (hl : w.length ≤ 100) (h1 : 255 < c) (hx : 0 ≤ ixF wF w 16 0) (next : RunsTo Tryd.prog 9 (headOf Tryd.f9 0) (envAt Tryd.f9.ntmps ([(0, vN c), (2, vS w), (10, vN (240 + ixF wF w 16 0)), (11, vB (true)), (12, vN (0)), (68, vL 120 1 16), (69, vN 16), (70, vN 0)])) (Sx.look (tabE ++ ([⟨120, true, none, 1, .ta 16 (.vs wF)⟩]))) 110 (YES) (Sx.look []) 900) :
    RunsTo Tryd.prog 9 [.code (bodyOf Tryd.f9)] (envOf [vN c, vB a, vS w] Tryd.f9.ntmps) (Sx.look (tabE ++ ([]))) 110 (YES) (Sx.look []) 900 := by
  have hwc := wordC_out (c := c) (by omega)
  have hb := ixF_ge wF w 16 0
  have hq : IntKind.i64.wrap (240 + ixF wF w 16 0) = 240 + ixF wF w 16 0 := wr64 (by omega)
  refine runs_more baseL (More.of (ltHiY_p0 c a w) ⟨?oo, rfl, ?rr⟩) (by kernel_rfl) (by kernel_rfl) rfl (gtL (by decide)) (by decide) next
  case oo =>
    clear next
    refine (okc ?_ (okc ?_ (okc ?_ (okc ?_ (okc ?_ (okc ?_ (okc ?_ (okc ?_ (okc ?_ (okc ?_ (okc ?_ (okc ?_ (okc ?_ (okc ?_ okn))))))))))))))
    all_goals ((try simp (disch := omega) only [SS, hwc, hq]); first | done | omega | assumption | (simp (disch := omega) only [SS, hwc, hq] at *; first | done | omega | assumption) | (simp_all; done) | grind)
  case rr =>
    clear next
    try simp (disch := omega) only [SS, hwc, hq]
    repeat' apply And.intro
    all_goals first | exact True.intro | with_reducible rfl | omega | (intros; first | exact True.intro | with_reducible rfl | omega | (simp_all; done)) | (simp_all; done) | rfl

theorem ltHiN_p0 (c : Int) (a : Bool) (w : List UInt8) :
    isMore (evTill Tryd.prog sumsL 400 (behind Tryd.f9 0) 900 9 [.code (bodyOf Tryd.f9)] (envOf [vN c, vB a, vS w] Tryd.f9.ntmps) (tabE ++ ([])) ⟨[.t, .f, .s false, .s true, .s true, .s false, .s true, .s false, .s true, .t, .s false, .f, .f, .s true, .s true, .s false, .s true, .s false, .t, .s true, .t], 110⟩) (moreP (headOf Tryd.f9 0) ([((120 : Nat), Rn.to (350 : Nat))]) Tryd.f9.ntmps ([(0, vN c), (2, vS w), (10, vN (0)), (11, vB (false)), (12, vN (0)), (68, vL 120 1 16), (69, vN 16), (70, vN 0)]) ([⟨120, true, none, 1, .ta 16 (.vs wF)⟩]) 900) =
    (OkL [(decide ((↑w.length : Int) > (100 : Int)), false), (decide (c ≥ (251 : Int)), true), (!decide (c ≤ (254 : Int)), true), (decide (c < (251 : Int)), false), (decide (c > (254 : Int)), true), (decide (c < (240 : Int)), false), (decide (c > (255 : Int)), true), (![] == wordC c, false), (decide (c ≥ (241 : Int)), true), (decide (c > (240 : Int)), true), (!decide (c ≤ (249 : Int)) == decide (c < (250 : Int)), false), (decide (c ≥ (251 : Int)), true), (!decide (c ≤ (254 : Int)) == false, false), (decide (ixF wF w (16 : Nat) (0 : Nat) < (0 : Int)), true)] ∧ headOf Tryd.f9 (0 : Nat) = headOf Tryd.f9 (0 : Nat) ∧ (c = c ∧ w = w ∧ (0 : Int) = (0 : Int) ∧ false = false ∧ (0 : Int) = (0 : Int) ∧ ((0 : Nat) = (0 : Nat) ∧ (16 : Nat) = (16 : Nat)) ∧ (16 : Int) = (↑(16 : Nat) : Int) ∧ (0 : Int) = (0 : Int)) ∧ (16 : Nat) = (16 : Nat) ∧ ∀ (i : Nat), i < (16 : Nat) → wF [i] = wF [i]) := by kernel_rfl

set_option maxHeartbeats 4000000 in
theorem ltHiN (c : Int) (a : Bool) (w : List UInt8) (hl : w.length ≤ 100) (h1 : 255 < c) (hx : ixF wF w 16 0 < 0) (next : RunsTo Tryd.prog 9 (headOf Tryd.f9 0) (envAt Tryd.f9.ntmps ([(0, vN c), (2, vS w), (10, vN (0)), (11, vB (false)), (12, vN (0)), (68, vL 120 1 16), (69, vN 16), (70, vN 0)])) (Sx.look (tabE ++ ([⟨120, true, none, 1, .ta 16 (.vs wF)⟩]))) 110 (YES) (Sx.look []) 900) :
    RunsTo Tryd.prog 9 [.code (bodyOf Tryd.f9)] (envOf [vN c, vB a, vS w] Tryd.f9.ntmps) (Sx.look (tabE ++ ([]))) 110 (YES) (Sx.look []) 900 := by
  have hwc := wordC_out (c := c) (by omega)
  have hb := ixF_ge wF w 16 0
  have hq : IntKind.i64.wrap (240 + ixF wF w 16 0) = 240 + ixF wF w 16 0 := wr64 (by omega)
  refine runs_more baseL (More.of (ltHiN_p0 c a w) ⟨?oo, rfl, ?rr⟩) (by kernel_rfl) (by kernel_rfl) rfl (gtL (by decide)) (by decide) next
  case oo =>
    clear next
    refine (okc ?_ (okc ?_ (okc ?_ (okc ?_ (okc ?_ (okc ?_ (okc ?_ (okc ?_ (okc ?_ (okc ?_ (okc ?_ (okc ?_ (okc ?_ (okc ?_ okn))))))))))))))
    all_goals ((try simp (disch := omega) only [SS, hwc, hq]); first | done | omega | assumption | (simp (disch := omega) only [SS, hwc, hq] at *; first | done | omega | assumption) | (simp_all; done) | grind)
  case rr =>
    clear next
    try simp (disch := omega) only [SS, hwc, hq]
    repeat' apply And.intro
    all_goals first | exact True.intro | with_reducible rfl | omega | (intros; first | exact True.intro | with_reducible rfl | omega | (simp_all; done)) | (simp_all; done) | rfl

theorem ltInY_p0 (c : Int) (a : Bool) (w : List UInt8) :
    isMore (evTill Tryd.prog sumsL 400 (behind Tryd.f9 0) 900 9 [.code (bodyOf Tryd.f9)] (envOf [vN c, vB a, vS w] Tryd.f9.ntmps) (tabE ++ ([])) ⟨[.t, .f, .s false, .s false, .t, .s true, .s false, .s false, .s true, .s true, .t, .s false, .f, .f, .s false, .s false, .f, .s false, .f, .t, .s false, .t], 110⟩) (moreP (headOf Tryd.f9 0) ([((120 : Nat), Rn.to (350 : Nat))]) Tryd.f9.ntmps ([(0, vN c), (2, vS w), (10, vN (240 + ixF wF w 16 0)), (11, vB (true)), (12, vN (0)), (68, vL 120 1 16), (69, vN 16), (70, vN 0)]) ([⟨120, true, none, 1, .ta 16 (.vs wF)⟩]) 900) =
    (OkL [(decide ((↑w.length : Int) > (100 : Int)), false), (decide (c ≥ (251 : Int)), false), (decide (c < (251 : Int)), true), (decide (c < (240 : Int)), false), (decide (c > (255 : Int)), false), (decide ((0 : Int) ≤ IntKind.i64.wrap (c - (240 : Int)) ∧ IntKind.i64.wrap (c - (240 : Int)) < (↑(16 : Nat) : Int)), true), ((IntKind.i64.wrap (c - (240 : Int))).toNat.blt (16 : Nat), true), (!wF [(IntKind.i64.wrap (c - (240 : Int))).toNat] == wordC c, false), (decide (c ≥ (241 : Int)), false), (decide (c > (240 : Int)), false), (decide (c ≥ (251 : Int)), false), (decide (ixF wF w (16 : Nat) (0 : Nat) < (0 : Int)), false)] ∧ headOf Tryd.f9 (0 : Nat) = headOf Tryd.f9 (0 : Nat) ∧ (c = c ∧ w = w ∧ (240 : Int) + ixF wF w (16 : Nat) (0 : Nat) = IntKind.i64.wrap ((240 : Int) + ixF wF w (16 : Nat) (0 : Nat)) ∧ true = true ∧ (0 : Int) = (0 : Int) ∧ ((0 : Nat) = (0 : Nat) ∧ (16 : Nat) = (16 : Nat)) ∧ (16 : Int) = (↑(16 : Nat) : Int) ∧ (0 : Int) = (0 : Int)) ∧ (16 : Nat) = (16 : Nat) ∧ ∀ (i : Nat), i < (16 : Nat) → wF [i] = wF [i]) := by kernel_rfl
theorem ltInY_p1 (c : Int) (a : Bool) (w : List UInt8) :
    isMore (evTill Tryd.prog sumsL 400 (behind Tryd.f9 0) 900 9 [.code (bodyOf Tryd.f9)] (envOf [vN c, vB a, vS w] Tryd.f9.ntmps) (tabE ++ ([])) ⟨[.t, .f, .s false, .s false, .t, .s true, .s false, .s false, .s true, .s true, .t, .s false, .f, .f, .s true, .s true, .s false, .s false, .f, .t, .s false, .t], 110⟩) (moreP (headOf Tryd.f9 0) ([((120 : Nat), Rn.to (350 : Nat))]) Tryd.f9.ntmps ([(0, vN c), (2, vS w), (10, vN (240 + ixF wF w 16 0)), (11, vB (true)), (12, vN (0)), (68, vL 120 1 16), (69, vN 16), (70, vN 0)]) ([⟨120, true, none, 1, .ta 16 (.vs wF)⟩]) 900) =
    (OkL [(decide ((↑w.length : Int) > (100 : Int)), false), (decide (c ≥ (251 : Int)), false), (decide (c < (251 : Int)), true), (decide (c < (240 : Int)), false), (decide (c > (255 : Int)), false), (decide ((0 : Int) ≤ IntKind.i64.wrap (c - (240 : Int)) ∧ IntKind.i64.wrap (c - (240 : Int)) < (↑(16 : Nat) : Int)), true), ((IntKind.i64.wrap (c - (240 : Int))).toNat.blt (16 : Nat), true), (!wF [(IntKind.i64.wrap (c - (240 : Int))).toNat] == wordC c, false), (decide (c ≥ (241 : Int)), true), (decide (c > (240 : Int)), true), (!decide (c ≤ (249 : Int)) == decide (c < (250 : Int)), false), (decide (c ≥ (251 : Int)), false), (decide (ixF wF w (16 : Nat) (0 : Nat) < (0 : Int)), false)] ∧ headOf Tryd.f9 (0 : Nat) = headOf Tryd.f9 (0 : Nat) ∧ (c = c ∧ w = w ∧ (240 : Int) + ixF wF w (16 : Nat) (0 : Nat) = IntKind.i64.wrap ((240 : Int) + ixF wF w (16 : Nat) (0 : Nat)) ∧ true = true ∧ (0 : Int) = (0 : Int) ∧ ((0 : Nat) = (0 : Nat) ∧ (16 : Nat) = (16 : Nat)) ∧ (16 : Int) = (↑(16 : Nat) : Int) ∧ (0 : Int) = (0 : Int)) ∧ (16 : Nat) = (16 : Nat) ∧ ∀ (i : Nat), i < (16 : Nat) → wF [i] = wF [i]) := by kernel_rfl
theorem ltInY_p2 (c : Int) (a : Bool) (w : List UInt8) :
    isMore (evTill Tryd.prog sumsL 400 (behind Tryd.f9 0) 900 9 [.code (bodyOf Tryd.f9)] (envOf [vN c, vB a, vS w] Tryd.f9.ntmps) (tabE ++ ([])) ⟨[.t, .f, .s false, .s true, .s false, .s false, .s false, .s false, .s false, .s false, .s false, .s false, .s false, .s true, .s false, .s false, .s true, .s true, .t, .s false, .f, .f, .s true, .s true, .s false, .s true, .s false, .t, .s false, .t], 110⟩) (moreP (headOf Tryd.f9 0) ([((120 : Nat), Rn.to (350 : Nat))]) Tryd.f9.ntmps ([(0, vN c), (2, vS w), (10, vN (240 + ixF wF w 16 0)), (11, vB (true)), (12, vN (0)), (68, vL 120 1 16), (69, vN 16), (70, vN 0)]) ([⟨120, true, none, 1, .ta 16 (.vs wF)⟩]) 900) =
    (OkL [(decide ((↑w.length : Int) > (100 : Int)), false), (decide (c ≥ (251 : Int)), true), (!decide (c ≤ (254 : Int)), false), (c == (251 : Int), false), (c == (252 : Int), false), (c == (251 : Int), false), (c == (252 : Int), false), (a, false), (decide (c < (251 : Int)), false), (decide (c > (254 : Int)), false), (decide (c < (253 : Int)), false), (!a, true), (decide (c < (240 : Int)), false), (decide (c > (255 : Int)), false), (decide ((0 : Int) ≤ IntKind.i64.wrap (c - (240 : Int)) ∧ IntKind.i64.wrap (c - (240 : Int)) < (↑(16 : Nat) : Int)), true), ((IntKind.i64.wrap (c - (240 : Int))).toNat.blt (16 : Nat), true), (!wF [(IntKind.i64.wrap (c - (240 : Int))).toNat] == wordC c, false), (decide (c ≥ (241 : Int)), true), (decide (c > (240 : Int)), true), (!decide (c ≤ (249 : Int)) == decide (c < (250 : Int)), false), (decide (c ≥ (251 : Int)), true), (!decide (c ≤ (254 : Int)) == true, false), (decide (ixF wF w (16 : Nat) (0 : Nat) < (0 : Int)), false)] ∧ headOf Tryd.f9 (0 : Nat) = headOf Tryd.f9 (0 : Nat) ∧ (c = c ∧ w = w ∧ (240 : Int) + ixF wF w (16 : Nat) (0 : Nat) = IntKind.i64.wrap ((240 : Int) + ixF wF w (16 : Nat) (0 : Nat)) ∧ true = true ∧ (0 : Int) = (0 : Int) ∧ ((0 : Nat) = (0 : Nat) ∧ (16 : Nat) = (16 : Nat)) ∧ (16 : Int) = (↑(16 : Nat) : Int) ∧ (0 : Int) = (0 : Int)) ∧ (16 : Nat) = (16 : Nat) ∧ ∀ (i : Nat), i < (16 : Nat) → wF [i] = wF [i]) := by kernel_rfl
theorem ltInY_p3 (c : Int) (a : Bool) (w : List UInt8) :
    isMore (evTill Tryd.prog sumsL 400 (behind Tryd.f9 0) 900 9 [.code (bodyOf Tryd.f9)] (envOf [vN c, vB a, vS w] Tryd.f9.ntmps) (tabE ++ ([])) ⟨[.t, .f, .s false, .s true, .s false, .s false, .s false, .s false, .s false, .s true, .s false, .s false, .s false, .s false, .s false, .s false, .s true, .s true, .t, .s false, .f, .f, .s true, .s true, .s false, .s true, .s false, .t, .s false, .t], 110⟩) (moreP (headOf Tryd.f9 0) ([((120 : Nat), Rn.to (350 : Nat))]) Tryd.f9.ntmps ([(0, vN c), (2, vS w), (10, vN (240 + ixF wF w 16 0)), (11, vB (true)), (12, vN (0)), (68, vL 120 1 16), (69, vN 16), (70, vN 0)]) ([⟨120, true, none, 1, .ta 16 (.vs wF)⟩]) 900) =
    (OkL [(decide ((↑w.length : Int) > (100 : Int)), false), (decide (c ≥ (251 : Int)), true), (!decide (c ≤ (254 : Int)), false), (c == (251 : Int), false), (c == (252 : Int), false), (c == (251 : Int), false), (c == (252 : Int), false), (a, true), (decide (c < (251 : Int)), false), (decide (c > (254 : Int)), false), (decide (c < (253 : Int)), false), (!a, false), (decide (c < (240 : Int)), false), (decide (c > (255 : Int)), false), (decide ((0 : Int) ≤ IntKind.i64.wrap (c - (240 : Int)) ∧ IntKind.i64.wrap (c - (240 : Int)) < (↑(16 : Nat) : Int)), true), ((IntKind.i64.wrap (c - (240 : Int))).toNat.blt (16 : Nat), true), (!wF [(IntKind.i64.wrap (c - (240 : Int))).toNat] == wordC c, false), (decide (c ≥ (241 : Int)), true), (decide (c > (240 : Int)), true), (!decide (c ≤ (249 : Int)) == decide (c < (250 : Int)), false), (decide (c ≥ (251 : Int)), true), (!decide (c ≤ (254 : Int)) == true, false), (decide (ixF wF w (16 : Nat) (0 : Nat) < (0 : Int)), false)] ∧ headOf Tryd.f9 (0 : Nat) = headOf Tryd.f9 (0 : Nat) ∧ (c = c ∧ w = w ∧ (240 : Int) + ixF wF w (16 : Nat) (0 : Nat) = IntKind.i64.wrap ((240 : Int) + ixF wF w (16 : Nat) (0 : Nat)) ∧ true = true ∧ (0 : Int) = (0 : Int) ∧ ((0 : Nat) = (0 : Nat) ∧ (16 : Nat) = (16 : Nat)) ∧ (16 : Int) = (↑(16 : Nat) : Int) ∧ (0 : Int) = (0 : Int)) ∧ (16 : Nat) = (16 : Nat) ∧ ∀ (i : Nat), i < (16 : Nat) → wF [i] = wF [i]) := by kernel_rfl
theorem ltInY_p4 (c : Int) (a : Bool) (w : List UInt8) :
    isMore (evTill Tryd.prog sumsL 400 (behind Tryd.f9 0) 900 9 [.code (bodyOf Tryd.f9)] (envOf [vN c, vB a, vS w] Tryd.f9.ntmps) (tabE ++ ([])) ⟨[.t, .f, .s false, .s true, .s false, .s false, .s true, .s false, .s false, .s true, .s false, .s false, .s true, .s true, .s false, .s false, .s true, .s true, .t, .s false, .f, .f, .s true, .s true, .s false, .s true, .s false, .t, .s false, .t], 110⟩) (moreP (headOf Tryd.f9 0) ([((120 : Nat), Rn.to (350 : Nat))]) Tryd.f9.ntmps ([(0, vN c), (2, vS w), (10, vN (240 + ixF wF w 16 0)), (11, vB (true)), (12, vN (0)), (68, vL 120 1 16), (69, vN 16), (70, vN 0)]) ([⟨120, true, none, 1, .ta 16 (.vs wF)⟩]) 900) =
    (OkL [(decide ((↑w.length : Int) > (100 : Int)), false), (decide (c ≥ (251 : Int)), true), (!decide (c ≤ (254 : Int)), false), (c == (251 : Int), false), (c == (252 : Int), true), (a, false), (c == (251 : Int), false), (c == (252 : Int), true), (decide (c < (251 : Int)), false), (decide (c > (254 : Int)), false), (decide (c < (253 : Int)), true), (!a, true), (decide (c < (240 : Int)), false), (decide (c > (255 : Int)), false), (decide ((0 : Int) ≤ IntKind.i64.wrap (c - (240 : Int)) ∧ IntKind.i64.wrap (c - (240 : Int)) < (↑(16 : Nat) : Int)), true), ((IntKind.i64.wrap (c - (240 : Int))).toNat.blt (16 : Nat), true), (!wF [(IntKind.i64.wrap (c - (240 : Int))).toNat] == wordC c, false), (decide (c ≥ (241 : Int)), true), (decide (c > (240 : Int)), true), (!decide (c ≤ (249 : Int)) == decide (c < (250 : Int)), false), (decide (c ≥ (251 : Int)), true), (!decide (c ≤ (254 : Int)) == true, false), (decide (ixF wF w (16 : Nat) (0 : Nat) < (0 : Int)), false)] ∧ headOf Tryd.f9 (0 : Nat) = headOf Tryd.f9 (0 : Nat) ∧ (c = c ∧ w = w ∧ (240 : Int) + ixF wF w (16 : Nat) (0 : Nat) = IntKind.i64.wrap ((240 : Int) + ixF wF w (16 : Nat) (0 : Nat)) ∧ true = true ∧ (0 : Int) = (0 : Int) ∧ ((0 : Nat) = (0 : Nat) ∧ (16 : Nat) = (16 : Nat)) ∧ (16 : Int) = (↑(16 : Nat) : Int) ∧ (0 : Int) = (0 : Int)) ∧ (16 : Nat) = (16 : Nat) ∧ ∀ (i : Nat), i < (16 : Nat) → wF [i] = wF [i]) := by kernel_rfl
theorem ltInY_p5 (c : Int) (a : Bool) (w : List UInt8) :
    isMore (evTill Tryd.prog sumsL 400 (behind Tryd.f9 0) 900 9 [.code (bodyOf Tryd.f9)] (envOf [vN c, vB a, vS w] Tryd.f9.ntmps) (tabE ++ ([])) ⟨[.t, .f, .s false, .s true, .s false, .s false, .s true, .s true, .s false, .s false, .s true, .s false, .s false, .s false, .s true, .s true, .t, .s false, .f, .f, .s true, .s true, .s false, .s true, .s false, .t, .s false, .t], 110⟩) (moreP (headOf Tryd.f9 0) ([((120 : Nat), Rn.to (350 : Nat))]) Tryd.f9.ntmps ([(0, vN c), (2, vS w), (10, vN (240 + ixF wF w 16 0)), (11, vB (true)), (12, vN (0)), (68, vL 120 1 16), (69, vN 16), (70, vN 0)]) ([⟨120, true, none, 1, .ta 16 (.vs wF)⟩]) 900) =
    (OkL [(decide ((↑w.length : Int) > (100 : Int)), false), (decide (c ≥ (251 : Int)), true), (!decide (c ≤ (254 : Int)), false), (c == (251 : Int), false), (c == (252 : Int), true), (a, true), (decide (c < (251 : Int)), false), (decide (c > (254 : Int)), false), (decide (c < (253 : Int)), true), (!a, false), (decide (c < (240 : Int)), false), (decide (c > (255 : Int)), false), (decide ((0 : Int) ≤ IntKind.i64.wrap (c - (240 : Int)) ∧ IntKind.i64.wrap (c - (240 : Int)) < (↑(16 : Nat) : Int)), true), ((IntKind.i64.wrap (c - (240 : Int))).toNat.blt (16 : Nat), true), (!wF [(IntKind.i64.wrap (c - (240 : Int))).toNat] == wordC c, false), (decide (c ≥ (241 : Int)), true), (decide (c > (240 : Int)), true), (!decide (c ≤ (249 : Int)) == decide (c < (250 : Int)), false), (decide (c ≥ (251 : Int)), true), (!decide (c ≤ (254 : Int)) == true, false), (decide (ixF wF w (16 : Nat) (0 : Nat) < (0 : Int)), false)] ∧ headOf Tryd.f9 (0 : Nat) = headOf Tryd.f9 (0 : Nat) ∧ (c = c ∧ w = w ∧ (240 : Int) + ixF wF w (16 : Nat) (0 : Nat) = IntKind.i64.wrap ((240 : Int) + ixF wF w (16 : Nat) (0 : Nat)) ∧ true = true ∧ (0 : Int) = (0 : Int) ∧ ((0 : Nat) = (0 : Nat) ∧ (16 : Nat) = (16 : Nat)) ∧ (16 : Int) = (↑(16 : Nat) : Int) ∧ (0 : Int) = (0 : Int)) ∧ (16 : Nat) = (16 : Nat) ∧ ∀ (i : Nat), i < (16 : Nat) → wF [i] = wF [i]) := by kernel_rfl
theorem ltInY_p6 (c : Int) (a : Bool) (w : List UInt8) :
    isMore (evTill Tryd.prog sumsL 400 (behind Tryd.f9 0) 900 9 [.code (bodyOf Tryd.f9)] (envOf [vN c, vB a, vS w] Tryd.f9.ntmps) (tabE ++ ([])) ⟨[.t, .f, .s false, .s true, .s false, .s true, .t, .s false, .s true, .t, .s false, .s false, .s true, .s true, .s false, .s false, .s true, .s true, .t, .s false, .f, .f, .s true, .s true, .s false, .s true, .s false, .t, .s false, .t], 110⟩) (moreP (headOf Tryd.f9 0) ([((120 : Nat), Rn.to (350 : Nat))]) Tryd.f9.ntmps ([(0, vN c), (2, vS w), (10, vN (240 + ixF wF w 16 0)), (11, vB (true)), (12, vN (0)), (68, vL 120 1 16), (69, vN 16), (70, vN 0)]) ([⟨120, true, none, 1, .ta 16 (.vs wF)⟩]) 900) =
    (OkL [(decide ((↑w.length : Int) > (100 : Int)), false), (decide (c ≥ (251 : Int)), true), (!decide (c ≤ (254 : Int)), false), (c == (251 : Int), true), (a, false), (c == (251 : Int), true), (decide (c < (251 : Int)), false), (decide (c > (254 : Int)), false), (decide (c < (253 : Int)), true), (!a, true), (decide (c < (240 : Int)), false), (decide (c > (255 : Int)), false), (decide ((0 : Int) ≤ IntKind.i64.wrap (c - (240 : Int)) ∧ IntKind.i64.wrap (c - (240 : Int)) < (↑(16 : Nat) : Int)), true), ((IntKind.i64.wrap (c - (240 : Int))).toNat.blt (16 : Nat), true), (!wF [(IntKind.i64.wrap (c - (240 : Int))).toNat] == wordC c, false), (decide (c ≥ (241 : Int)), true), (decide (c > (240 : Int)), true), (!decide (c ≤ (249 : Int)) == decide (c < (250 : Int)), false), (decide (c ≥ (251 : Int)), true), (!decide (c ≤ (254 : Int)) == true, false), (decide (ixF wF w (16 : Nat) (0 : Nat) < (0 : Int)), false)] ∧ headOf Tryd.f9 (0 : Nat) = headOf Tryd.f9 (0 : Nat) ∧ (c = c ∧ w = w ∧ (240 : Int) + ixF wF w (16 : Nat) (0 : Nat) = IntKind.i64.wrap ((240 : Int) + ixF wF w (16 : Nat) (0 : Nat)) ∧ true = true ∧ (0 : Int) = (0 : Int) ∧ ((0 : Nat) = (0 : Nat) ∧ (16 : Nat) = (16 : Nat)) ∧ (16 : Int) = (↑(16 : Nat) : Int) ∧ (0 : Int) = (0 : Int)) ∧ (16 : Nat) = (16 : Nat) ∧ ∀ (i : Nat), i < (16 : Nat) → wF [i] = wF [i]) := by kernel_rfl
theorem ltInY_p7 (c : Int) (a : Bool) (w : List UInt8) :
    isMore (evTill Tryd.prog sumsL 400 (behind Tryd.f9 0) 900 9 [.code (bodyOf Tryd.f9)] (envOf [vN c, vB a, vS w] Tryd.f9.ntmps) (tabE ++ ([])) ⟨[.t, .f, .s false, .s true, .s false, .s true, .t, .s true, .s false, .s false, .s true, .s false, .s false, .s false, .s true, .s true, .t, .s false, .f, .f, .s true, .s true, .s false, .s true, .s false, .t, .s false, .t], 110⟩) (moreP (headOf Tryd.f9 0) ([((120 : Nat), Rn.to (350 : Nat))]) Tryd.f9.ntmps ([(0, vN c), (2, vS w), (10, vN (240 + ixF wF w 16 0)), (11, vB (true)), (12, vN (0)), (68, vL 120 1 16), (69, vN 16), (70, vN 0)]) ([⟨120, true, none, 1, .ta 16 (.vs wF)⟩]) 900) =
    (OkL [(decide ((↑w.length : Int) > (100 : Int)), false), (decide (c ≥ (251 : Int)), true), (!decide (c ≤ (254 : Int)), false), (c == (251 : Int), true), (a, true), (decide (c < (251 : Int)), false), (decide (c > (254 : Int)), false), (decide (c < (253 : Int)), true), (!a, false), (decide (c < (240 : Int)), false), (decide (c > (255 : Int)), false), (decide ((0 : Int) ≤ IntKind.i64.wrap (c - (240 : Int)) ∧ IntKind.i64.wrap (c - (240 : Int)) < (↑(16 : Nat) : Int)), true), ((IntKind.i64.wrap (c - (240 : Int))).toNat.blt (16 : Nat), true), (!wF [(IntKind.i64.wrap (c - (240 : Int))).toNat] == wordC c, false), (decide (c ≥ (241 : Int)), true), (decide (c > (240 : Int)), true), (!decide (c ≤ (249 : Int)) == decide (c < (250 : Int)), false), (decide (c ≥ (251 : Int)), true), (!decide (c ≤ (254 : Int)) == true, false), (decide (ixF wF w (16 : Nat) (0 : Nat) < (0 : Int)), false)] ∧ headOf Tryd.f9 (0 : Nat) = headOf Tryd.f9 (0 : Nat) ∧ (c = c ∧ w = w ∧ (240 : Int) + ixF wF w (16 : Nat) (0 : Nat) = IntKind.i64.wrap ((240 : Int) + ixF wF w (16 : Nat) (0 : Nat)) ∧ true = true ∧ (0 : Int) = (0 : Int) ∧ ((0 : Nat) = (0 : Nat) ∧ (16 : Nat) = (16 : Nat)) ∧ (16 : Int) = (↑(16 : Nat) : Int) ∧ (0 : Int) = (0 : Int)) ∧ (16 : Nat) = (16 : Nat) ∧ ∀ (i : Nat), i < (16 : Nat) → wF [i] = wF [i]) := by kernel_rfl
theorem ltInY_p8 (c : Int) (a : Bool) (w : List UInt8) :
    isMore (evTill Tryd.prog sumsL 400 (behind Tryd.f9 0) 900 9 [.code (bodyOf Tryd.f9)] (envOf [vN c, vB a, vS w] Tryd.f9.ntmps) (tabE ++ ([])) ⟨[.t, .f, .s false, .s true, .s true, .s false, .s true, .s false, .s false, .s true, .s true, .t, .s false, .f, .f, .s true, .s true, .s false, .s true, .s false, .t, .s false, .t], 110⟩) (moreP (headOf Tryd.f9 0) ([((120 : Nat), Rn.to (350 : Nat))]) Tryd.f9.ntmps ([(0, vN c), (2, vS w), (10, vN (240 + ixF wF w 16 0)), (11, vB (true)), (12, vN (0)), (68, vL 120 1 16), (69, vN 16), (70, vN 0)]) ([⟨120, true, none, 1, .ta 16 (.vs wF)⟩]) 900) =
    (OkL [(decide ((↑w.length : Int) > (100 : Int)), false), (decide (c ≥ (251 : Int)), true), (!decide (c ≤ (254 : Int)), true), (decide (c < (251 : Int)), false), (decide (c > (254 : Int)), true), (decide (c < (240 : Int)), false), (decide (c > (255 : Int)), false), (decide ((0 : Int) ≤ IntKind.i64.wrap (c - (240 : Int)) ∧ IntKind.i64.wrap (c - (240 : Int)) < (↑(16 : Nat) : Int)), true), ((IntKind.i64.wrap (c - (240 : Int))).toNat.blt (16 : Nat), true), (!wF [(IntKind.i64.wrap (c - (240 : Int))).toNat] == wordC c, false), (decide (c ≥ (241 : Int)), true), (decide (c > (240 : Int)), true), (!decide (c ≤ (249 : Int)) == decide (c < (250 : Int)), false), (decide (c ≥ (251 : Int)), true), (!decide (c ≤ (254 : Int)) == false, false), (decide (ixF wF w (16 : Nat) (0 : Nat) < (0 : Int)), false)] ∧ headOf Tryd.f9 (0 : Nat) = headOf Tryd.f9 (0 : Nat) ∧ (c = c ∧ w = w ∧ (240 : Int) + ixF wF w (16 : Nat) (0 : Nat) = IntKind.i64.wrap ((240 : Int) + ixF wF w (16 : Nat) (0 : Nat)) ∧ true = true ∧ (0 : Int) = (0 : Int) ∧ ((0 : Nat) = (0 : Nat) ∧ (16 : Nat) = (16 : Nat)) ∧ (16 : Int) = (↑(16 : Nat) : Int) ∧ (0 : Int) = (0 : Int)) ∧ (16 : Nat) = (16 : Nat) ∧ ∀ (i : Nat), i < (16 : Nat) → wF [i] = wF [i]) := by kernel_rfl

set_option maxHeartbeats 4000000 in
theorem ltInY (c : Int) (a : Bool) (w : List UInt8) (hl : w.length ≤ 100) (h1 : 240 ≤ c ∧ c ≤ 255) (hx : 0 ≤ ixF wF w 16 0) (next : RunsTo Tryd.prog 9 (headOf Tryd.f9 0) (envAt Tryd.f9.ntmps ([(0, vN c), (2, vS w), (10, vN (240 + ixF wF w 16 0)), (11, vB (true)), (12, vN (0)), (68, vL 120 1 16), (69, vN 16), (70, vN 0)])) (Sx.look (tabE ++ ([⟨120, true, none, 1, .ta 16 (.vs wF)⟩]))) 110 (YES) (Sx.look []) 900) :
    RunsTo Tryd.prog 9 [.code (bodyOf Tryd.f9)] (envOf [vN c, vB a, vS w] Tryd.f9.ntmps) (Sx.look (tabE ++ ([]))) 110 (YES) (Sx.look []) 900 := by
  have hwc := wordC_in h1
  have hwr : IntKind.i64.wrap (c - 240) = c - 240 := wr64 (by omega)
  have hb := ixF_ge wF w 16 0
  have hq : IntKind.i64.wrap (240 + ixF wF w 16 0) = 240 + ixF wF w 16 0 := wr64 (by omega)
  refine bcase (c := (decide (c ≥ (251 : Int)))) (fun gg0 => ?_) (fun gg0 => ?_)
  · refine bcase (c := (decide (c ≥ (241 : Int)))) (fun gg1 => ?_) (fun gg1 => ?_)
    · refine runs_more baseL (More.of (ltInY_p0 c a w) ⟨?oo, rfl, ?rr⟩) (by kernel_rfl) (by kernel_rfl) rfl (gtL (by decide)) (by decide) next
      case oo =>
        clear next
        refine (okc ?_ (okc gg0 (okc ?_ (okc ?_ (okc ?_ (okc ?_ (okc ?_ (okc ?_ (okc gg1 (okc ?_ (okc gg0 (okc ?_ okn))))))))))))
        all_goals ((try simp (disch := omega) only [SS, hwc, hq, hwr]); first | done | omega | assumption | (simp (disch := omega) only [SS, hwc, hq, hwr] at *; first | done | omega | assumption) | (simp_all; done) | grind)
      case rr =>
        clear next
        try simp (disch := omega) only [SS, hwc, hq, hwr]
        repeat' apply And.intro
        all_goals first | exact True.intro | with_reducible rfl | omega | (intros; first | exact True.intro | with_reducible rfl | omega | (simp_all; done)) | (simp_all; done) | rfl
    · refine runs_more baseL (More.of (ltInY_p1 c a w) ⟨?oo, rfl, ?rr⟩) (by kernel_rfl) (by kernel_rfl) rfl (gtL (by decide)) (by decide) next
      case oo =>
        clear next
        refine (okc ?_ (okc gg0 (okc ?_ (okc ?_ (okc ?_ (okc ?_ (okc ?_ (okc ?_ (okc gg1 (okc ?_ (okc ?_ (okc gg0 (okc ?_ okn)))))))))))))
        all_goals ((try simp (disch := omega) only [SS, hwc, hq, hwr]); first | done | omega | assumption | (simp (disch := omega) only [SS, hwc, hq, hwr] at *; first | done | omega | assumption) | (simp_all; done) | grind)
      case rr =>
        clear next
        try simp (disch := omega) only [SS, hwc, hq, hwr]
        repeat' apply And.intro
        all_goals first | exact True.intro | with_reducible rfl | omega | (intros; first | exact True.intro | with_reducible rfl | omega | (simp_all; done)) | (simp_all; done) | rfl
  · refine bcase (c := (!decide (c ≤ (254 : Int)))) (fun gg1 => ?_) (fun gg1 => ?_)
    · refine bcase (c := (c == (251 : Int))) (fun gg2 => ?_) (fun gg2 => ?_)
      · refine bcase (c := (c == (252 : Int))) (fun gg3 => ?_) (fun gg3 => ?_)
        · refine bcase (c := (a)) (fun gg4 => ?_) (fun gg4 => ?_)
          · refine runs_more baseL (More.of (ltInY_p2 c a w) ⟨?oo, rfl, ?rr⟩) (by kernel_rfl) (by kernel_rfl) rfl (gtL (by decide)) (by decide) next
            case oo =>
              clear next
              refine (okc ?_ (okc gg0 (okc gg1 (okc gg2 (okc gg3 (okc gg2 (okc gg3 (okc gg4 (okc ?_ (okc ?_ (okc ?_ (okc ?_ (okc ?_ (okc ?_ (okc ?_ (okc ?_ (okc ?_ (okc ?_ (okc ?_ (okc ?_ (okc gg0 (okc ?_ (okc ?_ okn)))))))))))))))))))))))
              all_goals ((try simp (disch := omega) only [SS, hwc, hq, hwr]); first | done | omega | assumption | (simp (disch := omega) only [SS, hwc, hq, hwr] at *; first | done | omega | assumption) | (simp_all; done) | grind)
            case rr =>
              clear next
              try simp (disch := omega) only [SS, hwc, hq, hwr]
              repeat' apply And.intro
              all_goals first | exact True.intro | with_reducible rfl | omega | (intros; first | exact True.intro | with_reducible rfl | omega | (simp_all; done)) | (simp_all; done) | rfl
          · refine runs_more baseL (More.of (ltInY_p3 c a w) ⟨?oo, rfl, ?rr⟩) (by kernel_rfl) (by kernel_rfl) rfl (gtL (by decide)) (by decide) next
            case oo =>
              clear next
              refine (okc ?_ (okc gg0 (okc gg1 (okc gg2 (okc gg3 (okc gg2 (okc gg3 (okc gg4 (okc ?_ (okc ?_ (okc ?_ (okc ?_ (okc ?_ (okc ?_ (okc ?_ (okc ?_ (okc ?_ (okc ?_ (okc ?_ (okc ?_ (okc gg0 (okc ?_ (okc ?_ okn)))))))))))))))))))))))
              all_goals ((try simp (disch := omega) only [SS, hwc, hq, hwr]); first | done | omega | assumption | (simp (disch := omega) only [SS, hwc, hq, hwr] at *; first | done | omega | assumption) | (simp_all; done) | grind)
            case rr =>
              clear next
              try simp (disch := omega) only [SS, hwc, hq, hwr]
              repeat' apply And.intro
              all_goals first | exact True.intro | with_reducible rfl | omega | (intros; first | exact True.intro | with_reducible rfl | omega | (simp_all; done)) | (simp_all; done) | rfl
        · refine bcase (c := (a)) (fun gg4 => ?_) (fun gg4 => ?_)
          · refine runs_more baseL (More.of (ltInY_p4 c a w) ⟨?oo, rfl, ?rr⟩) (by kernel_rfl) (by kernel_rfl) rfl (gtL (by decide)) (by decide) next
            case oo =>
              clear next
              refine (okc ?_ (okc gg0 (okc gg1 (okc gg2 (okc gg3 (okc gg4 (okc gg2 (okc gg3 (okc ?_ (okc ?_ (okc ?_ (okc ?_ (okc ?_ (okc ?_ (okc ?_ (okc ?_ (okc ?_ (okc ?_ (okc ?_ (okc ?_ (okc gg0 (okc ?_ (okc ?_ okn)))))))))))))))))))))))
              all_goals ((try simp (disch := omega) only [SS, hwc, hq, hwr]); first | done | omega | assumption | (simp (disch := omega) only [SS, hwc, hq, hwr] at *; first | done | omega | assumption) | (simp_all; done) | grind)
            case rr =>
              clear next
              try simp (disch := omega) only [SS, hwc, hq, hwr]
              repeat' apply And.intro
              all_goals first | exact True.intro | with_reducible rfl | omega | (intros; first | exact True.intro | with_reducible rfl | omega | (simp_all; done)) | (simp_all; done) | rfl
          · refine runs_more baseL (More.of (ltInY_p5 c a w) ⟨?oo, rfl, ?rr⟩) (by kernel_rfl) (by kernel_rfl) rfl (gtL (by decide)) (by decide) next
            case oo =>
              clear next
              refine (okc ?_ (okc gg0 (okc gg1 (okc gg2 (okc gg3 (okc gg4 (okc ?_ (okc ?_ (okc ?_ (okc ?_ (okc ?_ (okc ?_ (okc ?_ (okc ?_ (okc ?_ (okc ?_ (okc ?_ (okc ?_ (okc gg0 (okc ?_ (okc ?_ okn)))))))))))))))))))))
              all_goals ((try simp (disch := omega) only [SS, hwc, hq, hwr]); first | done | omega | assumption | (simp (disch := omega) only [SS, hwc, hq, hwr] at *; first | done | omega | assumption) | (simp_all; done) | grind)
            case rr =>
              clear next
              try simp (disch := omega) only [SS, hwc, hq, hwr]
              repeat' apply And.intro
              all_goals first | exact True.intro | with_reducible rfl | omega | (intros; first | exact True.intro | with_reducible rfl | omega | (simp_all; done)) | (simp_all; done) | rfl
      · refine bcase (c := (a)) (fun gg3 => ?_) (fun gg3 => ?_)
        · refine runs_more baseL (More.of (ltInY_p6 c a w) ⟨?oo, rfl, ?rr⟩) (by kernel_rfl) (by kernel_rfl) rfl (gtL (by decide)) (by decide) next
          case oo =>
            clear next
            refine (okc ?_ (okc gg0 (okc gg1 (okc gg2 (okc gg3 (okc gg2 (okc ?_ (okc ?_ (okc ?_ (okc ?_ (okc ?_ (okc ?_ (okc ?_ (okc ?_ (okc ?_ (okc ?_ (okc ?_ (okc ?_ (okc gg0 (okc ?_ (okc ?_ okn)))))))))))))))))))))
            all_goals ((try simp (disch := omega) only [SS, hwc, hq, hwr]); first | done | omega | assumption | (simp (disch := omega) only [SS, hwc, hq, hwr] at *; first | done | omega | assumption) | (simp_all; done) | grind)
          case rr =>
            clear next
            try simp (disch := omega) only [SS, hwc, hq, hwr]
            repeat' apply And.intro
            all_goals first | exact True.intro | with_reducible rfl | omega | (intros; first | exact True.intro | with_reducible rfl | omega | (simp_all; done)) | (simp_all; done) | rfl
        · refine runs_more baseL (More.of (ltInY_p7 c a w) ⟨?oo, rfl, ?rr⟩) (by kernel_rfl) (by kernel_rfl) rfl (gtL (by decide)) (by decide) next
          case oo =>
            clear next
            refine (okc ?_ (okc gg0 (okc gg1 (okc gg2 (okc gg3 (okc ?_ (okc ?_ (okc ?_ (okc ?_ (okc ?_ (okc ?_ (okc ?_ (okc ?_ (okc ?_ (okc ?_ (okc ?_ (okc ?_ (okc gg0 (okc ?_ (okc ?_ okn))))))))))))))))))))
            all_goals ((try simp (disch := omega) only [SS, hwc, hq, hwr]); first | done | omega | assumption | (simp (disch := omega) only [SS, hwc, hq, hwr] at *; first | done | omega | assumption) | (simp_all; done) | grind)
          case rr =>
            clear next
            try simp (disch := omega) only [SS, hwc, hq, hwr]
            repeat' apply And.intro
            all_goals first | exact True.intro | with_reducible rfl | omega | (intros; first | exact True.intro | with_reducible rfl | omega | (simp_all; done)) | (simp_all; done) | rfl
    · refine runs_more baseL (More.of (ltInY_p8 c a w) ⟨?oo, rfl, ?rr⟩) (by kernel_rfl) (by kernel_rfl) rfl (gtL (by decide)) (by decide) next
      case oo =>
        clear next
        refine (okc ?_ (okc gg0 (okc gg1 (okc ?_ (okc ?_ (okc ?_ (okc ?_ (okc ?_ (okc ?_ (okc ?_ (okc ?_ (okc ?_ (okc ?_ (okc gg0 (okc ?_ (okc ?_ okn))))))))))))))))
        all_goals ((try simp (disch := omega) only [SS, hwc, hq, hwr]); first | done | omega | assumption | (simp (disch := omega) only [SS, hwc, hq, hwr] at *; first | done | omega | assumption) | (simp_all; done) | grind)
      case rr =>
        clear next
        try simp (disch := omega) only [SS, hwc, hq, hwr]
        repeat' apply And.intro
        all_goals first | exact True.intro | with_reducible rfl | omega | (intros; first | exact True.intro | with_reducible rfl | omega | (simp_all; done)) | (simp_all; done) | rfl

theorem ltInN_p0 (c : Int) (a : Bool) (w : List UInt8) :
    isMore (evTill Tryd.prog sumsL 400 (behind Tryd.f9 0) 900 9 [.code (bodyOf Tryd.f9)] (envOf [vN c, vB a, vS w] Tryd.f9.ntmps) (tabE ++ ([])) ⟨[.t, .f, .s false, .s false, .t, .s true, .s false, .s false, .s true, .s true, .t, .s false, .f, .f, .s false, .s false, .f, .s false, .f, .t, .s true, .t], 110⟩) (moreP (headOf Tryd.f9 0) ([((120 : Nat), Rn.to (350 : Nat))]) Tryd.f9.ntmps ([(0, vN c), (2, vS w), (10, vN (0)), (11, vB (false)), (12, vN (0)), (68, vL 120 1 16), (69, vN 16), (70, vN 0)]) ([⟨120, true, none, 1, .ta 16 (.vs wF)⟩]) 900) =
    (OkL [(decide ((↑w.length : Int) > (100 : Int)), false), (decide (c ≥ (251 : Int)), false), (decide (c < (251 : Int)), true), (decide (c < (240 : Int)), false), (decide (c > (255 : Int)), false), (decide ((0 : Int) ≤ IntKind.i64.wrap (c - (240 : Int)) ∧ IntKind.i64.wrap (c - (240 : Int)) < (↑(16 : Nat) : Int)), true), ((IntKind.i64.wrap (c - (240 : Int))).toNat.blt (16 : Nat), true), (!wF [(IntKind.i64.wrap (c - (240 : Int))).toNat] == wordC c, false), (decide (c ≥ (241 : Int)), false), (decide (c > (240 : Int)), false), (decide (c ≥ (251 : Int)), false), (decide (ixF wF w (16 : Nat) (0 : Nat) < (0 : Int)), true)] ∧ headOf Tryd.f9 (0 : Nat) = headOf Tryd.f9 (0 : Nat) ∧ (c = c ∧ w = w ∧ (0 : Int) = (0 : Int) ∧ false = false ∧ (0 : Int) = (0 : Int) ∧ ((0 : Nat) = (0 : Nat) ∧ (16 : Nat) = (16 : Nat)) ∧ (16 : Int) = (↑(16 : Nat) : Int) ∧ (0 : Int) = (0 : Int)) ∧ (16 : Nat) = (16 : Nat) ∧ ∀ (i : Nat), i < (16 : Nat) → wF [i] = wF [i]) := by kernel_rfl
theorem ltInN_p1 (c : Int) (a : Bool) (w : List UInt8) :
    isMore (evTill Tryd.prog sumsL 400 (behind Tryd.f9 0) 900 9 [.code (bodyOf Tryd.f9)] (envOf [vN c, vB a, vS w] Tryd.f9.ntmps) (tabE ++ ([])) ⟨[.t, .f, .s false, .s false, .t, .s true, .s false, .s false, .s true, .s true, .t, .s false, .f, .f, .s true, .s true, .s false, .s false, .f, .t, .s true, .t], 110⟩) (moreP (headOf Tryd.f9 0) ([((120 : Nat), Rn.to (350 : Nat))]) Tryd.f9.ntmps ([(0, vN c), (2, vS w), (10, vN (0)), (11, vB (false)), (12, vN (0)), (68, vL 120 1 16), (69, vN 16), (70, vN 0)]) ([⟨120, true, none, 1, .ta 16 (.vs wF)⟩]) 900) =
    (OkL [(decide ((↑w.length : Int) > (100 : Int)), false), (decide (c ≥ (251 : Int)), false), (decide (c < (251 : Int)), true), (decide (c < (240 : Int)), false), (decide (c > (255 : Int)), false), (decide ((0 : Int) ≤ IntKind.i64.wrap (c - (240 : Int)) ∧ IntKind.i64.wrap (c - (240 : Int)) < (↑(16 : Nat) : Int)), true), ((IntKind.i64.wrap (c - (240 : Int))).toNat.blt (16 : Nat), true), (!wF [(IntKind.i64.wrap (c - (240 : Int))).toNat] == wordC c, false), (decide (c ≥ (241 : Int)), true), (decide (c > (240 : Int)), true), (!decide (c ≤ (249 : Int)) == decide (c < (250 : Int)), false), (decide (c ≥ (251 : Int)), false), (decide (ixF wF w (16 : Nat) (0 : Nat) < (0 : Int)), true)] ∧ headOf Tryd.f9 (0 : Nat) = headOf Tryd.f9 (0 : Nat) ∧ (c = c ∧ w = w ∧ (0 : Int) = (0 : Int) ∧ false = false ∧ (0 : Int) = (0 : Int) ∧ ((0 : Nat) = (0 : Nat) ∧ (16 : Nat) = (16 : Nat)) ∧ (16 : Int) = (↑(16 : Nat) : Int) ∧ (0 : Int) = (0 : Int)) ∧ (16 : Nat) = (16 : Nat) ∧ ∀ (i : Nat), i < (16 : Nat) → wF [i] = wF [i]) := by kernel_rfl
theorem ltInN_p2 (c : Int) (a : Bool) (w : List UInt8) :
    isMore (evTill Tryd.prog sumsL 400 (behind Tryd.f9 0) 900 9 [.code (bodyOf Tryd.f9)] (envOf [vN c, vB a, vS w] Tryd.f9.ntmps) (tabE ++ ([])) ⟨[.t, .f, .s false, .s true, .s false, .s false, .s false, .s false, .s false, .s false, .s false, .s false, .s false, .s true, .s false, .s false, .s true, .s true, .t, .s false, .f, .f, .s true, .s true, .s false, .s true, .s false, .t, .s true, .t], 110⟩) (moreP (headOf Tryd.f9 0) ([((120 : Nat), Rn.to (350 : Nat))]) Tryd.f9.ntmps ([(0, vN c), (2, vS w), (10, vN (0)), (11, vB (false)), (12, vN (0)), (68, vL 120 1 16), (69, vN 16), (70, vN 0)]) ([⟨120, true, none, 1, .ta 16 (.vs wF)⟩]) 900) =
    (OkL [(decide ((↑w.length : Int) > (100 : Int)), false), (decide (c ≥ (251 : Int)), true), (!decide (c ≤ (254 : Int)), false), (c == (251 : Int), false), (c == (252 : Int), false), (c == (251 : Int), false), (c == (252 : Int), false), (a, false), (decide (c < (251 : Int)), false), (decide (c > (254 : Int)), false), (decide (c < (253 : Int)), false), (!a, true), (decide (c < (240 : Int)), false), (decide (c > (255 : Int)), false), (decide ((0 : Int) ≤ IntKind.i64.wrap (c - (240 : Int)) ∧ IntKind.i64.wrap (c - (240 : Int)) < (↑(16 : Nat) : Int)), true), ((IntKind.i64.wrap (c - (240 : Int))).toNat.blt (16 : Nat), true), (!wF [(IntKind.i64.wrap (c - (240 : Int))).toNat] == wordC c, false), (decide (c ≥ (241 : Int)), true), (decide (c > (240 : Int)), true), (!decide (c ≤ (249 : Int)) == decide (c < (250 : Int)), false), (decide (c ≥ (251 : Int)), true), (!decide (c ≤ (254 : Int)) == true, false), (decide (ixF wF w (16 : Nat) (0 : Nat) < (0 : Int)), true)] ∧ headOf Tryd.f9 (0 : Nat) = headOf Tryd.f9 (0 : Nat) ∧ (c = c ∧ w = w ∧ (0 : Int) = (0 : Int) ∧ false = false ∧ (0 : Int) = (0 : Int) ∧ ((0 : Nat) = (0 : Nat) ∧ (16 : Nat) = (16 : Nat)) ∧ (16 : Int) = (↑(16 : Nat) : Int) ∧ (0 : Int) = (0 : Int)) ∧ (16 : Nat) = (16 : Nat) ∧ ∀ (i : Nat), i < (16 : Nat) → wF [i] = wF [i]) := by kernel_rfl
theorem ltInN_p3 (c : Int) (a : Bool) (w : List UInt8) :
    isMore (evTill Tryd.prog sumsL 400 (behind Tryd.f9 0) 900 9 [.code (bodyOf Tryd.f9)] (envOf [vN c, vB a, vS w] Tryd.f9.ntmps) (tabE ++ ([])) ⟨[.t, .f, .s false, .s true, .s false, .s false, .s false, .s false, .s false, .s true, .s false, .s false, .s false, .s false, .s false, .s false, .s true, .s true, .t, .s false, .f, .f, .s true, .s true, .s false, .s true, .s false, .t, .s true, .t], 110⟩) (moreP (headOf Tryd.f9 0) ([((120 : Nat), Rn.to (350 : Nat))]) Tryd.f9.ntmps ([(0, vN c), (2, vS w), (10, vN (0)), (11, vB (false)), (12, vN (0)), (68, vL 120 1 16), (69, vN 16), (70, vN 0)]) ([⟨120, true, none, 1, .ta 16 (.vs wF)⟩]) 900) =
    (OkL [(decide ((↑w.length : Int) > (100 : Int)), false), (decide (c ≥ (251 : Int)), true), (!decide (c ≤ (254 : Int)), false), (c == (251 : Int), false), (c == (252 : Int), false), (c == (251 : Int), false), (c == (252 : Int), false), (a, true), (decide (c < (251 : Int)), false), (decide (c > (254 : Int)), false), (decide (c < (253 : Int)), false), (!a, false), (decide (c < (240 : Int)), false), (decide (c > (255 : Int)), false), (decide ((0 : Int) ≤ IntKind.i64.wrap (c - (240 : Int)) ∧ IntKind.i64.wrap (c - (240 : Int)) < (↑(16 : Nat) : Int)), true), ((IntKind.i64.wrap (c - (240 : Int))).toNat.blt (16 : Nat), true), (!wF [(IntKind.i64.wrap (c - (240 : Int))).toNat] == wordC c, false), (decide (c ≥ (241 : Int)), true), (decide (c > (240 : Int)), true), (!decide (c ≤ (249 : Int)) == decide (c < (250 : Int)), false), (decide (c ≥ (251 : Int)), true), (!decide (c ≤ (254 : Int)) == true, false), (decide (ixF wF w (16 : Nat) (0 : Nat) < (0 : Int)), true)] ∧ headOf Tryd.f9 (0 : Nat) = headOf Tryd.f9 (0 : Nat) ∧ (c = c ∧ w = w ∧ (0 : Int) = (0 : Int) ∧ false = false ∧ (0 : Int) = (0 : Int) ∧ ((0 : Nat) = (0 : Nat) ∧ (16 : Nat) = (16 : Nat)) ∧ (16 : Int) = (↑(16 : Nat) : Int) ∧ (0 : Int) = (0 : Int)) ∧ (16 : Nat) = (16 : Nat) ∧ ∀ (i : Nat), i < (16 : Nat) → wF [i] = wF [i]) := by kernel_rfl
theorem ltInN_p4 (c : Int) (a : Bool) (w : List UInt8) :
    isMore (evTill Tryd.prog sumsL 400 (behind Tryd.f9 0) 900 9 [.code (bodyOf Tryd.f9)] (envOf [vN c, vB a, vS w] Tryd.f9.ntmps) (tabE ++ ([])) ⟨[.t, .f, .s false, .s true, .s false, .s false, .s true, .s false, .s false, .s true, .s false, .s false, .s true, .s true, .s false, .s false, .s true, .s true, .t, .s false, .f, .f, .s true, .s true, .s false, .s true, .s false, .t, .s true, .t], 110⟩) (moreP (headOf Tryd.f9 0) ([((120 : Nat), Rn.to (350 : Nat))]) Tryd.f9.ntmps ([(0, vN c), (2, vS w), (10, vN (0)), (11, vB (false)), (12, vN (0)), (68, vL 120 1 16), (69, vN 16), (70, vN 0)]) ([⟨120, true, none, 1, .ta 16 (.vs wF)⟩]) 900) =
    (OkL [(decide ((↑w.length : Int) > (100 : Int)), false), (decide (c ≥ (251 : Int)), true), (!decide (c ≤ (254 : Int)), false), (c == (251 : Int), false), (c == (252 : Int), true), (a, false), (c == (251 : Int), false), (c == (252 : Int), true), (decide (c < (251 : Int)), false), (decide (c > (254 : Int)), false), (decide (c < (253 : Int)), true), (!a, true), (decide (c < (240 : Int)), false), (decide (c > (255 : Int)), false), (decide ((0 : Int) ≤ IntKind.i64.wrap (c - (240 : Int)) ∧ IntKind.i64.wrap (c - (240 : Int)) < (↑(16 : Nat) : Int)), true), ((IntKind.i64.wrap (c - (240 : Int))).toNat.blt (16 : Nat), true), (!wF [(IntKind.i64.wrap (c - (240 : Int))).toNat] == wordC c, false), (decide (c ≥ (241 : Int)), true), (decide (c > (240 : Int)), true), (!decide (c ≤ (249 : Int)) == decide (c < (250 : Int)), false), (decide (c ≥ (251 : Int)), true), (!decide (c ≤ (254 : Int)) == true, false), (decide (ixF wF w (16 : Nat) (0 : Nat) < (0 : Int)), true)] ∧ headOf Tryd.f9 (0 : Nat) = headOf Tryd.f9 (0 : Nat) ∧ (c = c ∧ w = w ∧ (0 : Int) = (0 : Int) ∧ false = false ∧ (0 : Int) = (0 : Int) ∧ ((0 : Nat) = (0 : Nat) ∧ (16 : Nat) = (16 : Nat)) ∧ (16 : Int) = (↑(16 : Nat) : Int) ∧ (0 : Int) = (0 : Int)) ∧ (16 : Nat) = (16 : Nat) ∧ ∀ (i : Nat), i < (16 : Nat) → wF [i] = wF [i]) := by kernel_rfl
theorem ltInN_p5 (c : Int) (a : Bool) (w : List UInt8) :
    isMore (evTill Tryd.prog sumsL 400 (behind Tryd.f9 0) 900 9 [.code (bodyOf Tryd.f9)] (envOf [vN c, vB a, vS w] Tryd.f9.ntmps) (tabE ++ ([])) ⟨[.t, .f, .s false, .s true, .s false, .s false, .s true, .s true, .s false, .s false, .s true, .s false, .s false, .s false, .s true, .s true, .t, .s false, .f, .f, .s true, .s true, .s false, .s true, .s false, .t, .s true, .t], 110⟩) (moreP (headOf Tryd.f9 0) ([((120 : Nat), Rn.to (350 : Nat))]) Tryd.f9.ntmps ([(0, vN c), (2, vS w), (10, vN (0)), (11, vB (false)), (12, vN (0)), (68, vL 120 1 16), (69, vN 16), (70, vN 0)]) ([⟨120, true, none, 1, .ta 16 (.vs wF)⟩]) 900) =
    (OkL [(decide ((↑w.length : Int) > (100 : Int)), false), (decide (c ≥ (251 : Int)), true), (!decide (c ≤ (254 : Int)), false), (c == (251 : Int), false), (c == (252 : Int), true), (a, true), (decide (c < (251 : Int)), false), (decide (c > (254 : Int)), false), (decide (c < (253 : Int)), true), (!a, false), (decide (c < (240 : Int)), false), (decide (c > (255 : Int)), false), (decide ((0 : Int) ≤ IntKind.i64.wrap (c - (240 : Int)) ∧ IntKind.i64.wrap (c - (240 : Int)) < (↑(16 : Nat) : Int)), true), ((IntKind.i64.wrap (c - (240 : Int))).toNat.blt (16 : Nat), true), (!wF [(IntKind.i64.wrap (c - (240 : Int))).toNat] == wordC c, false), (decide (c ≥ (241 : Int)), true), (decide (c > (240 : Int)), true), (!decide (c ≤ (249 : Int)) == decide (c < (250 : Int)), false), (decide (c ≥ (251 : Int)), true), (!decide (c ≤ (254 : Int)) == true, false), (decide (ixF wF w (16 : Nat) (0 : Nat) < (0 : Int)), true)] ∧ headOf Tryd.f9 (0 : Nat) = headOf Tryd.f9 (0 : Nat) ∧ (c = c ∧ w = w ∧ (0 : Int) = (0 : Int) ∧ false = false ∧ (0 : Int) = (0 : Int) ∧ ((0 : Nat) = (0 : Nat) ∧ (16 : Nat) = (16 : Nat)) ∧ (16 : Int) = (↑(16 : Nat) : Int) ∧ (0 : Int) = (0 : Int)) ∧ (16 : Nat) = (16 : Nat) ∧ ∀ (i : Nat), i < (16 : Nat) → wF [i] = wF [i]) := by kernel_rfl
theorem ltInN_p6 (c : Int) (a : Bool) (w : List UInt8) :
    isMore (evTill Tryd.prog sumsL 400 (behind Tryd.f9 0) 900 9 [.code (bodyOf Tryd.f9)] (envOf [vN c, vB a, vS w] Tryd.f9.ntmps) (tabE ++ ([])) ⟨[.t, .f, .s false, .s true, .s false, .s true, .t, .s false, .s true, .t, .s false, .s false, .s true, .s true, .s false, .s false, .s true, .s true, .t, .s false, .f, .f, .s true, .s true, .s false, .s true, .s false, .t, .s true, .t], 110⟩) (moreP (headOf Tryd.f9 0) ([((120 : Nat), Rn.to (350 : Nat))]) Tryd.f9.ntmps ([(0, vN c), (2, vS w), (10, vN (0)), (11, vB (false)), (12, vN (0)), (68, vL 120 1 16), (69, vN 16), (70, vN 0)]) ([⟨120, true, none, 1, .ta 16 (.vs wF)⟩]) 900) =
    (OkL [(decide ((↑w.length : Int) > (100 : Int)), false), (decide (c ≥ (251 : Int)), true), (!decide (c ≤ (254 : Int)), false), (c == (251 : Int), true), (a, false), (c == (251 : Int), true), (decide (c < (251 : Int)), false), (decide (c > (254 : Int)), false), (decide (c < (253 : Int)), true), (!a, true), (decide (c < (240 : Int)), false), (decide (c > (255 : Int)), false), (decide ((0 : Int) ≤ IntKind.i64.wrap (c - (240 : Int)) ∧ IntKind.i64.wrap (c - (240 : Int)) < (↑(16 : Nat) : Int)), true), ((IntKind.i64.wrap (c - (240 : Int))).toNat.blt (16 : Nat), true), (!wF [(IntKind.i64.wrap (c - (240 : Int))).toNat] == wordC c, false), (decide (c ≥ (241 : Int)), true), (decide (c > (240 : Int)), true), (!decide (c ≤ (249 : Int)) == decide (c < (250 : Int)), false), (decide (c ≥ (251 : Int)), true), (!decide (c ≤ (254 : Int)) == true, false), (decide (ixF wF w (16 : Nat) (0 : Nat) < (0 : Int)), true)] ∧ headOf Tryd.f9 (0 : Nat) = headOf Tryd.f9 (0 : Nat) ∧ (c = c ∧ w = w ∧ (0 : Int) = (0 : Int) ∧ false = false ∧ (0 : Int) = (0 : Int) ∧ ((0 : Nat) = (0 : Nat) ∧ (16 : Nat) = (16 : Nat)) ∧ (16 : Int) = (↑(16 : Nat) : Int) ∧ (0 : Int) = (0 : Int)) ∧ (16 : Nat) = (16 : Nat) ∧ ∀ (i : Nat), i < (16 : Nat) → wF [i] = wF [i]) := by kernel_rfl
theorem ltInN_p7 (c : Int) (a : Bool) (w : List UInt8) :
    isMore (evTill Tryd.prog sumsL 400 (behind Tryd.f9 0) 900 9 [.code (bodyOf Tryd.f9)] (envOf [vN c, vB a, vS w] Tryd.f9.ntmps) (tabE ++ ([])) ⟨[.t, .f, .s false, .s true, .s false, .s true, .t, .s true, .s false, .s false, .s true, .s false, .s false, .s false, .s true, .s true, .t, .s false, .f, .f, .s true, .s true, .s false, .s true, .s false, .t, .s true, .t], 110⟩) (moreP (headOf Tryd.f9 0) ([((120 : Nat), Rn.to (350 : Nat))]) Tryd.f9.ntmps ([(0, vN c), (2, vS w), (10, vN (0)), (11, vB (false)), (12, vN (0)), (68, vL 120 1 16), (69, vN 16), (70, vN 0)]) ([⟨120, true, none, 1, .ta 16 (.vs wF)⟩]) 900) =
    (OkL [(decide ((↑w.length : Int) > (100 : Int)), false), (decide (c ≥ (251 : Int)), true), (!decide (c ≤ (254 : Int)), false), (c == (251 : Int), true), (a, true), (decide (c < (251 : Int)), false), (decide (c > (254 : Int)), false), (decide (c < (253 : Int)), true), (!a, false), (decide (c < (240 : Int)), false), (decide (c > (255 : Int)), false), (decide ((0 : Int) ≤ IntKind.i64.wrap (c - (240 : Int)) ∧ IntKind.i64.wrap (c - (240 : Int)) < (↑(16 : Nat) : Int)), true), ((IntKind.i64.wrap (c - (240 : Int))).toNat.blt (16 : Nat), true), (!wF [(IntKind.i64.wrap (c - (240 : Int))).toNat] == wordC c, false), (decide (c ≥ (241 : Int)), true), (decide (c > (240 : Int)), true), (!decide (c ≤ (249 : Int)) == decide (c < (250 : Int)), false), (decide (c ≥ (251 : Int)), true), (!decide (c ≤ (254 : Int)) == true, false), (decide (ixF wF w (16 : Nat) (0 : Nat) < (0 : Int)), true)] ∧ headOf Tryd.f9 (0 : Nat) = headOf Tryd.f9 (0 : Nat) ∧ (c = c ∧ w = w ∧ (0 : Int) = (0 : Int) ∧ false = false ∧ (0 : Int) = (0 : Int) ∧ ((0 : Nat) = (0 : Nat) ∧ (16 : Nat) = (16 : Nat)) ∧ (16 : Int) = (↑(16 : Nat) : Int) ∧ (0 : Int) = (0 : Int)) ∧ (16 : Nat) = (16 : Nat) ∧ ∀ (i : Nat), i < (16 : Nat) → wF [i] = wF [i]) := by kernel_rfl
theorem ltInN_p8 (c : Int) (a : Bool) (w : List UInt8) :
    isMore (evTill Tryd.prog sumsL 400 (behind Tryd.f9 0) 900 9 [.code (bodyOf Tryd.f9)] (envOf [vN c, vB a, vS w] Tryd.f9.ntmps) (tabE ++ ([])) ⟨[.t, .f, .s false, .s true, .s true, .s false, .s true, .s false, .s false, .s true, .s true, .t, .s false, .f, .f, .s true, .s true, .s false, .s true, .s false, .t, .s true, .t], 110⟩) (moreP (headOf Tryd.f9 0) ([((120 : Nat), Rn.to (350 : Nat))]) Tryd.f9.ntmps ([(0, vN c), (2, vS w), (10, vN (0)), (11, vB (false)), (12, vN (0)), (68, vL 120 1 16), (69, vN 16), (70, vN 0)]) ([⟨120, true, none, 1, .ta 16 (.vs wF)⟩]) 900) =
    (OkL [(decide ((↑w.length : Int) > (100 : Int)), false), (decide (c ≥ (251 : Int)), true), (!decide (c ≤ (254 : Int)), true), (decide (c < (251 : Int)), false), (decide (c > (254 : Int)), true), (decide (c < (240 : Int)), false), (decide (c > (255 : Int)), false), (decide ((0 : Int) ≤ IntKind.i64.wrap (c - (240 : Int)) ∧ IntKind.i64.wrap (c - (240 : Int)) < (↑(16 : Nat) : Int)), true), ((IntKind.i64.wrap (c - (240 : Int))).toNat.blt (16 : Nat), true), (!wF [(IntKind.i64.wrap (c - (240 : Int))).toNat] == wordC c, false), (decide (c ≥ (241 : Int)), true), (decide (c > (240 : Int)), true), (!decide (c ≤ (249 : Int)) == decide (c < (250 : Int)), false), (decide (c ≥ (251 : Int)), true), (!decide (c ≤ (254 : Int)) == false, false), (decide (ixF wF w (16 : Nat) (0 : Nat) < (0 : Int)), true)] ∧ headOf Tryd.f9 (0 : Nat) = headOf Tryd.f9 (0 : Nat) ∧ (c = c ∧ w = w ∧ (0 : Int) = (0 : Int) ∧ false = false ∧ (0 : Int) = (0 : Int) ∧ ((0 : Nat) = (0 : Nat) ∧ (16 : Nat) = (16 : Nat)) ∧ (16 : Int) = (↑(16 : Nat) : Int) ∧ (0 : Int) = (0 : Int)) ∧ (16 : Nat) = (16 : Nat) ∧ ∀ (i : Nat), i < (16 : Nat) → wF [i] = wF [i]) := by kernel_rfl

set_option maxHeartbeats 4000000 in
theorem ltInN (c : Int) (a : Bool) (w : List UInt8) (hl : w.length ≤ 100) (h1 : 240 ≤ c ∧ c ≤ 255) (hx : ixF wF w 16 0 < 0) (next : RunsTo Tryd.prog 9 (headOf Tryd.f9 0) (envAt Tryd.f9.ntmps ([(0, vN c), (2, vS w), (10, vN (0)), (11, vB (false)), (12, vN (0)), (68, vL 120 1 16), (69, vN 16), (70, vN 0)])) (Sx.look (tabE ++ ([⟨120, true, none, 1, .ta 16 (.vs wF)⟩]))) 110 (YES) (Sx.look []) 900) :
    RunsTo Tryd.prog 9 [.code (bodyOf Tryd.f9)] (envOf [vN c, vB a, vS w] Tryd.f9.ntmps) (Sx.look (tabE ++ ([]))) 110 (YES) (Sx.look []) 900 := by
  have hwc := wordC_in h1
  have hwr : IntKind.i64.wrap (c - 240) = c - 240 := wr64 (by omega)
  have hb := ixF_ge wF w 16 0
  have hq : IntKind.i64.wrap (240 + ixF wF w 16 0) = 240 + ixF wF w 16 0 := wr64 (by omega)
  refine bcase (c := (decide (c ≥ (251 : Int)))) (fun gg0 => ?_) (fun gg0 => ?_)
  · refine bcase (c := (decide (c ≥ (241 : Int)))) (fun gg1 => ?_) (fun gg1 => ?_)
    · refine runs_more baseL (More.of (ltInN_p0 c a w) ⟨?oo, rfl, ?rr⟩) (by kernel_rfl) (by kernel_rfl) rfl (gtL (by decide)) (by decide) next
      case oo =>
        clear next
        refine (okc ?_ (okc gg0 (okc ?_ (okc ?_ (okc ?_ (okc ?_ (okc ?_ (okc ?_ (okc gg1 (okc ?_ (okc gg0 (okc ?_ okn))))))))))))
        all_goals ((try simp (disch := omega) only [SS, hwc, hq, hwr]); first | done | omega | assumption | (simp (disch := omega) only [SS, hwc, hq, hwr] at *; first | done | omega | assumption) | (simp_all; done) | grind)
      case rr =>
        clear next
        try simp (disch := omega) only [SS, hwc, hq, hwr]
        repeat' apply And.intro
        all_goals first | exact True.intro | with_reducible rfl | omega | (intros; first | exact True.intro | with_reducible rfl | omega | (simp_all; done)) | (simp_all; done) | rfl
    · refine runs_more baseL (More.of (ltInN_p1 c a w) ⟨?oo, rfl, ?rr⟩) (by kernel_rfl) (by kernel_rfl) rfl (gtL (by decide)) (by decide) next
      case oo =>
        clear next
        refine (okc ?_ (okc gg0 (okc ?_ (okc ?_ (okc ?_ (okc ?_ (okc ?_ (okc ?_ (okc gg1 (okc ?_ (okc ?_ (okc gg0 (okc ?_ okn)))))))))))))
        all_goals ((try simp (disch := omega) only [SS, hwc, hq, hwr]); first | done | omega | assumption | (simp (disch := omega) only [SS, hwc, hq, hwr] at *; first | done | omega | assumption) | (simp_all; done) | grind)
      case rr =>
        clear next
        try simp (disch := omega) only [SS, hwc, hq, hwr]
        repeat' apply And.intro
        all_goals first | exact True.intro | with_reducible rfl | omega | (intros; first | exact True.intro | with_reducible rfl | omega | (simp_all; done)) | (simp_all; done) | rfl
  · refine bcase (c := (!decide (c ≤ (254 : Int)))) (fun gg1 => ?_) (fun gg1 => ?_)
    · refine bcase (c := (c == (251 : Int))) (fun gg2 => ?_) (fun gg2 => ?_)
      · refine bcase (c := (c == (252 : Int))) (fun gg3 => ?_) (fun gg3 => ?_)
        · refine bcase (c := (a)) (fun gg4 => ?_) (fun gg4 => ?_)
          · refine runs_more baseL (More.of (ltInN_p2 c a w) ⟨?oo, rfl, ?rr⟩) (by kernel_rfl) (by kernel_rfl) rfl (gtL (by decide)) (by decide) next
            case oo =>
              clear next
              refine (okc ?_ (okc gg0 (okc gg1 (okc gg2 (okc gg3 (okc gg2 (okc gg3 (okc gg4 (okc ?_ (okc ?_ (okc ?_ (okc ?_ (okc ?_ (okc ?_ (okc ?_ (okc ?_ (okc ?_ (okc ?_ (okc ?_ (okc ?_ (okc gg0 (okc ?_ (okc ?_ okn)))))))))))))))))))))))
              all_goals ((try simp (disch := omega) only [SS, hwc, hq, hwr]); first | done | omega | assumption | (simp (disch := omega) only [SS, hwc, hq, hwr] at *; first | done | omega | assumption) | (simp_all; done) | grind)
            case rr =>
              clear next
              try simp (disch := omega) only [SS, hwc, hq, hwr]
              repeat' apply And.intro
              all_goals first | exact True.intro | with_reducible rfl | omega | (intros; first | exact True.intro | with_reducible rfl | omega | (simp_all; done)) | (simp_all; done) | rfl
          · refine runs_more baseL (More.of (ltInN_p3 c a w) ⟨?oo, rfl, ?rr⟩) (by kernel_rfl) (by kernel_rfl) rfl (gtL (by decide)) (by decide) next
            case oo =>
              clear next
              refine (okc ?_ (okc gg0 (okc gg1 (okc gg2 (okc gg3 (okc gg2 (okc gg3 (okc gg4 (okc ?_ (okc ?_ (okc ?_ (okc ?_ (okc ?_ (okc ?_ (okc ?_ (okc ?_ (okc ?_ (okc ?_ (okc ?_ (okc ?_ (okc gg0 (okc ?_ (okc ?_ okn)))))))))))))))))))))))
              all_goals ((try simp (disch := omega) only [SS, hwc, hq, hwr]); first | done | omega | assumption | (simp (disch := omega) only [SS, hwc, hq, hwr] at *; first | done | omega | assumption) | (simp_all; done) | grind)
            case rr =>
              clear next
              try simp (disch := omega) only [SS, hwc, hq, hwr]
              repeat' apply And.intro
              all_goals first | exact True.intro | with_reducible rfl | omega | (intros; first | exact True.intro | with_reducible rfl | omega | (simp_all; done)) | (simp_all; done) | rfl
        · refine bcase (c := (a)) (fun gg4 => ?_) (fun gg4 => ?_)
          · refine runs_more baseL (More.of (ltInN_p4 c a w) ⟨?oo, rfl, ?rr⟩) (by kernel_rfl) (by kernel_rfl) rfl (gtL (by decide)) (by decide) next
            case oo =>
              clear next
              refine (okc ?_ (okc gg0 (okc gg1 (okc gg2 (okc gg3 (okc gg4 (okc gg2 (okc gg3 (okc ?_ (okc ?_ (okc ?_ (okc ?_ (okc ?_ (okc ?_ (okc ?_ (okc ?_ (okc ?_ (okc ?_ (okc ?_ (okc ?_ (okc gg0 (okc ?_ (okc ?_ okn)))))))))))))))))))))))
              all_goals ((try simp (disch := omega) only [SS, hwc, hq, hwr]); first | done | omega | assumption | (simp (disch := omega) only [SS, hwc, hq, hwr] at *; first | done | omega | assumption) | (simp_all; done) | grind)
            case rr =>
              clear next
              try simp (disch := omega) only [SS, hwc, hq, hwr]
              repeat' apply And.intro
              all_goals first | exact True.intro | with_reducible rfl | omega | (intros; first | exact True.intro | with_reducible rfl | omega | (simp_all; done)) | (simp_all; done) | rfl
          · refine runs_more baseL (More.of (ltInN_p5 c a w) ⟨?oo, rfl, ?rr⟩) (by kernel_rfl) (by kernel_rfl) rfl (gtL (by decide)) (by decide) next
            case oo =>
              clear next
              refine (okc ?_ (okc gg0 (okc gg1 (okc gg2 (okc gg3 (okc gg4 (okc ?_ (okc ?_ (okc ?_ (okc ?_ (okc ?_ (okc ?_ (okc ?_ (okc ?_ (okc ?_ (okc ?_ (okc ?_ (okc ?_ (okc gg0 (okc ?_ (okc ?_ okn)))))))))))))))))))))
              all_goals ((try simp (disch := omega) only [SS, hwc, hq, hwr]); first | done | omega | assumption | (simp (disch := omega) only [SS, hwc, hq, hwr] at *; first | done | omega | assumption) | (simp_all; done) | grind)
            case rr =>
              clear next
              try simp (disch := omega) only [SS, hwc, hq, hwr]
              repeat' apply And.intro
              all_goals first | exact True.intro | with_reducible rfl | omega | (intros; first | exact True.intro | with_reducible rfl | omega | (simp_all; done)) | (simp_all; done) | rfl
      · refine bcase (c := (a)) (fun gg3 => ?_) (fun gg3 => ?_)
        · refine runs_more baseL (More.of (ltInN_p6 c a w) ⟨?oo, rfl, ?rr⟩) (by kernel_rfl) (by kernel_rfl) rfl (gtL (by decide)) (by decide) next
          case oo =>
            clear next
            refine (okc ?_ (okc gg0 (okc gg1 (okc gg2 (okc gg3 (okc gg2 (okc ?_ (okc ?_ (okc ?_ (okc ?_ (okc ?_ (okc ?_ (okc ?_ (okc ?_ (okc ?_ (okc ?_ (okc ?_ (okc ?_ (okc gg0 (okc ?_ (okc ?_ okn)))))))))))))))))))))
            all_goals ((try simp (disch := omega) only [SS, hwc, hq, hwr]); first | done | omega | assumption | (simp (disch := omega) only [SS, hwc, hq, hwr] at *; first | done | omega | assumption) | (simp_all; done) | grind)
          case rr =>
            clear next
            try simp (disch := omega) only [SS, hwc, hq, hwr]
            repeat' apply And.intro
            all_goals first | exact True.intro | with_reducible rfl | omega | (intros; first | exact True.intro | with_reducible rfl | omega | (simp_all; done)) | (simp_all; done) | rfl
        · refine runs_more baseL (More.of (ltInN_p7 c a w) ⟨?oo, rfl, ?rr⟩) (by kernel_rfl) (by kernel_rfl) rfl (gtL (by decide)) (by decide) next
          case oo =>
            clear next
            refine (okc ?_ (okc gg0 (okc gg1 (okc gg2 (okc gg3 (okc ?_ (okc ?_ (okc ?_ (okc ?_ (okc ?_ (okc ?_ (okc ?_ (okc ?_ (okc ?_ (okc ?_ (okc ?_ (okc ?_ (okc gg0 (okc ?_ (okc ?_ okn))))))))))))))))))))
            all_goals ((try simp (disch := omega) only [SS, hwc, hq, hwr]); first | done | omega | assumption | (simp (disch := omega) only [SS, hwc, hq, hwr] at *; first | done | omega | assumption) | (simp_all; done) | grind)
          case rr =>
            clear next
            try simp (disch := omega) only [SS, hwc, hq, hwr]
            repeat' apply And.intro
            all_goals first | exact True.intro | with_reducible rfl | omega | (intros; first | exact True.intro | with_reducible rfl | omega | (simp_all; done)) | (simp_all; done) | rfl
    · refine runs_more baseL (More.of (ltInN_p8 c a w) ⟨?oo, rfl, ?rr⟩) (by kernel_rfl) (by kernel_rfl) rfl (gtL (by decide)) (by decide) next
      case oo =>
        clear next
        refine (okc ?_ (okc gg0 (okc gg1 (okc ?_ (okc ?_ (okc ?_ (okc ?_ (okc ?_ (okc ?_ (okc ?_ (okc ?_ (okc ?_ (okc ?_ (okc gg0 (okc ?_ (okc ?_ okn))))))))))))))))
        all_goals ((try simp (disch := omega) only [SS, hwc, hq, hwr]); first | done | omega | assumption | (simp (disch := omega) only [SS, hwc, hq, hwr] at *; first | done | omega | assumption) | (simp_all; done) | grind)
      case rr =>
        clear next
        try simp (disch := omega) only [SS, hwc, hq, hwr]
        repeat' apply And.intro
        all_goals first | exact True.intro | with_reducible rfl | omega | (intros; first | exact True.intro | with_reducible rfl | omega | (simp_all; done)) | (simp_all; done) | rfl

theorem ltEq_p0 (c : Int) (w : List UInt8) (nn : Int) (th : Bool) (x : Int) (i : Nat) :
    isMore (evTill Tryd.prog sumsL 400 (behind Tryd.f9 0) 900 9 (headOf Tryd.f9 0) (envAt Tryd.f9.ntmps ([(0, vN c), (2, vS w), (10, vN (nn)), (11, vB (th)), (12, vN (x)), (68, vL 120 1 16), (69, vN 16), (70, vN i)])) (tabE ++ ([⟨120, true, none, 1, .ta 16 (.vs wF)⟩])) ⟨[.s true, .s true, .s true, .s true, .s true], 140⟩) (moreP (headOf Tryd.f9 0) ([]) Tryd.f9.ntmps ([(0, vN c), (2, vS w), (10, vN (nn)), (11, vB (th)), (12, vN (240 + (i : Int))), (68, vL 120 1 16), (69, vN 16), (70, vN (i + 1))]) ([⟨120, true, none, 1, .ta 16 (.vs wF)⟩]) 900) =
    (OkL [(decide ((↑i : Int) < (16 : Int)), true), (decide ((0 : Int) ≤ (↑i : Int) ∧ (↑i : Int) < (↑(16 : Nat) : Int)), true), (((0 : Nat) + (↑i : Int).toNat).blt (16 : Nat), true), (((0 : Nat) + (↑i : Int).toNat).blt (16 : Nat), true), (wF [(0 : Nat) + (↑i : Int).toNat] == w, true)] ∧ headOf Tryd.f9 (0 : Nat) = headOf Tryd.f9 (0 : Nat) ∧ (c = c ∧ w = w ∧ nn = nn ∧ th = th ∧ (240 : Int) + (↑i : Int) = IntKind.i64.wrap ((240 : Int) + (↑i : Int)) ∧ ((0 : Nat) = (0 : Nat) ∧ (16 : Nat) = (16 : Nat)) ∧ (16 : Int) = (16 : Int) ∧ (↑i : Int) + (1 : Int) = IntKind.i64.wrap ((↑i : Int) + (1 : Int))) ∧ (16 : Nat) = (16 : Nat) ∧ ∀ (i : Nat), i < (16 : Nat) → wF [i] = wF [i]) := by kernel_rfl

set_option maxHeartbeats 4000000 in
theorem ltEq (c : Int) (w : List UInt8) (nn : Int) (th : Bool) (x : Int) (i : Nat) (hi : i < 16) (hn : wF [i] = w) (next : RunsTo Tryd.prog 9 (headOf Tryd.f9 0) (envAt Tryd.f9.ntmps ([(0, vN c), (2, vS w), (10, vN (nn)), (11, vB (th)), (12, vN (240 + (i : Int))), (68, vL 120 1 16), (69, vN 16), (70, vN (i + 1))])) (Sx.look (tabE ++ ([⟨120, true, none, 1, .ta 16 (.vs wF)⟩]))) 110 (YES) (Sx.look []) 900) :
    RunsTo Tryd.prog 9 (headOf Tryd.f9 0) (envAt Tryd.f9.ntmps ([(0, vN c), (2, vS w), (10, vN (nn)), (11, vB (th)), (12, vN (x)), (68, vL 120 1 16), (69, vN 16), (70, vN i)])) (Sx.look (tabE ++ ([⟨120, true, none, 1, .ta 16 (.vs wF)⟩]))) 110 (YES) (Sx.look []) 900 := by
  have hw : IntKind.i64.wrap ((i : Int) + 1) = ((i + 1 : Nat) : Int) := by rw [wr64 (by omega)]; rfl
  have hv : IntKind.i64.wrap (240 + (i : Int)) = 240 + (i : Int) := wr64 (by omega)
  refine runs_more baseL (More.of (ltEq_p0 c w nn th x i) ⟨?oo, rfl, ?rr⟩) (by kernel_rfl) (by kernel_rfl) rfl (gtL (by decide)) (by decide) next
  case oo =>
    clear next
    refine (okc ?_ (okc ?_ (okc ?_ (okc ?_ (okc ?_ okn)))))
    all_goals ((try simp (disch := omega) only [SS, hw, hv]); first | done | omega | assumption | (simp (disch := omega) only [SS, hw, hv] at *; first | done | omega | assumption) | (simp_all; done) | grind)
  case rr =>
    clear next
    try simp (disch := omega) only [SS, hw, hv]
    repeat' apply And.intro
    all_goals first | exact True.intro | with_reducible rfl | omega | (intros; first | exact True.intro | with_reducible rfl | omega | (simp_all; done)) | (simp_all; done) | rfl

theorem ltNe_p0 (c : Int) (w : List UInt8) (nn : Int) (th : Bool) (x : Int) (i : Nat) :
    isMore (evTill Tryd.prog sumsL 400 (behind Tryd.f9 0) 900 9 (headOf Tryd.f9 0) (envAt Tryd.f9.ntmps ([(0, vN c), (2, vS w), (10, vN (nn)), (11, vB (th)), (12, vN (x)), (68, vL 120 1 16), (69, vN 16), (70, vN i)])) (tabE ++ ([⟨120, true, none, 1, .ta 16 (.vs wF)⟩])) ⟨[.s true, .s true, .s true, .s true, .s false], 140⟩) (moreP (headOf Tryd.f9 0) ([]) Tryd.f9.ntmps ([(0, vN c), (2, vS w), (10, vN (nn)), (11, vB (th)), (12, vN (x)), (68, vL 120 1 16), (69, vN 16), (70, vN (i + 1))]) ([⟨120, true, none, 1, .ta 16 (.vs wF)⟩]) 900) =
    (OkL [(decide ((↑i : Int) < (16 : Int)), true), (decide ((0 : Int) ≤ (↑i : Int) ∧ (↑i : Int) < (↑(16 : Nat) : Int)), true), (((0 : Nat) + (↑i : Int).toNat).blt (16 : Nat), true), (((0 : Nat) + (↑i : Int).toNat).blt (16 : Nat), true), (wF [(0 : Nat) + (↑i : Int).toNat] == w, false)] ∧ headOf Tryd.f9 (0 : Nat) = headOf Tryd.f9 (0 : Nat) ∧ (c = c ∧ w = w ∧ nn = nn ∧ th = th ∧ x = x ∧ ((0 : Nat) = (0 : Nat) ∧ (16 : Nat) = (16 : Nat)) ∧ (16 : Int) = (16 : Int) ∧ (↑i : Int) + (1 : Int) = IntKind.i64.wrap ((↑i : Int) + (1 : Int))) ∧ (16 : Nat) = (16 : Nat) ∧ ∀ (i : Nat), i < (16 : Nat) → wF [i] = wF [i]) := by kernel_rfl

set_option maxHeartbeats 4000000 in
theorem ltNe (c : Int) (w : List UInt8) (nn : Int) (th : Bool) (x : Int) (i : Nat) (hi : i < 16) (hn : wF [i] ≠ w) (next : RunsTo Tryd.prog 9 (headOf Tryd.f9 0) (envAt Tryd.f9.ntmps ([(0, vN c), (2, vS w), (10, vN (nn)), (11, vB (th)), (12, vN (x)), (68, vL 120 1 16), (69, vN 16), (70, vN (i + 1))])) (Sx.look (tabE ++ ([⟨120, true, none, 1, .ta 16 (.vs wF)⟩]))) 110 (YES) (Sx.look []) 900) :
    RunsTo Tryd.prog 9 (headOf Tryd.f9 0) (envAt Tryd.f9.ntmps ([(0, vN c), (2, vS w), (10, vN (nn)), (11, vB (th)), (12, vN (x)), (68, vL 120 1 16), (69, vN 16), (70, vN i)])) (Sx.look (tabE ++ ([⟨120, true, none, 1, .ta 16 (.vs wF)⟩]))) 110 (YES) (Sx.look []) 900 := by
  have hw : IntKind.i64.wrap ((i : Int) + 1) = ((i + 1 : Nat) : Int) := by rw [wr64 (by omega)]; rfl
  have hv : IntKind.i64.wrap (240 + (i : Int)) = 240 + (i : Int) := wr64 (by omega)
  refine runs_more baseL (More.of (ltNe_p0 c w nn th x i) ⟨?oo, rfl, ?rr⟩) (by kernel_rfl) (by kernel_rfl) rfl (gtL (by decide)) (by decide) next
  case oo =>
    clear next
    refine (okc ?_ (okc ?_ (okc ?_ (okc ?_ (okc ?_ okn)))))
    all_goals ((try simp (disch := omega) only [SS, hw, hv]); first | done | omega | assumption | (simp (disch := omega) only [SS, hw, hv] at *; first | done | omega | assumption) | (simp_all; done) | grind)
  case rr =>
    clear next
    try simp (disch := omega) only [SS, hw, hv]
    repeat' apply And.intro
    all_goals first | exact True.intro | with_reducible rfl | omega | (intros; first | exact True.intro | with_reducible rfl | omega | (simp_all; done)) | (simp_all; done) | rfl

theorem ltEnd_p0 (c : Int) (w : List UInt8) (nn : Int) (th : Bool) (x : Int) (i : Nat) :
    isEnd (evTill Tryd.prog sumsL 400 (99) 900 9 (headOf Tryd.f9 0) (envAt Tryd.f9.ntmps ([(0, vN c), (2, vS w), (10, vN (nn)), (11, vB (th)), (12, vN (x)), (68, vL 120 1 16), (69, vN 16), (70, vN i)])) (tabE ++ ([⟨120, true, none, 1, .ta 16 (.vs wF)⟩])) ⟨[.s false, .s false, .s false, .s true, .s false, .s false, .s true, .s true], 140⟩) (endP ([]) (YES) ([]) 900) =
    (OkL [(decide ((↑i : Int) < (16 : Int)), false), (c == (251 : Int), false), (c == (251 : Int), false), ((c == (253 : Int)) == (c == (253 : Int)), true), (c == (251 : Int), false), (c == (251 : Int), false), ((c == (252 : Int)) == (c == (252 : Int)), true), (nn == x, true)] ∧ true = (th == (x != (0 : Int))) ∧ True) := by kernel_rfl
theorem ltEnd_p1 (c : Int) (w : List UInt8) (nn : Int) (th : Bool) (x : Int) (i : Nat) :
    isEnd (evTill Tryd.prog sumsL 400 (99) 900 9 (headOf Tryd.f9 0) (envAt Tryd.f9.ntmps ([(0, vN c), (2, vS w), (10, vN (nn)), (11, vB (th)), (12, vN (x)), (68, vL 120 1 16), (69, vN 16), (70, vN i)])) (tabE ++ ([⟨120, true, none, 1, .ta 16 (.vs wF)⟩])) ⟨[.s false, .s true, .s true, .t, .s true, .s true, .t, .s true], 140⟩) (endP ([]) (YES) ([]) 900) =
    (OkL [(decide ((↑i : Int) < (16 : Int)), false), (c == (251 : Int), true), (c == (251 : Int), true), (c == (251 : Int), true), (c == (251 : Int), true), (nn == x, true)] ∧ true = (th == (x != (0 : Int))) ∧ True) := by kernel_rfl

set_option maxHeartbeats 4000000 in
theorem ltEnd (c : Int) (w : List UInt8) (nn : Int) (th : Bool) (x : Int) (i : Nat) (hi : i = 16) (hn : nn = x) (ht : th = !decide (x = 0)) :
    RunsTo Tryd.prog 9 (headOf Tryd.f9 0) (envAt Tryd.f9.ntmps ([(0, vN c), (2, vS w), (10, vN (nn)), (11, vB (th)), (12, vN (x)), (68, vL 120 1 16), (69, vN 16), (70, vN i)])) (Sx.look (tabE ++ ([⟨120, true, none, 1, .ta 16 (.vs wF)⟩]))) 110 (YES) (Sx.look ([])) 900 := by
  refine bcase (c := (c == (251 : Int))) (fun gg0 => ?_) (fun gg0 => ?_)
  · refine runs_last baseL (Sx.Ends.of (ltEnd_p0 c w nn th x i) ⟨?oo, ?rr⟩) (by kernel_rfl) rfl (gtL (by decide)) (by decide)
    case oo =>
      refine (okc ?_ (okc gg0 (okc gg0 (okc ?_ (okc gg0 (okc gg0 (okc ?_ (okc ?_ okn))))))))
      all_goals ((try simp (disch := omega) only [SS]); first | done | omega | assumption | (simp (disch := omega) only [SS] at *; first | done | omega | assumption) | (simp_all; done) | grind)
    case rr =>
      refine ⟨?_, ?_⟩ <;> first | trivial | (subst ht; by_cases h0 : x = 0 <;> simp [h0])
  · refine runs_last baseL (Sx.Ends.of (ltEnd_p1 c w nn th x i) ⟨?oo, ?rr⟩) (by kernel_rfl) rfl (gtL (by decide)) (by decide)
    case oo =>
      refine (okc ?_ (okc gg0 (okc gg0 (okc gg0 (okc gg0 (okc ?_ okn))))))
      all_goals ((try simp (disch := omega) only [SS]); first | done | omega | assumption | (simp (disch := omega) only [SS] at *; first | done | omega | assumption) | (simp_all; done) | grind)
    case rr =>
      refine ⟨?_, ?_⟩ <;> first | trivial | (subst ht; by_cases h0 : x = 0 <;> simp [h0])

theorem ixF_no {F : Ix → List UInt8} {w : List UInt8} (h : ∀ j, j < 16 → w ≠ F [j]) : ∀ (k i : Nat), i + k = 16 → ixF F w k i = -1
  | 0, _, _ => rfl
  | k + 1, i, hi => by simp only [ixF]; rw [if_neg (h i (by omega))]; exact ixF_no h k (i + 1) (by omega)
theorem wantF_no {w : List UInt8} (h : ∀ j, j < 16 → w ≠ wF [j]) : ∀ i, i ≤ 16 → wantF w i = 0
  | 0, _ => rfl
  | i + 1, hi => by simp only [wantF]; rw [if_neg (fun e => h i (by omega) e.symm)]; exact wantF_no h i (by omega)
theorem key (w : List UInt8) : (0 ≤ ixF wF w 16 0 ∧ 240 + ixF wF w 16 0 = wantF w 16 ∧ wantF w 16 ≠ 0) ∨ (ixF wF w 16 0 < 0 ∧ wantF w 16 = 0) := by
  by_cases h : w ∈ wordsT
  · left
    simp only [wordsT, List.mem_cons, List.mem_nil_iff, or_false] at h
    rcases h with rfl | rfl | rfl | rfl | rfl | rfl | rfl | rfl | rfl | rfl | rfl | rfl | rfl | rfl | rfl | rfl <;> decide
  · right
    have hn : ∀ j, j < 16 → w ≠ wF [j] := fun j hj e => h (by
      rw [e]
      have hl : j < wordsT.length := hj
      show wordsT.getD j [] ∈ wordsT
      rw [List.getD_eq_getElem?_getD, List.getElem?_eq_getElem hl]
      exact List.getElem_mem hl)
    have h1 := ixF_no (F := wF) hn 16 0 (by omega)
    exact ⟨by omega, wantF_no hn 16 (by omega)⟩
theorem ltL (c : Int) (w : List UInt8) (nn : Int) (th : Bool) (hn : nn = wantF w 16) (ht : th = !decide (wantF w 16 = 0)) : ∀ (k i : Nat), i + k = 16 → RunsTo Tryd.prog 9 (headOf Tryd.f9 0) (envAt Tryd.f9.ntmps ([(0, vN c), (2, vS w), (10, vN (nn)), (11, vB (th)), (12, vN (wantF w i)), (68, vL 120 1 16), (69, vN 16), (70, vN i)])) (Sx.look (tabE ++ ([⟨120, true, none, 1, .ta 16 (.vs wF)⟩]))) 110 (YES) (Sx.look []) 900 := by
  intro k
  induction k with
  | zero => intro i hi; obtain rfl : i = 16 := by omega
            exact ltEnd c w nn th _ 16 rfl hn ht
  | succ k ih =>
    intro i hi
    have h2 := ih (i + 1) (by omega)
    by_cases he : wF [i] = w
    · have e : wantF w (i + 1) = 240 + (i : Int) := if_pos he
      rw [e] at h2
      exact ltEq c w nn th _ i (by omega) he h2
    · have e : wantF w (i + 1) = wantF w i := if_neg he
      rw [e] at h2
      exact ltNe c w nn th _ i (by omega) he h2
theorem tell_law (c : Int) (a : Bool) (w : List UInt8) : RunsTo Tryd.prog 9 [.code (bodyOf Tryd.f9)] (envOf [vN c, vB a, vS w] Tryd.f9.ntmps) (Sx.look (tabE ++ ([]))) 110 (YES) (Sx.look []) 900 := by
  by_cases hl : w.length ≤ 100
  · rcases key w with ⟨h1, h2, h3⟩ | ⟨h1, h2⟩
    · have n := ltL c w _ true h2 (by simp [h3]) 16 0 (by omega)
      by_cases c1 : c < 240
      · exact ltLoY c a w hl c1 h1 n
      · by_cases c2 : 255 < c
        · exact ltHiY c a w hl c2 h1 n
        · exact ltInY c a w hl (by omega) h1 n
    · have n := ltL c w 0 false h2.symm (by simp [h2]) 16 0 (by omega)
      by_cases c1 : c < 240
      · exact ltLoN c a w hl c1 h1 n
      · by_cases c2 : 255 < c
        · exact ltHiN c a w hl c2 h1 n
        · exact ltInN c a w hl (by omega) h1 n
  · exact ltLong c a w (by omega)
end Go.Proofs.YtealbjkhjpmilaaDoor
