/- Codes: names: the laws CodesNames and CodesOwn. -/
import Derived.Test.YtealbjkhjpmilaaDoorVeC
set_option linter.unusedSimpArgs false
set_option linter.unusedVariables false
set_option maxRecDepth 100000
namespace Go.Proofs.YtealbjkhjpmilaaDoor
open Go.Sx

open DecR
def powT : List Int := [1, 10, 100, 1000, 10000, 100000, 1000000, 10000000, 100000000, 1000000000, 10000000000, 100000000000, 1000000000000, 10000000000000, 100000000000000, 1000000000000000, 10000000000000000, 100000000000000000, 1000000000000000000, 10000000000000000000]
def powF : Ix → Int := fun is => powT.getD (is.headD 0) 0
theorem pow2 : decide (powF [2] = 100) = true := rfl
theorem ix_none : ixF wF [] 16 0 = -1 := by decide
theorem ix_word {c : Int} (h : 240 ≤ c ∧ c ≤ 255) : ixF wF (wF [(c - 240).toNat]) 16 0 = c - 240 := by
  obtain ⟨n, hn⟩ : ∃ n : Nat, c = 240 + n := ⟨(c - 240).toNat, by omega⟩
  have h1 : (c - 240).toNat = n := by omega
  have h2 : c - 240 = n := by omega
  have h3 : n < 16 := by omega
  rw [h1, h2]
  clear hn h1 h2 h
  have hc : n = 0 ∨ n = 1 ∨ n = 2 ∨ n = 3 ∨ n = 4 ∨ n = 5 ∨ n = 6 ∨ n = 7 ∨ n = 8 ∨ n = 9 ∨ n = 10 ∨ n = 11 ∨ n = 12 ∨ n = 13 ∨ n = 14 ∨ n = 15 := by omega
  rcases hc with rfl | rfl | rfl | rfl | rfl | rfl | rfl | rfl | rfl | rfl | rfl | rfl | rfl | rfl | rfl | rfl <;> decide
theorem name_len (c : Int) : (nameC c).length ≤ 1000 := by
  have hd : ∀ n, (dec n).length ≤ 3 := fun n => by unfold dec; split <;> (try split) <;> simp
  unfold nameC
  split
  · simp
  · split
    · have := hd c.toNat; omega
    · rcases wd_cases c with h0 | rfl | rfl | rfl | rfl | rfl | rfl | rfl | rfl
      · rw [h0]; simp
      all_goals decide
theorem name_ne {c : Int} (h : 0 ≤ c ∧ c ≤ 255) : nameC c ≠ [] := by
  unfold nameC
  rw [if_neg (by omega)]
  split
  · unfold dec; split <;> (try split) <;> simp
  · assumption
def sumsT : List (FuncId × Summ) := [(42, alP.summ 50), (70, opP.summ 50), (71, roP.summ 50), (72, naP.summ 50), (73, rnP.summ 50), (80, ixP.summ 50)]
theorem baseT : Base0 Tryd.prog sumsT := ((((((baseO.cons Tryd.func80 (by kernel_rfl) (PC.summ_ok ixP_pc gtopG)).cons Tryd.func73 (by kernel_rfl) (PC.summ_ok rnP_pc gtopG)).cons Tryd.func72 (by kernel_rfl) (PC.summ_ok naP_pc gtopG)).cons Tryd.func71 (by kernel_rfl) (PC.summ_ok roP_pc gtopG)).cons Tryd.func70 (by kernel_rfl) (PC.summ_ok opP_pc gtopG)).cons Tryd.func42 (by kernel_rfl) (PC.summ_ok alP_pc gtopG))
theorem nmLong_p0 (t0 t1 : List UInt8) (o : Int) (s : List UInt8) :
    isEnd (evTill Tryd.prog sumsT 400 (99) 900 12 [.code (bodyOf Tryd.f12)] (envOf [vN o, vS s] Tryd.f12.ntmps) ((sentEnts 25 223 [(18, t0), (17, t1)] ++ tabF powF) ++ ([])) ⟨[.t, .f, .s true], 110⟩) (endP ([]) (YES) ([]) 1500) =
    (OkL [(decide ((↑s.length : Int) > (100 : Int)), true)] ∧ true = true ∧ True) := by kernel_rfl

set_option maxHeartbeats 4000000 in
theorem nmLong (t0 t1 : List UInt8) (o : Int) (s : List UInt8) (hl : 100 < s.length) :
    RunsTo Tryd.prog 12 [.code (bodyOf Tryd.f12)] (envOf [vN o, vS s] Tryd.f12.ntmps) (Sx.look ((sentEnts 25 223 [(18, t0), (17, t1)] ++ tabF powF) ++ ([]))) 110 (YES) (Sx.look ([])) 1500 := by
  refine runs_last baseT (Sx.Ends.of (nmLong_p0 t0 t1 o s) ⟨?oo, ?rr⟩) (by kernel_rfl) rfl (gtL (by decide)) (by decide)
  case oo =>
    refine (okc ?_ okn)
    all_goals ((try simp (disch := omega) only [SS]); first | done | omega | assumption | (simp (disch := omega) only [SS] at *; first | done | omega | assumption) | (simp_all; done))
  case rr =>
    try simp (disch := omega) only [SS]
    repeat' apply And.intro
    all_goals first | exact True.intro | with_reducible rfl | omega | (intros; first | exact True.intro | with_reducible rfl | omega | (simp_all; done)) | (simp_all; done) | rfl

theorem nmAll_p0 (t0 t1 : List UInt8) (o : Int) (s : List UInt8) :
    isEnd (evTill Tryd.prog sumsT 400 (99) 900 12 [.code (bodyOf Tryd.f12)] (envOf [vN o, vS s] Tryd.f12.ntmps) ((sentEnts 25 223 [(18, t0), (17, t1)] ++ tabF powF) ++ ([])) ⟨[.t, .f, .s false, .s true, .t, .t, .t, .s true, .s true], 110⟩) (endP ([]) (YES) ([]) 1500) =
    (OkL [(decide ((↑s.length : Int) > (100 : Int)), false), (decide (s.length ≤ (1000 : Nat)), true), (nameC o == nameC o, true), (optK s == decide (rSr s (256 : Nat) (0 : Nat) ≥ (0 : Int)), true)] ∧ true = (optV s == if (0 : Int) > rSr s (256 : Nat) (0 : Nat) then (0 : Int) else rSr s (256 : Nat) (0 : Nat)) ∧ True) := by kernel_rfl

set_option maxHeartbeats 4000000 in
theorem nmAll (t0 t1 : List UInt8) (o : Int) (s : List UInt8) (hl : s.length ≤ 100) (e1 : optK s = decide (0 ≤ rSr s 256 0)) (e2 : optV s = max (rSr s 256 0) 0) :
    RunsTo Tryd.prog 12 [.code (bodyOf Tryd.f12)] (envOf [vN o, vS s] Tryd.f12.ntmps) (Sx.look ((sentEnts 25 223 [(18, t0), (17, t1)] ++ tabF powF) ++ ([]))) 110 (YES) (Sx.look ([])) 1500 := by
  refine runs_last baseT (Sx.Ends.of (nmAll_p0 t0 t1 o s) ⟨?oo, ?rr⟩) (by kernel_rfl) rfl (gtL (by decide)) (by decide)
  case oo =>
    refine (okc ?_ (okc ?_ (okc ?_ (okc ?_ okn))))
    all_goals first | omega | exact pow2 | (simp (disch := omega) only [SS, e1, e2]; done) | (simp_all; done) | (simp_all; omega)
  case rr =>
    refine ⟨?_, ?_⟩ <;> first | trivial | skip
    simp only [e1, e2]
    simp
    try omega

theorem names_law (t0 t1 : List UInt8) (o : Int) (s : List UInt8) : RunsTo Tryd.prog 12 [.code (bodyOf Tryd.f12)] (envOf [vN o, vS s] Tryd.f12.ntmps) (Sx.look ((sentEnts 25 223 [(18, t0), (17, t1)] ++ tabF powF) ++ ([]))) 110 (YES) (Sx.look []) 1500 := by
  by_cases hl : s.length ≤ 100
  · obtain ⟨e1, e2⟩ := opt_ref s
    exact nmAll t0 t1 o s hl e1 e2
  · exact nmLong t0 t1 o s (by omega)
theorem owA0i_p0 (t0 t1 : List UInt8) (a b : Int) (g : Bool) :
    isEnd (evTill Tryd.prog sumsT 400 (99) 900 13 [.code (bodyOf Tryd.f13)] (envOf [vN a, vN b, vB g] Tryd.f13.ntmps) ((sentEnts 25 223 [(18, t0), (17, t1)] ++ (tabE ++ tabF powF)) ++ ([])) ⟨[.t, .f, .t, .s true, .s false, .s true, .t, .t, .s true, .s false, .s false, .s true, .s false, .f, .s false, .s true, .s true, .t], 110⟩) (endP ([]) (YES) ([]) 2500) =
    (OkL [(decide ((nameC a).length ≤ (1000 : Nat)), true), (decide (a < (240 : Int)), false), (decide (a > (255 : Int)), true), (decide (a ≥ (0 : Int)), true), (!optK (nameC a) == decide (a ≤ (255 : Int)), false), (optK (nameC a), false), (decide (a ≥ (240 : Int)), true), (!false == decide (a ≤ (255 : Int)), false), (a != b, false), (decide (a ≥ (251 : Int)), true), (!decide (a ≤ (254 : Int)), true)] ∧ true = true ∧ True) := by kernel_rfl
theorem owA0i_p1 (t0 t1 : List UInt8) (a b : Int) (g : Bool) :
    isEnd (evTill Tryd.prog sumsT 400 (99) 900 13 [.code (bodyOf Tryd.f13)] (envOf [vN a, vN b, vB g] Tryd.f13.ntmps) ((sentEnts 25 223 [(18, t0), (17, t1)] ++ (tabE ++ tabF powF)) ++ ([])) ⟨[.t, .f, .t, .s true, .s true, .t, .t, .s false, .s false, .s false, .s false, .f, .f, .s false, .s false, .t, .t], 110⟩) (endP ([]) (YES) ([]) 2500) =
    (OkL [(decide ((nameC a).length ≤ (1000 : Nat)), true), (decide (a < (240 : Int)), true), (decide (a ≥ (0 : Int)), false), (!optK (nameC a) == false, false), (optK (nameC a), false), (decide (a ≥ (240 : Int)), false), (a != b, false), (decide (a ≥ (251 : Int)), false)] ∧ true = true ∧ True) := by kernel_rfl

set_option maxHeartbeats 4000000 in
theorem owA0i (t0 t1 : List UInt8) (a b : Int) (g : Bool) (h : a < 0 ∨ 255 < a) (hb : a = b) :
    RunsTo Tryd.prog 13 [.code (bodyOf Tryd.f13)] (envOf [vN a, vN b, vB g] Tryd.f13.ntmps) (Sx.look ((sentEnts 25 223 [(18, t0), (17, t1)] ++ (tabE ++ tabF powF)) ++ ([]))) 110 (YES) (Sx.look ([])) 2500 := by
  have nl := name_len a
  have n0 : nameC a = [] := if_pos h
  obtain ⟨k0, v0⟩ := opt_none
  have x0 := ix_none
  refine bcase (c := (decide (a < (240 : Int)))) (fun gg0 => ?_) (fun gg0 => ?_)
  · refine runs_last baseT (Sx.Ends.of (owA0i_p0 t0 t1 a b g) ⟨?oo, ?rr⟩) (by kernel_rfl) rfl (gtL (by decide)) (by decide)
    case oo =>
      refine (okc ?_ (okc gg0 (okc ?_ (okc ?_ (okc ?_ (okc ?_ (okc ?_ (okc ?_ (okc ?_ (okc ?_ (okc ?_ okn)))))))))))
      all_goals first | omega | exact pow2 | exact nl | (simp (disch := omega) only [SS, n0, k0, v0, x0, hb]; done) | (simp (disch := omega) only [SS, n0, k0, v0, x0, hb]; omega) | (simp_all; done) | (simp_all; omega)
    case rr =>
      refine ⟨?_, ?_⟩ <;> first | trivial | (simp_all; done) | (simp_all; omega)
  · refine runs_last baseT (Sx.Ends.of (owA0i_p1 t0 t1 a b g) ⟨?oo, ?rr⟩) (by kernel_rfl) rfl (gtL (by decide)) (by decide)
    case oo =>
      refine (okc ?_ (okc gg0 (okc ?_ (okc ?_ (okc ?_ (okc ?_ (okc ?_ (okc ?_ okn))))))))
      all_goals first | omega | exact pow2 | exact nl | (simp (disch := omega) only [SS, n0, k0, v0, x0, hb]; done) | (simp (disch := omega) only [SS, n0, k0, v0, x0, hb]; omega) | (simp_all; done) | (simp_all; omega)
    case rr =>
      refine ⟨?_, ?_⟩ <;> first | trivial | (simp_all; done) | (simp_all; omega)

theorem owA0n_p0 (t0 t1 : List UInt8) (a b : Int) (g : Bool) :
    isEnd (evTill Tryd.prog sumsT 400 (99) 900 13 [.code (bodyOf Tryd.f13)] (envOf [vN a, vN b, vB g] Tryd.f13.ntmps) ((sentEnts 25 223 [(18, t0), (17, t1)] ++ (tabE ++ tabF powF)) ++ ([])) ⟨[.t, .f, .t, .s true, .s false, .s true, .t, .t, .s true, .s false, .s false, .s true, .s false, .f, .s true, .t, .s false, .s true, .s true, .t], 110⟩) (endP ([]) (YES) ([]) 2500) =
    (OkL [(decide ((nameC a).length ≤ (1000 : Nat)), true), (decide (a < (240 : Int)), false), (decide (a > (255 : Int)), true), (decide (a ≥ (0 : Int)), true), (!optK (nameC a) == decide (a ≤ (255 : Int)), false), (optK (nameC a), false), (decide (a ≥ (240 : Int)), true), (!false == decide (a ≤ (255 : Int)), false), (a != b, true), (!nameC a == [], false), (decide (a ≥ (251 : Int)), true), (!decide (a ≤ (254 : Int)), true)] ∧ true = true ∧ True) := by kernel_rfl
theorem owA0n_p1 (t0 t1 : List UInt8) (a b : Int) (g : Bool) :
    isEnd (evTill Tryd.prog sumsT 400 (99) 900 13 [.code (bodyOf Tryd.f13)] (envOf [vN a, vN b, vB g] Tryd.f13.ntmps) ((sentEnts 25 223 [(18, t0), (17, t1)] ++ (tabE ++ tabF powF)) ++ ([])) ⟨[.t, .f, .t, .s true, .s true, .t, .t, .s false, .s false, .s false, .s false, .f, .f, .s true, .t, .s false, .s false, .t, .t], 110⟩) (endP ([]) (YES) ([]) 2500) =
    (OkL [(decide ((nameC a).length ≤ (1000 : Nat)), true), (decide (a < (240 : Int)), true), (decide (a ≥ (0 : Int)), false), (!optK (nameC a) == false, false), (optK (nameC a), false), (decide (a ≥ (240 : Int)), false), (a != b, true), (!nameC a == [], false), (decide (a ≥ (251 : Int)), false)] ∧ true = true ∧ True) := by kernel_rfl

set_option maxHeartbeats 4000000 in
theorem owA0n (t0 t1 : List UInt8) (a b : Int) (g : Bool) (h : a < 0 ∨ 255 < a) (hb : a ≠ b) :
    RunsTo Tryd.prog 13 [.code (bodyOf Tryd.f13)] (envOf [vN a, vN b, vB g] Tryd.f13.ntmps) (Sx.look ((sentEnts 25 223 [(18, t0), (17, t1)] ++ (tabE ++ tabF powF)) ++ ([]))) 110 (YES) (Sx.look ([])) 2500 := by
  have nl := name_len a
  have n0 : nameC a = [] := if_pos h
  obtain ⟨k0, v0⟩ := opt_none
  have x0 := ix_none
  refine bcase (c := (decide (a < (240 : Int)))) (fun gg0 => ?_) (fun gg0 => ?_)
  · refine runs_last baseT (Sx.Ends.of (owA0n_p0 t0 t1 a b g) ⟨?oo, ?rr⟩) (by kernel_rfl) rfl (gtL (by decide)) (by decide)
    case oo =>
      refine (okc ?_ (okc gg0 (okc ?_ (okc ?_ (okc ?_ (okc ?_ (okc ?_ (okc ?_ (okc ?_ (okc ?_ (okc ?_ (okc ?_ okn))))))))))))
      all_goals first | omega | exact pow2 | exact nl | (simp (disch := omega) only [SS, n0, k0, v0, x0, hb]; done) | (simp (disch := omega) only [SS, n0, k0, v0, x0, hb]; omega) | (simp_all; done) | (simp_all; omega)
    case rr =>
      refine ⟨?_, ?_⟩ <;> first | trivial | (simp_all; done) | (simp_all; omega)
  · refine runs_last baseT (Sx.Ends.of (owA0n_p1 t0 t1 a b g) ⟨?oo, ?rr⟩) (by kernel_rfl) rfl (gtL (by decide)) (by decide)
    case oo =>
      refine (okc ?_ (okc gg0 (okc ?_ (okc ?_ (okc ?_ (okc ?_ (okc ?_ (okc ?_ (okc ?_ okn)))))))))
      all_goals first | omega | exact pow2 | exact nl | (simp (disch := omega) only [SS, n0, k0, v0, x0, hb]; done) | (simp (disch := omega) only [SS, n0, k0, v0, x0, hb]; omega) | (simp_all; done) | (simp_all; omega)
    case rr =>
      refine ⟨?_, ?_⟩ <;> first | trivial | (simp_all; done) | (simp_all; omega)

theorem owA1i_p0 (t0 t1 : List UInt8) (a b : Int) (g : Bool) :
    isEnd (evTill Tryd.prog sumsT 400 (99) 900 13 [.code (bodyOf Tryd.f13)] (envOf [vN a, vN b, vB g] Tryd.f13.ntmps) ((sentEnts 25 223 [(18, t0), (17, t1)] ++ (tabE ++ tabF powF)) ++ ([])) ⟨[.t, .f, .t, .s true, .s true, .t, .t, .s true, .s false, .s true, .s false, .s false, .f, .f, .s false, .s false, .t, .t], 110⟩) (endP ([]) (YES) ([]) 2500) =
    (OkL [(decide ((nameC a).length ≤ (1000 : Nat)), true), (decide (a < (240 : Int)), true), (decide (a ≥ (0 : Int)), true), (!optK (nameC a) == decide (a ≤ (255 : Int)), false), (optK (nameC a), true), (optV (nameC a) != a, false), (decide (a ≥ (240 : Int)), false), (a != b, false), (decide (a ≥ (251 : Int)), false)] ∧ true = true ∧ True) := by kernel_rfl

set_option maxHeartbeats 4000000 in
theorem owA1i (t0 t1 : List UInt8) (a b : Int) (g : Bool) (h : 0 ≤ a ∧ a < 240) (hb : a = b) :
    RunsTo Tryd.prog 13 [.code (bodyOf Tryd.f13)] (envOf [vN a, vN b, vB g] Tryd.f13.ntmps) (Sx.look ((sentEnts 25 223 [(18, t0), (17, t1)] ++ (tabE ++ tabF powF)) ++ ([]))) 110 (YES) (Sx.look ([])) 2500 := by
  have nl := name_len a
  obtain ⟨k0, v0⟩ : optK (nameC a) = true ∧ optV (nameC a) = a := by
    have := opt_name (a := a.toNat) (by omega)
    rw [show ((a.toNat : Nat) : Int) = a by omega] at this
    exact this
  have nn := name_ne (c := a) (by omega)
  have x0 := ix_none
  refine runs_last baseT (Sx.Ends.of (owA1i_p0 t0 t1 a b g) ⟨?oo, ?rr⟩) (by kernel_rfl) rfl (gtL (by decide)) (by decide)
  case oo =>
    refine (okc ?_ (okc ?_ (okc ?_ (okc ?_ (okc ?_ (okc ?_ (okc ?_ (okc ?_ (okc ?_ okn)))))))))
    all_goals first | omega | exact pow2 | exact nl | (simp (disch := omega) only [SS, k0, v0, x0, hb, nn]; done) | (simp (disch := omega) only [SS, k0, v0, x0, hb, nn]; omega) | (simp_all; done) | (simp_all; omega)
  case rr =>
    refine ⟨?_, ?_⟩ <;> first | trivial | (simp_all; done) | (simp_all; omega)

theorem owA1n_p0 (t0 t1 : List UInt8) (a b : Int) (g : Bool) :
    isEnd (evTill Tryd.prog sumsT 400 (99) 900 13 [.code (bodyOf Tryd.f13)] (envOf [vN a, vN b, vB g] Tryd.f13.ntmps) ((sentEnts 25 223 [(18, t0), (17, t1)] ++ (tabE ++ tabF powF)) ++ ([])) ⟨[.t, .f, .t, .s true, .s true, .t, .t, .s true, .s false, .s true, .s false, .s false, .f, .f, .s true, .t, .s true, .t, .t, .s false, .s false, .t, .t], 110⟩) (endP ([]) (YES) ([]) 2500) =
    (OkL [(decide ((nameC a).length ≤ (1000 : Nat)), true), (decide (a < (240 : Int)), true), (decide (a ≥ (0 : Int)), true), (!optK (nameC a) == decide (a ≤ (255 : Int)), false), (optK (nameC a), true), (optV (nameC a) != a, false), (decide (a ≥ (240 : Int)), false), (a != b, true), (!nameC a == [], true), (nameC a == nameC b, false), (decide (a ≥ (251 : Int)), false)] ∧ true = true ∧ True) := by kernel_rfl

set_option maxHeartbeats 4000000 in
theorem owA1n (t0 t1 : List UInt8) (a b : Int) (g : Bool) (h : 0 ≤ a ∧ a < 240) (hb : a ≠ b) (hc : nameC a ≠ nameC b) :
    RunsTo Tryd.prog 13 [.code (bodyOf Tryd.f13)] (envOf [vN a, vN b, vB g] Tryd.f13.ntmps) (Sx.look ((sentEnts 25 223 [(18, t0), (17, t1)] ++ (tabE ++ tabF powF)) ++ ([]))) 110 (YES) (Sx.look ([])) 2500 := by
  have nl := name_len a
  obtain ⟨k0, v0⟩ : optK (nameC a) = true ∧ optV (nameC a) = a := by
    have := opt_name (a := a.toNat) (by omega)
    rw [show ((a.toNat : Nat) : Int) = a by omega] at this
    exact this
  have nn := name_ne (c := a) (by omega)
  have x0 := ix_none
  refine runs_last baseT (Sx.Ends.of (owA1n_p0 t0 t1 a b g) ⟨?oo, ?rr⟩) (by kernel_rfl) rfl (gtL (by decide)) (by decide)
  case oo =>
    refine (okc ?_ (okc ?_ (okc ?_ (okc ?_ (okc ?_ (okc ?_ (okc ?_ (okc ?_ (okc ?_ (okc ?_ (okc ?_ okn)))))))))))
    all_goals first | omega | exact pow2 | exact nl | (simp (disch := omega) only [SS, k0, v0, x0, hb, nn, hc]; done) | (simp (disch := omega) only [SS, k0, v0, x0, hb, nn, hc]; omega) | (simp_all; done) | (simp_all; omega)
  case rr =>
    refine ⟨?_, ?_⟩ <;> first | trivial | (simp_all; done) | (simp_all; omega)

theorem owA2i_p0 (t0 t1 : List UInt8) (a b : Int) (g : Bool) :
    isEnd (evTill Tryd.prog sumsT 400 (99) 900 13 [.code (bodyOf Tryd.f13)] (envOf [vN a, vN b, vB g] Tryd.f13.ntmps) ((sentEnts 25 223 [(18, t0), (17, t1)] ++ (tabE ++ tabF powF)) ++ ([])) ⟨[.t, .f, .t, .s true, .s false, .s false, .s true, .s true, .t, .s false, .s true, .s false, .s true, .s false, .s true, .s false, .t, .s false, .s false, .s false, .t, .t], 110⟩) (endP ([]) (YES) ([]) 2500) =
    (OkL [(decide ((nameC a).length ≤ (1000 : Nat)), true), (decide (a < (240 : Int)), false), (decide (a > (255 : Int)), false), (decide ((0 : Int) ≤ IntKind.i64.wrap (a - (240 : Int)) ∧ IntKind.i64.wrap (a - (240 : Int)) < (↑(16 : Nat) : Int)), true), ((IntKind.i64.wrap (a - (240 : Int))).toNat.blt (16 : Nat), true), (decide (ixF wF (wF [(IntKind.i64.wrap (a - (240 : Int))).toNat]) (16 : Nat) (0 : Nat) < (0 : Int)), false), (decide (a ≥ (0 : Int)), true), (!optK (nameC a) == decide (a ≤ (255 : Int)), false), (optK (nameC a), true), (optV (nameC a) != a, false), (decide (a ≥ (240 : Int)), true), (!true == decide (a ≤ (255 : Int)), false), (IntKind.i64.wrap ((240 : Int) + ixF wF (wF [(IntKind.i64.wrap (a - (240 : Int))).toNat]) (16 : Nat) (0 : Nat)) != a, false), (a != b, false), (decide (a ≥ (251 : Int)), false)] ∧ true = true ∧ True) := by kernel_rfl
theorem owA2i_p1 (t0 t1 : List UInt8) (a b : Int) (g : Bool) :
    isEnd (evTill Tryd.prog sumsT 400 (99) 900 13 [.code (bodyOf Tryd.f13)] (envOf [vN a, vN b, vB g] Tryd.f13.ntmps) ((sentEnts 25 223 [(18, t0), (17, t1)] ++ (tabE ++ tabF powF)) ++ ([])) ⟨[.t, .f, .t, .s true, .s false, .s false, .s true, .s true, .t, .s false, .s true, .s false, .s true, .s false, .s true, .s false, .t, .s false, .s false, .s true, .s true, .t], 110⟩) (endP ([]) (YES) ([]) 2500) =
    (OkL [(decide ((nameC a).length ≤ (1000 : Nat)), true), (decide (a < (240 : Int)), false), (decide (a > (255 : Int)), false), (decide ((0 : Int) ≤ IntKind.i64.wrap (a - (240 : Int)) ∧ IntKind.i64.wrap (a - (240 : Int)) < (↑(16 : Nat) : Int)), true), ((IntKind.i64.wrap (a - (240 : Int))).toNat.blt (16 : Nat), true), (decide (ixF wF (wF [(IntKind.i64.wrap (a - (240 : Int))).toNat]) (16 : Nat) (0 : Nat) < (0 : Int)), false), (decide (a ≥ (0 : Int)), true), (!optK (nameC a) == decide (a ≤ (255 : Int)), false), (optK (nameC a), true), (optV (nameC a) != a, false), (decide (a ≥ (240 : Int)), true), (!true == decide (a ≤ (255 : Int)), false), (IntKind.i64.wrap ((240 : Int) + ixF wF (wF [(IntKind.i64.wrap (a - (240 : Int))).toNat]) (16 : Nat) (0 : Nat)) != a, false), (a != b, false), (decide (a ≥ (251 : Int)), true), (!decide (a ≤ (254 : Int)), true)] ∧ true = true ∧ True) := by kernel_rfl

set_option maxHeartbeats 4000000 in
theorem owA2i (t0 t1 : List UInt8) (a b : Int) (g : Bool) (h : 240 ≤ a ∧ a ≤ 250 ∨ a = 255) (hb : a = b) :
    RunsTo Tryd.prog 13 [.code (bodyOf Tryd.f13)] (envOf [vN a, vN b, vB g] Tryd.f13.ntmps) (Sx.look ((sentEnts 25 223 [(18, t0), (17, t1)] ++ (tabE ++ tabF powF)) ++ ([]))) 110 (YES) (Sx.look ([])) 2500 := by
  have nl := name_len a
  obtain ⟨k0, v0⟩ : optK (nameC a) = true ∧ optV (nameC a) = a := by
    have := opt_name (a := a.toNat) (by omega)
    rw [show ((a.toNat : Nat) : Int) = a by omega] at this
    exact this
  have nn := name_ne (c := a) (by omega)
  have wr : IntKind.i64.wrap (a - 240) = a - 240 := wr64 (by omega)
  have wq : IntKind.i64.wrap (240 + (a - 240)) = a := by rw [wr64 (by omega)]; omega
  have x0 := ix_word (c := a) (by omega)
  have z0 : (0 : Nat) + (a - 240).toNat = (a - 240).toNat := Nat.zero_add _
  refine bcase (c := (decide (a ≥ (251 : Int)))) (fun gg0 => ?_) (fun gg0 => ?_)
  · refine runs_last baseT (Sx.Ends.of (owA2i_p0 t0 t1 a b g) ⟨?oo, ?rr⟩) (by kernel_rfl) rfl (gtL (by decide)) (by decide)
    case oo =>
      refine (okc ?_ (okc ?_ (okc ?_ (okc ?_ (okc ?_ (okc ?_ (okc ?_ (okc ?_ (okc ?_ (okc ?_ (okc ?_ (okc ?_ (okc ?_ (okc ?_ (okc gg0 okn)))))))))))))))
      all_goals first | omega | exact pow2 | exact nl | (simp (disch := omega) only [SS, k0, v0, wr, z0, x0, wq, hb, nn]; done) | (simp (disch := omega) only [SS, k0, v0, wr, z0, x0, wq, hb, nn]; omega) | (simp_all; done) | (simp_all; omega)
    case rr =>
      refine ⟨?_, ?_⟩ <;> first | trivial | (simp_all; done) | (simp_all; omega)
  · refine runs_last baseT (Sx.Ends.of (owA2i_p1 t0 t1 a b g) ⟨?oo, ?rr⟩) (by kernel_rfl) rfl (gtL (by decide)) (by decide)
    case oo =>
      refine (okc ?_ (okc ?_ (okc ?_ (okc ?_ (okc ?_ (okc ?_ (okc ?_ (okc ?_ (okc ?_ (okc ?_ (okc ?_ (okc ?_ (okc ?_ (okc ?_ (okc gg0 (okc ?_ okn))))))))))))))))
      all_goals first | omega | exact pow2 | exact nl | (simp (disch := omega) only [SS, k0, v0, wr, z0, x0, wq, hb, nn]; done) | (simp (disch := omega) only [SS, k0, v0, wr, z0, x0, wq, hb, nn]; omega) | (simp_all; done) | (simp_all; omega)
    case rr =>
      refine ⟨?_, ?_⟩ <;> first | trivial | (simp_all; done) | (simp_all; omega)

theorem owA2n_p0 (t0 t1 : List UInt8) (a b : Int) (g : Bool) :
    isEnd (evTill Tryd.prog sumsT 400 (99) 900 13 [.code (bodyOf Tryd.f13)] (envOf [vN a, vN b, vB g] Tryd.f13.ntmps) ((sentEnts 25 223 [(18, t0), (17, t1)] ++ (tabE ++ tabF powF)) ++ ([])) ⟨[.t, .f, .t, .s true, .s false, .s false, .s true, .s true, .t, .s false, .s true, .s false, .s true, .s false, .s true, .s false, .t, .s false, .s true, .t, .s true, .t, .t, .s false, .s false, .t, .t], 110⟩) (endP ([]) (YES) ([]) 2500) =
    (OkL [(decide ((nameC a).length ≤ (1000 : Nat)), true), (decide (a < (240 : Int)), false), (decide (a > (255 : Int)), false), (decide ((0 : Int) ≤ IntKind.i64.wrap (a - (240 : Int)) ∧ IntKind.i64.wrap (a - (240 : Int)) < (↑(16 : Nat) : Int)), true), ((IntKind.i64.wrap (a - (240 : Int))).toNat.blt (16 : Nat), true), (decide (ixF wF (wF [(IntKind.i64.wrap (a - (240 : Int))).toNat]) (16 : Nat) (0 : Nat) < (0 : Int)), false), (decide (a ≥ (0 : Int)), true), (!optK (nameC a) == decide (a ≤ (255 : Int)), false), (optK (nameC a), true), (optV (nameC a) != a, false), (decide (a ≥ (240 : Int)), true), (!true == decide (a ≤ (255 : Int)), false), (IntKind.i64.wrap ((240 : Int) + ixF wF (wF [(IntKind.i64.wrap (a - (240 : Int))).toNat]) (16 : Nat) (0 : Nat)) != a, false), (a != b, true), (!nameC a == [], true), (nameC a == nameC b, false), (decide (a ≥ (251 : Int)), false)] ∧ true = true ∧ True) := by kernel_rfl
theorem owA2n_p1 (t0 t1 : List UInt8) (a b : Int) (g : Bool) :
    isEnd (evTill Tryd.prog sumsT 400 (99) 900 13 [.code (bodyOf Tryd.f13)] (envOf [vN a, vN b, vB g] Tryd.f13.ntmps) ((sentEnts 25 223 [(18, t0), (17, t1)] ++ (tabE ++ tabF powF)) ++ ([])) ⟨[.t, .f, .t, .s true, .s false, .s false, .s true, .s true, .t, .s false, .s true, .s false, .s true, .s false, .s true, .s false, .t, .s false, .s true, .t, .s true, .t, .t, .s false, .s true, .s true, .t], 110⟩) (endP ([]) (YES) ([]) 2500) =
    (OkL [(decide ((nameC a).length ≤ (1000 : Nat)), true), (decide (a < (240 : Int)), false), (decide (a > (255 : Int)), false), (decide ((0 : Int) ≤ IntKind.i64.wrap (a - (240 : Int)) ∧ IntKind.i64.wrap (a - (240 : Int)) < (↑(16 : Nat) : Int)), true), ((IntKind.i64.wrap (a - (240 : Int))).toNat.blt (16 : Nat), true), (decide (ixF wF (wF [(IntKind.i64.wrap (a - (240 : Int))).toNat]) (16 : Nat) (0 : Nat) < (0 : Int)), false), (decide (a ≥ (0 : Int)), true), (!optK (nameC a) == decide (a ≤ (255 : Int)), false), (optK (nameC a), true), (optV (nameC a) != a, false), (decide (a ≥ (240 : Int)), true), (!true == decide (a ≤ (255 : Int)), false), (IntKind.i64.wrap ((240 : Int) + ixF wF (wF [(IntKind.i64.wrap (a - (240 : Int))).toNat]) (16 : Nat) (0 : Nat)) != a, false), (a != b, true), (!nameC a == [], true), (nameC a == nameC b, false), (decide (a ≥ (251 : Int)), true), (!decide (a ≤ (254 : Int)), true)] ∧ true = true ∧ True) := by kernel_rfl

set_option maxHeartbeats 4000000 in
theorem owA2n (t0 t1 : List UInt8) (a b : Int) (g : Bool) (h : 240 ≤ a ∧ a ≤ 250 ∨ a = 255) (hb : a ≠ b) (hc : nameC a ≠ nameC b) :
    RunsTo Tryd.prog 13 [.code (bodyOf Tryd.f13)] (envOf [vN a, vN b, vB g] Tryd.f13.ntmps) (Sx.look ((sentEnts 25 223 [(18, t0), (17, t1)] ++ (tabE ++ tabF powF)) ++ ([]))) 110 (YES) (Sx.look ([])) 2500 := by
  have nl := name_len a
  obtain ⟨k0, v0⟩ : optK (nameC a) = true ∧ optV (nameC a) = a := by
    have := opt_name (a := a.toNat) (by omega)
    rw [show ((a.toNat : Nat) : Int) = a by omega] at this
    exact this
  have nn := name_ne (c := a) (by omega)
  have wr : IntKind.i64.wrap (a - 240) = a - 240 := wr64 (by omega)
  have wq : IntKind.i64.wrap (240 + (a - 240)) = a := by rw [wr64 (by omega)]; omega
  have x0 := ix_word (c := a) (by omega)
  have z0 : (0 : Nat) + (a - 240).toNat = (a - 240).toNat := Nat.zero_add _
  refine bcase (c := (decide (a ≥ (251 : Int)))) (fun gg0 => ?_) (fun gg0 => ?_)
  · refine runs_last baseT (Sx.Ends.of (owA2n_p0 t0 t1 a b g) ⟨?oo, ?rr⟩) (by kernel_rfl) rfl (gtL (by decide)) (by decide)
    case oo =>
      refine (okc ?_ (okc ?_ (okc ?_ (okc ?_ (okc ?_ (okc ?_ (okc ?_ (okc ?_ (okc ?_ (okc ?_ (okc ?_ (okc ?_ (okc ?_ (okc ?_ (okc ?_ (okc ?_ (okc gg0 okn)))))))))))))))))
      all_goals first | omega | exact pow2 | exact nl | (simp (disch := omega) only [SS, k0, v0, wr, z0, x0, wq, hb, nn, hc]; done) | (simp (disch := omega) only [SS, k0, v0, wr, z0, x0, wq, hb, nn, hc]; omega) | (simp_all; done) | (simp_all; omega)
    case rr =>
      refine ⟨?_, ?_⟩ <;> first | trivial | (simp_all; done) | (simp_all; omega)
  · refine runs_last baseT (Sx.Ends.of (owA2n_p1 t0 t1 a b g) ⟨?oo, ?rr⟩) (by kernel_rfl) rfl (gtL (by decide)) (by decide)
    case oo =>
      refine (okc ?_ (okc ?_ (okc ?_ (okc ?_ (okc ?_ (okc ?_ (okc ?_ (okc ?_ (okc ?_ (okc ?_ (okc ?_ (okc ?_ (okc ?_ (okc ?_ (okc ?_ (okc ?_ (okc gg0 (okc ?_ okn))))))))))))))))))
      all_goals first | omega | exact pow2 | exact nl | (simp (disch := omega) only [SS, k0, v0, wr, z0, x0, wq, hb, nn, hc]; done) | (simp (disch := omega) only [SS, k0, v0, wr, z0, x0, wq, hb, nn, hc]; omega) | (simp_all; done) | (simp_all; omega)
    case rr =>
      refine ⟨?_, ?_⟩ <;> first | trivial | (simp_all; done) | (simp_all; omega)

theorem owA3i_p0 (t0 t1 : List UInt8) (a b : Int) (g : Bool) :
    isEnd (evTill Tryd.prog sumsT 400 (99) 900 13 [.code (bodyOf Tryd.f13)] (envOf [vN a, vN b, vB g] Tryd.f13.ntmps) ((sentEnts 25 223 [(18, t0), (17, t1)] ++ (tabE ++ tabF powF)) ++ ([])) ⟨[.t, .f, .t, .s true, .s false, .s false, .s true, .s true, .t, .s false, .s true, .s false, .s true, .s false, .s true, .s false, .t, .s false, .s false, .s true, .s false, .s false, .s false, .s false, .s false, .s false, .f, .s false, .t, .f, .f, .t, .s false, .f, .t, .t, .f, .s false, .s true, .s true, .f, .s true, .f, .s false], 110⟩) (endP ([]) (YES) ([]) 2500) =
    (OkL [(decide ((nameC a).length ≤ (1000 : Nat)), true), (decide (a < (240 : Int)), false), (decide (a > (255 : Int)), false), (decide ((0 : Int) ≤ IntKind.i64.wrap (a - (240 : Int)) ∧ IntKind.i64.wrap (a - (240 : Int)) < (↑(16 : Nat) : Int)), true), ((IntKind.i64.wrap (a - (240 : Int))).toNat.blt (16 : Nat), true), (decide (ixF wF (wF [(IntKind.i64.wrap (a - (240 : Int))).toNat]) (16 : Nat) (0 : Nat) < (0 : Int)), false), (decide (a ≥ (0 : Int)), true), (!optK (nameC a) == decide (a ≤ (255 : Int)), false), (optK (nameC a), true), (optV (nameC a) != a, false), (decide (a ≥ (240 : Int)), true), (!true == decide (a ≤ (255 : Int)), false), (IntKind.i64.wrap ((240 : Int) + ixF wF (wF [(IntKind.i64.wrap (a - (240 : Int))).toNat]) (16 : Nat) (0 : Nat)) != a, false), (a != b, false), (decide (a ≥ (251 : Int)), true), (!decide (a ≤ (254 : Int)), false), (a == (251 : Int), false), (a == (252 : Int), false), (a == (251 : Int), false), (a == (252 : Int), false), (g, false), (a == (251 : Int), false), (a == (253 : Int), false), (a == (251 : Int), false), (false == (a == (252 : Int)), true), ((254 : Int) == a, true), (false == g, true), (a == (251 : Int), false)] ∧ true = !true == (a == (252 : Int)) ∧ True) := by kernel_rfl
theorem owA3i_p1 (t0 t1 : List UInt8) (a b : Int) (g : Bool) :
    isEnd (evTill Tryd.prog sumsT 400 (99) 900 13 [.code (bodyOf Tryd.f13)] (envOf [vN a, vN b, vB g] Tryd.f13.ntmps) ((sentEnts 25 223 [(18, t0), (17, t1)] ++ (tabE ++ tabF powF)) ++ ([])) ⟨[.t, .f, .t, .s true, .s false, .s false, .s true, .s true, .t, .s false, .s true, .s false, .s true, .s false, .s true, .s false, .t, .s false, .s false, .s true, .s false, .s false, .s false, .s false, .s false, .s false, .f, .s false, .t, .f, .f, .t, .s true, .t, .f, .s false, .s true, .s true, .f, .s true, .f, .s false], 110⟩) (endP ([]) (YES) ([]) 2500) =
    (OkL [(decide ((nameC a).length ≤ (1000 : Nat)), true), (decide (a < (240 : Int)), false), (decide (a > (255 : Int)), false), (decide ((0 : Int) ≤ IntKind.i64.wrap (a - (240 : Int)) ∧ IntKind.i64.wrap (a - (240 : Int)) < (↑(16 : Nat) : Int)), true), ((IntKind.i64.wrap (a - (240 : Int))).toNat.blt (16 : Nat), true), (decide (ixF wF (wF [(IntKind.i64.wrap (a - (240 : Int))).toNat]) (16 : Nat) (0 : Nat) < (0 : Int)), false), (decide (a ≥ (0 : Int)), true), (!optK (nameC a) == decide (a ≤ (255 : Int)), false), (optK (nameC a), true), (optV (nameC a) != a, false), (decide (a ≥ (240 : Int)), true), (!true == decide (a ≤ (255 : Int)), false), (IntKind.i64.wrap ((240 : Int) + ixF wF (wF [(IntKind.i64.wrap (a - (240 : Int))).toNat]) (16 : Nat) (0 : Nat)) != a, false), (a != b, false), (decide (a ≥ (251 : Int)), true), (!decide (a ≤ (254 : Int)), false), (a == (251 : Int), false), (a == (252 : Int), false), (a == (251 : Int), false), (a == (252 : Int), false), (g, false), (a == (251 : Int), false), (a == (253 : Int), true), (a == (251 : Int), false), (false == (a == (252 : Int)), true), ((253 : Int) == a, true), (false == g, true), (a == (251 : Int), false)] ∧ true = !true == (a == (252 : Int)) ∧ True) := by kernel_rfl
theorem owA3i_p2 (t0 t1 : List UInt8) (a b : Int) (g : Bool) :
    isEnd (evTill Tryd.prog sumsT 400 (99) 900 13 [.code (bodyOf Tryd.f13)] (envOf [vN a, vN b, vB g] Tryd.f13.ntmps) ((sentEnts 25 223 [(18, t0), (17, t1)] ++ (tabE ++ tabF powF)) ++ ([])) ⟨[.t, .f, .t, .s true, .s false, .s false, .s true, .s true, .t, .s false, .s true, .s false, .s true, .s false, .s true, .s false, .t, .s false, .s false, .s true, .s false, .s false, .s false, .s false, .s false, .s true, .f, .s false, .t, .f, .t, .t, .s false, .t, .t, .t, .f, .s false, .s true, .s true, .t, .s true, .t, .s false], 110⟩) (endP ([]) (YES) ([]) 2500) =
    (OkL [(decide ((nameC a).length ≤ (1000 : Nat)), true), (decide (a < (240 : Int)), false), (decide (a > (255 : Int)), false), (decide ((0 : Int) ≤ IntKind.i64.wrap (a - (240 : Int)) ∧ IntKind.i64.wrap (a - (240 : Int)) < (↑(16 : Nat) : Int)), true), ((IntKind.i64.wrap (a - (240 : Int))).toNat.blt (16 : Nat), true), (decide (ixF wF (wF [(IntKind.i64.wrap (a - (240 : Int))).toNat]) (16 : Nat) (0 : Nat) < (0 : Int)), false), (decide (a ≥ (0 : Int)), true), (!optK (nameC a) == decide (a ≤ (255 : Int)), false), (optK (nameC a), true), (optV (nameC a) != a, false), (decide (a ≥ (240 : Int)), true), (!true == decide (a ≤ (255 : Int)), false), (IntKind.i64.wrap ((240 : Int) + ixF wF (wF [(IntKind.i64.wrap (a - (240 : Int))).toNat]) (16 : Nat) (0 : Nat)) != a, false), (a != b, false), (decide (a ≥ (251 : Int)), true), (!decide (a ≤ (254 : Int)), false), (a == (251 : Int), false), (a == (252 : Int), false), (a == (251 : Int), false), (a == (252 : Int), false), (g, true), (a == (251 : Int), false), (a == (253 : Int), false), (a == (251 : Int), false), (false == (a == (252 : Int)), true), ((254 : Int) == a, true), (true == g, true), (a == (251 : Int), false)] ∧ true = !true == (a == (252 : Int)) ∧ True) := by kernel_rfl
theorem owA3i_p3 (t0 t1 : List UInt8) (a b : Int) (g : Bool) :
    isEnd (evTill Tryd.prog sumsT 400 (99) 900 13 [.code (bodyOf Tryd.f13)] (envOf [vN a, vN b, vB g] Tryd.f13.ntmps) ((sentEnts 25 223 [(18, t0), (17, t1)] ++ (tabE ++ tabF powF)) ++ ([])) ⟨[.t, .f, .t, .s true, .s false, .s false, .s true, .s true, .t, .s false, .s true, .s false, .s true, .s false, .s true, .s false, .t, .s false, .s false, .s true, .s false, .s false, .s false, .s false, .s false, .s true, .f, .s false, .t, .f, .t, .t, .s true, .t, .f, .s false, .s true, .s true, .t, .s true, .t, .s false], 110⟩) (endP ([]) (YES) ([]) 2500) =
    (OkL [(decide ((nameC a).length ≤ (1000 : Nat)), true), (decide (a < (240 : Int)), false), (decide (a > (255 : Int)), false), (decide ((0 : Int) ≤ IntKind.i64.wrap (a - (240 : Int)) ∧ IntKind.i64.wrap (a - (240 : Int)) < (↑(16 : Nat) : Int)), true), ((IntKind.i64.wrap (a - (240 : Int))).toNat.blt (16 : Nat), true), (decide (ixF wF (wF [(IntKind.i64.wrap (a - (240 : Int))).toNat]) (16 : Nat) (0 : Nat) < (0 : Int)), false), (decide (a ≥ (0 : Int)), true), (!optK (nameC a) == decide (a ≤ (255 : Int)), false), (optK (nameC a), true), (optV (nameC a) != a, false), (decide (a ≥ (240 : Int)), true), (!true == decide (a ≤ (255 : Int)), false), (IntKind.i64.wrap ((240 : Int) + ixF wF (wF [(IntKind.i64.wrap (a - (240 : Int))).toNat]) (16 : Nat) (0 : Nat)) != a, false), (a != b, false), (decide (a ≥ (251 : Int)), true), (!decide (a ≤ (254 : Int)), false), (a == (251 : Int), false), (a == (252 : Int), false), (a == (251 : Int), false), (a == (252 : Int), false), (g, true), (a == (251 : Int), false), (a == (253 : Int), true), (a == (251 : Int), false), (false == (a == (252 : Int)), true), ((253 : Int) == a, true), (true == g, true), (a == (251 : Int), false)] ∧ true = !true == (a == (252 : Int)) ∧ True) := by kernel_rfl
theorem owA3i_p4 (t0 t1 : List UInt8) (a b : Int) (g : Bool) :
    isEnd (evTill Tryd.prog sumsT 400 (99) 900 13 [.code (bodyOf Tryd.f13)] (envOf [vN a, vN b, vB g] Tryd.f13.ntmps) ((sentEnts 25 223 [(18, t0), (17, t1)] ++ (tabE ++ tabF powF)) ++ ([])) ⟨[.t, .f, .t, .s true, .s false, .s false, .s true, .s true, .t, .s false, .s true, .s false, .s true, .s false, .s true, .s false, .t, .s false, .s false, .s true, .s false, .s false, .s true, .s false, .s false, .s true, .f, .s false, .t, .f, .f, .f, .f, .f, .s false, .t, .f, .s false, .s true, .s true, .f, .s true, .f, .s false], 110⟩) (endP ([]) (YES) ([]) 2500) =
    (OkL [(decide ((nameC a).length ≤ (1000 : Nat)), true), (decide (a < (240 : Int)), false), (decide (a > (255 : Int)), false), (decide ((0 : Int) ≤ IntKind.i64.wrap (a - (240 : Int)) ∧ IntKind.i64.wrap (a - (240 : Int)) < (↑(16 : Nat) : Int)), true), ((IntKind.i64.wrap (a - (240 : Int))).toNat.blt (16 : Nat), true), (decide (ixF wF (wF [(IntKind.i64.wrap (a - (240 : Int))).toNat]) (16 : Nat) (0 : Nat) < (0 : Int)), false), (decide (a ≥ (0 : Int)), true), (!optK (nameC a) == decide (a ≤ (255 : Int)), false), (optK (nameC a), true), (optV (nameC a) != a, false), (decide (a ≥ (240 : Int)), true), (!true == decide (a ≤ (255 : Int)), false), (IntKind.i64.wrap ((240 : Int) + ixF wF (wF [(IntKind.i64.wrap (a - (240 : Int))).toNat]) (16 : Nat) (0 : Nat)) != a, false), (a != b, false), (decide (a ≥ (251 : Int)), true), (!decide (a ≤ (254 : Int)), false), (a == (251 : Int), false), (a == (252 : Int), true), (g, false), (a == (251 : Int), false), (a == (252 : Int), true), (a == (251 : Int), false), (a == (253 : Int), false), (a == (251 : Int), false), (true == (a == (252 : Int)), true), ((252 : Int) == a, true), (false == g, true), (a == (251 : Int), false)] ∧ true = !false == (a == (252 : Int)) ∧ True) := by kernel_rfl
theorem owA3i_p5 (t0 t1 : List UInt8) (a b : Int) (g : Bool) :
    isEnd (evTill Tryd.prog sumsT 400 (99) 900 13 [.code (bodyOf Tryd.f13)] (envOf [vN a, vN b, vB g] Tryd.f13.ntmps) ((sentEnts 25 223 [(18, t0), (17, t1)] ++ (tabE ++ tabF powF)) ++ ([])) ⟨[.t, .f, .t, .s true, .s false, .s false, .s true, .s true, .t, .s false, .s true, .s false, .s true, .s false, .s true, .s false, .t, .s false, .s false, .s true, .s false, .s false, .s true, .s true, .f, .s false, .t, .f, .f, .f, .f, .f, .s false, .t, .f, .s false, .s true, .s true, .f, .s true, .f, .s false], 110⟩) (endP ([]) (YES) ([]) 2500) =
    (OkL [(decide ((nameC a).length ≤ (1000 : Nat)), true), (decide (a < (240 : Int)), false), (decide (a > (255 : Int)), false), (decide ((0 : Int) ≤ IntKind.i64.wrap (a - (240 : Int)) ∧ IntKind.i64.wrap (a - (240 : Int)) < (↑(16 : Nat) : Int)), true), ((IntKind.i64.wrap (a - (240 : Int))).toNat.blt (16 : Nat), true), (decide (ixF wF (wF [(IntKind.i64.wrap (a - (240 : Int))).toNat]) (16 : Nat) (0 : Nat) < (0 : Int)), false), (decide (a ≥ (0 : Int)), true), (!optK (nameC a) == decide (a ≤ (255 : Int)), false), (optK (nameC a), true), (optV (nameC a) != a, false), (decide (a ≥ (240 : Int)), true), (!true == decide (a ≤ (255 : Int)), false), (IntKind.i64.wrap ((240 : Int) + ixF wF (wF [(IntKind.i64.wrap (a - (240 : Int))).toNat]) (16 : Nat) (0 : Nat)) != a, false), (a != b, false), (decide (a ≥ (251 : Int)), true), (!decide (a ≤ (254 : Int)), false), (a == (251 : Int), false), (a == (252 : Int), true), (g, true), (a == (251 : Int), false), (a == (253 : Int), false), (a == (251 : Int), false), (true == (a == (252 : Int)), true), ((252 : Int) == a, true), (true == g, true), (a == (251 : Int), false)] ∧ true = !false == (a == (252 : Int)) ∧ True) := by kernel_rfl
theorem owA3i_p6 (t0 t1 : List UInt8) (a b : Int) (g : Bool) :
    isEnd (evTill Tryd.prog sumsT 400 (99) 900 13 [.code (bodyOf Tryd.f13)] (envOf [vN a, vN b, vB g] Tryd.f13.ntmps) ((sentEnts 25 223 [(18, t0), (17, t1)] ++ (tabE ++ tabF powF)) ++ ([])) ⟨[.t, .f, .t, .s true, .s false, .s false, .s true, .s true, .t, .s false, .s true, .s false, .s true, .s false, .s true, .s false, .t, .s false, .s false, .s true, .s false, .s true, .t, .s false, .s true, .t, .f, .s true, .t, .f, .f, .f, .f, .f, .t, .t, .t, .s true, .t, .s true, .f, .s true, .f, .s true], 110⟩) (endP ([]) (YES) ([]) 2500) =
    (OkL [(decide ((nameC a).length ≤ (1000 : Nat)), true), (decide (a < (240 : Int)), false), (decide (a > (255 : Int)), false), (decide ((0 : Int) ≤ IntKind.i64.wrap (a - (240 : Int)) ∧ IntKind.i64.wrap (a - (240 : Int)) < (↑(16 : Nat) : Int)), true), ((IntKind.i64.wrap (a - (240 : Int))).toNat.blt (16 : Nat), true), (decide (ixF wF (wF [(IntKind.i64.wrap (a - (240 : Int))).toNat]) (16 : Nat) (0 : Nat) < (0 : Int)), false), (decide (a ≥ (0 : Int)), true), (!optK (nameC a) == decide (a ≤ (255 : Int)), false), (optK (nameC a), true), (optV (nameC a) != a, false), (decide (a ≥ (240 : Int)), true), (!true == decide (a ≤ (255 : Int)), false), (IntKind.i64.wrap ((240 : Int) + ixF wF (wF [(IntKind.i64.wrap (a - (240 : Int))).toNat]) (16 : Nat) (0 : Nat)) != a, false), (a != b, false), (decide (a ≥ (251 : Int)), true), (!decide (a ≤ (254 : Int)), false), (a == (251 : Int), true), (g, false), (a == (251 : Int), true), (a == (251 : Int), true), (a == (251 : Int), true), ((251 : Int) == a, true), (false == g, true), (a == (251 : Int), true)] ∧ true = true ∧ True) := by kernel_rfl
theorem owA3i_p7 (t0 t1 : List UInt8) (a b : Int) (g : Bool) :
    isEnd (evTill Tryd.prog sumsT 400 (99) 900 13 [.code (bodyOf Tryd.f13)] (envOf [vN a, vN b, vB g] Tryd.f13.ntmps) ((sentEnts 25 223 [(18, t0), (17, t1)] ++ (tabE ++ tabF powF)) ++ ([])) ⟨[.t, .f, .t, .s true, .s false, .s false, .s true, .s true, .t, .s false, .s true, .s false, .s true, .s false, .s true, .s false, .t, .s false, .s false, .s true, .s false, .s true, .t, .s true, .f, .s true, .t, .f, .f, .f, .f, .f, .t, .t, .t, .s true, .t, .s true, .f, .s true, .f, .s true], 110⟩) (endP ([]) (YES) ([]) 2500) =
    (OkL [(decide ((nameC a).length ≤ (1000 : Nat)), true), (decide (a < (240 : Int)), false), (decide (a > (255 : Int)), false), (decide ((0 : Int) ≤ IntKind.i64.wrap (a - (240 : Int)) ∧ IntKind.i64.wrap (a - (240 : Int)) < (↑(16 : Nat) : Int)), true), ((IntKind.i64.wrap (a - (240 : Int))).toNat.blt (16 : Nat), true), (decide (ixF wF (wF [(IntKind.i64.wrap (a - (240 : Int))).toNat]) (16 : Nat) (0 : Nat) < (0 : Int)), false), (decide (a ≥ (0 : Int)), true), (!optK (nameC a) == decide (a ≤ (255 : Int)), false), (optK (nameC a), true), (optV (nameC a) != a, false), (decide (a ≥ (240 : Int)), true), (!true == decide (a ≤ (255 : Int)), false), (IntKind.i64.wrap ((240 : Int) + ixF wF (wF [(IntKind.i64.wrap (a - (240 : Int))).toNat]) (16 : Nat) (0 : Nat)) != a, false), (a != b, false), (decide (a ≥ (251 : Int)), true), (!decide (a ≤ (254 : Int)), false), (a == (251 : Int), true), (g, true), (a == (251 : Int), true), (a == (251 : Int), true), ((251 : Int) == a, true), (true == g, true), (a == (251 : Int), true)] ∧ true = true ∧ True) := by kernel_rfl

set_option maxHeartbeats 4000000 in
theorem owA3i (t0 t1 : List UInt8) (a b : Int) (g : Bool) (h : 251 ≤ a ∧ a ≤ 254) (hb : a = b) :
    RunsTo Tryd.prog 13 [.code (bodyOf Tryd.f13)] (envOf [vN a, vN b, vB g] Tryd.f13.ntmps) (Sx.look ((sentEnts 25 223 [(18, t0), (17, t1)] ++ (tabE ++ tabF powF)) ++ ([]))) 110 (YES) (Sx.look ([])) 2500 := by
  have nl := name_len a
  obtain ⟨k0, v0⟩ : optK (nameC a) = true ∧ optV (nameC a) = a := by
    have := opt_name (a := a.toNat) (by omega)
    rw [show ((a.toNat : Nat) : Int) = a by omega] at this
    exact this
  have nn := name_ne (c := a) (by omega)
  have wr : IntKind.i64.wrap (a - 240) = a - 240 := wr64 (by omega)
  have wq : IntKind.i64.wrap (240 + (a - 240)) = a := by rw [wr64 (by omega)]; omega
  have x0 := ix_word (c := a) (by omega)
  have z0 : (0 : Nat) + (a - 240).toNat = (a - 240).toNat := Nat.zero_add _
  refine bcase (c := (a == (251 : Int))) (fun gg0 => ?_) (fun gg0 => ?_)
  · refine bcase (c := (a == (252 : Int))) (fun gg1 => ?_) (fun gg1 => ?_)
    · refine bcase (c := (g)) (fun gg2 => ?_) (fun gg2 => ?_)
      · refine bcase (c := (a == (253 : Int))) (fun gg3 => ?_) (fun gg3 => ?_)
        · refine runs_last baseT (Sx.Ends.of (owA3i_p0 t0 t1 a b g) ⟨?oo, ?rr⟩) (by kernel_rfl) rfl (gtL (by decide)) (by decide)
          case oo =>
            refine (okc ?_ (okc ?_ (okc ?_ (okc ?_ (okc ?_ (okc ?_ (okc ?_ (okc ?_ (okc ?_ (okc ?_ (okc ?_ (okc ?_ (okc ?_ (okc ?_ (okc ?_ (okc ?_ (okc gg0 (okc gg1 (okc gg0 (okc gg1 (okc gg2 (okc gg0 (okc gg3 (okc gg0 (okc ?_ (okc ?_ (okc ?_ (okc gg0 okn))))))))))))))))))))))))))))
            all_goals first | omega | exact pow2 | exact nl | (simp (disch := omega) only [SS, k0, v0, wr, z0, x0, wq, hb, nn]; done) | (simp (disch := omega) only [SS, k0, v0, wr, z0, x0, wq, hb, nn]; omega) | (simp_all; done) | (simp_all; omega)
          case rr =>
            refine ⟨?_, ?_⟩ <;> first | trivial | (simp_all; done) | (simp_all; omega)
        · refine runs_last baseT (Sx.Ends.of (owA3i_p1 t0 t1 a b g) ⟨?oo, ?rr⟩) (by kernel_rfl) rfl (gtL (by decide)) (by decide)
          case oo =>
            refine (okc ?_ (okc ?_ (okc ?_ (okc ?_ (okc ?_ (okc ?_ (okc ?_ (okc ?_ (okc ?_ (okc ?_ (okc ?_ (okc ?_ (okc ?_ (okc ?_ (okc ?_ (okc ?_ (okc gg0 (okc gg1 (okc gg0 (okc gg1 (okc gg2 (okc gg0 (okc gg3 (okc gg0 (okc ?_ (okc ?_ (okc ?_ (okc gg0 okn))))))))))))))))))))))))))))
            all_goals first | omega | exact pow2 | exact nl | (simp (disch := omega) only [SS, k0, v0, wr, z0, x0, wq, hb, nn]; done) | (simp (disch := omega) only [SS, k0, v0, wr, z0, x0, wq, hb, nn]; omega) | (simp_all; done) | (simp_all; omega)
          case rr =>
            refine ⟨?_, ?_⟩ <;> first | trivial | (simp_all; done) | (simp_all; omega)
      · refine bcase (c := (a == (253 : Int))) (fun gg3 => ?_) (fun gg3 => ?_)
        · refine runs_last baseT (Sx.Ends.of (owA3i_p2 t0 t1 a b g) ⟨?oo, ?rr⟩) (by kernel_rfl) rfl (gtL (by decide)) (by decide)
          case oo =>
            refine (okc ?_ (okc ?_ (okc ?_ (okc ?_ (okc ?_ (okc ?_ (okc ?_ (okc ?_ (okc ?_ (okc ?_ (okc ?_ (okc ?_ (okc ?_ (okc ?_ (okc ?_ (okc ?_ (okc gg0 (okc gg1 (okc gg0 (okc gg1 (okc gg2 (okc gg0 (okc gg3 (okc gg0 (okc ?_ (okc ?_ (okc ?_ (okc gg0 okn))))))))))))))))))))))))))))
            all_goals first | omega | exact pow2 | exact nl | (simp (disch := omega) only [SS, k0, v0, wr, z0, x0, wq, hb, nn]; done) | (simp (disch := omega) only [SS, k0, v0, wr, z0, x0, wq, hb, nn]; omega) | (simp_all; done) | (simp_all; omega)
          case rr =>
            refine ⟨?_, ?_⟩ <;> first | trivial | (simp_all; done) | (simp_all; omega)
        · refine runs_last baseT (Sx.Ends.of (owA3i_p3 t0 t1 a b g) ⟨?oo, ?rr⟩) (by kernel_rfl) rfl (gtL (by decide)) (by decide)
          case oo =>
            refine (okc ?_ (okc ?_ (okc ?_ (okc ?_ (okc ?_ (okc ?_ (okc ?_ (okc ?_ (okc ?_ (okc ?_ (okc ?_ (okc ?_ (okc ?_ (okc ?_ (okc ?_ (okc ?_ (okc gg0 (okc gg1 (okc gg0 (okc gg1 (okc gg2 (okc gg0 (okc gg3 (okc gg0 (okc ?_ (okc ?_ (okc ?_ (okc gg0 okn))))))))))))))))))))))))))))
            all_goals first | omega | exact pow2 | exact nl | (simp (disch := omega) only [SS, k0, v0, wr, z0, x0, wq, hb, nn]; done) | (simp (disch := omega) only [SS, k0, v0, wr, z0, x0, wq, hb, nn]; omega) | (simp_all; done) | (simp_all; omega)
          case rr =>
            refine ⟨?_, ?_⟩ <;> first | trivial | (simp_all; done) | (simp_all; omega)
    · refine bcase (c := (g)) (fun gg2 => ?_) (fun gg2 => ?_)
      · refine runs_last baseT (Sx.Ends.of (owA3i_p4 t0 t1 a b g) ⟨?oo, ?rr⟩) (by kernel_rfl) rfl (gtL (by decide)) (by decide)
        case oo =>
          refine (okc ?_ (okc ?_ (okc ?_ (okc ?_ (okc ?_ (okc ?_ (okc ?_ (okc ?_ (okc ?_ (okc ?_ (okc ?_ (okc ?_ (okc ?_ (okc ?_ (okc ?_ (okc ?_ (okc gg0 (okc gg1 (okc gg2 (okc gg0 (okc gg1 (okc gg0 (okc ?_ (okc gg0 (okc ?_ (okc ?_ (okc ?_ (okc gg0 okn))))))))))))))))))))))))))))
          all_goals first | omega | exact pow2 | exact nl | (simp (disch := omega) only [SS, k0, v0, wr, z0, x0, wq, hb, nn]; done) | (simp (disch := omega) only [SS, k0, v0, wr, z0, x0, wq, hb, nn]; omega) | (simp_all; done) | (simp_all; omega)
        case rr =>
          refine ⟨?_, ?_⟩ <;> first | trivial | (simp_all; done) | (simp_all; omega)
      · refine runs_last baseT (Sx.Ends.of (owA3i_p5 t0 t1 a b g) ⟨?oo, ?rr⟩) (by kernel_rfl) rfl (gtL (by decide)) (by decide)
        case oo =>
          refine (okc ?_ (okc ?_ (okc ?_ (okc ?_ (okc ?_ (okc ?_ (okc ?_ (okc ?_ (okc ?_ (okc ?_ (okc ?_ (okc ?_ (okc ?_ (okc ?_ (okc ?_ (okc ?_ (okc gg0 (okc gg1 (okc gg2 (okc gg0 (okc ?_ (okc gg0 (okc ?_ (okc ?_ (okc ?_ (okc gg0 okn))))))))))))))))))))))))))
          all_goals first | omega | exact pow2 | exact nl | (simp (disch := omega) only [SS, k0, v0, wr, z0, x0, wq, hb, nn]; done) | (simp (disch := omega) only [SS, k0, v0, wr, z0, x0, wq, hb, nn]; omega) | (simp_all; done) | (simp_all; omega)
        case rr =>
          refine ⟨?_, ?_⟩ <;> first | trivial | (simp_all; done) | (simp_all; omega)
  · refine bcase (c := (g)) (fun gg1 => ?_) (fun gg1 => ?_)
    · refine runs_last baseT (Sx.Ends.of (owA3i_p6 t0 t1 a b g) ⟨?oo, ?rr⟩) (by kernel_rfl) rfl (gtL (by decide)) (by decide)
      case oo =>
        refine (okc ?_ (okc ?_ (okc ?_ (okc ?_ (okc ?_ (okc ?_ (okc ?_ (okc ?_ (okc ?_ (okc ?_ (okc ?_ (okc ?_ (okc ?_ (okc ?_ (okc ?_ (okc ?_ (okc gg0 (okc gg1 (okc gg0 (okc gg0 (okc gg0 (okc ?_ (okc ?_ (okc gg0 okn))))))))))))))))))))))))
        all_goals first | omega | exact pow2 | exact nl | (simp (disch := omega) only [SS, k0, v0, wr, z0, x0, wq, hb, nn]; done) | (simp (disch := omega) only [SS, k0, v0, wr, z0, x0, wq, hb, nn]; omega) | (simp_all; done) | (simp_all; omega)
      case rr =>
        refine ⟨?_, ?_⟩ <;> first | trivial | (simp_all; done) | (simp_all; omega)
    · refine runs_last baseT (Sx.Ends.of (owA3i_p7 t0 t1 a b g) ⟨?oo, ?rr⟩) (by kernel_rfl) rfl (gtL (by decide)) (by decide)
      case oo =>
        refine (okc ?_ (okc ?_ (okc ?_ (okc ?_ (okc ?_ (okc ?_ (okc ?_ (okc ?_ (okc ?_ (okc ?_ (okc ?_ (okc ?_ (okc ?_ (okc ?_ (okc ?_ (okc ?_ (okc gg0 (okc gg1 (okc gg0 (okc gg0 (okc ?_ (okc ?_ (okc gg0 okn)))))))))))))))))))))))
        all_goals first | omega | exact pow2 | exact nl | (simp (disch := omega) only [SS, k0, v0, wr, z0, x0, wq, hb, nn]; done) | (simp (disch := omega) only [SS, k0, v0, wr, z0, x0, wq, hb, nn]; omega) | (simp_all; done) | (simp_all; omega)
      case rr =>
        refine ⟨?_, ?_⟩ <;> first | trivial | (simp_all; done) | (simp_all; omega)

theorem owA3n_p0 (t0 t1 : List UInt8) (a b : Int) (g : Bool) :
    isEnd (evTill Tryd.prog sumsT 400 (99) 900 13 [.code (bodyOf Tryd.f13)] (envOf [vN a, vN b, vB g] Tryd.f13.ntmps) ((sentEnts 25 223 [(18, t0), (17, t1)] ++ (tabE ++ tabF powF)) ++ ([])) ⟨[.t, .f, .t, .s true, .s false, .s false, .s true, .s true, .t, .s false, .s true, .s false, .s true, .s false, .s true, .s false, .t, .s false, .s true, .t, .s true, .t, .t, .s false, .s true, .s false, .s false, .s false, .s false, .s false, .s false, .f, .s false, .t, .f, .f, .t, .s false, .f, .t, .t, .f, .s false, .s true, .s true, .f, .s true, .f, .s false], 110⟩) (endP ([]) (YES) ([]) 2500) =
    (OkL [(decide ((nameC a).length ≤ (1000 : Nat)), true), (decide (a < (240 : Int)), false), (decide (a > (255 : Int)), false), (decide ((0 : Int) ≤ IntKind.i64.wrap (a - (240 : Int)) ∧ IntKind.i64.wrap (a - (240 : Int)) < (↑(16 : Nat) : Int)), true), ((IntKind.i64.wrap (a - (240 : Int))).toNat.blt (16 : Nat), true), (decide (ixF wF (wF [(IntKind.i64.wrap (a - (240 : Int))).toNat]) (16 : Nat) (0 : Nat) < (0 : Int)), false), (decide (a ≥ (0 : Int)), true), (!optK (nameC a) == decide (a ≤ (255 : Int)), false), (optK (nameC a), true), (optV (nameC a) != a, false), (decide (a ≥ (240 : Int)), true), (!true == decide (a ≤ (255 : Int)), false), (IntKind.i64.wrap ((240 : Int) + ixF wF (wF [(IntKind.i64.wrap (a - (240 : Int))).toNat]) (16 : Nat) (0 : Nat)) != a, false), (a != b, true), (!nameC a == [], true), (nameC a == nameC b, false), (decide (a ≥ (251 : Int)), true), (!decide (a ≤ (254 : Int)), false), (a == (251 : Int), false), (a == (252 : Int), false), (a == (251 : Int), false), (a == (252 : Int), false), (g, false), (a == (251 : Int), false), (a == (253 : Int), false), (a == (251 : Int), false), (false == (a == (252 : Int)), true), ((254 : Int) == a, true), (false == g, true), (a == (251 : Int), false)] ∧ true = !true == (a == (252 : Int)) ∧ True) := by kernel_rfl
theorem owA3n_p1 (t0 t1 : List UInt8) (a b : Int) (g : Bool) :
    isEnd (evTill Tryd.prog sumsT 400 (99) 900 13 [.code (bodyOf Tryd.f13)] (envOf [vN a, vN b, vB g] Tryd.f13.ntmps) ((sentEnts 25 223 [(18, t0), (17, t1)] ++ (tabE ++ tabF powF)) ++ ([])) ⟨[.t, .f, .t, .s true, .s false, .s false, .s true, .s true, .t, .s false, .s true, .s false, .s true, .s false, .s true, .s false, .t, .s false, .s true, .t, .s true, .t, .t, .s false, .s true, .s false, .s false, .s false, .s false, .s false, .s false, .f, .s false, .t, .f, .f, .t, .s true, .t, .f, .s false, .s true, .s true, .f, .s true, .f, .s false], 110⟩) (endP ([]) (YES) ([]) 2500) =
    (OkL [(decide ((nameC a).length ≤ (1000 : Nat)), true), (decide (a < (240 : Int)), false), (decide (a > (255 : Int)), false), (decide ((0 : Int) ≤ IntKind.i64.wrap (a - (240 : Int)) ∧ IntKind.i64.wrap (a - (240 : Int)) < (↑(16 : Nat) : Int)), true), ((IntKind.i64.wrap (a - (240 : Int))).toNat.blt (16 : Nat), true), (decide (ixF wF (wF [(IntKind.i64.wrap (a - (240 : Int))).toNat]) (16 : Nat) (0 : Nat) < (0 : Int)), false), (decide (a ≥ (0 : Int)), true), (!optK (nameC a) == decide (a ≤ (255 : Int)), false), (optK (nameC a), true), (optV (nameC a) != a, false), (decide (a ≥ (240 : Int)), true), (!true == decide (a ≤ (255 : Int)), false), (IntKind.i64.wrap ((240 : Int) + ixF wF (wF [(IntKind.i64.wrap (a - (240 : Int))).toNat]) (16 : Nat) (0 : Nat)) != a, false), (a != b, true), (!nameC a == [], true), (nameC a == nameC b, false), (decide (a ≥ (251 : Int)), true), (!decide (a ≤ (254 : Int)), false), (a == (251 : Int), false), (a == (252 : Int), false), (a == (251 : Int), false), (a == (252 : Int), false), (g, false), (a == (251 : Int), false), (a == (253 : Int), true), (a == (251 : Int), false), (false == (a == (252 : Int)), true), ((253 : Int) == a, true), (false == g, true), (a == (251 : Int), false)] ∧ true = !true == (a == (252 : Int)) ∧ True) := by kernel_rfl
theorem owA3n_p2 (t0 t1 : List UInt8) (a b : Int) (g : Bool) :
    isEnd (evTill Tryd.prog sumsT 400 (99) 900 13 [.code (bodyOf Tryd.f13)] (envOf [vN a, vN b, vB g] Tryd.f13.ntmps) ((sentEnts 25 223 [(18, t0), (17, t1)] ++ (tabE ++ tabF powF)) ++ ([])) ⟨[.t, .f, .t, .s true, .s false, .s false, .s true, .s true, .t, .s false, .s true, .s false, .s true, .s false, .s true, .s false, .t, .s false, .s true, .t, .s true, .t, .t, .s false, .s true, .s false, .s false, .s false, .s false, .s false, .s true, .f, .s false, .t, .f, .t, .t, .s false, .t, .t, .t, .f, .s false, .s true, .s true, .t, .s true, .t, .s false], 110⟩) (endP ([]) (YES) ([]) 2500) =
    (OkL [(decide ((nameC a).length ≤ (1000 : Nat)), true), (decide (a < (240 : Int)), false), (decide (a > (255 : Int)), false), (decide ((0 : Int) ≤ IntKind.i64.wrap (a - (240 : Int)) ∧ IntKind.i64.wrap (a - (240 : Int)) < (↑(16 : Nat) : Int)), true), ((IntKind.i64.wrap (a - (240 : Int))).toNat.blt (16 : Nat), true), (decide (ixF wF (wF [(IntKind.i64.wrap (a - (240 : Int))).toNat]) (16 : Nat) (0 : Nat) < (0 : Int)), false), (decide (a ≥ (0 : Int)), true), (!optK (nameC a) == decide (a ≤ (255 : Int)), false), (optK (nameC a), true), (optV (nameC a) != a, false), (decide (a ≥ (240 : Int)), true), (!true == decide (a ≤ (255 : Int)), false), (IntKind.i64.wrap ((240 : Int) + ixF wF (wF [(IntKind.i64.wrap (a - (240 : Int))).toNat]) (16 : Nat) (0 : Nat)) != a, false), (a != b, true), (!nameC a == [], true), (nameC a == nameC b, false), (decide (a ≥ (251 : Int)), true), (!decide (a ≤ (254 : Int)), false), (a == (251 : Int), false), (a == (252 : Int), false), (a == (251 : Int), false), (a == (252 : Int), false), (g, true), (a == (251 : Int), false), (a == (253 : Int), false), (a == (251 : Int), false), (false == (a == (252 : Int)), true), ((254 : Int) == a, true), (true == g, true), (a == (251 : Int), false)] ∧ true = !true == (a == (252 : Int)) ∧ True) := by kernel_rfl
theorem owA3n_p3 (t0 t1 : List UInt8) (a b : Int) (g : Bool) :
    isEnd (evTill Tryd.prog sumsT 400 (99) 900 13 [.code (bodyOf Tryd.f13)] (envOf [vN a, vN b, vB g] Tryd.f13.ntmps) ((sentEnts 25 223 [(18, t0), (17, t1)] ++ (tabE ++ tabF powF)) ++ ([])) ⟨[.t, .f, .t, .s true, .s false, .s false, .s true, .s true, .t, .s false, .s true, .s false, .s true, .s false, .s true, .s false, .t, .s false, .s true, .t, .s true, .t, .t, .s false, .s true, .s false, .s false, .s false, .s false, .s false, .s true, .f, .s false, .t, .f, .t, .t, .s true, .t, .f, .s false, .s true, .s true, .t, .s true, .t, .s false], 110⟩) (endP ([]) (YES) ([]) 2500) =
    (OkL [(decide ((nameC a).length ≤ (1000 : Nat)), true), (decide (a < (240 : Int)), false), (decide (a > (255 : Int)), false), (decide ((0 : Int) ≤ IntKind.i64.wrap (a - (240 : Int)) ∧ IntKind.i64.wrap (a - (240 : Int)) < (↑(16 : Nat) : Int)), true), ((IntKind.i64.wrap (a - (240 : Int))).toNat.blt (16 : Nat), true), (decide (ixF wF (wF [(IntKind.i64.wrap (a - (240 : Int))).toNat]) (16 : Nat) (0 : Nat) < (0 : Int)), false), (decide (a ≥ (0 : Int)), true), (!optK (nameC a) == decide (a ≤ (255 : Int)), false), (optK (nameC a), true), (optV (nameC a) != a, false), (decide (a ≥ (240 : Int)), true), (!true == decide (a ≤ (255 : Int)), false), (IntKind.i64.wrap ((240 : Int) + ixF wF (wF [(IntKind.i64.wrap (a - (240 : Int))).toNat]) (16 : Nat) (0 : Nat)) != a, false), (a != b, true), (!nameC a == [], true), (nameC a == nameC b, false), (decide (a ≥ (251 : Int)), true), (!decide (a ≤ (254 : Int)), false), (a == (251 : Int), false), (a == (252 : Int), false), (a == (251 : Int), false), (a == (252 : Int), false), (g, true), (a == (251 : Int), false), (a == (253 : Int), true), (a == (251 : Int), false), (false == (a == (252 : Int)), true), ((253 : Int) == a, true), (true == g, true), (a == (251 : Int), false)] ∧ true = !true == (a == (252 : Int)) ∧ True) := by kernel_rfl
theorem owA3n_p4 (t0 t1 : List UInt8) (a b : Int) (g : Bool) :
    isEnd (evTill Tryd.prog sumsT 400 (99) 900 13 [.code (bodyOf Tryd.f13)] (envOf [vN a, vN b, vB g] Tryd.f13.ntmps) ((sentEnts 25 223 [(18, t0), (17, t1)] ++ (tabE ++ tabF powF)) ++ ([])) ⟨[.t, .f, .t, .s true, .s false, .s false, .s true, .s true, .t, .s false, .s true, .s false, .s true, .s false, .s true, .s false, .t, .s false, .s true, .t, .s true, .t, .t, .s false, .s true, .s false, .s false, .s true, .s false, .s false, .s true, .f, .s false, .t, .f, .f, .f, .f, .f, .s false, .t, .f, .s false, .s true, .s true, .f, .s true, .f, .s false], 110⟩) (endP ([]) (YES) ([]) 2500) =
    (OkL [(decide ((nameC a).length ≤ (1000 : Nat)), true), (decide (a < (240 : Int)), false), (decide (a > (255 : Int)), false), (decide ((0 : Int) ≤ IntKind.i64.wrap (a - (240 : Int)) ∧ IntKind.i64.wrap (a - (240 : Int)) < (↑(16 : Nat) : Int)), true), ((IntKind.i64.wrap (a - (240 : Int))).toNat.blt (16 : Nat), true), (decide (ixF wF (wF [(IntKind.i64.wrap (a - (240 : Int))).toNat]) (16 : Nat) (0 : Nat) < (0 : Int)), false), (decide (a ≥ (0 : Int)), true), (!optK (nameC a) == decide (a ≤ (255 : Int)), false), (optK (nameC a), true), (optV (nameC a) != a, false), (decide (a ≥ (240 : Int)), true), (!true == decide (a ≤ (255 : Int)), false), (IntKind.i64.wrap ((240 : Int) + ixF wF (wF [(IntKind.i64.wrap (a - (240 : Int))).toNat]) (16 : Nat) (0 : Nat)) != a, false), (a != b, true), (!nameC a == [], true), (nameC a == nameC b, false), (decide (a ≥ (251 : Int)), true), (!decide (a ≤ (254 : Int)), false), (a == (251 : Int), false), (a == (252 : Int), true), (g, false), (a == (251 : Int), false), (a == (252 : Int), true), (a == (251 : Int), false), (a == (253 : Int), false), (a == (251 : Int), false), (true == (a == (252 : Int)), true), ((252 : Int) == a, true), (false == g, true), (a == (251 : Int), false)] ∧ true = !false == (a == (252 : Int)) ∧ True) := by kernel_rfl
theorem owA3n_p5 (t0 t1 : List UInt8) (a b : Int) (g : Bool) :
    isEnd (evTill Tryd.prog sumsT 400 (99) 900 13 [.code (bodyOf Tryd.f13)] (envOf [vN a, vN b, vB g] Tryd.f13.ntmps) ((sentEnts 25 223 [(18, t0), (17, t1)] ++ (tabE ++ tabF powF)) ++ ([])) ⟨[.t, .f, .t, .s true, .s false, .s false, .s true, .s true, .t, .s false, .s true, .s false, .s true, .s false, .s true, .s false, .t, .s false, .s true, .t, .s true, .t, .t, .s false, .s true, .s false, .s false, .s true, .s true, .f, .s false, .t, .f, .f, .f, .f, .f, .s false, .t, .f, .s false, .s true, .s true, .f, .s true, .f, .s false], 110⟩) (endP ([]) (YES) ([]) 2500) =
    (OkL [(decide ((nameC a).length ≤ (1000 : Nat)), true), (decide (a < (240 : Int)), false), (decide (a > (255 : Int)), false), (decide ((0 : Int) ≤ IntKind.i64.wrap (a - (240 : Int)) ∧ IntKind.i64.wrap (a - (240 : Int)) < (↑(16 : Nat) : Int)), true), ((IntKind.i64.wrap (a - (240 : Int))).toNat.blt (16 : Nat), true), (decide (ixF wF (wF [(IntKind.i64.wrap (a - (240 : Int))).toNat]) (16 : Nat) (0 : Nat) < (0 : Int)), false), (decide (a ≥ (0 : Int)), true), (!optK (nameC a) == decide (a ≤ (255 : Int)), false), (optK (nameC a), true), (optV (nameC a) != a, false), (decide (a ≥ (240 : Int)), true), (!true == decide (a ≤ (255 : Int)), false), (IntKind.i64.wrap ((240 : Int) + ixF wF (wF [(IntKind.i64.wrap (a - (240 : Int))).toNat]) (16 : Nat) (0 : Nat)) != a, false), (a != b, true), (!nameC a == [], true), (nameC a == nameC b, false), (decide (a ≥ (251 : Int)), true), (!decide (a ≤ (254 : Int)), false), (a == (251 : Int), false), (a == (252 : Int), true), (g, true), (a == (251 : Int), false), (a == (253 : Int), false), (a == (251 : Int), false), (true == (a == (252 : Int)), true), ((252 : Int) == a, true), (true == g, true), (a == (251 : Int), false)] ∧ true = !false == (a == (252 : Int)) ∧ True) := by kernel_rfl
theorem owA3n_p6 (t0 t1 : List UInt8) (a b : Int) (g : Bool) :
    isEnd (evTill Tryd.prog sumsT 400 (99) 900 13 [.code (bodyOf Tryd.f13)] (envOf [vN a, vN b, vB g] Tryd.f13.ntmps) ((sentEnts 25 223 [(18, t0), (17, t1)] ++ (tabE ++ tabF powF)) ++ ([])) ⟨[.t, .f, .t, .s true, .s false, .s false, .s true, .s true, .t, .s false, .s true, .s false, .s true, .s false, .s true, .s false, .t, .s false, .s true, .t, .s true, .t, .t, .s false, .s true, .s false, .s true, .t, .s false, .s true, .t, .f, .s true, .t, .f, .f, .f, .f, .f, .t, .t, .t, .s true, .t, .s true, .f, .s true, .f, .s true], 110⟩) (endP ([]) (YES) ([]) 2500) =
    (OkL [(decide ((nameC a).length ≤ (1000 : Nat)), true), (decide (a < (240 : Int)), false), (decide (a > (255 : Int)), false), (decide ((0 : Int) ≤ IntKind.i64.wrap (a - (240 : Int)) ∧ IntKind.i64.wrap (a - (240 : Int)) < (↑(16 : Nat) : Int)), true), ((IntKind.i64.wrap (a - (240 : Int))).toNat.blt (16 : Nat), true), (decide (ixF wF (wF [(IntKind.i64.wrap (a - (240 : Int))).toNat]) (16 : Nat) (0 : Nat) < (0 : Int)), false), (decide (a ≥ (0 : Int)), true), (!optK (nameC a) == decide (a ≤ (255 : Int)), false), (optK (nameC a), true), (optV (nameC a) != a, false), (decide (a ≥ (240 : Int)), true), (!true == decide (a ≤ (255 : Int)), false), (IntKind.i64.wrap ((240 : Int) + ixF wF (wF [(IntKind.i64.wrap (a - (240 : Int))).toNat]) (16 : Nat) (0 : Nat)) != a, false), (a != b, true), (!nameC a == [], true), (nameC a == nameC b, false), (decide (a ≥ (251 : Int)), true), (!decide (a ≤ (254 : Int)), false), (a == (251 : Int), true), (g, false), (a == (251 : Int), true), (a == (251 : Int), true), (a == (251 : Int), true), ((251 : Int) == a, true), (false == g, true), (a == (251 : Int), true)] ∧ true = true ∧ True) := by kernel_rfl
theorem owA3n_p7 (t0 t1 : List UInt8) (a b : Int) (g : Bool) :
    isEnd (evTill Tryd.prog sumsT 400 (99) 900 13 [.code (bodyOf Tryd.f13)] (envOf [vN a, vN b, vB g] Tryd.f13.ntmps) ((sentEnts 25 223 [(18, t0), (17, t1)] ++ (tabE ++ tabF powF)) ++ ([])) ⟨[.t, .f, .t, .s true, .s false, .s false, .s true, .s true, .t, .s false, .s true, .s false, .s true, .s false, .s true, .s false, .t, .s false, .s true, .t, .s true, .t, .t, .s false, .s true, .s false, .s true, .t, .s true, .f, .s true, .t, .f, .f, .f, .f, .f, .t, .t, .t, .s true, .t, .s true, .f, .s true, .f, .s true], 110⟩) (endP ([]) (YES) ([]) 2500) =
    (OkL [(decide ((nameC a).length ≤ (1000 : Nat)), true), (decide (a < (240 : Int)), false), (decide (a > (255 : Int)), false), (decide ((0 : Int) ≤ IntKind.i64.wrap (a - (240 : Int)) ∧ IntKind.i64.wrap (a - (240 : Int)) < (↑(16 : Nat) : Int)), true), ((IntKind.i64.wrap (a - (240 : Int))).toNat.blt (16 : Nat), true), (decide (ixF wF (wF [(IntKind.i64.wrap (a - (240 : Int))).toNat]) (16 : Nat) (0 : Nat) < (0 : Int)), false), (decide (a ≥ (0 : Int)), true), (!optK (nameC a) == decide (a ≤ (255 : Int)), false), (optK (nameC a), true), (optV (nameC a) != a, false), (decide (a ≥ (240 : Int)), true), (!true == decide (a ≤ (255 : Int)), false), (IntKind.i64.wrap ((240 : Int) + ixF wF (wF [(IntKind.i64.wrap (a - (240 : Int))).toNat]) (16 : Nat) (0 : Nat)) != a, false), (a != b, true), (!nameC a == [], true), (nameC a == nameC b, false), (decide (a ≥ (251 : Int)), true), (!decide (a ≤ (254 : Int)), false), (a == (251 : Int), true), (g, true), (a == (251 : Int), true), (a == (251 : Int), true), ((251 : Int) == a, true), (true == g, true), (a == (251 : Int), true)] ∧ true = true ∧ True) := by kernel_rfl

set_option maxHeartbeats 4000000 in
theorem owA3n (t0 t1 : List UInt8) (a b : Int) (g : Bool) (h : 251 ≤ a ∧ a ≤ 254) (hb : a ≠ b) (hc : nameC a ≠ nameC b) :
    RunsTo Tryd.prog 13 [.code (bodyOf Tryd.f13)] (envOf [vN a, vN b, vB g] Tryd.f13.ntmps) (Sx.look ((sentEnts 25 223 [(18, t0), (17, t1)] ++ (tabE ++ tabF powF)) ++ ([]))) 110 (YES) (Sx.look ([])) 2500 := by
  have nl := name_len a
  obtain ⟨k0, v0⟩ : optK (nameC a) = true ∧ optV (nameC a) = a := by
    have := opt_name (a := a.toNat) (by omega)
    rw [show ((a.toNat : Nat) : Int) = a by omega] at this
    exact this
  have nn := name_ne (c := a) (by omega)
  have wr : IntKind.i64.wrap (a - 240) = a - 240 := wr64 (by omega)
  have wq : IntKind.i64.wrap (240 + (a - 240)) = a := by rw [wr64 (by omega)]; omega
  have x0 := ix_word (c := a) (by omega)
  have z0 : (0 : Nat) + (a - 240).toNat = (a - 240).toNat := Nat.zero_add _
  refine bcase (c := (a == (251 : Int))) (fun gg0 => ?_) (fun gg0 => ?_)
  · refine bcase (c := (a == (252 : Int))) (fun gg1 => ?_) (fun gg1 => ?_)
    · refine bcase (c := (g)) (fun gg2 => ?_) (fun gg2 => ?_)
      · refine bcase (c := (a == (253 : Int))) (fun gg3 => ?_) (fun gg3 => ?_)
        · refine runs_last baseT (Sx.Ends.of (owA3n_p0 t0 t1 a b g) ⟨?oo, ?rr⟩) (by kernel_rfl) rfl (gtL (by decide)) (by decide)
          case oo =>
            refine (okc ?_ (okc ?_ (okc ?_ (okc ?_ (okc ?_ (okc ?_ (okc ?_ (okc ?_ (okc ?_ (okc ?_ (okc ?_ (okc ?_ (okc ?_ (okc ?_ (okc ?_ (okc ?_ (okc ?_ (okc ?_ (okc gg0 (okc gg1 (okc gg0 (okc gg1 (okc gg2 (okc gg0 (okc gg3 (okc gg0 (okc ?_ (okc ?_ (okc ?_ (okc gg0 okn))))))))))))))))))))))))))))))
            all_goals first | omega | exact pow2 | exact nl | (simp (disch := omega) only [SS, k0, v0, wr, z0, x0, wq, hb, nn, hc]; done) | (simp (disch := omega) only [SS, k0, v0, wr, z0, x0, wq, hb, nn, hc]; omega) | (simp_all; done) | (simp_all; omega)
          case rr =>
            refine ⟨?_, ?_⟩ <;> first | trivial | (simp_all; done) | (simp_all; omega)
        · refine runs_last baseT (Sx.Ends.of (owA3n_p1 t0 t1 a b g) ⟨?oo, ?rr⟩) (by kernel_rfl) rfl (gtL (by decide)) (by decide)
          case oo =>
            refine (okc ?_ (okc ?_ (okc ?_ (okc ?_ (okc ?_ (okc ?_ (okc ?_ (okc ?_ (okc ?_ (okc ?_ (okc ?_ (okc ?_ (okc ?_ (okc ?_ (okc ?_ (okc ?_ (okc ?_ (okc ?_ (okc gg0 (okc gg1 (okc gg0 (okc gg1 (okc gg2 (okc gg0 (okc gg3 (okc gg0 (okc ?_ (okc ?_ (okc ?_ (okc gg0 okn))))))))))))))))))))))))))))))
            all_goals first | omega | exact pow2 | exact nl | (simp (disch := omega) only [SS, k0, v0, wr, z0, x0, wq, hb, nn, hc]; done) | (simp (disch := omega) only [SS, k0, v0, wr, z0, x0, wq, hb, nn, hc]; omega) | (simp_all; done) | (simp_all; omega)
          case rr =>
            refine ⟨?_, ?_⟩ <;> first | trivial | (simp_all; done) | (simp_all; omega)
      · refine bcase (c := (a == (253 : Int))) (fun gg3 => ?_) (fun gg3 => ?_)
        · refine runs_last baseT (Sx.Ends.of (owA3n_p2 t0 t1 a b g) ⟨?oo, ?rr⟩) (by kernel_rfl) rfl (gtL (by decide)) (by decide)
          case oo =>
            refine (okc ?_ (okc ?_ (okc ?_ (okc ?_ (okc ?_ (okc ?_ (okc ?_ (okc ?_ (okc ?_ (okc ?_ (okc ?_ (okc ?_ (okc ?_ (okc ?_ (okc ?_ (okc ?_ (okc ?_ (okc ?_ (okc gg0 (okc gg1 (okc gg0 (okc gg1 (okc gg2 (okc gg0 (okc gg3 (okc gg0 (okc ?_ (okc ?_ (okc ?_ (okc gg0 okn))))))))))))))))))))))))))))))
            all_goals first | omega | exact pow2 | exact nl | (simp (disch := omega) only [SS, k0, v0, wr, z0, x0, wq, hb, nn, hc]; done) | (simp (disch := omega) only [SS, k0, v0, wr, z0, x0, wq, hb, nn, hc]; omega) | (simp_all; done) | (simp_all; omega)
          case rr =>
            refine ⟨?_, ?_⟩ <;> first | trivial | (simp_all; done) | (simp_all; omega)
        · refine runs_last baseT (Sx.Ends.of (owA3n_p3 t0 t1 a b g) ⟨?oo, ?rr⟩) (by kernel_rfl) rfl (gtL (by decide)) (by decide)
          case oo =>
            refine (okc ?_ (okc ?_ (okc ?_ (okc ?_ (okc ?_ (okc ?_ (okc ?_ (okc ?_ (okc ?_ (okc ?_ (okc ?_ (okc ?_ (okc ?_ (okc ?_ (okc ?_ (okc ?_ (okc ?_ (okc ?_ (okc gg0 (okc gg1 (okc gg0 (okc gg1 (okc gg2 (okc gg0 (okc gg3 (okc gg0 (okc ?_ (okc ?_ (okc ?_ (okc gg0 okn))))))))))))))))))))))))))))))
            all_goals first | omega | exact pow2 | exact nl | (simp (disch := omega) only [SS, k0, v0, wr, z0, x0, wq, hb, nn, hc]; done) | (simp (disch := omega) only [SS, k0, v0, wr, z0, x0, wq, hb, nn, hc]; omega) | (simp_all; done) | (simp_all; omega)
          case rr =>
            refine ⟨?_, ?_⟩ <;> first | trivial | (simp_all; done) | (simp_all; omega)
    · refine bcase (c := (g)) (fun gg2 => ?_) (fun gg2 => ?_)
      · refine runs_last baseT (Sx.Ends.of (owA3n_p4 t0 t1 a b g) ⟨?oo, ?rr⟩) (by kernel_rfl) rfl (gtL (by decide)) (by decide)
        case oo =>
          refine (okc ?_ (okc ?_ (okc ?_ (okc ?_ (okc ?_ (okc ?_ (okc ?_ (okc ?_ (okc ?_ (okc ?_ (okc ?_ (okc ?_ (okc ?_ (okc ?_ (okc ?_ (okc ?_ (okc ?_ (okc ?_ (okc gg0 (okc gg1 (okc gg2 (okc gg0 (okc gg1 (okc gg0 (okc ?_ (okc gg0 (okc ?_ (okc ?_ (okc ?_ (okc gg0 okn))))))))))))))))))))))))))))))
          all_goals first | omega | exact pow2 | exact nl | (simp (disch := omega) only [SS, k0, v0, wr, z0, x0, wq, hb, nn, hc]; done) | (simp (disch := omega) only [SS, k0, v0, wr, z0, x0, wq, hb, nn, hc]; omega) | (simp_all; done) | (simp_all; omega)
        case rr =>
          refine ⟨?_, ?_⟩ <;> first | trivial | (simp_all; done) | (simp_all; omega)
      · refine runs_last baseT (Sx.Ends.of (owA3n_p5 t0 t1 a b g) ⟨?oo, ?rr⟩) (by kernel_rfl) rfl (gtL (by decide)) (by decide)
        case oo =>
          refine (okc ?_ (okc ?_ (okc ?_ (okc ?_ (okc ?_ (okc ?_ (okc ?_ (okc ?_ (okc ?_ (okc ?_ (okc ?_ (okc ?_ (okc ?_ (okc ?_ (okc ?_ (okc ?_ (okc ?_ (okc ?_ (okc gg0 (okc gg1 (okc gg2 (okc gg0 (okc ?_ (okc gg0 (okc ?_ (okc ?_ (okc ?_ (okc gg0 okn))))))))))))))))))))))))))))
          all_goals first | omega | exact pow2 | exact nl | (simp (disch := omega) only [SS, k0, v0, wr, z0, x0, wq, hb, nn, hc]; done) | (simp (disch := omega) only [SS, k0, v0, wr, z0, x0, wq, hb, nn, hc]; omega) | (simp_all; done) | (simp_all; omega)
        case rr =>
          refine ⟨?_, ?_⟩ <;> first | trivial | (simp_all; done) | (simp_all; omega)
  · refine bcase (c := (g)) (fun gg1 => ?_) (fun gg1 => ?_)
    · refine runs_last baseT (Sx.Ends.of (owA3n_p6 t0 t1 a b g) ⟨?oo, ?rr⟩) (by kernel_rfl) rfl (gtL (by decide)) (by decide)
      case oo =>
        refine (okc ?_ (okc ?_ (okc ?_ (okc ?_ (okc ?_ (okc ?_ (okc ?_ (okc ?_ (okc ?_ (okc ?_ (okc ?_ (okc ?_ (okc ?_ (okc ?_ (okc ?_ (okc ?_ (okc ?_ (okc ?_ (okc gg0 (okc gg1 (okc gg0 (okc gg0 (okc gg0 (okc ?_ (okc ?_ (okc gg0 okn))))))))))))))))))))))))))
        all_goals first | omega | exact pow2 | exact nl | (simp (disch := omega) only [SS, k0, v0, wr, z0, x0, wq, hb, nn, hc]; done) | (simp (disch := omega) only [SS, k0, v0, wr, z0, x0, wq, hb, nn, hc]; omega) | (simp_all; done) | (simp_all; omega)
      case rr =>
        refine ⟨?_, ?_⟩ <;> first | trivial | (simp_all; done) | (simp_all; omega)
    · refine runs_last baseT (Sx.Ends.of (owA3n_p7 t0 t1 a b g) ⟨?oo, ?rr⟩) (by kernel_rfl) rfl (gtL (by decide)) (by decide)
      case oo =>
        refine (okc ?_ (okc ?_ (okc ?_ (okc ?_ (okc ?_ (okc ?_ (okc ?_ (okc ?_ (okc ?_ (okc ?_ (okc ?_ (okc ?_ (okc ?_ (okc ?_ (okc ?_ (okc ?_ (okc ?_ (okc ?_ (okc gg0 (okc gg1 (okc gg0 (okc gg0 (okc ?_ (okc ?_ (okc gg0 okn)))))))))))))))))))))))))
        all_goals first | omega | exact pow2 | exact nl | (simp (disch := omega) only [SS, k0, v0, wr, z0, x0, wq, hb, nn, hc]; done) | (simp (disch := omega) only [SS, k0, v0, wr, z0, x0, wq, hb, nn, hc]; omega) | (simp_all; done) | (simp_all; omega)
      case rr =>
        refine ⟨?_, ?_⟩ <;> first | trivial | (simp_all; done) | (simp_all; omega)

theorem own_law (t0 t1 : List UInt8) (a b : Int) (g : Bool) : RunsTo Tryd.prog 13 [.code (bodyOf Tryd.f13)] (envOf [vN a, vN b, vB g] Tryd.f13.ntmps) (Sx.look ((sentEnts 25 223 [(18, t0), (17, t1)] ++ (tabE ++ tabF powF)) ++ ([]))) 110 (YES) (Sx.look []) 2500 := by
  by_cases hb : a = b
  · by_cases h0 : a < 0 ∨ 255 < a
    · exact owA0i t0 t1 a b g h0 hb
    · by_cases h1 : a < 240
      · exact owA1i t0 t1 a b g (by omega) hb
      · by_cases h2 : 251 ≤ a ∧ a ≤ 254
        · exact owA3i t0 t1 a b g h2 hb
        · exact owA2i t0 t1 a b g (by omega) hb
  · by_cases h0 : a < 0 ∨ 255 < a
    · exact owA0n t0 t1 a b g h0 hb
    · have hc : nameC a ≠ nameC b := fun e => hb (name_inj e (name_ne (by omega)))
      by_cases h1 : a < 240
      · exact owA1n t0 t1 a b g (by omega) hb hc
      · by_cases h2 : 251 ≤ a ∧ a ≤ 254
        · exact owA3n t0 t1 a b g h2 hb hc
        · exact owA2n t0 t1 a b g (by omega) hb hc
end Go.Proofs.YtealbjkhjpmilaaDoor
