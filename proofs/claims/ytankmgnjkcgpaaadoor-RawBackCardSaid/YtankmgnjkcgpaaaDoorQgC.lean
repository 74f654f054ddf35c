/- Raw: the law RawBack; what an event among the arguments is. -/
import Derived.Test.YtankmgnjkcgpaaaDoorQfC
set_option linter.unusedSimpArgs false
set_option linter.unusedVariables false
set_option maxRecDepth 100000
namespace Go.Proofs.YtankmgnjkcgpaaaDoor
open Go.Sx RawR

def powT : List Int := [1, 10, 100, 1000, 10000, 100000, 1000000, 10000000, 100000000, 1000000000, 10000000000, 100000000000, 1000000000000, 10000000000000, 100000000000000, 1000000000000000, 10000000000000000, 100000000000000000, 1000000000000000000, 10000000000000000000]
def powF : Ix → Int := fun is => powT.getD (is.headD 0) 0
theorem powF_ok : pwOK powF = true := by decide +kernel
theorem inN_wf {n : Int} (h : (Lit.int .i64 n).wf = true) : inN n = true := by
  have := bounds_i64 h
  unfold inN
  rw [decide_eq_true_eq]
  omega
theorem sl_i64 {W : World} {v : Value} (h : (Sh.sl (.ki .i64)).Is W [v]) {g : Rd} {o : Nat} (hg : g [] o = v) : ∀ i, i < lenOf v → inN (Sx.intOf (rdOf W 1 g o [i] 0)) = true := by
  obtain ⟨u, hu, _, _, _, _, hrows⟩ := h
  have hu : v = u := by simpa using hu
  subst hu
  intro i hi
  obtain ⟨n, hn, hwf⟩ := hrows i hi
  have e : rdOf W 1 g o [i] 0 = .int .i64 n := by
    have : rdOf W 1 g o [i] 0 = (rowsOf W 1 (g [] o) i).getD 0 undef := rfl
    rw [this, hg]
    have e1 : (Sh.ki .i64).size = 1 := rfl
    rw [e1] at hn
    rw [hn]; rfl
  rw [e]
  exact inN_wf hwf
abbrev shEv : Sh := .tc (.ki .i64) (.tc (.ki .i64) (.tc (.sl (.ki .u8)) (.tc (.sl (.ki .i64)) .t0)))
theorem ev_arg {W : World} {p a r : List Value} (h : shEv.Is W a) (o : Nat) (ho : p.length = o) :
    (inN (Sx.intOf (Go.Sx.rd0 (p ++ (a ++ r)) [] o)) = true ∧ inN (Sx.intOf (Go.Sx.rd0 (p ++ (a ++ r)) [] (o + 1))) = true) ∧
    bndB (fun is => Sx.intOf (rdOf W 1 (Go.Sx.rd0 (p ++ (a ++ r))) (o + 2) is 0)) (lenOf (Go.Sx.rd0 (p ++ (a ++ r)) [] (o + 2))) = true ∧
    rangeI (fun is => Sx.intOf (rdOf W 1 (Go.Sx.rd0 (p ++ (a ++ r))) (o + 3) is 0)) (lenOf (Go.Sx.rd0 (p ++ (a ++ r)) [] (o + 3))) = true := by
  subst ho
  obtain ⟨c0, t0, rfl, _, ⟨a0, rfl, w0⟩, h1⟩ := h
  obtain ⟨c1, t1, rfl, _, ⟨a1, rfl, w1⟩, h2⟩ := h1
  obtain ⟨c2, t2, rfl, l2, s2, h3⟩ := h2
  obtain ⟨c3, t3, rfl, l3, s3, h4⟩ := h3
  obtain rfl : t3 = [] := h4
  obtain ⟨v2, rfl⟩ : ∃ v, c2 = [v] := List.length_eq_one_iff.1 l2
  obtain ⟨v3, rfl⟩ : ∃ v, c3 = [v] := List.length_eq_one_iff.1 l3
  have key : ∀ j, Go.Sx.rd0 (p ++ (([.int .i64 a0] ++ ([.int .i64 a1] ++ ([v2] ++ ([v3] ++ [])))) ++ r)) [] (p.length + j) = (([.int .i64 a0, .int .i64 a1, v2, v3] : List Value) ++ r).getD j undef := by
    intro j
    show (p ++ _).getD (p.length + j) undef = _
    rw [List.getD_eq_getElem?_getD, List.getElem?_append_right (by omega), Nat.add_sub_cancel_left]
    simp [List.getD_eq_getElem?_getD]
  have k0 := key 0
  have k1 := key 1
  have k2 := key 2
  have k3 := key 3
  rw [Nat.add_zero] at k0
  refine ⟨⟨?_, ?_⟩, ?_, ?_⟩
  · rw [k0]; exact inN_wf w0
  · rw [k1]; exact inN_wf w1
  · refine List.all_eq_true.2 fun i hi => ?_
    rw [k2] at hi
    exact decide_eq_true (sl_u8 s2 k2 i (List.mem_range.1 hi))
  · refine List.all_eq_true.2 fun i hi => ?_
    rw [k3] at hi
    exact sl_i64 s3 k3 i (List.mem_range.1 hi)
theorem lineR_len {e : RawR.Ev} (h : rightR e = true) (hm : e.M.length ≤ 1000) : (lineR e).length ≤ 60000 := by
  obtain ⟨g1, g2, g3⟩ := right_in h
  have t1 := toldR_len e.B
  have t2 := itoa_len g1
  have t3 := joinR_le 44 (e.M.map Lib.itoa) (fun a ha => by
    obtain ⟨x, hx, rfl⟩ := List.mem_map.1 ha
    have := g2 x hx
    exact itoa_len (inN_of (by omega)))
  rw [List.length_map] at t3
  unfold lineR placesR
  repeat' split
  all_goals simp only [wBytes, wGrant, wTick, wClose, wMarks, List.length_append, List.length_cons, List.length_nil]
  all_goals omega
theorem rawBack_law (t0 t1 t2 : List UInt8) (P : Ix → Int) (k n : Int) (l m : Nat) (B F : Ix → Int) (s : List UInt8) (hP : pwOK P = true) (hB : bndB B l = true) (hF : rangeI F m = true) (hn : inN n = true) : RunsTo Tryd.prog 6 [.code (bodyOf Tryd.f6)] (envOf [.agg (.tc (.vi .i64 fun _ => k) (.tc (.vi .i64 fun _ => n) (.tc (.vl 100 (fun _ => 0) 1 [] (fun _ => l)) (.tc (.vl 101 (fun _ => 0) 1 [] (fun _ => m)) .t0)))), vS s] Tryd.f6.ntmps) (Sx.look ((rbS t0 t1 t2 ++ (pwF P ++ ([⟨100, false, none, 1, .ta l (.vi .u8 B)⟩] ++ [⟨101, false, none, 1, .ta m (.vi .i64 F)⟩]))) ++ ([]))) 110 (YES) (Sx.look []) 6000 := by
  by_cases h : 1100 < l ∨ 200 < m ∨ 400 < s.length
  · exact rb0 t0 t1 t2 P k n l m B F s hP hB hF hn h
  have h1 : l ≤ 1100 := by omega
  have h2 : m ≤ 200 := by omega
  have h3 : s.length ≤ 400 := by omega
  have right : rightV k n l m F = true → evR (lineV k n l m B F) = evF k n l m B F ∧ evK (lineV k n l m B F) = 16 ∧ (lineV k n l m B F).length ≤ 100000 := by
    intro hr
    have hv : lineV k n l m B F = lineR (evF k n l m B F) := by unfold lineV; rw [if_pos hr]
    have hR : rightR (evF k n l m B F) = true := by rw [rightV_eq]; exact hr
    have hp := parse_line hR
    rw [hv]
    have := lineR_len hR (by show (intsF F m).length ≤ 1000; rw [intsF_len]; omega)
    exact ⟨by unfold evR; rw [hp]; rfl, by unfold evK; rw [hp]; rfl, by omega⟩
  cases hx : parseR s with
  | none =>
    have e1 : evR s = ev0 := by unfold evR; rw [hx]; rfl
    have e2 : evK s = 4 := by unfold evK; rw [hx]; rfl
    cases hr : rightV k n l m F with
    | false => exact rb1 t0 t1 t2 P k n l m B F s ev0 hP hB hF hn h1 h2 h3 hr e1 e2
    | true =>
      obtain ⟨q1, q2, q3⟩ := right hr
      exact rb2 t0 t1 t2 P k n l m B F s ev0 hP hB hF hn h1 h2 h3 hr e1 e2 q1 q2 q3
  | some x =>
    have e1 : evR s = x := by unfold evR; rw [hx]; rfl
    have e2 : evK s = 16 := by unfold evK; rw [hx]; rfl
    obtain ⟨x1, x2⟩ := line_parse hx
    cases hr : rightV k n l m F with
    | false => exact rb3 t0 t1 t2 P k n l m B F s x hP hB hF hn h1 h2 h3 hr e1 e2 x2 x1
    | true =>
      obtain ⟨q1, q2, q3⟩ := right hr
      exact rb4 t0 t1 t2 P k n l m B F s x hP hB hF hn h1 h2 h3 hr e1 e2 x2 x1 q1 q2 q3
theorem rawBack_lawT (t0 t1 t2 : List UInt8) (k n : Int) (l m : Nat) (B F : Ix → Int) (s : List UInt8) (hB : bndB B l = true) (hF : rangeI F m = true) (hn : inN n = true) : RunsTo Tryd.prog 6 [.code (bodyOf Tryd.f6)] (envOf [.agg (.tc (.vi .i64 fun _ => k) (.tc (.vi .i64 fun _ => n) (.tc (.vl 100 (fun _ => 0) 1 [] (fun _ => l)) (.tc (.vl 101 (fun _ => 0) 1 [] (fun _ => m)) .t0)))), vS s] Tryd.f6.ntmps) (Sx.look ((rbS t0 t1 t2 ++ (pwF powF ++ ([⟨100, false, none, 1, .ta l (.vi .u8 B)⟩] ++ [⟨101, false, none, 1, .ta m (.vi .i64 F)⟩]))) ++ ([]))) 110 (YES) (Sx.look []) 6000 :=
  rawBack_law t0 t1 t2 powF k n l m B F s powF_ok hB hF hn

end Go.Proofs.YtankmgnjkcgpaaaDoor

