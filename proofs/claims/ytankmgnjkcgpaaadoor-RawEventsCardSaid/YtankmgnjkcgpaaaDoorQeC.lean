/- Raw: places, Right, Line, Same. -/
import Derived.Test.YtankmgnjkcgpaaaDoorQdC
set_option linter.unusedSimpArgs false
set_option linter.unusedVariables false
set_option maxRecDepth 100000
namespace Go.Proofs.YtankmgnjkcgpaaaDoor
open Go.Sx

open RawR
def rangeI (F : Ix → Int) (m : Nat) : Bool := (List.range m).all fun i => inN (F [i])
theorem rangeI_at {F : Ix → Int} {m : Nat} (h : rangeI F m = true) {i : Nat} (hi : i < m) : inN (F [i]) = true := List.all_eq_true.1 h i (List.mem_range.2 hi)
theorem itoa_len {n : Int} (h : inN n = true) : (Lib.itoa n).length ≤ 21 := by
  have h := of_decide_eq_true h
  unfold Lib.itoa
  split
  · rw [List.length_cons, Lib.decDigits_length]
    have := Lib.nDigits_le20 n.natAbs (by omega)
    omega
  · rw [Lib.decDigits_length]
    have := Lib.nDigits_le20 n.toNat (by omega)
    omega
theorem joinR_le (c : UInt8) : ∀ o : List (List UInt8), (∀ a ∈ o, a.length ≤ 21) → (joinR c o).length ≤ 22 * o.length
  | [], _ => by simp [joinR]
  | [a], h => by have := h a (by simp); simp [joinR]; omega
  | a :: b :: l, h => by
    have h1 := h a (by simp)
    have h2 := joinR_le c (b :: l) (fun x hx => h x (by simp [hx]))
    rw [joinR_cons c a (by simp), List.length_append, List.length_cons]
    simp only [List.length_cons] at h2 ⊢
    omega
theorem rowS_is (o : List (List UInt8)) : rowS (fun is => o.getD (is.headD 0) []) [] 0 o.length = o := by
  apply List.ext_getElem
  · simp [rowS]
  · intro i h1 h2
    simp [rowS, List.getD_eq_getElem?_getD, List.getElem?_eq_getElem h2]
theorem intsF_get (F : Ix → Int) {m i : Nat} (h : i < m) : (intsF F m).getD i 0 = F [i] := by
  simp [intsF, List.getD_eq_getElem?_getD, h]
theorem intsF_take (F : Ix → Int) {m i : Nat} (h : i < m) : (intsF F m).take (i + 1) = (intsF F m).take i ++ [F [i]] := by
  have hl := intsF_len F m
  rw [List.take_add_one, List.getElem?_eq_getElem (by omega)]
  simp [intsF]
theorem intsF_drop (F : Ix → Int) {m i : Nat} (h : i < m) : (intsF F m).drop i = F [i] :: (intsF F m).drop (i + 1) := by
  rw [dropT _ 0 (by rw [intsF_len]; exact h), intsF_get F h]
def sumsPL : List (FuncId × Summ) := [(60, zitP.summ 48), (80, joinSumm)]
theorem basePL : Base0 Tryd.prog sumsPL := ((baseO.cons Tryd.func80 (by kernel_rfl) joinSumm_ok).cons Tryd.func60 (by kernel_rfl) (PC.summ_ok zitP_pc gtopG))
theorem pl0_p0 (P : Ix → Int) (n M : Nat) (F : Ix → Int) :
    isMore (evTill Tryd.prog sumsPL 400 (behind Tryd.f62 0) 900 62 [.code (bodyOf Tryd.f62)] (envOf [vL 62 1 n] Tryd.f62.ntmps) (([⟨62, false, none, 1, .ta M (.vi .i64 F)⟩] ++ pwF P) ++ ([])) ⟨[], 80⟩) (moreP (headOf Tryd.f62 0) ([((101 : Nat), Rn.nil (1 : Nat))]) Tryd.f62.ntmps ([(3, vL 101 1 (([] : List (List UInt8))).length), (6, vL 62 1 n), (7, vN n), (8, vN (0 : Nat))]) (txE true 101 (([] : List (List UInt8))).length (([] : List (List UInt8)))) 160) =
    (OkL [] ∧ headOf Tryd.f62 (0 : Nat) = headOf Tryd.f62 (0 : Nat) ∧ ((0 : Nat) = (0 : Nat) ∧ ((0 : Nat) = (0 : Nat) ∧ n = n) ∧ (↑n : Int) = (↑n : Int) ∧ (↑(0 : Nat) : Int) = (0 : Int)) ∧ (0 : Nat) = (0 : Nat)) := by kernel_rfl

set_option maxHeartbeats 4000000 in
theorem pl0 (P : Ix → Int) (n M : Nat) (F : Ix → Int) (hM : n ≤ M) (hn : n ≤ 1000) (hP : pwOK P = true)  (v : SV) (L' : HF) (next : RunsTo Tryd.prog 62 (headOf Tryd.f62 0) (envAt Tryd.f62.ntmps ([(3, vL 101 1 (([] : List (List UInt8))).length), (6, vL 62 1 n), (7, vN n), (8, vN (0 : Nat))])) (Sx.look (([⟨62, false, none, 1, .ta M (.vi .i64 F)⟩] ++ pwF P) ++ (txE true 101 (([] : List (List UInt8))).length (([] : List (List UInt8)))))) 80 (v) (L') 160) :
    RunsTo Tryd.prog 62 [.code (bodyOf Tryd.f62)] (envOf [vL 62 1 n] Tryd.f62.ntmps) (Sx.look (([⟨62, false, none, 1, .ta M (.vi .i64 F)⟩] ++ pwF P) ++ ([]))) 80 (v) (L') 160 := by
  refine runs_more basePL (More.of (pl0_p0 P n M F) ⟨?oo, rfl, ?rr⟩) (by kernel_rfl) (by kernel_rfl) rfl (gtL (by decide)) (by decide) next
  case oo =>
    clear next
    refine okn
    all_goals ((try simp (disch := omega) only [SS]); first | done | omega | assumption | (simp (disch := omega) only [SS] at *; first | done | omega | assumption) | (simp_all; done))
  case rr =>
    clear next
    repeat' apply And.intro
    all_goals first | exact True.intro | with_reducible rfl | rfl | (intro k hk; exact absurd hk (Nat.not_lt_zero _)) | (intros; rfl)

theorem pl1_p0 (P : Ix → Int) (n M : Nat) (F : Ix → Int) (o : List (List UInt8)) (i : Nat) (x : Int) :
    isMore (evTill Tryd.prog sumsPL 400 (behind Tryd.f62 0) 900 62 (headOf Tryd.f62 0) (envAt Tryd.f62.ntmps ([(3, vL 101 1 (o).length), (6, vL 62 1 n), (7, vN n), (8, vN (i : Nat))])) (([⟨62, false, none, 1, .ta M (.vi .i64 F)⟩] ++ pwF P) ++ (txE true 101 (o).length (o))) ⟨[.s true, .s true, .s true, .s true, .s true, .t, .s true, .s true], 110⟩) (moreP (headOf Tryd.f62 0) ([((101 : Nat), Rn.to (151 : Nat))]) Tryd.f62.ntmps ([(3, vL 101 1 (o ++ [Lib.itoa x]).length), (6, vL 62 1 n), (7, vN n), (8, vN (i + 1 : Nat))]) (txE true 101 (o ++ [Lib.itoa x]).length (o ++ [Lib.itoa x])) 160) =
    (OkL [(decide ((↑i : Int) < (↑n : Int)), true), (decide ((0 : Int) ≤ (↑i : Int) ∧ (↑i : Int) < (↑n : Int)), true), (((0 : Nat) + (↑i : Int).toNat).blt M, true), (((0 : Nat) + (↑i : Int).toNat).blt M, true), (pwOK P && inN (F [(0 : Nat) + (↑i : Int).toNat]), true), (((0 : Nat) + o.length).ble o.length, true), (decide (((2 : Nat) * (o.length + (1 : Nat)) + (192 : Nat)) * (16 : Nat) ≤ (281474976710656 : Nat)), true)] ∧ headOf Tryd.f62 (0 : Nat) = headOf Tryd.f62 (0 : Nat) ∧ (((0 : Nat) = (0 : Nat) ∧ (o ++ [Lib.itoa x]).length = o.length + (1 : Nat)) ∧ ((0 : Nat) = (0 : Nat) ∧ n = n) ∧ (↑n : Int) = (↑n : Int) ∧ (↑(i + (1 : Nat)) : Int) = IntKind.i64.wrap ((↑i : Int) + (1 : Int))) ∧ (o ++ [Lib.itoa x]).length = o.length + (1 : Nat) ∧ ∀ (i_1 : Nat), i_1 < (o ++ [Lib.itoa x]).length → (o ++ [Lib.itoa x]).getD i_1 [] = appF o.length (0 : Nat) (fun is => o.getD (List.headD is (0 : Nat)) []) (fun js => Lib.itoa (F [(0 : Nat) + (↑i : Int).toNat])) [i_1]) := by kernel_rfl

set_option maxHeartbeats 4000000 in
theorem pl1 (P : Ix → Int) (n M : Nat) (F : Ix → Int) (o : List (List UInt8)) (i : Nat) (x : Int) (hi : i < n) (hx : F [i] = x) (hr : inN x = true) (ho : o.length ≤ 1000) (hM : n ≤ M) (hn : n ≤ 1000) (hP : pwOK P = true)  (v : SV) (L' : HF) (next : RunsTo Tryd.prog 62 (headOf Tryd.f62 0) (envAt Tryd.f62.ntmps ([(3, vL 101 1 (o ++ [Lib.itoa x]).length), (6, vL 62 1 n), (7, vN n), (8, vN (i + 1 : Nat))])) (Sx.look (([⟨62, false, none, 1, .ta M (.vi .i64 F)⟩] ++ pwF P) ++ (txE true 101 (o ++ [Lib.itoa x]).length (o ++ [Lib.itoa x])))) 80 (v) (L') 160) :
    RunsTo Tryd.prog 62 (headOf Tryd.f62 0) (envAt Tryd.f62.ntmps ([(3, vL 101 1 (o).length), (6, vL 62 1 n), (7, vN n), (8, vN (i : Nat))])) (Sx.look (([⟨62, false, none, 1, .ta M (.vi .i64 F)⟩] ++ pwF P) ++ (txE true 101 (o).length (o)))) 80 (v) (L') 160 := by
  have hw : IntKind.i64.wrap ((i : Int) + 1) = ((i + 1 : Nat) : Int) := by rw [wr64 (by omega)]; rfl
  have hi0 : 0 + ((i : Nat) : Int).toNat = i := by simp
  have hap := app_get (fun x : List UInt8 => x) [] o [Lib.itoa x] (fun _ => Lib.itoa x) (fun j hj => by obtain rfl : j = 0 := (by simp at hj; omega); rfl)
  refine runs_more basePL (More.of (pl1_p0 P n M F o i x) ⟨?oo, rfl, ?rr⟩) (by kernel_rfl) (by kernel_rfl) rfl (gtL (by decide)) (by decide) next
  case oo =>
    clear next
    refine (okc ?_ (okc ?_ (okc ?_ (okc ?_ (okc ?_ (okc ?_ (okc ?_ okn)))))))
    all_goals ((try simp only [hi0, hx]); first | done | rfl | omega | exact ⟨hP, hr⟩ | (simp (disch := omega) only [SS, hi0, hx]; first | done | omega | exact ⟨hP, hr⟩) | (simp_all; done) | (simp_all; omega))
  case rr =>
    clear next
    simp only [hw, hi0, hx]
    repeat' apply And.intro
    all_goals first | exact True.intro | with_reducible rfl | omega | (simp; done) | (intro k hk; exact hap k (by simpa using hk)) | (intros; simp_all; done) | rfl

theorem pl2_p0 (P : Ix → Int) (n M : Nat) (F : Ix → Int) (o : List (List UInt8)) (i : Nat) :
    isEnd (evTill Tryd.prog sumsPL 400 (99) 900 62 (headOf Tryd.f62 0) (envAt Tryd.f62.ntmps ([(3, vL 101 1 (o).length), (6, vL 62 1 n), (7, vN n), (8, vN (i : Nat))])) (([⟨62, false, none, 1, .ta M (.vi .i64 F)⟩] ++ pwF P) ++ (txE true 101 (o).length (o))) ⟨[.s false, .s true, .s true, .s true], 110⟩) (endP ([]) (vS (joinR 44 o)) ([]) 160) =
    (OkL [(decide ((↑i : Int) < (↑n : Int)), false), (((0 : Nat) + o.length).ble o.length, true), (o.length.ble (1000 : Nat), true), ((joinS (rowS (fun is => o.getD (List.headD is (0 : Nat)) []) [] (0 : Nat) o.length) [(44 : UInt8)]).length.ble (100000 : Nat), true)] ∧ joinR (44 : UInt8) o = joinS (rowS (fun is => o.getD (List.headD is (0 : Nat)) []) [] (0 : Nat) o.length) [(44 : UInt8)] ∧ True) := by kernel_rfl

set_option maxHeartbeats 4000000 in
theorem pl2 (P : Ix → Int) (n M : Nat) (F : Ix → Int) (o : List (List UInt8)) (i : Nat) (hi : i = n) (ho : o.length ≤ 1000) (hj : (joinR 44 o).length ≤ 100000)  :
    RunsTo Tryd.prog 62 (headOf Tryd.f62 0) (envAt Tryd.f62.ntmps ([(3, vL 101 1 (o).length), (6, vL 62 1 n), (7, vN n), (8, vN (i : Nat))])) (Sx.look (([⟨62, false, none, 1, .ta M (.vi .i64 F)⟩] ++ pwF P) ++ (txE true 101 (o).length (o)))) 80 (vS (joinR 44 o)) (Sx.look ([])) 160 := by
  have hjo : joinS (rowS (fun is => o.getD (is.headD 0) []) [] 0 o.length) [44] = joinR 44 o := by rw [rowS_is]; exact joinR_eq 44 o
  refine runs_last basePL (Sx.Ends.of (pl2_p0 P n M F o i) ⟨?oo, ?rr⟩) (by kernel_rfl) rfl (gtL (by decide)) (by decide)
  case oo =>
    refine (okc ?_ (okc ?_ (okc ?_ (okc ?_ okn))))
    all_goals ((try simp only [Go.Sx.sum, hjo]); first | done | rfl | omega | (simp (disch := omega) only [SS, hjo]; first | done | omega | assumption) | (simp_all; done) | (simp_all; omega))
  case rr =>
    refine ⟨?_, trivial⟩
    exact hjo.symm

theorem plT (P : Ix → Int) (n M : Nat) (F : Ix → Int) (hM : n ≤ M) (hn : n ≤ 1000) (hP : pwOK P = true) (hr : rangeI F n = true) : RunsTo Tryd.prog 62 [.code (bodyOf Tryd.f62)] (envOf [vL 62 1 n] Tryd.f62.ntmps) (Sx.look (([⟨62, false, none, 1, .ta M (.vi .i64 F)⟩] ++ pwF P) ++ ([]))) 80 (vS (placesR (intsF F n))) (Sx.look []) 160 := by
  refine pl0 P n M F hM hn hP _ _ ?_
  unfold placesR
  have hl := intsF_len F n
  suffices q : ∀ (k i : Nat), i + k = n → RunsTo Tryd.prog 62 (headOf Tryd.f62 0) (envAt Tryd.f62.ntmps ([(3, vL 101 1 (((intsF F n).take i).map Lib.itoa).length), (6, vL 62 1 n), (7, vN n), (8, vN (i : Nat))])) (Sx.look (([⟨62, false, none, 1, .ta M (.vi .i64 F)⟩] ++ pwF P) ++ (txE true 101 (((intsF F n).take i).map Lib.itoa).length (((intsF F n).take i).map Lib.itoa)))) 80 (vS (joinR 44 ((intsF F n).map Lib.itoa))) (Sx.look []) 160 from by
    have := q n 0 (by omega)
    simpa using this
  intro k
  induction k with
  | zero =>
    intro i hi
    have ht : (intsF F n).take i = intsF F n := List.take_of_length_le (by omega)
    rw [ht]
    refine pl2 P n M F _ i (by omega) (by rw [List.length_map]; omega) ?_
    have := joinR_le 44 ((intsF F n).map Lib.itoa) (fun a ha => by
      obtain ⟨x, hx, rfl⟩ := List.mem_map.1 ha
      obtain ⟨j, hj, rfl⟩ := List.mem_map.1 hx
      exact itoa_len (rangeI_at hr (List.mem_range.1 hj)))
    rw [List.length_map] at this
    omega
  | succ k ih =>
    intro i hi
    refine pl1 P n M F _ i (F [i]) (by omega) rfl (rangeI_at hr (by omega)) (by rw [List.length_map, List.length_take]; omega) hM hn hP _ _ ?_
    have := ih (i + 1) (by omega)
    rw [intsF_take F (show i < n by omega), List.map_append] at this
    exact this
def plP : PC := { args := [.v (.vl 62 1 0)], heap := [⟨62, false, 1, .ta 7 (.vi .i64 8)⟩], fams := [], tabs := [⟨17, false, 20, .tn 20 (.vi .u64 9)⟩], gs := [], G := 24, tp := 194, n := 80, n' := 160, cond := fun e => decide (eN e 0 ≤ eN e 7) && (decide (eN e 0 ≤ 1000) && (pwOK (eI e 9) && rangeI (eI e 8) (eN e 0))), v := fun e => vS (placesR (intsF (eI e 8) (eN e 0))), post := fun e => [] }
theorem plP_pc : PC.Runs Tryd.prog 62 Tryd.f62 (bodyOf Tryd.f62) plP := ⟨Tryd.func62, by kernel_rfl, (fun g hg => by first | (cases hg; done) | (revert g; show ∀ g ∈ ([] : List Nat), g < 24; decide)), fun e H hc => by
  have hc : (decide (eN e 0 ≤ eN e 7) && (decide (eN e 0 ≤ 1000) && (pwOK (eI e 9) && rangeI (eI e 8) (eN e 0)))) = true := hc
  try simp only [Bool.and_eq_true, decide_eq_true_eq, Nat.beq_eq] at hc
  exact plT (eI e 9) (eN e 0) (eN e 7) (eI e 8) hc.1 hc.2.1 hc.2.2.1 hc.2.2.2⟩
theorem md0_p0 (k n : Int) (l m N M : Nat) (B F : Ix → Int) :
    isMore (evTill Tryd.prog [] 300 (behind Tryd.f59 0) 900 59 [.code (bodyOf Tryd.f59)] (envOf [.agg (.tc (.vi .i64 fun _ => k) (.tc (.vi .i64 fun _ => n) (.tc (.vl 61 (fun _ => 0) 1 [] (fun _ => l)) (.tc (.vl 62 (fun _ => 0) 1 [] (fun _ => m)) .t0))))] Tryd.f59.ntmps) (([⟨61, false, none, 1, .ta N (.vi .u8 B)⟩] ++ [⟨62, false, none, 1, .ta M (.vi .i64 F)⟩]) ++ ([])) ⟨[], 80⟩) (moreP (headOf Tryd.f59 0) ([((101 : Nat), Rn.to (80 : Nat))]) Tryd.f59.ntmps ([(1, vP 101), (6, vL 62 1 m), (7, vN m), (8, vN (0 : Nat))]) ([⟨101, true, none, 123000004, (.tc (.vi .i64 fun _ => k) (.tc (.vi .i64 fun _ => n) (.tc (.vl 61 (fun _ => 0) 1 [] (fun _ => l)) (.tc (.vl 62 (fun _ => 0) 1 [] (fun _ => m)) .t0))))⟩]) 130) =
    (OkL [] ∧ headOf Tryd.f59 (0 : Nat) = headOf Tryd.f59 (0 : Nat) ∧ ((0 : Nat) = (0 : Nat) ∧ ((0 : Nat) = (0 : Nat) ∧ m = m) ∧ (↑m : Int) = (↑m : Int) ∧ (↑(0 : Nat) : Int) = (0 : Int)) ∧ k = k ∧ n = n ∧ ((0 : Nat) = (0 : Nat) ∧ l = l) ∧ (0 : Nat) = (0 : Nat) ∧ m = m) := by kernel_rfl

set_option maxHeartbeats 4000000 in
theorem md0 (k n : Int) (l m N M : Nat) (B F : Ix → Int) (hM : m ≤ M) (hl : l ≤ 100000) (hm : m ≤ 100000)  (v : SV) (L' : HF) (next : RunsTo Tryd.prog 59 (headOf Tryd.f59 0) (envAt Tryd.f59.ntmps ([(1, vP 101), (6, vL 62 1 m), (7, vN m), (8, vN (0 : Nat))])) (Sx.look (([⟨61, false, none, 1, .ta N (.vi .u8 B)⟩] ++ [⟨62, false, none, 1, .ta M (.vi .i64 F)⟩]) ++ ([⟨101, true, none, 123000004, (.tc (.vi .i64 fun _ => k) (.tc (.vi .i64 fun _ => n) (.tc (.vl 61 (fun _ => 0) 1 [] (fun _ => l)) (.tc (.vl 62 (fun _ => 0) 1 [] (fun _ => m)) .t0))))⟩]))) 80 (v) (L') 130) :
    RunsTo Tryd.prog 59 [.code (bodyOf Tryd.f59)] (envOf [.agg (.tc (.vi .i64 fun _ => k) (.tc (.vi .i64 fun _ => n) (.tc (.vl 61 (fun _ => 0) 1 [] (fun _ => l)) (.tc (.vl 62 (fun _ => 0) 1 [] (fun _ => m)) .t0))))] Tryd.f59.ntmps) (Sx.look (([⟨61, false, none, 1, .ta N (.vi .u8 B)⟩] ++ [⟨62, false, none, 1, .ta M (.vi .i64 F)⟩]) ++ ([]))) 80 (v) (L') 130 := by
  refine runs_more baseO (More.of (md0_p0 k n l m N M B F) ⟨?oo, rfl, ?rr⟩) (by kernel_rfl) (by kernel_rfl) rfl (gtL (by decide)) (by decide) next
  case oo =>
    clear next
    refine okn
    all_goals ((try simp (disch := omega) only [SS]); first | done | omega | assumption | (simp (disch := omega) only [SS] at *; first | done | omega | assumption) | (simp_all; done))
  case rr =>
    clear next
    try simp (disch := omega) only [SS]
    repeat' apply And.intro
    all_goals first | exact True.intro | with_reducible rfl | omega | (intros; first | exact True.intro | with_reducible rfl | omega | (simp_all; done)) | (simp_all; done) | rfl

theorem md1_p0 (k n : Int) (l m N M : Nat) (B F : Ix → Int) (i : Nat) (x p : Int) :
    isMore (evTill Tryd.prog [] 300 (behind Tryd.f59 0) 900 59 (headOf Tryd.f59 0) (envAt Tryd.f59.ntmps ([(1, vP 101), (6, vL 62 1 m), (7, vN m), (8, vN (i : Nat))])) (([⟨61, false, none, 1, .ta N (.vi .u8 B)⟩] ++ [⟨62, false, none, 1, .ta M (.vi .i64 F)⟩]) ++ ([⟨101, true, none, 123000004, (.tc (.vi .i64 fun _ => k) (.tc (.vi .i64 fun _ => n) (.tc (.vl 61 (fun _ => 0) 1 [] (fun _ => l)) (.tc (.vl 62 (fun _ => 0) 1 [] (fun _ => m)) .t0))))⟩])) ⟨[.s true, .s true, .s true, .s true, .s false, .s false, .s false], 110⟩) (moreP (headOf Tryd.f59 0) ([]) Tryd.f59.ntmps ([(1, vP 101), (6, vL 62 1 m), (7, vN m), (8, vN (i + 1 : Nat))]) ([⟨101, true, none, 123000004, (.tc (.vi .i64 fun _ => k) (.tc (.vi .i64 fun _ => n) (.tc (.vl 61 (fun _ => 0) 1 [] (fun _ => l)) (.tc (.vl 62 (fun _ => 0) 1 [] (fun _ => m)) .t0))))⟩]) 130) =
    (OkL [(decide ((↑i : Int) < (↑m : Int)), true), (decide ((0 : Int) ≤ (↑i : Int) ∧ (↑i : Int) < (↑m : Int)), true), (((0 : Nat) + (↑i : Int).toNat).blt M, true), (((0 : Nat) + (↑i : Int).toNat).blt M, true), (decide (F [(0 : Nat) + (↑i : Int).toNat] < (0 : Int)), false), (decide (F [(0 : Nat) + (↑i : Int).toNat] ≥ (↑l : Int)), false), (decide ((↑i : Int) > (0 : Int)), false)] ∧ headOf Tryd.f59 (0 : Nat) = headOf Tryd.f59 (0 : Nat) ∧ ((0 : Nat) = (0 : Nat) ∧ ((0 : Nat) = (0 : Nat) ∧ m = m) ∧ (↑m : Int) = (↑m : Int) ∧ (↑(i + (1 : Nat)) : Int) = IntKind.i64.wrap ((↑i : Int) + (1 : Int))) ∧ k = k ∧ n = n ∧ ((0 : Nat) = (0 : Nat) ∧ l = l) ∧ (0 : Nat) = (0 : Nat) ∧ m = m) := by kernel_rfl
theorem md1_p1 (k n : Int) (l m N M : Nat) (B F : Ix → Int) (i : Nat) (x p : Int) :
    isMore (evTill Tryd.prog [] 300 (behind Tryd.f59 0) 900 59 (headOf Tryd.f59 0) (envAt Tryd.f59.ntmps ([(1, vP 101), (6, vL 62 1 m), (7, vN m), (8, vN (i : Nat))])) (([⟨61, false, none, 1, .ta N (.vi .u8 B)⟩] ++ [⟨62, false, none, 1, .ta M (.vi .i64 F)⟩]) ++ ([⟨101, true, none, 123000004, (.tc (.vi .i64 fun _ => k) (.tc (.vi .i64 fun _ => n) (.tc (.vl 61 (fun _ => 0) 1 [] (fun _ => l)) (.tc (.vl 62 (fun _ => 0) 1 [] (fun _ => m)) .t0))))⟩])) ⟨[.s true, .s true, .s true, .s true, .s false, .s false, .s true, .s true, .s true, .s true, .s false], 110⟩) (moreP (headOf Tryd.f59 0) ([]) Tryd.f59.ntmps ([(1, vP 101), (6, vL 62 1 m), (7, vN m), (8, vN (i + 1 : Nat))]) ([⟨101, true, none, 123000004, (.tc (.vi .i64 fun _ => k) (.tc (.vi .i64 fun _ => n) (.tc (.vl 61 (fun _ => 0) 1 [] (fun _ => l)) (.tc (.vl 62 (fun _ => 0) 1 [] (fun _ => m)) .t0))))⟩]) 130) =
    (OkL [(decide ((↑i : Int) < (↑m : Int)), true), (decide ((0 : Int) ≤ (↑i : Int) ∧ (↑i : Int) < (↑m : Int)), true), (((0 : Nat) + (↑i : Int).toNat).blt M, true), (((0 : Nat) + (↑i : Int).toNat).blt M, true), (decide (F [(0 : Nat) + (↑i : Int).toNat] < (0 : Int)), false), (decide (F [(0 : Nat) + (↑i : Int).toNat] ≥ (↑l : Int)), false), (decide ((↑i : Int) > (0 : Int)), true), (decide ((0 : Int) ≤ IntKind.i64.wrap ((↑i : Int) - (1 : Int)) ∧ IntKind.i64.wrap ((↑i : Int) - (1 : Int)) < (↑m : Int)), true), (((0 : Nat) + (IntKind.i64.wrap ((↑i : Int) - (1 : Int))).toNat).blt M, true), (((0 : Nat) + (IntKind.i64.wrap ((↑i : Int) - (1 : Int))).toNat).blt M, true), (decide (F [(0 : Nat) + (↑i : Int).toNat] ≤ F [(0 : Nat) + (IntKind.i64.wrap ((↑i : Int) - (1 : Int))).toNat]), false)] ∧ headOf Tryd.f59 (0 : Nat) = headOf Tryd.f59 (0 : Nat) ∧ ((0 : Nat) = (0 : Nat) ∧ ((0 : Nat) = (0 : Nat) ∧ m = m) ∧ (↑m : Int) = (↑m : Int) ∧ (↑(i + (1 : Nat)) : Int) = IntKind.i64.wrap ((↑i : Int) + (1 : Int))) ∧ k = k ∧ n = n ∧ ((0 : Nat) = (0 : Nat) ∧ l = l) ∧ (0 : Nat) = (0 : Nat) ∧ m = m) := by kernel_rfl

set_option maxHeartbeats 4000000 in
theorem md1 (k n : Int) (l m N M : Nat) (B F : Ix → Int) (i : Nat) (x p : Int) (hk : p < x ∧ x < l) (hi : i < m) (hx : F [i] = x) (hp : (i = 0 ∧ p = -1) ∨ (0 < i ∧ F [i - 1] = p ∧ 0 ≤ p)) (hM : m ≤ M) (hl : l ≤ 100000) (hm : m ≤ 100000)  (v : SV) (L' : HF) (next : RunsTo Tryd.prog 59 (headOf Tryd.f59 0) (envAt Tryd.f59.ntmps ([(1, vP 101), (6, vL 62 1 m), (7, vN m), (8, vN (i + 1 : Nat))])) (Sx.look (([⟨61, false, none, 1, .ta N (.vi .u8 B)⟩] ++ [⟨62, false, none, 1, .ta M (.vi .i64 F)⟩]) ++ ([⟨101, true, none, 123000004, (.tc (.vi .i64 fun _ => k) (.tc (.vi .i64 fun _ => n) (.tc (.vl 61 (fun _ => 0) 1 [] (fun _ => l)) (.tc (.vl 62 (fun _ => 0) 1 [] (fun _ => m)) .t0))))⟩]))) 80 (v) (L') 130) :
    RunsTo Tryd.prog 59 (headOf Tryd.f59 0) (envAt Tryd.f59.ntmps ([(1, vP 101), (6, vL 62 1 m), (7, vN m), (8, vN (i : Nat))])) (Sx.look (([⟨61, false, none, 1, .ta N (.vi .u8 B)⟩] ++ [⟨62, false, none, 1, .ta M (.vi .i64 F)⟩]) ++ ([⟨101, true, none, 123000004, (.tc (.vi .i64 fun _ => k) (.tc (.vi .i64 fun _ => n) (.tc (.vl 61 (fun _ => 0) 1 [] (fun _ => l)) (.tc (.vl 62 (fun _ => 0) 1 [] (fun _ => m)) .t0))))⟩]))) 80 (v) (L') 130 := by
  have hw : IntKind.i64.wrap ((i : Int) + 1) = ((i + 1 : Nat) : Int) := by rw [wr64 (by omega)]; rfl
  have hi0 : 0 + ((i : Nat) : Int).toNat = i := by simp
  have hi1 : 0 < i → IntKind.i64.wrap ((i : Int) - 1) = ((i - 1 : Nat) : Int) := fun h => by rw [wr64 (by omega)]; omega
  have hi2 : 0 < i → (0 + ((i - 1 : Nat) : Int).toNat) = i - 1 := fun h => by simp
  refine bcase (c := (decide ((↑i : Int) > (0 : Int)))) (fun gg0 => ?_) (fun gg0 => ?_)
  · refine runs_more baseO (More.of (md1_p0 k n l m N M B F i x p) ⟨?oo, rfl, ?rr⟩) (by kernel_rfl) (by kernel_rfl) rfl (gtL (by decide)) (by decide) next
    case oo =>
      clear next
      refine (okc ?_ (okc ?_ (okc ?_ (okc ?_ (okc ?_ (okc ?_ (okc gg0 okn)))))))
      all_goals ((try simp only [hi0, hx]); first | done | rfl | omega | (simp (disch := omega) only [SS, hi0, hx]; first | done | omega) | (rcases hp with ⟨h1, h2⟩ | ⟨h1, h2, h3⟩ <;> (first | (simp (disch := omega) only [SS, hi0, hx, hi1 h1, h2] at *; first | done | omega | (simp_all; done) | (simp_all; omega)) | (subst h1; simp (disch := omega) only [SS, hi0, hx] at *; first | done | omega | (simp_all; done) | (simp_all; omega)))))
    case rr =>
      clear next
      try simp (disch := omega) only [SS, hw]
      repeat' apply And.intro
      all_goals first | exact True.intro | with_reducible rfl | omega | (intros; first | exact True.intro | with_reducible rfl | omega | (simp_all; done)) | (simp_all; done) | rfl
  · refine runs_more baseO (More.of (md1_p1 k n l m N M B F i x p) ⟨?oo, rfl, ?rr⟩) (by kernel_rfl) (by kernel_rfl) rfl (gtL (by decide)) (by decide) next
    case oo =>
      clear next
      refine (okc ?_ (okc ?_ (okc ?_ (okc ?_ (okc ?_ (okc ?_ (okc gg0 (okc ?_ (okc ?_ (okc ?_ (okc ?_ okn)))))))))))
      all_goals ((try simp only [hi0, hx]); first | done | rfl | omega | (simp (disch := omega) only [SS, hi0, hx]; first | done | omega) | (rcases hp with ⟨h1, h2⟩ | ⟨h1, h2, h3⟩ <;> (first | (simp (disch := omega) only [SS, hi0, hx, hi1 h1, h2] at *; first | done | omega | (simp_all; done) | (simp_all; omega)) | (subst h1; simp (disch := omega) only [SS, hi0, hx] at *; first | done | omega | (simp_all; done) | (simp_all; omega)))))
    case rr =>
      clear next
      try simp (disch := omega) only [SS, hw]
      repeat' apply And.intro
      all_goals first | exact True.intro | with_reducible rfl | omega | (intros; first | exact True.intro | with_reducible rfl | omega | (simp_all; done)) | (simp_all; done) | rfl

theorem md2_p0 (k n : Int) (l m N M : Nat) (B F : Ix → Int) (i : Nat) (x p : Int) :
    isEnd (evTill Tryd.prog [] 300 (99) 900 59 (headOf Tryd.f59 0) (envAt Tryd.f59.ntmps ([(1, vP 101), (6, vL 62 1 m), (7, vN m), (8, vN (i : Nat))])) (([⟨61, false, none, 1, .ta N (.vi .u8 B)⟩] ++ [⟨62, false, none, 1, .ta M (.vi .i64 F)⟩]) ++ ([⟨101, true, none, 123000004, (.tc (.vi .i64 fun _ => k) (.tc (.vi .i64 fun _ => n) (.tc (.vl 61 (fun _ => 0) 1 [] (fun _ => l)) (.tc (.vl 62 (fun _ => 0) 1 [] (fun _ => m)) .t0))))⟩])) ⟨[.s true, .s true, .s true, .s true, .s false, .s false, .s true, .s true, .s true, .s true, .s true], 110⟩) (endP ([]) (vB false) ([]) 130) =
    (OkL [(decide ((↑i : Int) < (↑m : Int)), true), (decide ((0 : Int) ≤ (↑i : Int) ∧ (↑i : Int) < (↑m : Int)), true), (((0 : Nat) + (↑i : Int).toNat).blt M, true), (((0 : Nat) + (↑i : Int).toNat).blt M, true), (decide (F [(0 : Nat) + (↑i : Int).toNat] < (0 : Int)), false), (decide (F [(0 : Nat) + (↑i : Int).toNat] ≥ (↑l : Int)), false), (decide ((↑i : Int) > (0 : Int)), true), (decide ((0 : Int) ≤ IntKind.i64.wrap ((↑i : Int) - (1 : Int)) ∧ IntKind.i64.wrap ((↑i : Int) - (1 : Int)) < (↑m : Int)), true), (((0 : Nat) + (IntKind.i64.wrap ((↑i : Int) - (1 : Int))).toNat).blt M, true), (((0 : Nat) + (IntKind.i64.wrap ((↑i : Int) - (1 : Int))).toNat).blt M, true), (decide (F [(0 : Nat) + (↑i : Int).toNat] ≤ F [(0 : Nat) + (IntKind.i64.wrap ((↑i : Int) - (1 : Int))).toNat]), true)] ∧ false = false ∧ True) := by kernel_rfl
theorem md2_p1 (k n : Int) (l m N M : Nat) (B F : Ix → Int) (i : Nat) (x p : Int) :
    isEnd (evTill Tryd.prog [] 300 (99) 900 59 (headOf Tryd.f59 0) (envAt Tryd.f59.ntmps ([(1, vP 101), (6, vL 62 1 m), (7, vN m), (8, vN (i : Nat))])) (([⟨61, false, none, 1, .ta N (.vi .u8 B)⟩] ++ [⟨62, false, none, 1, .ta M (.vi .i64 F)⟩]) ++ ([⟨101, true, none, 123000004, (.tc (.vi .i64 fun _ => k) (.tc (.vi .i64 fun _ => n) (.tc (.vl 61 (fun _ => 0) 1 [] (fun _ => l)) (.tc (.vl 62 (fun _ => 0) 1 [] (fun _ => m)) .t0))))⟩])) ⟨[.s true, .s true, .s true, .s true, .s false, .s true], 110⟩) (endP ([]) (vB false) ([]) 130) =
    (OkL [(decide ((↑i : Int) < (↑m : Int)), true), (decide ((0 : Int) ≤ (↑i : Int) ∧ (↑i : Int) < (↑m : Int)), true), (((0 : Nat) + (↑i : Int).toNat).blt M, true), (((0 : Nat) + (↑i : Int).toNat).blt M, true), (decide (F [(0 : Nat) + (↑i : Int).toNat] < (0 : Int)), false), (decide (F [(0 : Nat) + (↑i : Int).toNat] ≥ (↑l : Int)), true)] ∧ false = false ∧ True) := by kernel_rfl
theorem md2_p2 (k n : Int) (l m N M : Nat) (B F : Ix → Int) (i : Nat) (x p : Int) :
    isEnd (evTill Tryd.prog [] 300 (99) 900 59 (headOf Tryd.f59 0) (envAt Tryd.f59.ntmps ([(1, vP 101), (6, vL 62 1 m), (7, vN m), (8, vN (i : Nat))])) (([⟨61, false, none, 1, .ta N (.vi .u8 B)⟩] ++ [⟨62, false, none, 1, .ta M (.vi .i64 F)⟩]) ++ ([⟨101, true, none, 123000004, (.tc (.vi .i64 fun _ => k) (.tc (.vi .i64 fun _ => n) (.tc (.vl 61 (fun _ => 0) 1 [] (fun _ => l)) (.tc (.vl 62 (fun _ => 0) 1 [] (fun _ => m)) .t0))))⟩])) ⟨[.s true, .s true, .s true, .s true, .s true], 110⟩) (endP ([]) (vB false) ([]) 130) =
    (OkL [(decide ((↑i : Int) < (↑m : Int)), true), (decide ((0 : Int) ≤ (↑i : Int) ∧ (↑i : Int) < (↑m : Int)), true), (((0 : Nat) + (↑i : Int).toNat).blt M, true), (((0 : Nat) + (↑i : Int).toNat).blt M, true), (decide (F [(0 : Nat) + (↑i : Int).toNat] < (0 : Int)), true)] ∧ false = false ∧ True) := by kernel_rfl

set_option maxHeartbeats 4000000 in
theorem md2 (k n : Int) (l m N M : Nat) (B F : Ix → Int) (i : Nat) (x p : Int) (hk : ¬ (p < x ∧ x < l)) (hi : i < m) (hx : F [i] = x) (hp : (i = 0 ∧ p = -1) ∨ (0 < i ∧ F [i - 1] = p ∧ 0 ≤ p)) (hM : m ≤ M) (hl : l ≤ 100000) (hm : m ≤ 100000)  :
    RunsTo Tryd.prog 59 (headOf Tryd.f59 0) (envAt Tryd.f59.ntmps ([(1, vP 101), (6, vL 62 1 m), (7, vN m), (8, vN (i : Nat))])) (Sx.look (([⟨61, false, none, 1, .ta N (.vi .u8 B)⟩] ++ [⟨62, false, none, 1, .ta M (.vi .i64 F)⟩]) ++ ([⟨101, true, none, 123000004, (.tc (.vi .i64 fun _ => k) (.tc (.vi .i64 fun _ => n) (.tc (.vl 61 (fun _ => 0) 1 [] (fun _ => l)) (.tc (.vl 62 (fun _ => 0) 1 [] (fun _ => m)) .t0))))⟩]))) 80 (vB false) (Sx.look ([])) 130 := by
  have hw : IntKind.i64.wrap ((i : Int) + 1) = ((i + 1 : Nat) : Int) := by rw [wr64 (by omega)]; rfl
  have hi0 : 0 + ((i : Nat) : Int).toNat = i := by simp
  have hi1 : 0 < i → IntKind.i64.wrap ((i : Int) - 1) = ((i - 1 : Nat) : Int) := fun h => by rw [wr64 (by omega)]; omega
  have hi2 : 0 < i → (0 + ((i - 1 : Nat) : Int).toNat) = i - 1 := fun h => by simp
  refine bcase (c := (decide (F [(0 : Nat) + (↑i : Int).toNat] < (0 : Int)))) (fun gg0 => ?_) (fun gg0 => ?_)
  · refine bcase (c := (decide (F [(0 : Nat) + (↑i : Int).toNat] ≥ (↑l : Int)))) (fun gg1 => ?_) (fun gg1 => ?_)
    · refine runs_last baseO (Sx.Ends.of (md2_p0 k n l m N M B F i x p) ⟨?oo, ?rr⟩) (by kernel_rfl) rfl (gtL (by decide)) (by decide)
      case oo =>
        refine (okc ?_ (okc ?_ (okc ?_ (okc ?_ (okc gg0 (okc gg1 (okc ?_ (okc ?_ (okc ?_ (okc ?_ (okc ?_ okn)))))))))))
        all_goals ((try simp only [hi0, hx]); first | done | rfl | omega | (simp (disch := omega) only [SS, hi0, hx]; first | done | omega) | (rcases hp with ⟨h1, h2⟩ | ⟨h1, h2, h3⟩ <;> (first | (simp (disch := omega) only [SS, hi0, hx, hi1 h1, h2] at *; first | done | omega | (simp_all; done) | (simp_all; omega)) | (subst h1; simp (disch := omega) only [SS, hi0, hx] at *; first | done | omega | (simp_all; done) | (simp_all; omega)))))
      case rr =>
        try simp (disch := omega) only [SS, hw]
        repeat' apply And.intro
        all_goals first | exact True.intro | with_reducible rfl | omega | (intros; first | exact True.intro | with_reducible rfl | omega | (simp_all; done)) | (simp_all; done) | rfl
    · refine runs_last baseO (Sx.Ends.of (md2_p1 k n l m N M B F i x p) ⟨?oo, ?rr⟩) (by kernel_rfl) rfl (gtL (by decide)) (by decide)
      case oo =>
        refine (okc ?_ (okc ?_ (okc ?_ (okc ?_ (okc gg0 (okc gg1 okn))))))
        all_goals ((try simp only [hi0, hx]); first | done | rfl | omega | (simp (disch := omega) only [SS, hi0, hx]; first | done | omega) | (rcases hp with ⟨h1, h2⟩ | ⟨h1, h2, h3⟩ <;> (first | (simp (disch := omega) only [SS, hi0, hx, hi1 h1, h2] at *; first | done | omega | (simp_all; done) | (simp_all; omega)) | (subst h1; simp (disch := omega) only [SS, hi0, hx] at *; first | done | omega | (simp_all; done) | (simp_all; omega)))))
      case rr =>
        try simp (disch := omega) only [SS, hw]
        repeat' apply And.intro
        all_goals first | exact True.intro | with_reducible rfl | omega | (intros; first | exact True.intro | with_reducible rfl | omega | (simp_all; done)) | (simp_all; done) | rfl
  · refine runs_last baseO (Sx.Ends.of (md2_p2 k n l m N M B F i x p) ⟨?oo, ?rr⟩) (by kernel_rfl) rfl (gtL (by decide)) (by decide)
    case oo =>
      refine (okc ?_ (okc ?_ (okc ?_ (okc ?_ (okc gg0 okn)))))
      all_goals ((try simp only [hi0, hx]); first | done | rfl | omega | (simp (disch := omega) only [SS, hi0, hx]; first | done | omega) | (rcases hp with ⟨h1, h2⟩ | ⟨h1, h2, h3⟩ <;> (first | (simp (disch := omega) only [SS, hi0, hx, hi1 h1, h2] at *; first | done | omega | (simp_all; done) | (simp_all; omega)) | (subst h1; simp (disch := omega) only [SS, hi0, hx] at *; first | done | omega | (simp_all; done) | (simp_all; omega)))))
    case rr =>
      try simp (disch := omega) only [SS, hw]
      repeat' apply And.intro
      all_goals first | exact True.intro | with_reducible rfl | omega | (intros; first | exact True.intro | with_reducible rfl | omega | (simp_all; done)) | (simp_all; done) | rfl

theorem md3_p0 (k n : Int) (l m N M : Nat) (B F : Ix → Int) (i : Nat) :
    isEnd (evTill Tryd.prog [] 300 (99) 900 59 (headOf Tryd.f59 0) (envAt Tryd.f59.ntmps ([(1, vP 101), (6, vL 62 1 m), (7, vN m), (8, vN (i : Nat))])) (([⟨61, false, none, 1, .ta N (.vi .u8 B)⟩] ++ [⟨62, false, none, 1, .ta M (.vi .i64 F)⟩]) ++ ([⟨101, true, none, 123000004, (.tc (.vi .i64 fun _ => k) (.tc (.vi .i64 fun _ => n) (.tc (.vl 61 (fun _ => 0) 1 [] (fun _ => l)) (.tc (.vl 62 (fun _ => 0) 1 [] (fun _ => m)) .t0))))⟩])) ⟨[.s false], 110⟩) (endP ([]) (YES) ([]) 130) =
    (OkL [(decide ((↑i : Int) < (↑m : Int)), false)] ∧ true = true ∧ True) := by kernel_rfl

set_option maxHeartbeats 4000000 in
theorem md3 (k n : Int) (l m N M : Nat) (B F : Ix → Int) (i : Nat) (hi : i = m)  :
    RunsTo Tryd.prog 59 (headOf Tryd.f59 0) (envAt Tryd.f59.ntmps ([(1, vP 101), (6, vL 62 1 m), (7, vN m), (8, vN (i : Nat))])) (Sx.look (([⟨61, false, none, 1, .ta N (.vi .u8 B)⟩] ++ [⟨62, false, none, 1, .ta M (.vi .i64 F)⟩]) ++ ([⟨101, true, none, 123000004, (.tc (.vi .i64 fun _ => k) (.tc (.vi .i64 fun _ => n) (.tc (.vl 61 (fun _ => 0) 1 [] (fun _ => l)) (.tc (.vl 62 (fun _ => 0) 1 [] (fun _ => m)) .t0))))⟩]))) 80 (YES) (Sx.look ([])) 130 := by
  refine runs_last baseO (Sx.Ends.of (md3_p0 k n l m N M B F i) ⟨?oo, ?rr⟩) (by kernel_rfl) rfl (gtL (by decide)) (by decide)
  case oo =>
    refine (okc ?_ okn)
    all_goals ((try simp (disch := omega) only [SS]); first | done | omega | assumption | (simp (disch := omega) only [SS] at *; first | done | omega | assumption) | (simp_all; done))
  case rr =>
    try simp (disch := omega) only [SS]
    repeat' apply And.intro
    all_goals first | exact True.intro | with_reducible rfl | omega | (intros; first | exact True.intro | with_reducible rfl | omega | (simp_all; done)) | (simp_all; done) | rfl

theorem mdT (k n : Int) (l m N M : Nat) (B F : Ix → Int) (hM : m ≤ M) (hl : l ≤ 100000) (hm : m ≤ 100000) : RunsTo Tryd.prog 59 [.code (bodyOf Tryd.f59)] (envOf [.agg (.tc (.vi .i64 fun _ => k) (.tc (.vi .i64 fun _ => n) (.tc (.vl 61 (fun _ => 0) 1 [] (fun _ => l)) (.tc (.vl 62 (fun _ => 0) 1 [] (fun _ => m)) .t0))))] Tryd.f59.ntmps) (Sx.look (([⟨61, false, none, 1, .ta N (.vi .u8 B)⟩] ++ [⟨62, false, none, 1, .ta M (.vi .i64 F)⟩]) ++ ([]))) 80 (vB (upR l (-1) (intsF F m))) (Sx.look []) 130 := by
  refine md0 k n l m N M B F hM hl hm _ _ ?_
  suffices q : ∀ (j i : Nat) (p : Int), i + j = m → ((i = 0 ∧ p = -1) ∨ (0 < i ∧ F [i - 1] = p ∧ 0 ≤ p)) → RunsTo Tryd.prog 59 (headOf Tryd.f59 0) (envAt Tryd.f59.ntmps ([(1, vP 101), (6, vL 62 1 m), (7, vN m), (8, vN (i : Nat))])) (Sx.look (([⟨61, false, none, 1, .ta N (.vi .u8 B)⟩] ++ [⟨62, false, none, 1, .ta M (.vi .i64 F)⟩]) ++ ([⟨101, true, none, 123000004, (.tc (.vi .i64 fun _ => k) (.tc (.vi .i64 fun _ => n) (.tc (.vl 61 (fun _ => 0) 1 [] (fun _ => l)) (.tc (.vl 62 (fun _ => 0) 1 [] (fun _ => m)) .t0))))⟩]))) 80 (vB (upR l p ((intsF F m).drop i))) (Sx.look []) 130 from by
    have := q m 0 (-1) (by omega) (.inl ⟨rfl, rfl⟩)
    simpa using this
  intro j
  induction j with
  | zero =>
    intro i p hi hp
    rw [List.drop_eq_nil_of_le (by rw [intsF_len]; omega)]
    exact md3 k n l m N M B F i (by omega)
  | succ j ih =>
    intro i p hi hp
    rw [intsF_drop F (show i < m by omega), upR]
    by_cases hk : p < F [i] ∧ F [i] < l
    · rw [decide_eq_true hk, Bool.true_and]
      exact md1 k n l m N M B F i (F [i]) p hk (by omega) rfl hp hM hl hm _ _ (ih (i + 1) (F [i]) (by omega) (.inr ⟨by omega, rfl, by omega⟩))
    · rw [decide_eq_false hk, Bool.false_and]
      exact md2 k n l m N M B F i (F [i]) p hk (by omega) rfl hp hM hl hm
def mdP : PC := { args := [.agg (.tc (.vi .i64 0) (.tc (.vi .i64 1) (.tc (.vl 61 1 2) (.tc (.vl 62 1 3) .t0))))], heap := [⟨61, false, 1, .ta 5 (.vi .u8 6)⟩, ⟨62, false, 1, .ta 7 (.vi .i64 8)⟩], gs := [], G := 24, tp := 194, n := 80, n' := 130, cond := fun e => decide (eN e 3 ≤ eN e 7) && (decide (eN e 2 ≤ 100000) && decide (eN e 3 ≤ 100000)), v := fun e => vB (upR (eN e 2 : Nat) (-1) (intsF (eI e 8) (eN e 3))), post := fun e => [] }
theorem mdP_pc : PC.Runs Tryd.prog 59 Tryd.f59 (bodyOf Tryd.f59) mdP := ⟨Tryd.func59, by kernel_rfl, (fun g hg => by first | (cases hg; done) | (revert g; show ∀ g ∈ ([] : List Nat), g < 24; decide)), fun e H hc => by
  have hc : (decide (eN e 3 ≤ eN e 7) && (decide (eN e 2 ≤ 100000) && decide (eN e 3 ≤ 100000))) = true := hc
  try simp only [Bool.and_eq_true, decide_eq_true_eq, Nat.beq_eq] at hc
  exact mdT (eI e 0 []) (eI e 1 []) (eN e 2) (eN e 3) (eN e 5) (eN e 7) (eI e 6) (eI e 8) hc.1 hc.2.1 hc.2.2⟩
def sumsRG : List (FuncId × Summ) := [(59, mdP.summ 48)]
theorem baseRG : Base0 Tryd.prog sumsRG := (baseO.cons Tryd.func59 (by kernel_rfl) (PC.summ_ok mdP_pc gtopG))
theorem rgT_p0 (k n : Int) (l m N M : Nat) (B F : Ix → Int) :
    isEnd (evTill Tryd.prog sumsRG 300 (99) 900 31 [.code (bodyOf Tryd.f31)] (envOf [.agg (.tc (.vi .i64 fun _ => k) (.tc (.vi .i64 fun _ => n) (.tc (.vl 61 (fun _ => 0) 1 [] (fun _ => l)) (.tc (.vl 62 (fun _ => 0) 1 [] (fun _ => m)) .t0))))] Tryd.f31.ntmps) (([⟨61, false, none, 1, .ta N (.vi .u8 B)⟩] ++ [⟨62, false, none, 1, .ta M (.vi .i64 F)⟩]) ++ ([])) ⟨[.s false, .s false, .s false, .s false], 80⟩) (endP ([]) (vB (rightV k n l m F)) ([]) 140) =
    (OkL [(k == (1 : Int), false), (k == (2 : Int), false), (k == (3 : Int), false), (k == (4 : Int), false)] ∧ rightV k n l m F = false ∧ True) := by kernel_rfl
theorem rgT_p1 (k n : Int) (l m N M : Nat) (B F : Ix → Int) :
    isEnd (evTill Tryd.prog sumsRG 300 (99) 900 31 [.code (bodyOf Tryd.f31)] (envOf [.agg (.tc (.vi .i64 fun _ => k) (.tc (.vi .i64 fun _ => n) (.tc (.vl 61 (fun _ => 0) 1 [] (fun _ => l)) (.tc (.vl 62 (fun _ => 0) 1 [] (fun _ => m)) .t0))))] Tryd.f31.ntmps) (([⟨61, false, none, 1, .ta N (.vi .u8 B)⟩] ++ [⟨62, false, none, 1, .ta M (.vi .i64 F)⟩]) ++ ([])) ⟨[.s false, .s false, .s false, .s true, .s false], 80⟩) (endP ([]) (vB (rightV k n l m F)) ([]) 140) =
    (OkL [(k == (1 : Int), false), (k == (2 : Int), false), (k == (3 : Int), false), (k == (4 : Int), true), (n == (0 : Int), false)] ∧ rightV k n l m F = false ∧ True) := by kernel_rfl
theorem rgT_p2 (k n : Int) (l m N M : Nat) (B F : Ix → Int) :
    isEnd (evTill Tryd.prog sumsRG 300 (99) 900 31 [.code (bodyOf Tryd.f31)] (envOf [.agg (.tc (.vi .i64 fun _ => k) (.tc (.vi .i64 fun _ => n) (.tc (.vl 61 (fun _ => 0) 1 [] (fun _ => l)) (.tc (.vl 62 (fun _ => 0) 1 [] (fun _ => m)) .t0))))] Tryd.f31.ntmps) (([⟨61, false, none, 1, .ta N (.vi .u8 B)⟩] ++ [⟨62, false, none, 1, .ta M (.vi .i64 F)⟩]) ++ ([])) ⟨[.s false, .s false, .s false, .s true, .s true], 80⟩) (endP ([]) (vB (rightV k n l m F)) ([]) 140) =
    (OkL [(k == (1 : Int), false), (k == (2 : Int), false), (k == (3 : Int), false), (k == (4 : Int), true), (n == (0 : Int), true)] ∧ rightV k n l m F = (IntKind.i64.wrap ((↑l : Int) + (↑m : Int)) == (0 : Int)) ∧ True) := by kernel_rfl
theorem rgT_p3 (k n : Int) (l m N M : Nat) (B F : Ix → Int) :
    isEnd (evTill Tryd.prog sumsRG 300 (99) 900 31 [.code (bodyOf Tryd.f31)] (envOf [.agg (.tc (.vi .i64 fun _ => k) (.tc (.vi .i64 fun _ => n) (.tc (.vl 61 (fun _ => 0) 1 [] (fun _ => l)) (.tc (.vl 62 (fun _ => 0) 1 [] (fun _ => m)) .t0))))] Tryd.f31.ntmps) (([⟨61, false, none, 1, .ta N (.vi .u8 B)⟩] ++ [⟨62, false, none, 1, .ta M (.vi .i64 F)⟩]) ++ ([])) ⟨[.s false, .s false, .s true, .s false], 80⟩) (endP ([]) (vB (rightV k n l m F)) ([]) 140) =
    (OkL [(k == (1 : Int), false), (k == (2 : Int), false), (k == (3 : Int), true), (decide (n ≥ (0 : Int)), false)] ∧ rightV k n l m F = false ∧ True) := by kernel_rfl
theorem rgT_p4 (k n : Int) (l m N M : Nat) (B F : Ix → Int) :
    isEnd (evTill Tryd.prog sumsRG 300 (99) 900 31 [.code (bodyOf Tryd.f31)] (envOf [.agg (.tc (.vi .i64 fun _ => k) (.tc (.vi .i64 fun _ => n) (.tc (.vl 61 (fun _ => 0) 1 [] (fun _ => l)) (.tc (.vl 62 (fun _ => 0) 1 [] (fun _ => m)) .t0))))] Tryd.f31.ntmps) (([⟨61, false, none, 1, .ta N (.vi .u8 B)⟩] ++ [⟨62, false, none, 1, .ta M (.vi .i64 F)⟩]) ++ ([])) ⟨[.s false, .s false, .s true, .s true, .s false], 80⟩) (endP ([]) (vB (rightV k n l m F)) ([]) 140) =
    (OkL [(k == (1 : Int), false), (k == (2 : Int), false), (k == (3 : Int), true), (decide (n ≥ (0 : Int)), true), (decide (n ≤ (9999 : Int)), false)] ∧ rightV k n l m F = false ∧ True) := by kernel_rfl
theorem rgT_p5 (k n : Int) (l m N M : Nat) (B F : Ix → Int) :
    isEnd (evTill Tryd.prog sumsRG 300 (99) 900 31 [.code (bodyOf Tryd.f31)] (envOf [.agg (.tc (.vi .i64 fun _ => k) (.tc (.vi .i64 fun _ => n) (.tc (.vl 61 (fun _ => 0) 1 [] (fun _ => l)) (.tc (.vl 62 (fun _ => 0) 1 [] (fun _ => m)) .t0))))] Tryd.f31.ntmps) (([⟨61, false, none, 1, .ta N (.vi .u8 B)⟩] ++ [⟨62, false, none, 1, .ta M (.vi .i64 F)⟩]) ++ ([])) ⟨[.s false, .s false, .s true, .s true, .s true], 80⟩) (endP ([]) (vB (rightV k n l m F)) ([]) 140) =
    (OkL [(k == (1 : Int), false), (k == (2 : Int), false), (k == (3 : Int), true), (decide (n ≥ (0 : Int)), true), (decide (n ≤ (9999 : Int)), true)] ∧ rightV k n l m F = (IntKind.i64.wrap ((↑l : Int) + (↑m : Int)) == (0 : Int)) ∧ True) := by kernel_rfl
theorem rgT_p6 (k n : Int) (l m N M : Nat) (B F : Ix → Int) :
    isEnd (evTill Tryd.prog sumsRG 300 (99) 900 31 [.code (bodyOf Tryd.f31)] (envOf [.agg (.tc (.vi .i64 fun _ => k) (.tc (.vi .i64 fun _ => n) (.tc (.vl 61 (fun _ => 0) 1 [] (fun _ => l)) (.tc (.vl 62 (fun _ => 0) 1 [] (fun _ => m)) .t0))))] Tryd.f31.ntmps) (([⟨61, false, none, 1, .ta N (.vi .u8 B)⟩] ++ [⟨62, false, none, 1, .ta M (.vi .i64 F)⟩]) ++ ([])) ⟨[.s false, .s true, .s true, .s false], 80⟩) (endP ([]) (vB (rightV k n l m F)) ([]) 140) =
    (OkL [(k == (1 : Int), false), (k == (2 : Int), true), (k == (2 : Int), true), (decide (n ≥ (0 : Int)), false)] ∧ rightV k n l m F = false ∧ True) := by kernel_rfl
theorem rgT_p7 (k n : Int) (l m N M : Nat) (B F : Ix → Int) :
    isEnd (evTill Tryd.prog sumsRG 300 (99) 900 31 [.code (bodyOf Tryd.f31)] (envOf [.agg (.tc (.vi .i64 fun _ => k) (.tc (.vi .i64 fun _ => n) (.tc (.vl 61 (fun _ => 0) 1 [] (fun _ => l)) (.tc (.vl 62 (fun _ => 0) 1 [] (fun _ => m)) .t0))))] Tryd.f31.ntmps) (([⟨61, false, none, 1, .ta N (.vi .u8 B)⟩] ++ [⟨62, false, none, 1, .ta M (.vi .i64 F)⟩]) ++ ([])) ⟨[.s false, .s true, .s true, .s true, .s false], 80⟩) (endP ([]) (vB (rightV k n l m F)) ([]) 140) =
    (OkL [(k == (1 : Int), false), (k == (2 : Int), true), (k == (2 : Int), true), (decide (n ≥ (0 : Int)), true), (decide (n ≤ (9999 : Int)), false)] ∧ rightV k n l m F = false ∧ True) := by kernel_rfl
theorem rgT_p8 (k n : Int) (l m N M : Nat) (B F : Ix → Int) :
    isEnd (evTill Tryd.prog sumsRG 300 (99) 900 31 [.code (bodyOf Tryd.f31)] (envOf [.agg (.tc (.vi .i64 fun _ => k) (.tc (.vi .i64 fun _ => n) (.tc (.vl 61 (fun _ => 0) 1 [] (fun _ => l)) (.tc (.vl 62 (fun _ => 0) 1 [] (fun _ => m)) .t0))))] Tryd.f31.ntmps) (([⟨61, false, none, 1, .ta N (.vi .u8 B)⟩] ++ [⟨62, false, none, 1, .ta M (.vi .i64 F)⟩]) ++ ([])) ⟨[.s false, .s true, .s true, .s true, .s true], 80⟩) (endP ([]) (vB (rightV k n l m F)) ([]) 140) =
    (OkL [(k == (1 : Int), false), (k == (2 : Int), true), (k == (2 : Int), true), (decide (n ≥ (0 : Int)), true), (decide (n ≤ (9999 : Int)), true)] ∧ rightV k n l m F = (IntKind.i64.wrap ((↑l : Int) + (↑m : Int)) == (0 : Int)) ∧ True) := by kernel_rfl
theorem rgT_p9 (k n : Int) (l m N M : Nat) (B F : Ix → Int) :
    isEnd (evTill Tryd.prog sumsRG 300 (99) 900 31 [.code (bodyOf Tryd.f31)] (envOf [.agg (.tc (.vi .i64 fun _ => k) (.tc (.vi .i64 fun _ => n) (.tc (.vl 61 (fun _ => 0) 1 [] (fun _ => l)) (.tc (.vl 62 (fun _ => 0) 1 [] (fun _ => m)) .t0))))] Tryd.f31.ntmps) (([⟨61, false, none, 1, .ta N (.vi .u8 B)⟩] ++ [⟨62, false, none, 1, .ta M (.vi .i64 F)⟩]) ++ ([])) ⟨[.s true, .s false], 80⟩) (endP ([]) (vB (rightV k n l m F)) ([]) 140) =
    (OkL [(k == (1 : Int), true), (n == (0 : Int), false)] ∧ rightV k n l m F = false ∧ True) := by kernel_rfl
theorem rgT_p10 (k n : Int) (l m N M : Nat) (B F : Ix → Int) :
    isEnd (evTill Tryd.prog sumsRG 300 (99) 900 31 [.code (bodyOf Tryd.f31)] (envOf [.agg (.tc (.vi .i64 fun _ => k) (.tc (.vi .i64 fun _ => n) (.tc (.vl 61 (fun _ => 0) 1 [] (fun _ => l)) (.tc (.vl 62 (fun _ => 0) 1 [] (fun _ => m)) .t0))))] Tryd.f31.ntmps) (([⟨61, false, none, 1, .ta N (.vi .u8 B)⟩] ++ [⟨62, false, none, 1, .ta M (.vi .i64 F)⟩]) ++ ([])) ⟨[.s true, .s true, .s false], 80⟩) (endP ([]) (vB (rightV k n l m F)) ([]) 140) =
    (OkL [(k == (1 : Int), true), (n == (0 : Int), true), (decide ((↑l : Int) ≤ (1024 : Int)), false)] ∧ rightV k n l m F = false ∧ True) := by kernel_rfl
theorem rgT_p11 (k n : Int) (l m N M : Nat) (B F : Ix → Int) :
    isEnd (evTill Tryd.prog sumsRG 300 (99) 900 31 [.code (bodyOf Tryd.f31)] (envOf [.agg (.tc (.vi .i64 fun _ => k) (.tc (.vi .i64 fun _ => n) (.tc (.vl 61 (fun _ => 0) 1 [] (fun _ => l)) (.tc (.vl 62 (fun _ => 0) 1 [] (fun _ => m)) .t0))))] Tryd.f31.ntmps) (([⟨61, false, none, 1, .ta N (.vi .u8 B)⟩] ++ [⟨62, false, none, 1, .ta M (.vi .i64 F)⟩]) ++ ([])) ⟨[.s true, .s true, .s true, .s true], 80⟩) (endP ([]) (vB (rightV k n l m F)) ([]) 140) =
    (OkL [(k == (1 : Int), true), (n == (0 : Int), true), (decide ((↑l : Int) ≤ (1024 : Int)), true), (decide (m ≤ M) && (decide (l ≤ (100000 : Nat)) && decide (m ≤ (100000 : Nat))), true)] ∧ rightV k n l m F = upR (↑l : Int) (-1 : Int) (intsF F m) ∧ True) := by kernel_rfl

set_option maxHeartbeats 4000000 in
theorem rgT (k n : Int) (l m N M : Nat) (B F : Ix → Int) (hM : m ≤ M) (hl : l ≤ 100000) (hm : m ≤ 100000)  :
    RunsTo Tryd.prog 31 [.code (bodyOf Tryd.f31)] (envOf [.agg (.tc (.vi .i64 fun _ => k) (.tc (.vi .i64 fun _ => n) (.tc (.vl 61 (fun _ => 0) 1 [] (fun _ => l)) (.tc (.vl 62 (fun _ => 0) 1 [] (fun _ => m)) .t0))))] Tryd.f31.ntmps) (Sx.look (([⟨61, false, none, 1, .ta N (.vi .u8 B)⟩] ++ [⟨62, false, none, 1, .ta M (.vi .i64 F)⟩]) ++ ([]))) 80 (vB (rightV k n l m F)) (Sx.look ([])) 140 := by
  have hw : IntKind.i64.wrap ((l : Int) + (m : Int)) = (l : Int) + (m : Int) := wr64 (by omega)
  refine bcase (c := (k == (1 : Int))) (fun gg0 => ?_) (fun gg0 => ?_)
  · refine bcase (c := (k == (2 : Int))) (fun gg1 => ?_) (fun gg1 => ?_)
    · refine bcase (c := (k == (3 : Int))) (fun gg2 => ?_) (fun gg2 => ?_)
      · refine bcase (c := (k == (4 : Int))) (fun gg3 => ?_) (fun gg3 => ?_)
        · refine runs_last baseRG (Sx.Ends.of (rgT_p0 k n l m N M B F) ⟨?oo, ?rr⟩) (by kernel_rfl) rfl (gtL (by decide)) (by decide)
          case oo =>
            refine (okc gg0 (okc gg1 (okc gg2 (okc gg3 okn))))
            all_goals ((try simp (disch := omega) only [SS, hw]); first | done | omega | assumption | (simp (disch := omega) only [SS, hw] at *; first | done | omega | assumption) | (simp_all; done))
          case rr =>
            refine ⟨?_, trivial⟩
            unfold rightV
            simp only [dT, dF, hw, ieqT, ieqF] at *
            first | (simp_all; done) | (simp_all; omega) | (rw [Bool.eq_iff_iff]; simp_all; omega) | (rw [Bool.eq_iff_iff]; simp only [hw, decide_eq_true_eq, beq_iff_eq, bne_iff_ne]; simp_all; omega)
        · refine bcase (c := (n == (0 : Int))) (fun gg4 => ?_) (fun gg4 => ?_)
          · refine runs_last baseRG (Sx.Ends.of (rgT_p1 k n l m N M B F) ⟨?oo, ?rr⟩) (by kernel_rfl) rfl (gtL (by decide)) (by decide)
            case oo =>
              refine (okc gg0 (okc gg1 (okc gg2 (okc gg3 (okc gg4 okn)))))
              all_goals ((try simp (disch := omega) only [SS, hw]); first | done | omega | assumption | (simp (disch := omega) only [SS, hw] at *; first | done | omega | assumption) | (simp_all; done))
            case rr =>
              refine ⟨?_, trivial⟩
              unfold rightV
              simp only [dT, dF, hw, ieqT, ieqF] at *
              first | (simp_all; done) | (simp_all; omega) | (rw [Bool.eq_iff_iff]; simp_all; omega) | (rw [Bool.eq_iff_iff]; simp only [hw, decide_eq_true_eq, beq_iff_eq, bne_iff_ne]; simp_all; omega)
          · refine runs_last baseRG (Sx.Ends.of (rgT_p2 k n l m N M B F) ⟨?oo, ?rr⟩) (by kernel_rfl) rfl (gtL (by decide)) (by decide)
            case oo =>
              refine (okc gg0 (okc gg1 (okc gg2 (okc gg3 (okc gg4 okn)))))
              all_goals ((try simp (disch := omega) only [SS, hw]); first | done | omega | assumption | (simp (disch := omega) only [SS, hw] at *; first | done | omega | assumption) | (simp_all; done))
            case rr =>
              refine ⟨?_, trivial⟩
              unfold rightV
              simp only [dT, dF, hw, ieqT, ieqF] at *
              first | (simp_all; done) | (simp_all; omega) | (rw [Bool.eq_iff_iff]; simp_all; omega) | (rw [Bool.eq_iff_iff]; simp only [hw, decide_eq_true_eq, beq_iff_eq, bne_iff_ne]; simp_all; omega)
      · refine bcase (c := (decide (n ≥ (0 : Int)))) (fun gg3 => ?_) (fun gg3 => ?_)
        · refine runs_last baseRG (Sx.Ends.of (rgT_p3 k n l m N M B F) ⟨?oo, ?rr⟩) (by kernel_rfl) rfl (gtL (by decide)) (by decide)
          case oo =>
            refine (okc gg0 (okc gg1 (okc gg2 (okc gg3 okn))))
            all_goals ((try simp (disch := omega) only [SS, hw]); first | done | omega | assumption | (simp (disch := omega) only [SS, hw] at *; first | done | omega | assumption) | (simp_all; done))
          case rr =>
            refine ⟨?_, trivial⟩
            unfold rightV
            simp only [dT, dF, hw, ieqT, ieqF] at *
            first | (simp_all; done) | (simp_all; omega) | (rw [Bool.eq_iff_iff]; simp_all; omega) | (rw [Bool.eq_iff_iff]; simp only [hw, decide_eq_true_eq, beq_iff_eq, bne_iff_ne]; simp_all; omega)
        · refine bcase (c := (decide (n ≤ (9999 : Int)))) (fun gg4 => ?_) (fun gg4 => ?_)
          · refine runs_last baseRG (Sx.Ends.of (rgT_p4 k n l m N M B F) ⟨?oo, ?rr⟩) (by kernel_rfl) rfl (gtL (by decide)) (by decide)
            case oo =>
              refine (okc gg0 (okc gg1 (okc gg2 (okc gg3 (okc gg4 okn)))))
              all_goals ((try simp (disch := omega) only [SS, hw]); first | done | omega | assumption | (simp (disch := omega) only [SS, hw] at *; first | done | omega | assumption) | (simp_all; done))
            case rr =>
              refine ⟨?_, trivial⟩
              unfold rightV
              simp only [dT, dF, hw, ieqT, ieqF] at *
              first | (simp_all; done) | (simp_all; omega) | (rw [Bool.eq_iff_iff]; simp_all; omega) | (rw [Bool.eq_iff_iff]; simp only [hw, decide_eq_true_eq, beq_iff_eq, bne_iff_ne]; simp_all; omega)
          · refine runs_last baseRG (Sx.Ends.of (rgT_p5 k n l m N M B F) ⟨?oo, ?rr⟩) (by kernel_rfl) rfl (gtL (by decide)) (by decide)
            case oo =>
              refine (okc gg0 (okc gg1 (okc gg2 (okc gg3 (okc gg4 okn)))))
              all_goals ((try simp (disch := omega) only [SS, hw]); first | done | omega | assumption | (simp (disch := omega) only [SS, hw] at *; first | done | omega | assumption) | (simp_all; done))
            case rr =>
              refine ⟨?_, trivial⟩
              unfold rightV
              simp only [dT, dF, hw, ieqT, ieqF] at *
              first | (simp_all; done) | (simp_all; omega) | (rw [Bool.eq_iff_iff]; simp_all; omega) | (rw [Bool.eq_iff_iff]; simp only [hw, decide_eq_true_eq, beq_iff_eq, bne_iff_ne]; simp_all; omega)
    · refine bcase (c := (decide (n ≥ (0 : Int)))) (fun gg2 => ?_) (fun gg2 => ?_)
      · refine runs_last baseRG (Sx.Ends.of (rgT_p6 k n l m N M B F) ⟨?oo, ?rr⟩) (by kernel_rfl) rfl (gtL (by decide)) (by decide)
        case oo =>
          refine (okc gg0 (okc gg1 (okc gg1 (okc gg2 okn))))
          all_goals ((try simp (disch := omega) only [SS, hw]); first | done | omega | assumption | (simp (disch := omega) only [SS, hw] at *; first | done | omega | assumption) | (simp_all; done))
        case rr =>
          refine ⟨?_, trivial⟩
          unfold rightV
          simp only [dT, dF, hw, ieqT, ieqF] at *
          first | (simp_all; done) | (simp_all; omega) | (rw [Bool.eq_iff_iff]; simp_all; omega) | (rw [Bool.eq_iff_iff]; simp only [hw, decide_eq_true_eq, beq_iff_eq, bne_iff_ne]; simp_all; omega)
      · refine bcase (c := (decide (n ≤ (9999 : Int)))) (fun gg3 => ?_) (fun gg3 => ?_)
        · refine runs_last baseRG (Sx.Ends.of (rgT_p7 k n l m N M B F) ⟨?oo, ?rr⟩) (by kernel_rfl) rfl (gtL (by decide)) (by decide)
          case oo =>
            refine (okc gg0 (okc gg1 (okc gg1 (okc gg2 (okc gg3 okn)))))
            all_goals ((try simp (disch := omega) only [SS, hw]); first | done | omega | assumption | (simp (disch := omega) only [SS, hw] at *; first | done | omega | assumption) | (simp_all; done))
          case rr =>
            refine ⟨?_, trivial⟩
            unfold rightV
            simp only [dT, dF, hw, ieqT, ieqF] at *
            first | (simp_all; done) | (simp_all; omega) | (rw [Bool.eq_iff_iff]; simp_all; omega) | (rw [Bool.eq_iff_iff]; simp only [hw, decide_eq_true_eq, beq_iff_eq, bne_iff_ne]; simp_all; omega)
        · refine runs_last baseRG (Sx.Ends.of (rgT_p8 k n l m N M B F) ⟨?oo, ?rr⟩) (by kernel_rfl) rfl (gtL (by decide)) (by decide)
          case oo =>
            refine (okc gg0 (okc gg1 (okc gg1 (okc gg2 (okc gg3 okn)))))
            all_goals ((try simp (disch := omega) only [SS, hw]); first | done | omega | assumption | (simp (disch := omega) only [SS, hw] at *; first | done | omega | assumption) | (simp_all; done))
          case rr =>
            refine ⟨?_, trivial⟩
            unfold rightV
            simp only [dT, dF, hw, ieqT, ieqF] at *
            first | (simp_all; done) | (simp_all; omega) | (rw [Bool.eq_iff_iff]; simp_all; omega) | (rw [Bool.eq_iff_iff]; simp only [hw, decide_eq_true_eq, beq_iff_eq, bne_iff_ne]; simp_all; omega)
  · refine bcase (c := (n == (0 : Int))) (fun gg1 => ?_) (fun gg1 => ?_)
    · refine runs_last baseRG (Sx.Ends.of (rgT_p9 k n l m N M B F) ⟨?oo, ?rr⟩) (by kernel_rfl) rfl (gtL (by decide)) (by decide)
      case oo =>
        refine (okc gg0 (okc gg1 okn))
        all_goals ((try simp (disch := omega) only [SS, hw]); first | done | omega | assumption | (simp (disch := omega) only [SS, hw] at *; first | done | omega | assumption) | (simp_all; done))
      case rr =>
        refine ⟨?_, trivial⟩
        unfold rightV
        simp only [dT, dF, hw, ieqT, ieqF] at *
        first | (simp_all; done) | (simp_all; omega) | (rw [Bool.eq_iff_iff]; simp_all; omega) | (rw [Bool.eq_iff_iff]; simp only [hw, decide_eq_true_eq, beq_iff_eq, bne_iff_ne]; simp_all; omega)
    · refine bcase (c := (decide ((↑l : Int) ≤ (1024 : Int)))) (fun gg2 => ?_) (fun gg2 => ?_)
      · refine runs_last baseRG (Sx.Ends.of (rgT_p10 k n l m N M B F) ⟨?oo, ?rr⟩) (by kernel_rfl) rfl (gtL (by decide)) (by decide)
        case oo =>
          refine (okc gg0 (okc gg1 (okc gg2 okn)))
          all_goals ((try simp (disch := omega) only [SS, hw]); first | done | omega | assumption | (simp (disch := omega) only [SS, hw] at *; first | done | omega | assumption) | (simp_all; done))
        case rr =>
          refine ⟨?_, trivial⟩
          unfold rightV
          simp only [dT, dF, hw, ieqT, ieqF] at *
          first | (simp_all; done) | (simp_all; omega) | (rw [Bool.eq_iff_iff]; simp_all; omega) | (rw [Bool.eq_iff_iff]; simp only [hw, decide_eq_true_eq, beq_iff_eq, bne_iff_ne]; simp_all; omega)
      · refine runs_last baseRG (Sx.Ends.of (rgT_p11 k n l m N M B F) ⟨?oo, ?rr⟩) (by kernel_rfl) rfl (gtL (by decide)) (by decide)
        case oo =>
          refine (okc gg0 (okc gg1 (okc gg2 (okc ?_ okn))))
          all_goals ((try simp (disch := omega) only [SS, hw]); first | done | omega | assumption | (simp (disch := omega) only [SS, hw] at *; first | done | omega | assumption) | (simp_all; done))
        case rr =>
          refine ⟨?_, trivial⟩
          unfold rightV
          simp only [dT, dF, hw, ieqT, ieqF] at *
          first | (simp_all; done) | (simp_all; omega) | (rw [Bool.eq_iff_iff]; simp_all; omega) | (rw [Bool.eq_iff_iff]; simp only [hw, decide_eq_true_eq, beq_iff_eq, bne_iff_ne]; simp_all; omega)

def rgP : PC := { args := [.agg (.tc (.vi .i64 0) (.tc (.vi .i64 1) (.tc (.vl 61 1 2) (.tc (.vl 62 1 3) .t0))))], heap := [⟨61, false, 1, .ta 5 (.vi .u8 6)⟩, ⟨62, false, 1, .ta 7 (.vi .i64 8)⟩], gs := [], G := 24, tp := 194, n := 80, n' := 140, cond := fun e => decide (eN e 3 ≤ eN e 7) && (decide (eN e 2 ≤ 100000) && decide (eN e 3 ≤ 100000)), v := fun e => vB (rightV (eI e 0 []) (eI e 1 []) (eN e 2) (eN e 3) (eI e 8)), post := fun e => [] }
theorem rgP_pc : PC.Runs Tryd.prog 31 Tryd.f31 (bodyOf Tryd.f31) rgP := ⟨Tryd.func31, by kernel_rfl, (fun g hg => by first | (cases hg; done) | (revert g; show ∀ g ∈ ([] : List Nat), g < 24; decide)), fun e H hc => by
  have hc : (decide (eN e 3 ≤ eN e 7) && (decide (eN e 2 ≤ 100000) && decide (eN e 3 ≤ 100000))) = true := hc
  try simp only [Bool.and_eq_true, decide_eq_true_eq, Nat.beq_eq] at hc
  exact rgT (eI e 0 []) (eI e 1 []) (eN e 2) (eN e 3) (eN e 5) (eN e 7) (eI e 6) (eI e 8) hc.1 hc.2.1 hc.2.2⟩
end Go.Proofs.YtankmgnjkcgpaaaDoor

set_option linter.unusedSimpArgs false
set_option linter.unusedVariables false
set_option maxRecDepth 100000
namespace Go.Proofs.YtankmgnjkcgpaaaDoor
open Go.Sx

open RawR
theorem toldR_len (b : List UInt8) : (toldR b).length ≤ 2 * b.length + 1 := by
  have := hexT_len b
  unfold toldR
  split
  · simp
  · show (hexT b).length ≤ _
    omega
theorem all_loop {ok : Nat → Bool} {n : Nat} {R : Nat → Bool → Prop} (step : ∀ i, i < n → ok i = true → ∀ b, R (i + 1) b → R i b) (stop : ∀ i, i < n → ok i = false → R i false) (fin : R n true) : R 0 ((List.range n).all ok) := by
  suffices q : ∀ (k i : Nat), i + k = n → R i ((List.range' i k).all ok) from by
    have := q n 0 (by omega); rwa [← List.range_eq_range'] at this
  intro k
  induction k with
  | zero => intro i hi; rw [show i = n by omega]; simpa using fin
  | succ k ih =>
    intro i hi
    rw [List.range'_succ, List.all_cons]
    cases h : ok i with
    | true => rw [Bool.true_and]; exact step i (by omega) h _ (ih (i + 1) (by omega))
    | false => rw [Bool.false_and]; exact stop i (by omega) h
def sumsLN : List (FuncId × Summ) := [(31, rgP.summ 48), (61, tdP.summ 48), (62, plP.summ 48), (60, zitP.summ 48)]
theorem baseLN : Base0 Tryd.prog sumsLN := ((((baseO.cons Tryd.func60 (by kernel_rfl) (PC.summ_ok zitP_pc gtopG)).cons Tryd.func62 (by kernel_rfl) (PC.summ_ok plP_pc gtopG)).cons Tryd.func61 (by kernel_rfl) (PC.summ_ok tdP_pc gtopG)).cons Tryd.func31 (by kernel_rfl) (PC.summ_ok rgP_pc gtopG))
theorem ln0_p0 (k n : Int) (l m N M : Nat) (B F P : Ix → Int) :
    isEnd (evTill Tryd.prog sumsLN 400 (99) 900 32 [.code (bodyOf Tryd.f32)] (envOf [.agg (.tc (.vi .i64 fun _ => k) (.tc (.vi .i64 fun _ => n) (.tc (.vl 61 (fun _ => 0) 1 [] (fun _ => l)) (.tc (.vl 62 (fun _ => 0) 1 [] (fun _ => m)) .t0))))] Tryd.f32.ntmps) ((([⟨61, false, none, 1, .ta N (.vi .u8 B)⟩] ++ [⟨62, false, none, 1, .ta M (.vi .i64 F)⟩]) ++ pwF P) ++ ([])) ⟨[.s true, .s true], 80⟩) (endP ([]) (vS ([])) ([]) 300) =
    (OkL [(decide (m ≤ M) && (decide (l ≤ (100000 : Nat)) && decide (m ≤ (100000 : Nat))), true), (!rightV k n l m F, true)] ∧ ([] : List UInt8) = [] ∧ True) := by kernel_rfl

set_option maxHeartbeats 4000000 in
theorem ln0 (k n : Int) (l m N M : Nat) (B F P : Ix → Int) (hr : rightV k n l m F = false) (hM : m ≤ M) (hN : l ≤ N) (hl : l ≤ 100000) (hm : m ≤ 1000) (hB : bndB B l = true) (hF : rangeI F m = true) (hP : pwOK P = true) (hn : inN n = true)  :
    RunsTo Tryd.prog 32 [.code (bodyOf Tryd.f32)] (envOf [.agg (.tc (.vi .i64 fun _ => k) (.tc (.vi .i64 fun _ => n) (.tc (.vl 61 (fun _ => 0) 1 [] (fun _ => l)) (.tc (.vl 62 (fun _ => 0) 1 [] (fun _ => m)) .t0))))] Tryd.f32.ntmps) (Sx.look ((([⟨61, false, none, 1, .ta N (.vi .u8 B)⟩] ++ [⟨62, false, none, 1, .ta M (.vi .i64 F)⟩]) ++ pwF P) ++ ([]))) 80 (vS ([])) (Sx.look ([])) 300 := by
  have q1 := itoa_len hn
  have q2 := toldR_len (lenB B l)
  rw [lenB_len] at q2
  have q3 : (placesR (intsF F m)).length ≤ 22 * m := by have := joinR_le 44 ((intsF F m).map Lib.itoa) (fun a ha => by obtain ⟨x, hx, rfl⟩ := List.mem_map.1 ha; obtain ⟨j, hj, rfl⟩ := List.mem_map.1 hx; exact itoa_len (rangeI_at hF (List.mem_range.1 hj))); rw [List.length_map, intsF_len] at this; exact this
  refine runs_last baseLN (Sx.Ends.of (ln0_p0 k n l m N M B F P) ⟨?oo, ?rr⟩) (by kernel_rfl) rfl (gtL (by decide)) (by decide)
  case oo =>
    refine (okc ?_ (okc ?_ okn))
    all_goals ((try simp only [hr]); first | done | rfl | omega | assumption | exact ⟨hP, hn⟩ | exact ⟨hM, by omega, by omega⟩ | exact ⟨hN, hl, hB⟩ | exact ⟨hM, hm, hP, hF⟩ | (simp (disch := omega) only [SS, hr, List.length_append, List.length_cons, List.length_nil]; first | done | omega | assumption | exact ⟨hP, hn⟩ | exact ⟨hM, by omega, by omega⟩ | exact ⟨hN, hl, hB⟩ | exact ⟨hM, hm, hP, hF⟩) | (simp_all; done) | (simp_all; omega))
  case rr =>
    exact ⟨rfl, trivial⟩

theorem ln2_p0 (k n : Int) (l m N M : Nat) (B F P : Ix → Int) :
    isEnd (evTill Tryd.prog sumsLN 400 (99) 900 32 [.code (bodyOf Tryd.f32)] (envOf [.agg (.tc (.vi .i64 fun _ => k) (.tc (.vi .i64 fun _ => n) (.tc (.vl 61 (fun _ => 0) 1 [] (fun _ => l)) (.tc (.vl 62 (fun _ => 0) 1 [] (fun _ => m)) .t0))))] Tryd.f32.ntmps) ((([⟨61, false, none, 1, .ta N (.vi .u8 B)⟩] ++ [⟨62, false, none, 1, .ta M (.vi .i64 F)⟩]) ++ pwF P) ++ ([])) ⟨[.s true, .s false, .s true, .s true, .s true], 80⟩) (endP ([]) (vS ([103, 114, 97, 110, 116, 32] ++ Lib.itoa n)) ([]) 300) =
    (OkL [(decide (m ≤ M) && (decide (l ≤ (100000 : Nat)) && decide (m ≤ (100000 : Nat))), true), (!rightV k n l m F, false), (k == (2 : Int), true), (pwOK P && inN n, true), (decide ((6 : Nat) + (Lib.itoa n).length ≤ (9223372036854775807 : Nat)), true)] ∧ [(103 : UInt8), (114 : UInt8), (97 : UInt8), (110 : UInt8), (116 : UInt8), (32 : UInt8)] ++ Lib.itoa n = [(103 : UInt8), (114 : UInt8), (97 : UInt8), (110 : UInt8), (116 : UInt8), (32 : UInt8)] ++ Lib.itoa n ∧ True) := by kernel_rfl

set_option maxHeartbeats 4000000 in
theorem ln2 (k n : Int) (l m N M : Nat) (B F P : Ix → Int) (hk : k = 2) (hr : rightV k n l m F = true) (hM : m ≤ M) (hN : l ≤ N) (hl : l ≤ 100000) (hm : m ≤ 1000) (hB : bndB B l = true) (hF : rangeI F m = true) (hP : pwOK P = true) (hn : inN n = true)  :
    RunsTo Tryd.prog 32 [.code (bodyOf Tryd.f32)] (envOf [.agg (.tc (.vi .i64 fun _ => k) (.tc (.vi .i64 fun _ => n) (.tc (.vl 61 (fun _ => 0) 1 [] (fun _ => l)) (.tc (.vl 62 (fun _ => 0) 1 [] (fun _ => m)) .t0))))] Tryd.f32.ntmps) (Sx.look ((([⟨61, false, none, 1, .ta N (.vi .u8 B)⟩] ++ [⟨62, false, none, 1, .ta M (.vi .i64 F)⟩]) ++ pwF P) ++ ([]))) 80 (vS ([103, 114, 97, 110, 116, 32] ++ Lib.itoa n)) (Sx.look ([])) 300 := by
  have q1 := itoa_len hn
  have q2 := toldR_len (lenB B l)
  rw [lenB_len] at q2
  have q3 : (placesR (intsF F m)).length ≤ 22 * m := by have := joinR_le 44 ((intsF F m).map Lib.itoa) (fun a ha => by obtain ⟨x, hx, rfl⟩ := List.mem_map.1 ha; obtain ⟨j, hj, rfl⟩ := List.mem_map.1 hx; exact itoa_len (rangeI_at hF (List.mem_range.1 hj))); rw [List.length_map, intsF_len] at this; exact this
  refine runs_last baseLN (Sx.Ends.of (ln2_p0 k n l m N M B F P) ⟨?oo, ?rr⟩) (by kernel_rfl) rfl (gtL (by decide)) (by decide)
  case oo =>
    refine (okc ?_ (okc ?_ (okc ?_ (okc ?_ (okc ?_ okn)))))
    all_goals ((try simp only [hr]); first | done | rfl | omega | assumption | exact ⟨hP, hn⟩ | exact ⟨hM, by omega, by omega⟩ | exact ⟨hN, hl, hB⟩ | exact ⟨hM, hm, hP, hF⟩ | (simp (disch := omega) only [SS, hr, List.length_append, List.length_cons, List.length_nil]; first | done | omega | assumption | exact ⟨hP, hn⟩ | exact ⟨hM, by omega, by omega⟩ | exact ⟨hN, hl, hB⟩ | exact ⟨hM, hm, hP, hF⟩) | (simp_all; done) | (simp_all; omega))
  case rr =>
    exact ⟨rfl, trivial⟩

theorem ln3_p0 (k n : Int) (l m N M : Nat) (B F P : Ix → Int) :
    isEnd (evTill Tryd.prog sumsLN 400 (99) 900 32 [.code (bodyOf Tryd.f32)] (envOf [.agg (.tc (.vi .i64 fun _ => k) (.tc (.vi .i64 fun _ => n) (.tc (.vl 61 (fun _ => 0) 1 [] (fun _ => l)) (.tc (.vl 62 (fun _ => 0) 1 [] (fun _ => m)) .t0))))] Tryd.f32.ntmps) ((([⟨61, false, none, 1, .ta N (.vi .u8 B)⟩] ++ [⟨62, false, none, 1, .ta M (.vi .i64 F)⟩]) ++ pwF P) ++ ([])) ⟨[.s true, .s false, .s false, .s true, .s true, .s true], 80⟩) (endP ([]) (vS ([116, 105, 99, 107, 32] ++ Lib.itoa n)) ([]) 300) =
    (OkL [(decide (m ≤ M) && (decide (l ≤ (100000 : Nat)) && decide (m ≤ (100000 : Nat))), true), (!rightV k n l m F, false), (k == (2 : Int), false), (k == (3 : Int), true), (pwOK P && inN n, true), (decide ((5 : Nat) + (Lib.itoa n).length ≤ (9223372036854775807 : Nat)), true)] ∧ [(116 : UInt8), (105 : UInt8), (99 : UInt8), (107 : UInt8), (32 : UInt8)] ++ Lib.itoa n = [(116 : UInt8), (105 : UInt8), (99 : UInt8), (107 : UInt8), (32 : UInt8)] ++ Lib.itoa n ∧ True) := by kernel_rfl

set_option maxHeartbeats 4000000 in
theorem ln3 (k n : Int) (l m N M : Nat) (B F P : Ix → Int) (hk : k = 3) (hr : rightV k n l m F = true) (hM : m ≤ M) (hN : l ≤ N) (hl : l ≤ 100000) (hm : m ≤ 1000) (hB : bndB B l = true) (hF : rangeI F m = true) (hP : pwOK P = true) (hn : inN n = true)  :
    RunsTo Tryd.prog 32 [.code (bodyOf Tryd.f32)] (envOf [.agg (.tc (.vi .i64 fun _ => k) (.tc (.vi .i64 fun _ => n) (.tc (.vl 61 (fun _ => 0) 1 [] (fun _ => l)) (.tc (.vl 62 (fun _ => 0) 1 [] (fun _ => m)) .t0))))] Tryd.f32.ntmps) (Sx.look ((([⟨61, false, none, 1, .ta N (.vi .u8 B)⟩] ++ [⟨62, false, none, 1, .ta M (.vi .i64 F)⟩]) ++ pwF P) ++ ([]))) 80 (vS ([116, 105, 99, 107, 32] ++ Lib.itoa n)) (Sx.look ([])) 300 := by
  have q1 := itoa_len hn
  have q2 := toldR_len (lenB B l)
  rw [lenB_len] at q2
  have q3 : (placesR (intsF F m)).length ≤ 22 * m := by have := joinR_le 44 ((intsF F m).map Lib.itoa) (fun a ha => by obtain ⟨x, hx, rfl⟩ := List.mem_map.1 ha; obtain ⟨j, hj, rfl⟩ := List.mem_map.1 hx; exact itoa_len (rangeI_at hF (List.mem_range.1 hj))); rw [List.length_map, intsF_len] at this; exact this
  refine runs_last baseLN (Sx.Ends.of (ln3_p0 k n l m N M B F P) ⟨?oo, ?rr⟩) (by kernel_rfl) rfl (gtL (by decide)) (by decide)
  case oo =>
    refine (okc ?_ (okc ?_ (okc ?_ (okc ?_ (okc ?_ (okc ?_ okn))))))
    all_goals ((try simp only [hr]); first | done | rfl | omega | assumption | exact ⟨hP, hn⟩ | exact ⟨hM, by omega, by omega⟩ | exact ⟨hN, hl, hB⟩ | exact ⟨hM, hm, hP, hF⟩ | (simp (disch := omega) only [SS, hr, List.length_append, List.length_cons, List.length_nil]; first | done | omega | assumption | exact ⟨hP, hn⟩ | exact ⟨hM, by omega, by omega⟩ | exact ⟨hN, hl, hB⟩ | exact ⟨hM, hm, hP, hF⟩) | (simp_all; done) | (simp_all; omega))
  case rr =>
    exact ⟨rfl, trivial⟩

theorem ln4_p0 (k n : Int) (l m N M : Nat) (B F P : Ix → Int) :
    isEnd (evTill Tryd.prog sumsLN 400 (99) 900 32 [.code (bodyOf Tryd.f32)] (envOf [.agg (.tc (.vi .i64 fun _ => k) (.tc (.vi .i64 fun _ => n) (.tc (.vl 61 (fun _ => 0) 1 [] (fun _ => l)) (.tc (.vl 62 (fun _ => 0) 1 [] (fun _ => m)) .t0))))] Tryd.f32.ntmps) ((([⟨61, false, none, 1, .ta N (.vi .u8 B)⟩] ++ [⟨62, false, none, 1, .ta M (.vi .i64 F)⟩]) ++ pwF P) ++ ([])) ⟨[.s true, .s false, .s false, .s false, .s true], 80⟩) (endP ([]) (vS ([99, 108, 111, 115, 101])) ([]) 300) =
    (OkL [(decide (m ≤ M) && (decide (l ≤ (100000 : Nat)) && decide (m ≤ (100000 : Nat))), true), (!rightV k n l m F, false), (k == (2 : Int), false), (k == (3 : Int), false), (k == (4 : Int), true)] ∧ [(99 : UInt8), (108 : UInt8), (111 : UInt8), (115 : UInt8), (101 : UInt8)] = [(99 : UInt8), (108 : UInt8), (111 : UInt8), (115 : UInt8), (101 : UInt8)] ∧ True) := by kernel_rfl

set_option maxHeartbeats 4000000 in
theorem ln4 (k n : Int) (l m N M : Nat) (B F P : Ix → Int) (hk : k = 4) (hr : rightV k n l m F = true) (hM : m ≤ M) (hN : l ≤ N) (hl : l ≤ 100000) (hm : m ≤ 1000) (hB : bndB B l = true) (hF : rangeI F m = true) (hP : pwOK P = true) (hn : inN n = true)  :
    RunsTo Tryd.prog 32 [.code (bodyOf Tryd.f32)] (envOf [.agg (.tc (.vi .i64 fun _ => k) (.tc (.vi .i64 fun _ => n) (.tc (.vl 61 (fun _ => 0) 1 [] (fun _ => l)) (.tc (.vl 62 (fun _ => 0) 1 [] (fun _ => m)) .t0))))] Tryd.f32.ntmps) (Sx.look ((([⟨61, false, none, 1, .ta N (.vi .u8 B)⟩] ++ [⟨62, false, none, 1, .ta M (.vi .i64 F)⟩]) ++ pwF P) ++ ([]))) 80 (vS ([99, 108, 111, 115, 101])) (Sx.look ([])) 300 := by
  have q1 := itoa_len hn
  have q2 := toldR_len (lenB B l)
  rw [lenB_len] at q2
  have q3 : (placesR (intsF F m)).length ≤ 22 * m := by have := joinR_le 44 ((intsF F m).map Lib.itoa) (fun a ha => by obtain ⟨x, hx, rfl⟩ := List.mem_map.1 ha; obtain ⟨j, hj, rfl⟩ := List.mem_map.1 hx; exact itoa_len (rangeI_at hF (List.mem_range.1 hj))); rw [List.length_map, intsF_len] at this; exact this
  refine runs_last baseLN (Sx.Ends.of (ln4_p0 k n l m N M B F P) ⟨?oo, ?rr⟩) (by kernel_rfl) rfl (gtL (by decide)) (by decide)
  case oo =>
    refine (okc ?_ (okc ?_ (okc ?_ (okc ?_ (okc ?_ okn)))))
    all_goals ((try simp only [hr]); first | done | rfl | omega | assumption | exact ⟨hP, hn⟩ | exact ⟨hM, by omega, by omega⟩ | exact ⟨hN, hl, hB⟩ | exact ⟨hM, hm, hP, hF⟩ | (simp (disch := omega) only [SS, hr, List.length_append, List.length_cons, List.length_nil]; first | done | omega | assumption | exact ⟨hP, hn⟩ | exact ⟨hM, by omega, by omega⟩ | exact ⟨hN, hl, hB⟩ | exact ⟨hM, hm, hP, hF⟩) | (simp_all; done) | (simp_all; omega))
  case rr =>
    exact ⟨rfl, trivial⟩

theorem ln1_p0 (k n : Int) (l m N M : Nat) (B F P : Ix → Int) :
    isEnd (evTill Tryd.prog sumsLN 400 (99) 900 32 [.code (bodyOf Tryd.f32)] (envOf [.agg (.tc (.vi .i64 fun _ => k) (.tc (.vi .i64 fun _ => n) (.tc (.vl 61 (fun _ => 0) 1 [] (fun _ => l)) (.tc (.vl 62 (fun _ => 0) 1 [] (fun _ => m)) .t0))))] Tryd.f32.ntmps) ((([⟨61, false, none, 1, .ta N (.vi .u8 B)⟩] ++ [⟨62, false, none, 1, .ta M (.vi .i64 F)⟩]) ++ pwF P) ++ ([])) ⟨[.s true, .s false, .s false, .s false, .s false, .s true, .s true, .s true], 80⟩) (endP ([]) (vS ([98, 121, 116, 101, 115, 32] ++ toldR (lenB B l))) ([]) 300) =
    (OkL [(decide (m ≤ M) && (decide (l ≤ (100000 : Nat)) && decide (m ≤ (100000 : Nat))), true), (!rightV k n l m F, false), (k == (2 : Int), false), (k == (3 : Int), false), (k == (4 : Int), false), ((↑m : Int) == (0 : Int), true), (decide (l ≤ N) && (decide (l ≤ (100000 : Nat)) && bndB B l), true), (decide ((6 : Nat) + (toldR (lenB B l)).length ≤ (9223372036854775807 : Nat)), true)] ∧ [(98 : UInt8), (121 : UInt8), (116 : UInt8), (101 : UInt8), (115 : UInt8), (32 : UInt8)] ++ toldR (lenB B l) = [(98 : UInt8), (121 : UInt8), (116 : UInt8), (101 : UInt8), (115 : UInt8), (32 : UInt8)] ++ toldR (lenB B l) ∧ True) := by kernel_rfl

set_option maxHeartbeats 4000000 in
theorem ln1 (k n : Int) (l m N M : Nat) (B F P : Ix → Int) (hk : k = 1) (h0 : m = 0) (hr : rightV k n l m F = true) (hM : m ≤ M) (hN : l ≤ N) (hl : l ≤ 100000) (hm : m ≤ 1000) (hB : bndB B l = true) (hF : rangeI F m = true) (hP : pwOK P = true) (hn : inN n = true)  :
    RunsTo Tryd.prog 32 [.code (bodyOf Tryd.f32)] (envOf [.agg (.tc (.vi .i64 fun _ => k) (.tc (.vi .i64 fun _ => n) (.tc (.vl 61 (fun _ => 0) 1 [] (fun _ => l)) (.tc (.vl 62 (fun _ => 0) 1 [] (fun _ => m)) .t0))))] Tryd.f32.ntmps) (Sx.look ((([⟨61, false, none, 1, .ta N (.vi .u8 B)⟩] ++ [⟨62, false, none, 1, .ta M (.vi .i64 F)⟩]) ++ pwF P) ++ ([]))) 80 (vS ([98, 121, 116, 101, 115, 32] ++ toldR (lenB B l))) (Sx.look ([])) 300 := by
  have q1 := itoa_len hn
  have q2 := toldR_len (lenB B l)
  rw [lenB_len] at q2
  have q3 : (placesR (intsF F m)).length ≤ 22 * m := by have := joinR_le 44 ((intsF F m).map Lib.itoa) (fun a ha => by obtain ⟨x, hx, rfl⟩ := List.mem_map.1 ha; obtain ⟨j, hj, rfl⟩ := List.mem_map.1 hx; exact itoa_len (rangeI_at hF (List.mem_range.1 hj))); rw [List.length_map, intsF_len] at this; exact this
  refine runs_last baseLN (Sx.Ends.of (ln1_p0 k n l m N M B F P) ⟨?oo, ?rr⟩) (by kernel_rfl) rfl (gtL (by decide)) (by decide)
  case oo =>
    refine (okc ?_ (okc ?_ (okc ?_ (okc ?_ (okc ?_ (okc ?_ (okc ?_ (okc ?_ okn))))))))
    all_goals ((try simp only [hr]); first | done | rfl | omega | assumption | exact ⟨hP, hn⟩ | exact ⟨hM, by omega, by omega⟩ | exact ⟨hN, hl, hB⟩ | exact ⟨hM, hm, hP, hF⟩ | (simp (disch := omega) only [SS, hr, List.length_append, List.length_cons, List.length_nil]; first | done | omega | assumption | exact ⟨hP, hn⟩ | exact ⟨hM, by omega, by omega⟩ | exact ⟨hN, hl, hB⟩ | exact ⟨hM, hm, hP, hF⟩) | (simp_all; done) | (simp_all; omega))
  case rr =>
    exact ⟨rfl, trivial⟩

theorem ln5_p0 (k n : Int) (l m N M : Nat) (B F P : Ix → Int) :
    isEnd (evTill Tryd.prog sumsLN 400 (99) 900 32 [.code (bodyOf Tryd.f32)] (envOf [.agg (.tc (.vi .i64 fun _ => k) (.tc (.vi .i64 fun _ => n) (.tc (.vl 61 (fun _ => 0) 1 [] (fun _ => l)) (.tc (.vl 62 (fun _ => 0) 1 [] (fun _ => m)) .t0))))] Tryd.f32.ntmps) ((([⟨61, false, none, 1, .ta N (.vi .u8 B)⟩] ++ [⟨62, false, none, 1, .ta M (.vi .i64 F)⟩]) ++ pwF P) ++ ([])) ⟨[.s true, .s false, .s false, .s false, .s false, .s false, .s true, .s true, .s true, .s true, .s true], 80⟩) (endP ([]) (vS ((([98, 121, 116, 101, 115, 32] ++ toldR (lenB B l)) ++ [32, 109, 97, 114, 107, 115, 32]) ++ placesR (intsF F m))) ([]) 300) =
    (OkL [(decide (m ≤ M) && (decide (l ≤ (100000 : Nat)) && decide (m ≤ (100000 : Nat))), true), (!rightV k n l m F, false), (k == (2 : Int), false), (k == (3 : Int), false), (k == (4 : Int), false), ((↑m : Int) == (0 : Int), false), (decide (l ≤ N) && (decide (l ≤ (100000 : Nat)) && bndB B l), true), (decide ((6 : Nat) + (toldR (lenB B l)).length ≤ (9223372036854775807 : Nat)), true), (decide (([(98 : UInt8), (121 : UInt8), (116 : UInt8), (101 : UInt8), (115 : UInt8), (32 : UInt8)] ++ toldR (lenB B l)).length + (7 : Nat) ≤ (9223372036854775807 : Nat)), true), (decide (m ≤ M) && (decide (m ≤ (1000 : Nat)) && (pwOK P && rangeI F m)), true), (decide (([(98 : UInt8), (121 : UInt8), (116 : UInt8), (101 : UInt8), (115 : UInt8), (32 : UInt8)] ++ toldR (lenB B l) ++ [(32 : UInt8), (109 : UInt8), (97 : UInt8), (114 : UInt8), (107 : UInt8), (115 : UInt8), (32 : UInt8)]).length + (placesR (intsF F m)).length ≤ (9223372036854775807 : Nat)), true)] ∧ [(98 : UInt8), (121 : UInt8), (116 : UInt8), (101 : UInt8), (115 : UInt8), (32 : UInt8)] ++ toldR (lenB B l) ++ [(32 : UInt8), (109 : UInt8), (97 : UInt8), (114 : UInt8), (107 : UInt8), (115 : UInt8), (32 : UInt8)] ++ placesR (intsF F m) = [(98 : UInt8), (121 : UInt8), (116 : UInt8), (101 : UInt8), (115 : UInt8), (32 : UInt8)] ++ toldR (lenB B l) ++ [(32 : UInt8), (109 : UInt8), (97 : UInt8), (114 : UInt8), (107 : UInt8), (115 : UInt8), (32 : UInt8)] ++ placesR (intsF F m) ∧ True) := by kernel_rfl

set_option maxHeartbeats 4000000 in
theorem ln5 (k n : Int) (l m N M : Nat) (B F P : Ix → Int) (hk : k = 1) (h0 : m ≠ 0) (hr : rightV k n l m F = true) (hM : m ≤ M) (hN : l ≤ N) (hl : l ≤ 100000) (hm : m ≤ 1000) (hB : bndB B l = true) (hF : rangeI F m = true) (hP : pwOK P = true) (hn : inN n = true)  :
    RunsTo Tryd.prog 32 [.code (bodyOf Tryd.f32)] (envOf [.agg (.tc (.vi .i64 fun _ => k) (.tc (.vi .i64 fun _ => n) (.tc (.vl 61 (fun _ => 0) 1 [] (fun _ => l)) (.tc (.vl 62 (fun _ => 0) 1 [] (fun _ => m)) .t0))))] Tryd.f32.ntmps) (Sx.look ((([⟨61, false, none, 1, .ta N (.vi .u8 B)⟩] ++ [⟨62, false, none, 1, .ta M (.vi .i64 F)⟩]) ++ pwF P) ++ ([]))) 80 (vS ((([98, 121, 116, 101, 115, 32] ++ toldR (lenB B l)) ++ [32, 109, 97, 114, 107, 115, 32]) ++ placesR (intsF F m))) (Sx.look ([])) 300 := by
  have q1 := itoa_len hn
  have q2 := toldR_len (lenB B l)
  rw [lenB_len] at q2
  have q3 : (placesR (intsF F m)).length ≤ 22 * m := by have := joinR_le 44 ((intsF F m).map Lib.itoa) (fun a ha => by obtain ⟨x, hx, rfl⟩ := List.mem_map.1 ha; obtain ⟨j, hj, rfl⟩ := List.mem_map.1 hx; exact itoa_len (rangeI_at hF (List.mem_range.1 hj))); rw [List.length_map, intsF_len] at this; exact this
  refine runs_last baseLN (Sx.Ends.of (ln5_p0 k n l m N M B F P) ⟨?oo, ?rr⟩) (by kernel_rfl) rfl (gtL (by decide)) (by decide)
  case oo =>
    refine (okc ?_ (okc ?_ (okc ?_ (okc ?_ (okc ?_ (okc ?_ (okc ?_ (okc ?_ (okc ?_ (okc ?_ (okc ?_ okn)))))))))))
    all_goals ((try simp only [hr]); first | done | rfl | omega | assumption | exact ⟨hP, hn⟩ | exact ⟨hM, by omega, by omega⟩ | exact ⟨hN, hl, hB⟩ | exact ⟨hM, hm, hP, hF⟩ | (simp (disch := omega) only [SS, hr, List.length_append, List.length_cons, List.length_nil]; first | done | omega | assumption | exact ⟨hP, hn⟩ | exact ⟨hM, by omega, by omega⟩ | exact ⟨hN, hl, hB⟩ | exact ⟨hM, hm, hP, hF⟩) | (simp_all; done) | (simp_all; omega))
  case rr =>
    exact ⟨rfl, trivial⟩

theorem rightV_k {k n : Int} {l m : Nat} {F : Ix → Int} (h : rightV k n l m F = true) : k = 1 ∨ k = 2 ∨ k = 3 ∨ k = 4 := by
  unfold rightV at h
  split at h
  · omega
  · split at h
    · omega
    · split at h
      · omega
      · cases h
theorem lnT (k n : Int) (l m N M : Nat) (B F P : Ix → Int) (hM : m ≤ M) (hN : l ≤ N) (hl : l ≤ 100000) (hm : m ≤ 1000) (hB : bndB B l = true) (hF : rangeI F m = true) (hP : pwOK P = true) (hn : inN n = true) : RunsTo Tryd.prog 32 [.code (bodyOf Tryd.f32)] (envOf [.agg (.tc (.vi .i64 fun _ => k) (.tc (.vi .i64 fun _ => n) (.tc (.vl 61 (fun _ => 0) 1 [] (fun _ => l)) (.tc (.vl 62 (fun _ => 0) 1 [] (fun _ => m)) .t0))))] Tryd.f32.ntmps) (Sx.look ((([⟨61, false, none, 1, .ta N (.vi .u8 B)⟩] ++ [⟨62, false, none, 1, .ta M (.vi .i64 F)⟩]) ++ pwF P) ++ ([]))) 80 (vS (lineV k n l m B F)) (Sx.look []) 300 := by
  unfold lineV
  cases hr : rightV k n l m F with
  | false => exact ln0 k n l m N M B F P hr hM hN hl hm hB hF hP hn
  | true =>
    rw [if_pos rfl]
    unfold lineR evF
    have e2 : (intsF F m = []) = (m = 0) := by rw [← List.length_eq_zero_iff, intsF_len]
    rcases rightV_k hr with hk | hk | hk | hk
    · by_cases h0 : m = 0
      · have := ln1 k n l m N M B F P hk h0 hr hM hN hl hm hB hF hP hn
        rw [if_neg (by show ¬ k = 2; omega), if_neg (by show ¬ k = 3; omega), if_neg (by show ¬ k = 4; omega), if_pos (by rw [e2]; exact h0)]
        exact this
      · have := ln5 k n l m N M B F P hk h0 hr hM hN hl hm hB hF hP hn
        rw [if_neg (by show ¬ k = 2; omega), if_neg (by show ¬ k = 3; omega), if_neg (by show ¬ k = 4; omega), if_neg (by rw [e2]; exact h0)]
        rw [show (([98, 121, 116, 101, 115, 32] ++ toldR (lenB B l)) ++ [32, 109, 97, 114, 107, 115, 32]) ++ placesR (intsF F m) = wBytes ++ 32 :: (toldR (lenB B l) ++ 32 :: (wMarks ++ 32 :: placesR (intsF F m))) by simp [wBytes, wMarks]] at this
        exact this
    · rw [if_pos (show k = 2 from hk)]; exact ln2 k n l m N M B F P hk hr hM hN hl hm hB hF hP hn
    · rw [if_neg (by show ¬ k = 2; omega), if_pos (show k = 3 from hk)]; exact ln3 k n l m N M B F P hk hr hM hN hl hm hB hF hP hn
    · rw [if_neg (by show ¬ k = 2; omega), if_neg (by show ¬ k = 3; omega), if_pos (show k = 4 from hk)]; exact ln4 k n l m N M B F P hk hr hM hN hl hm hB hF hP hn
def lnP : PC := { args := [.agg (.tc (.vi .i64 0) (.tc (.vi .i64 1) (.tc (.vl 61 1 2) (.tc (.vl 62 1 3) .t0))))], heap := [⟨61, false, 1, .ta 5 (.vi .u8 6)⟩, ⟨62, false, 1, .ta 7 (.vi .i64 8)⟩], fams := [], tabs := [⟨17, false, 20, .tn 20 (.vi .u64 9)⟩], gs := [], G := 24, tp := 194, n := 80, n' := 300, cond := fun e => decide (eN e 3 ≤ eN e 7) && (decide (eN e 2 ≤ eN e 5) && (decide (eN e 2 ≤ 100000) && (decide (eN e 3 ≤ 1000) && (bndB (eI e 6) (eN e 2) && (rangeI (eI e 8) (eN e 3) && (pwOK (eI e 9) && inN (eI e 1 []))))))) , v := fun e => vS (lineV (eI e 0 []) (eI e 1 []) (eN e 2) (eN e 3) (eI e 6) (eI e 8)), post := fun e => [] }
theorem lnP_pc : PC.Runs Tryd.prog 32 Tryd.f32 (bodyOf Tryd.f32) lnP := ⟨Tryd.func32, by kernel_rfl, (fun g hg => by first | (cases hg; done) | (revert g; show ∀ g ∈ ([] : List Nat), g < 24; decide)), fun e H hc => by
  have hc : (decide (eN e 3 ≤ eN e 7) && (decide (eN e 2 ≤ eN e 5) && (decide (eN e 2 ≤ 100000) && (decide (eN e 3 ≤ 1000) && (bndB (eI e 6) (eN e 2) && (rangeI (eI e 8) (eN e 3) && (pwOK (eI e 9) && inN (eI e 1 []))))))) ) = true := hc
  try simp only [Bool.and_eq_true, decide_eq_true_eq, Nat.beq_eq] at hc
  exact lnT (eI e 0 []) (eI e 1 []) (eN e 2) (eN e 3) (eN e 5) (eN e 7) (eI e 6) (eI e 8) (eI e 9) hc.1 hc.2.1 hc.2.2.1 hc.2.2.2.1 hc.2.2.2.2.1 hc.2.2.2.2.2.1 hc.2.2.2.2.2.2.1 hc.2.2.2.2.2.2.2⟩
theorem se0_p0 (n m M N : Nat) (F U : Ix → Int) :
    isEnd (evTill Tryd.prog [] 300 (99) 900 64 [.code (bodyOf Tryd.f64)] (envOf [vL 62 1 n, vL 64 1 m] Tryd.f64.ntmps) (([⟨62, false, none, 1, .ta M (.vi .i64 F)⟩] ++ [⟨64, false, none, 1, .ta N (.vi .i64 U)⟩]) ++ ([])) ⟨[.s true], 80⟩) (endP ([]) (vB false) ([]) 130) =
    (OkL [((↑n : Int) != (↑m : Int), true)] ∧ false = false ∧ True) := by kernel_rfl

set_option maxHeartbeats 4000000 in
theorem se0 (n m M N : Nat) (F U : Ix → Int) (h : n ≠ m)  :
    RunsTo Tryd.prog 64 [.code (bodyOf Tryd.f64)] (envOf [vL 62 1 n, vL 64 1 m] Tryd.f64.ntmps) (Sx.look (([⟨62, false, none, 1, .ta M (.vi .i64 F)⟩] ++ [⟨64, false, none, 1, .ta N (.vi .i64 U)⟩]) ++ ([]))) 80 (vB false) (Sx.look ([])) 130 := by
  refine runs_last baseO (Sx.Ends.of (se0_p0 n m M N F U) ⟨?oo, ?rr⟩) (by kernel_rfl) rfl (gtL (by decide)) (by decide)
  case oo =>
    refine (okc ?_ okn)
    all_goals ((try simp (disch := omega) only [SS]); first | done | omega | assumption | (simp (disch := omega) only [SS] at *; first | done | omega | assumption) | (simp_all; done))
  case rr =>
    try simp (disch := omega) only [SS]
    repeat' apply And.intro
    all_goals first | exact True.intro | with_reducible rfl | omega | (intros; first | exact True.intro | with_reducible rfl | omega | (simp_all; done)) | (simp_all; done) | rfl

theorem se1_p0 (n m M N : Nat) (F U : Ix → Int) :
    isMore (evTill Tryd.prog [] 300 (behind Tryd.f64 0) 900 64 [.code (bodyOf Tryd.f64)] (envOf [vL 62 1 n, vL 64 1 m] Tryd.f64.ntmps) (([⟨62, false, none, 1, .ta M (.vi .i64 F)⟩] ++ [⟨64, false, none, 1, .ta N (.vi .i64 U)⟩]) ++ ([])) ⟨[.s false], 80⟩) (moreP (headOf Tryd.f64 0) ([]) Tryd.f64.ntmps ([(0, vL 62 1 n), (1, vL 64 1 m), (12, vN n), (13, vN (0 : Nat))]) ([]) 130) =
    (OkL [((↑n : Int) != (↑m : Int), false)] ∧ headOf Tryd.f64 (0 : Nat) = headOf Tryd.f64 (0 : Nat) ∧ (((0 : Nat) = (0 : Nat) ∧ n = n) ∧ ((0 : Nat) = (0 : Nat) ∧ m = m) ∧ (↑n : Int) = (↑n : Int) ∧ (↑(0 : Nat) : Int) = (0 : Int)) ∧ True) := by kernel_rfl

set_option maxHeartbeats 4000000 in
theorem se1 (n m M N : Nat) (F U : Ix → Int) (e : n = m)  (v : SV) (L' : HF) (next : RunsTo Tryd.prog 64 (headOf Tryd.f64 0) (envAt Tryd.f64.ntmps ([(0, vL 62 1 n), (1, vL 64 1 m), (12, vN n), (13, vN (0 : Nat))])) (Sx.look (([⟨62, false, none, 1, .ta M (.vi .i64 F)⟩] ++ [⟨64, false, none, 1, .ta N (.vi .i64 U)⟩]) ++ ([]))) 80 (v) (L') 130) :
    RunsTo Tryd.prog 64 [.code (bodyOf Tryd.f64)] (envOf [vL 62 1 n, vL 64 1 m] Tryd.f64.ntmps) (Sx.look (([⟨62, false, none, 1, .ta M (.vi .i64 F)⟩] ++ [⟨64, false, none, 1, .ta N (.vi .i64 U)⟩]) ++ ([]))) 80 (v) (L') 130 := by
  refine runs_more baseO (More.of (se1_p0 n m M N F U) ⟨?oo, rfl, ?rr⟩) (by kernel_rfl) (by kernel_rfl) rfl (gtL (by decide)) (by decide) next
  case oo =>
    clear next
    refine (okc ?_ okn)
    all_goals ((try simp (disch := omega) only [SS]); first | done | omega | assumption | (simp (disch := omega) only [SS] at *; first | done | omega | assumption) | (simp_all; done))
  case rr =>
    clear next
    try simp (disch := omega) only [SS]
    repeat' apply And.intro
    all_goals first | exact True.intro | with_reducible rfl | omega | (intros; first | exact True.intro | with_reducible rfl | omega | (simp_all; done)) | (simp_all; done) | rfl

theorem se2_p0 (n m M N : Nat) (F U : Ix → Int) (i : Nat) :
    isMore (evTill Tryd.prog [] 300 (behind Tryd.f64 0) 900 64 (headOf Tryd.f64 0) (envAt Tryd.f64.ntmps ([(0, vL 62 1 n), (1, vL 64 1 m), (12, vN n), (13, vN (i : Nat))])) (([⟨62, false, none, 1, .ta M (.vi .i64 F)⟩] ++ [⟨64, false, none, 1, .ta N (.vi .i64 U)⟩]) ++ ([])) ⟨[.s true, .s true, .s true, .s true, .s true, .s true, .s true, .s false], 110⟩) (moreP (headOf Tryd.f64 0) ([]) Tryd.f64.ntmps ([(0, vL 62 1 n), (1, vL 64 1 m), (12, vN n), (13, vN (i + 1 : Nat))]) ([]) 130) =
    (OkL [(decide ((↑i : Int) < (↑n : Int)), true), (decide ((0 : Int) ≤ (↑i : Int) ∧ (↑i : Int) < (↑n : Int)), true), (((0 : Nat) + (↑i : Int).toNat).blt M, true), (((0 : Nat) + (↑i : Int).toNat).blt M, true), (decide ((0 : Int) ≤ (↑i : Int) ∧ (↑i : Int) < (↑m : Int)), true), (((0 : Nat) + (↑i : Int).toNat).blt N, true), (((0 : Nat) + (↑i : Int).toNat).blt N, true), (F [(0 : Nat) + (↑i : Int).toNat] != U [(0 : Nat) + (↑i : Int).toNat], false)] ∧ headOf Tryd.f64 (0 : Nat) = headOf Tryd.f64 (0 : Nat) ∧ (((0 : Nat) = (0 : Nat) ∧ n = n) ∧ ((0 : Nat) = (0 : Nat) ∧ m = m) ∧ (↑n : Int) = (↑n : Int) ∧ (↑(i + (1 : Nat)) : Int) = IntKind.i64.wrap ((↑i : Int) + (1 : Int))) ∧ True) := by kernel_rfl

set_option maxHeartbeats 4000000 in
theorem se2 (n m M N : Nat) (F U : Ix → Int) (i : Nat) (hi : i < n) (e : n = m) (hM : n ≤ M) (hM2 : m ≤ N) (hn : n ≤ 100000) (h : F [i] = U [i])  (v : SV) (L' : HF) (next : RunsTo Tryd.prog 64 (headOf Tryd.f64 0) (envAt Tryd.f64.ntmps ([(0, vL 62 1 n), (1, vL 64 1 m), (12, vN n), (13, vN (i + 1 : Nat))])) (Sx.look (([⟨62, false, none, 1, .ta M (.vi .i64 F)⟩] ++ [⟨64, false, none, 1, .ta N (.vi .i64 U)⟩]) ++ ([]))) 80 (v) (L') 130) :
    RunsTo Tryd.prog 64 (headOf Tryd.f64 0) (envAt Tryd.f64.ntmps ([(0, vL 62 1 n), (1, vL 64 1 m), (12, vN n), (13, vN (i : Nat))])) (Sx.look (([⟨62, false, none, 1, .ta M (.vi .i64 F)⟩] ++ [⟨64, false, none, 1, .ta N (.vi .i64 U)⟩]) ++ ([]))) 80 (v) (L') 130 := by
  have hw : IntKind.i64.wrap ((i : Int) + 1) = ((i + 1 : Nat) : Int) := by rw [wr64 (by omega)]; rfl
  refine runs_more baseO (More.of (se2_p0 n m M N F U i) ⟨?oo, rfl, ?rr⟩) (by kernel_rfl) (by kernel_rfl) rfl (gtL (by decide)) (by decide) next
  case oo =>
    clear next
    refine (okc ?_ (okc ?_ (okc ?_ (okc ?_ (okc ?_ (okc ?_ (okc ?_ (okc ?_ okn))))))))
    all_goals ((try simp (disch := omega) only [SS, hw, h]); first | done | omega | assumption | (simp (disch := omega) only [SS, hw, h] at *; first | done | omega | assumption) | (simp_all; done))
  case rr =>
    clear next
    try simp (disch := omega) only [SS, hw, h]
    repeat' apply And.intro
    all_goals first | exact True.intro | with_reducible rfl | omega | (intros; first | exact True.intro | with_reducible rfl | omega | (simp_all; done)) | (simp_all; done) | rfl

theorem se3_p0 (n m M N : Nat) (F U : Ix → Int) (i : Nat) :
    isEnd (evTill Tryd.prog [] 300 (99) 900 64 (headOf Tryd.f64 0) (envAt Tryd.f64.ntmps ([(0, vL 62 1 n), (1, vL 64 1 m), (12, vN n), (13, vN (i : Nat))])) (([⟨62, false, none, 1, .ta M (.vi .i64 F)⟩] ++ [⟨64, false, none, 1, .ta N (.vi .i64 U)⟩]) ++ ([])) ⟨[.s true, .s true, .s true, .s true, .s true, .s true, .s true, .s true], 110⟩) (endP ([]) (vB false) ([]) 130) =
    (OkL [(decide ((↑i : Int) < (↑n : Int)), true), (decide ((0 : Int) ≤ (↑i : Int) ∧ (↑i : Int) < (↑n : Int)), true), (((0 : Nat) + (↑i : Int).toNat).blt M, true), (((0 : Nat) + (↑i : Int).toNat).blt M, true), (decide ((0 : Int) ≤ (↑i : Int) ∧ (↑i : Int) < (↑m : Int)), true), (((0 : Nat) + (↑i : Int).toNat).blt N, true), (((0 : Nat) + (↑i : Int).toNat).blt N, true), (F [(0 : Nat) + (↑i : Int).toNat] != U [(0 : Nat) + (↑i : Int).toNat], true)] ∧ false = false ∧ True) := by kernel_rfl

set_option maxHeartbeats 4000000 in
theorem se3 (n m M N : Nat) (F U : Ix → Int) (i : Nat) (hi : i < n) (e : n = m) (hM : n ≤ M) (hM2 : m ≤ N) (hn : n ≤ 100000) (h : F [i] ≠ U [i])  :
    RunsTo Tryd.prog 64 (headOf Tryd.f64 0) (envAt Tryd.f64.ntmps ([(0, vL 62 1 n), (1, vL 64 1 m), (12, vN n), (13, vN (i : Nat))])) (Sx.look (([⟨62, false, none, 1, .ta M (.vi .i64 F)⟩] ++ [⟨64, false, none, 1, .ta N (.vi .i64 U)⟩]) ++ ([]))) 80 (vB false) (Sx.look ([])) 130 := by
  have hw : IntKind.i64.wrap ((i : Int) + 1) = ((i + 1 : Nat) : Int) := by rw [wr64 (by omega)]; rfl
  refine runs_last baseO (Sx.Ends.of (se3_p0 n m M N F U i) ⟨?oo, ?rr⟩) (by kernel_rfl) rfl (gtL (by decide)) (by decide)
  case oo =>
    refine (okc ?_ (okc ?_ (okc ?_ (okc ?_ (okc ?_ (okc ?_ (okc ?_ (okc ?_ okn))))))))
    all_goals ((try simp (disch := omega) only [SS, hw, h]); first | done | omega | assumption | (simp (disch := omega) only [SS, hw, h] at *; first | done | omega | assumption) | (simp_all; done))
  case rr =>
    try simp (disch := omega) only [SS, hw, h]
    repeat' apply And.intro
    all_goals first | exact True.intro | with_reducible rfl | omega | (intros; first | exact True.intro | with_reducible rfl | omega | (simp_all; done)) | (simp_all; done) | rfl

theorem se4_p0 (n m M N : Nat) (F U : Ix → Int) (i : Nat) :
    isEnd (evTill Tryd.prog [] 300 (99) 900 64 (headOf Tryd.f64 0) (envAt Tryd.f64.ntmps ([(0, vL 62 1 n), (1, vL 64 1 m), (12, vN n), (13, vN (i : Nat))])) (([⟨62, false, none, 1, .ta M (.vi .i64 F)⟩] ++ [⟨64, false, none, 1, .ta N (.vi .i64 U)⟩]) ++ ([])) ⟨[.s false], 110⟩) (endP ([]) (YES) ([]) 130) =
    (OkL [(decide ((↑i : Int) < (↑n : Int)), false)] ∧ true = true ∧ True) := by kernel_rfl

set_option maxHeartbeats 4000000 in
theorem se4 (n m M N : Nat) (F U : Ix → Int) (i : Nat) (hi : i = n)  :
    RunsTo Tryd.prog 64 (headOf Tryd.f64 0) (envAt Tryd.f64.ntmps ([(0, vL 62 1 n), (1, vL 64 1 m), (12, vN n), (13, vN (i : Nat))])) (Sx.look (([⟨62, false, none, 1, .ta M (.vi .i64 F)⟩] ++ [⟨64, false, none, 1, .ta N (.vi .i64 U)⟩]) ++ ([]))) 80 (YES) (Sx.look ([])) 130 := by
  refine runs_last baseO (Sx.Ends.of (se4_p0 n m M N F U i) ⟨?oo, ?rr⟩) (by kernel_rfl) rfl (gtL (by decide)) (by decide)
  case oo =>
    refine (okc ?_ okn)
    all_goals ((try simp (disch := omega) only [SS]); first | done | omega | assumption | (simp (disch := omega) only [SS] at *; first | done | omega | assumption) | (simp_all; done))
  case rr =>
    try simp (disch := omega) only [SS]
    repeat' apply And.intro
    all_goals first | exact True.intro | with_reducible rfl | omega | (intros; first | exact True.intro | with_reducible rfl | omega | (simp_all; done)) | (simp_all; done) | rfl

theorem seT (n m M N : Nat) (F U : Ix → Int) (hM : n ≤ M) (hM2 : m ≤ N) (hn : n ≤ 100000) : RunsTo Tryd.prog 64 [.code (bodyOf Tryd.f64)] (envOf [vL 62 1 n, vL 64 1 m] Tryd.f64.ntmps) (Sx.look (([⟨62, false, none, 1, .ta M (.vi .i64 F)⟩] ++ [⟨64, false, none, 1, .ta N (.vi .i64 U)⟩]) ++ ([]))) 80 (vB (eqI n m F U)) (Sx.look []) 130 := by
  unfold eqI
  by_cases h : n = m
  · refine se1 n m M N F U h _ _ ?_
    rw [decide_eq_true h, Bool.true_and]
    exact all_loop (R := fun i b => RunsTo Tryd.prog 64 (headOf Tryd.f64 0) (envAt Tryd.f64.ntmps ([(0, vL 62 1 n), (1, vL 64 1 m), (12, vN n), (13, vN (i : Nat))])) (Sx.look (([⟨62, false, none, 1, .ta M (.vi .i64 F)⟩] ++ [⟨64, false, none, 1, .ta N (.vi .i64 U)⟩]) ++ ([]))) 80 (vB b) (Sx.look []) 130) (fun i hi hk b q => se2 n m M N F U i hi h hM hM2 hn (of_decide_eq_true hk) _ _ q) (fun i hi hk => se3 n m M N F U i hi h hM hM2 hn (of_decide_eq_false hk)) (se4 n m M N F U n rfl)
  · rw [decide_eq_false h, Bool.false_and]; exact se0 n m M N F U h
def seP : PC := { args := [.v (.vl 62 1 0), .v (.vl 64 1 1)], heap := [⟨62, false, 1, .ta 5 (.vi .i64 6)⟩, ⟨64, false, 1, .ta 7 (.vi .i64 8)⟩], gs := [], G := 24, tp := 194, n := 80, n' := 130, cond := fun e => decide (eN e 0 ≤ eN e 5) && (decide (eN e 1 ≤ eN e 7) && decide (eN e 0 ≤ 100000)), v := fun e => vB (eqI (eN e 0) (eN e 1) (eI e 6) (eI e 8)), post := fun e => [] }
theorem seP_pc : PC.Runs Tryd.prog 64 Tryd.f64 (bodyOf Tryd.f64) seP := ⟨Tryd.func64, by kernel_rfl, (fun g hg => by first | (cases hg; done) | (revert g; show ∀ g ∈ ([] : List Nat), g < 24; decide)), fun e H hc => by
  have hc : (decide (eN e 0 ≤ eN e 5) && (decide (eN e 1 ≤ eN e 7) && decide (eN e 0 ≤ 100000))) = true := hc
  try simp only [Bool.and_eq_true, decide_eq_true_eq, Nat.beq_eq] at hc
  exact seT (eN e 0) (eN e 1) (eN e 5) (eN e 7) (eI e 6) (eI e 8) hc.1 hc.2.1 hc.2.2⟩
def sumsSM : List (FuncId × Summ) := [(64, seP.summ 48)]
theorem baseSM : Base0 Tryd.prog sumsSM := (baseO.cons Tryd.func64 (by kernel_rfl) (PC.summ_ok seP_pc gtopG))
theorem smT_p0 (k n : Int) (l m N M : Nat) (B F : Ix → Int) (k' n' : Int) (l' m' N' M' : Nat) (B' F' : Ix → Int) :
    isEnd (evTill Tryd.prog sumsSM 300 (99) 900 33 [.code (bodyOf Tryd.f33)] (envOf [.agg (.tc (.vi .i64 fun _ => k) (.tc (.vi .i64 fun _ => n) (.tc (.vl 61 (fun _ => 0) 1 [] (fun _ => l)) (.tc (.vl 62 (fun _ => 0) 1 [] (fun _ => m)) .t0)))), .agg (.tc (.vi .i64 fun _ => k') (.tc (.vi .i64 fun _ => n') (.tc (.vl 63 (fun _ => 0) 1 [] (fun _ => l')) (.tc (.vl 64 (fun _ => 0) 1 [] (fun _ => m')) .t0))))] Tryd.f33.ntmps) ((([⟨61, false, none, 1, .ta N (.vi .u8 B)⟩] ++ [⟨62, false, none, 1, .ta M (.vi .i64 F)⟩]) ++ ([⟨63, false, none, 1, .ta N' (.vi .u8 B')⟩] ++ [⟨64, false, none, 1, .ta M' (.vi .i64 F')⟩])) ++ ([])) ⟨[.s false], 80⟩) (endP ([]) (vB (sameV k n k' n' l m l' m' B B' F F')) ([]) 150) =
    (OkL [(k == k', false)] ∧ sameV k n k' n' l m l' m' B B' F F' = false ∧ True) := by kernel_rfl
theorem smT_p1 (k n : Int) (l m N M : Nat) (B F : Ix → Int) (k' n' : Int) (l' m' N' M' : Nat) (B' F' : Ix → Int) :
    isEnd (evTill Tryd.prog sumsSM 300 (99) 900 33 [.code (bodyOf Tryd.f33)] (envOf [.agg (.tc (.vi .i64 fun _ => k) (.tc (.vi .i64 fun _ => n) (.tc (.vl 61 (fun _ => 0) 1 [] (fun _ => l)) (.tc (.vl 62 (fun _ => 0) 1 [] (fun _ => m)) .t0)))), .agg (.tc (.vi .i64 fun _ => k') (.tc (.vi .i64 fun _ => n') (.tc (.vl 63 (fun _ => 0) 1 [] (fun _ => l')) (.tc (.vl 64 (fun _ => 0) 1 [] (fun _ => m')) .t0))))] Tryd.f33.ntmps) ((([⟨61, false, none, 1, .ta N (.vi .u8 B)⟩] ++ [⟨62, false, none, 1, .ta M (.vi .i64 F)⟩]) ++ ([⟨63, false, none, 1, .ta N' (.vi .u8 B')⟩] ++ [⟨64, false, none, 1, .ta M' (.vi .i64 F')⟩])) ++ ([])) ⟨[.s true, .s false], 80⟩) (endP ([]) (vB (sameV k n k' n' l m l' m' B B' F F')) ([]) 150) =
    (OkL [(k == k', true), (n == n', false)] ∧ sameV k n k' n' l m l' m' B B' F F' = false ∧ True) := by kernel_rfl
theorem smT_p2 (k n : Int) (l m N M : Nat) (B F : Ix → Int) (k' n' : Int) (l' m' N' M' : Nat) (B' F' : Ix → Int) :
    isEnd (evTill Tryd.prog sumsSM 300 (99) 900 33 [.code (bodyOf Tryd.f33)] (envOf [.agg (.tc (.vi .i64 fun _ => k) (.tc (.vi .i64 fun _ => n) (.tc (.vl 61 (fun _ => 0) 1 [] (fun _ => l)) (.tc (.vl 62 (fun _ => 0) 1 [] (fun _ => m)) .t0)))), .agg (.tc (.vi .i64 fun _ => k') (.tc (.vi .i64 fun _ => n') (.tc (.vl 63 (fun _ => 0) 1 [] (fun _ => l')) (.tc (.vl 64 (fun _ => 0) 1 [] (fun _ => m')) .t0))))] Tryd.f33.ntmps) ((([⟨61, false, none, 1, .ta N (.vi .u8 B)⟩] ++ [⟨62, false, none, 1, .ta M (.vi .i64 F)⟩]) ++ ([⟨63, false, none, 1, .ta N' (.vi .u8 B')⟩] ++ [⟨64, false, none, 1, .ta M' (.vi .i64 F')⟩])) ++ ([])) ⟨[.s true, .s true, .s true, .s true, .s false], 80⟩) (endP ([]) (vB (sameV k n k' n' l m l' m' B B' F F')) ([]) 150) =
    (OkL [(k == k', true), (n == n', true), (((0 : Nat) + l).ble N, true), (((0 : Nat) + l').ble N', true), (bytesOf B [] (0 : Nat) l == bytesOf B' [] (0 : Nat) l', false)] ∧ sameV k n k' n' l m l' m' B B' F F' = false ∧ True) := by kernel_rfl
theorem smT_p3 (k n : Int) (l m N M : Nat) (B F : Ix → Int) (k' n' : Int) (l' m' N' M' : Nat) (B' F' : Ix → Int) :
    isEnd (evTill Tryd.prog sumsSM 300 (99) 900 33 [.code (bodyOf Tryd.f33)] (envOf [.agg (.tc (.vi .i64 fun _ => k) (.tc (.vi .i64 fun _ => n) (.tc (.vl 61 (fun _ => 0) 1 [] (fun _ => l)) (.tc (.vl 62 (fun _ => 0) 1 [] (fun _ => m)) .t0)))), .agg (.tc (.vi .i64 fun _ => k') (.tc (.vi .i64 fun _ => n') (.tc (.vl 63 (fun _ => 0) 1 [] (fun _ => l')) (.tc (.vl 64 (fun _ => 0) 1 [] (fun _ => m')) .t0))))] Tryd.f33.ntmps) ((([⟨61, false, none, 1, .ta N (.vi .u8 B)⟩] ++ [⟨62, false, none, 1, .ta M (.vi .i64 F)⟩]) ++ ([⟨63, false, none, 1, .ta N' (.vi .u8 B')⟩] ++ [⟨64, false, none, 1, .ta M' (.vi .i64 F')⟩])) ++ ([])) ⟨[.s true, .s true, .s true, .s true, .s true, .s true], 80⟩) (endP ([]) (vB (sameV k n k' n' l m l' m' B B' F F')) ([]) 150) =
    (OkL [(k == k', true), (n == n', true), (((0 : Nat) + l).ble N, true), (((0 : Nat) + l').ble N', true), (bytesOf B [] (0 : Nat) l == bytesOf B' [] (0 : Nat) l', true), (decide (m ≤ M) && (decide (m' ≤ M') && decide (m ≤ (100000 : Nat))), true)] ∧ sameV k n k' n' l m l' m' B B' F F' = eqI m m' F F' ∧ True) := by kernel_rfl

set_option maxHeartbeats 4000000 in
theorem smT (k n : Int) (l m N M : Nat) (B F : Ix → Int) (k' n' : Int) (l' m' N' M' : Nat) (B' F' : Ix → Int) (h1 : l ≤ N) (h2 : m ≤ M) (h3 : l' ≤ N') (h4 : m' ≤ M') (h5 : m ≤ 100000)  :
    RunsTo Tryd.prog 33 [.code (bodyOf Tryd.f33)] (envOf [.agg (.tc (.vi .i64 fun _ => k) (.tc (.vi .i64 fun _ => n) (.tc (.vl 61 (fun _ => 0) 1 [] (fun _ => l)) (.tc (.vl 62 (fun _ => 0) 1 [] (fun _ => m)) .t0)))), .agg (.tc (.vi .i64 fun _ => k') (.tc (.vi .i64 fun _ => n') (.tc (.vl 63 (fun _ => 0) 1 [] (fun _ => l')) (.tc (.vl 64 (fun _ => 0) 1 [] (fun _ => m')) .t0))))] Tryd.f33.ntmps) (Sx.look ((([⟨61, false, none, 1, .ta N (.vi .u8 B)⟩] ++ [⟨62, false, none, 1, .ta M (.vi .i64 F)⟩]) ++ ([⟨63, false, none, 1, .ta N' (.vi .u8 B')⟩] ++ [⟨64, false, none, 1, .ta M' (.vi .i64 F')⟩])) ++ ([]))) 80 (vB (sameV k n k' n' l m l' m' B B' F F')) (Sx.look ([])) 150 := by
  refine bcase (c := (k == k')) (fun gg0 => ?_) (fun gg0 => ?_)
  · refine runs_last baseSM (Sx.Ends.of (smT_p0 k n l m N M B F k' n' l' m' N' M' B' F') ⟨?oo, ?rr⟩) (by kernel_rfl) rfl (gtL (by decide)) (by decide)
    case oo =>
      refine (okc gg0 okn)
      all_goals first | rfl | assumption | exact ⟨h2, h4, h5⟩ | (simp (disch := omega) only [SS]; first | done | omega | exact ⟨h2, h4, h5⟩) | (simp_all; done)
    case rr =>
      refine ⟨?_, trivial⟩
      unfold sameV
      simp only [dT, dF, ieqT, ieqF, lenB, Go.Sx.sum] at *
      first | (simp_all; done) | (rw [Bool.eq_iff_iff]; simp_all; done)
  · refine bcase (c := (n == n')) (fun gg1 => ?_) (fun gg1 => ?_)
    · refine runs_last baseSM (Sx.Ends.of (smT_p1 k n l m N M B F k' n' l' m' N' M' B' F') ⟨?oo, ?rr⟩) (by kernel_rfl) rfl (gtL (by decide)) (by decide)
      case oo =>
        refine (okc gg0 (okc gg1 okn))
        all_goals first | rfl | assumption | exact ⟨h2, h4, h5⟩ | (simp (disch := omega) only [SS]; first | done | omega | exact ⟨h2, h4, h5⟩) | (simp_all; done)
      case rr =>
        refine ⟨?_, trivial⟩
        unfold sameV
        simp only [dT, dF, ieqT, ieqF, lenB, Go.Sx.sum] at *
        first | (simp_all; done) | (rw [Bool.eq_iff_iff]; simp_all; done)
    · refine bcase (c := (bytesOf B [] (0 : Nat) l == bytesOf B' [] (0 : Nat) l')) (fun gg2 => ?_) (fun gg2 => ?_)
      · refine runs_last baseSM (Sx.Ends.of (smT_p2 k n l m N M B F k' n' l' m' N' M' B' F') ⟨?oo, ?rr⟩) (by kernel_rfl) rfl (gtL (by decide)) (by decide)
        case oo =>
          refine (okc gg0 (okc gg1 (okc ?_ (okc ?_ (okc gg2 okn)))))
          all_goals first | rfl | assumption | exact ⟨h2, h4, h5⟩ | (simp (disch := omega) only [SS]; first | done | omega | exact ⟨h2, h4, h5⟩) | (simp_all; done)
        case rr =>
          refine ⟨?_, trivial⟩
          unfold sameV
          simp only [dT, dF, ieqT, ieqF, lenB, Go.Sx.sum] at *
          first | (simp_all; done) | (rw [Bool.eq_iff_iff]; simp_all; done)
      · refine runs_last baseSM (Sx.Ends.of (smT_p3 k n l m N M B F k' n' l' m' N' M' B' F') ⟨?oo, ?rr⟩) (by kernel_rfl) rfl (gtL (by decide)) (by decide)
        case oo =>
          refine (okc gg0 (okc gg1 (okc ?_ (okc ?_ (okc gg2 (okc ?_ okn))))))
          all_goals first | rfl | assumption | exact ⟨h2, h4, h5⟩ | (simp (disch := omega) only [SS]; first | done | omega | exact ⟨h2, h4, h5⟩) | (simp_all; done)
        case rr =>
          refine ⟨?_, trivial⟩
          unfold sameV
          simp only [dT, dF, ieqT, ieqF, lenB, Go.Sx.sum] at *
          first | (simp_all; done) | (rw [Bool.eq_iff_iff]; simp_all; done)

def smP : PC := { args := [.agg (.tc (.vi .i64 0) (.tc (.vi .i64 1) (.tc (.vl 61 1 2) (.tc (.vl 62 1 3) .t0)))), .agg (.tc (.vi .i64 10) (.tc (.vi .i64 11) (.tc (.vl 63 1 12) (.tc (.vl 64 1 13) .t0))))], heap := [⟨61, false, 1, .ta 5 (.vi .u8 6)⟩, ⟨62, false, 1, .ta 7 (.vi .i64 8)⟩, ⟨63, false, 1, .ta 15 (.vi .u8 16)⟩, ⟨64, false, 1, .ta 17 (.vi .i64 18)⟩], gs := [], G := 24, tp := 194, n := 80, n' := 150, cond := fun e => decide (eN e 2 ≤ eN e 5) && (decide (eN e 3 ≤ eN e 7) && (decide (eN e 12 ≤ eN e 15) && (decide (eN e 13 ≤ eN e 17) && decide (eN e 3 ≤ 100000)))), v := fun e => vB (sameV (eI e 0 []) (eI e 1 []) (eI e 10 []) (eI e 11 []) (eN e 2) (eN e 3) (eN e 12) (eN e 13) (eI e 6) (eI e 16) (eI e 8) (eI e 18)), post := fun e => [] }
theorem smP_pc : PC.Runs Tryd.prog 33 Tryd.f33 (bodyOf Tryd.f33) smP := ⟨Tryd.func33, by kernel_rfl, (fun g hg => by first | (cases hg; done) | (revert g; show ∀ g ∈ ([] : List Nat), g < 24; decide)), fun e H hc => by
  have hc : (decide (eN e 2 ≤ eN e 5) && (decide (eN e 3 ≤ eN e 7) && (decide (eN e 12 ≤ eN e 15) && (decide (eN e 13 ≤ eN e 17) && decide (eN e 3 ≤ 100000))))) = true := hc
  try simp only [Bool.and_eq_true, decide_eq_true_eq, Nat.beq_eq] at hc
  exact smT (eI e 0 []) (eI e 1 []) (eN e 2) (eN e 3) (eN e 5) (eN e 7) (eI e 6) (eI e 8) (eI e 10 []) (eI e 11 []) (eN e 12) (eN e 13) (eN e 15) (eN e 17) (eI e 16) (eI e 18) hc.1 hc.2.1 hc.2.2.1 hc.2.2.2.1 hc.2.2.2.2⟩
end Go.Proofs.YtankmgnjkcgpaaaDoor

