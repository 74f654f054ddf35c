/- Raw: places, Right, Line, Same. -/
import Derived.Test.YtankmgnjkcgpaaaDoorQdC
import Derived.Test.YtankmgnjkcgpaaaDoorQaC
set_option linter.unusedSimpArgs false
set_option linter.unusedVariables false
set_option maxRecDepth 100000
namespace Go.Proofs.YtankmgnjkcgpaaaDoor
open Go.Sx

open RawR
def rangeI (F : Ix → Int) (m : Nat) : Bool := (List.range m).all fun i => inN (F [i])
theorem rangeI_at {F : Ix → Int} {m : Nat} (h : rangeI F m = true) {i : Nat} (hi : i < m) : inN (F [i]) = true := List.all_eq_true.1 h i (List.mem_range.2 hi)
theorem itoa_len {n : Int} (h : inN n = true) : (Lib.itoa n).length ≤ 21 := by
  have h := of_decide_eq_true h
  unfold Lib.itoa
  split
  · rw [List.length_cons, Lib.decDigits_length]
    have := Lib.nDigits_le20 n.natAbs (by omega)
    omega
  · rw [Lib.decDigits_length]
    have := Lib.nDigits_le20 n.toNat (by omega)
    omega
theorem joinR_le (c : UInt8) : ∀ o : List (List UInt8), (∀ a ∈ o, a.length ≤ 21) → (joinR c o).length ≤ 22 * o.length
  | [], _ => by simp [joinR]
  | [a], h => by have := h a (by simp); simp [joinR]; omega
  | a :: b :: l, h => by
    have h1 := h a (by simp)
    have h2 := joinR_le c (b :: l) (fun x hx => h x (by simp [hx]))
    rw [joinR_cons c a (by simp), List.length_append, List.length_cons]
    simp only [List.length_cons] at h2 ⊢
    omega
theorem rowS_is (o : List (List UInt8)) : rowS (fun is => o.getD (is.headD 0) []) [] 0 o.length = o := by
  apply List.ext_getElem
  · simp [rowS]
  · intro i h1 h2
    simp [rowS, List.getD_eq_getElem?_getD, List.getElem?_eq_getElem h2]
theorem intsF_get (F : Ix → Int) {m i : Nat} (h : i < m) : (intsF F m).getD i 0 = F [i] := by
  simp [intsF, List.getD_eq_getElem?_getD, h]
theorem intsF_take (F : Ix → Int) {m i : Nat} (h : i < m) : (intsF F m).take (i + 1) = (intsF F m).take i ++ [F [i]] := by
  have hl := intsF_len F m
  rw [List.take_add_one, List.getElem?_eq_getElem (by omega)]
  simp [intsF]
theorem intsF_drop (F : Ix → Int) {m i : Nat} (h : i < m) : (intsF F m).drop i = F [i] :: (intsF F m).drop (i + 1) := by
  rw [dropT _ 0 (by rw [intsF_len]; exact h), intsF_get F h]
def sumsPL : List (FuncId × Summ) := [(60, zitP.summ 48), (80, joinSumm)]
theorem basePL : Base0 Tryd.prog sumsPL := ((baseO.cons Tryd.func80 (by kernel_rfl) joinSumm_ok).cons Tryd.func60 (by kernel_rfl) (PC.summ_ok zitP_pc gtopG))
theorem pl0_p0 (P : Ix → Int) (n M : Nat) (F : Ix → Int) :
    isMore (evTill Tryd.prog sumsPL 400 (behind Tryd.f62 0) 900 62 [.code (bodyOf Tryd.f62)] (envOf [vL 62 1 n] Tryd.f62.ntmps) (([⟨62, false, none, 1, .ta M (.vi .i64 F)⟩] ++ pwF P) ++ ([])) ⟨[], 80⟩) (moreP (headOf Tryd.f62 0) ([((101 : Nat), Rn.nil (1 : Nat))]) Tryd.f62.ntmps ([(3, vL 101 1 (([] : List (List UInt8))).length), (6, vL 62 1 n), (7, vN n), (8, vN (0 : Nat))]) (txE true 101 (([] : List (List UInt8))).length (([] : List (List UInt8)))) 160) =
    (OkL [] ∧ headOf Tryd.f62 (0 : Nat) = headOf Tryd.f62 (0 : Nat) ∧ ((0 : Nat) = (0 : Nat) ∧ ((0 : Nat) = (0 : Nat) ∧ n = n) ∧ (↑n : Int) = (↑n : Int) ∧ (↑(0 : Nat) : Int) = (0 : Int)) ∧ (0 : Nat) = (0 : Nat)) := by kernel_rfl

set_option maxHeartbeats 4000000 in
theorem pl0 (P : Ix → Int) (n M : Nat) (F : Ix → Int) (hM : n ≤ M) (hn : n ≤ 1000) (hP : pwOK P = true)  (v : SV) (L' : HF) (next : RunsTo Tryd.prog 62 (headOf Tryd.f62 0) (envAt Tryd.f62.ntmps ([(3, vL 101 1 (([] : List (List UInt8))).length), (6, vL 62 1 n), (7, vN n), (8, vN (0 : Nat))])) (Sx.look (([⟨62, false, none, 1, .ta M (.vi .i64 F)⟩] ++ pwF P) ++ (txE true 101 (([] : List (List UInt8))).length (([] : List (List UInt8)))))) 80 (v) (L') 160) :
    RunsTo Tryd.prog 62 [.code (bodyOf Tryd.f62)] (envOf [vL 62 1 n] Tryd.f62.ntmps) (Sx.look (([⟨62, false, none, 1, .ta M (.vi .i64 F)⟩] ++ pwF P) ++ ([]))) 80 (v) (L') 160 := by
  refine runs_more basePL (More.of (pl0_p0 P n M F) ⟨?oo, rfl, ?rr⟩) (by kernel_rfl) (by kernel_rfl) rfl (gtL (by decide)) (by decide) next
  case oo =>
    clear next
    refine okn
    all_goals ((try simp (disch := omega) only [SS]); first | done | omega | assumption | (simp (disch := omega) only [SS] at *; first | done | omega | assumption) | (simp_all; done))
  case rr =>
    clear next
    repeat' apply And.intro
    all_goals first | exact True.intro | with_reducible rfl | rfl | (intro k hk; exact absurd hk (Nat.not_lt_zero _)) | (intros; rfl)

theorem pl1_p0 (P : Ix → Int) (n M : Nat) (F : Ix → Int) (o : List (List UInt8)) (i : Nat) (x : Int) :
    isMore (evTill Tryd.prog sumsPL 400 (behind Tryd.f62 0) 900 62 (headOf Tryd.f62 0) (envAt Tryd.f62.ntmps ([(3, vL 101 1 (o).length), (6, vL 62 1 n), (7, vN n), (8, vN (i : Nat))])) (([⟨62, false, none, 1, .ta M (.vi .i64 F)⟩] ++ pwF P) ++ (txE true 101 (o).length (o))) ⟨[.s true, .s true, .s true, .s true, .s true, .t, .s true, .s true], 110⟩) (moreP (headOf Tryd.f62 0) ([((101 : Nat), Rn.to (151 : Nat))]) Tryd.f62.ntmps ([(3, vL 101 1 (o ++ [Lib.itoa x]).length), (6, vL 62 1 n), (7, vN n), (8, vN (i + 1 : Nat))]) (txE true 101 (o ++ [Lib.itoa x]).length (o ++ [Lib.itoa x])) 160) =
    (OkL [(decide ((↑i : Int) < (↑n : Int)), true), (decide ((0 : Int) ≤ (↑i : Int) ∧ (↑i : Int) < (↑n : Int)), true), (((0 : Nat) + (↑i : Int).toNat).blt M, true), (((0 : Nat) + (↑i : Int).toNat).blt M, true), (pwOK P && inN (F [(0 : Nat) + (↑i : Int).toNat]), true), (((0 : Nat) + o.length).ble o.length, true), (decide (((2 : Nat) * (o.length + (1 : Nat)) + (192 : Nat)) * (16 : Nat) ≤ (281474976710656 : Nat)), true)] ∧ headOf Tryd.f62 (0 : Nat) = headOf Tryd.f62 (0 : Nat) ∧ (((0 : Nat) = (0 : Nat) ∧ (o ++ [Lib.itoa x]).length = o.length + (1 : Nat)) ∧ ((0 : Nat) = (0 : Nat) ∧ n = n) ∧ (↑n : Int) = (↑n : Int) ∧ (↑(i + (1 : Nat)) : Int) = IntKind.i64.wrap ((↑i : Int) + (1 : Int))) ∧ (o ++ [Lib.itoa x]).length = o.length + (1 : Nat) ∧ ∀ (i_1 : Nat), i_1 < (o ++ [Lib.itoa x]).length → (o ++ [Lib.itoa x]).getD i_1 [] = appF o.length (0 : Nat) (fun is => o.getD (List.headD is (0 : Nat)) []) (fun js => Lib.itoa (F [(0 : Nat) + (↑i : Int).toNat])) [i_1]) := by kernel_rfl

set_option maxHeartbeats 4000000 in
theorem pl1 (P : Ix → Int) (n M : Nat) (F : Ix → Int) (o : List (List UInt8)) (i : Nat) (x : Int) (hi : i < n) (hx : F [i] = x) (hr : inN x = true) (ho : o.length ≤ 1000) (hM : n ≤ M) (hn : n ≤ 1000) (hP : pwOK P = true)  (v : SV) (L' : HF) (next : RunsTo Tryd.prog 62 (headOf Tryd.f62 0) (envAt Tryd.f62.ntmps ([(3, vL 101 1 (o ++ [Lib.itoa x]).length), (6, vL 62 1 n), (7, vN n), (8, vN (i + 1 : Nat))])) (Sx.look (([⟨62, false, none, 1, .ta M (.vi .i64 F)⟩] ++ pwF P) ++ (txE true 101 (o ++ [Lib.itoa x]).length (o ++ [Lib.itoa x])))) 80 (v) (L') 160) :
    RunsTo Tryd.prog 62 (headOf Tryd.f62 0) (envAt Tryd.f62.ntmps ([(3, vL 101 1 (o).length), (6, vL 62 1 n), (7, vN n), (8, vN (i : Nat))])) (Sx.look (([⟨62, false, none, 1, .ta M (.vi .i64 F)⟩] ++ pwF P) ++ (txE true 101 (o).length (o)))) 80 (v) (L') 160 := by
  have hw : IntKind.i64.wrap ((i : Int) + 1) = ((i + 1 : Nat) : Int) := by rw [wr64 (by omega)]; rfl
  have hi0 : 0 + ((i : Nat) : Int).toNat = i := by simp
  have hap := app_get (fun x : List UInt8 => x) [] o [Lib.itoa x] (fun _ => Lib.itoa x) (fun j hj => by obtain rfl : j = 0 := (by simp at hj; omega); rfl)
  refine runs_more basePL (More.of (pl1_p0 P n M F o i x) ⟨?oo, rfl, ?rr⟩) (by kernel_rfl) (by kernel_rfl) rfl (gtL (by decide)) (by decide) next
  case oo =>
    clear next
    refine (okc ?_ (okc ?_ (okc ?_ (okc ?_ (okc ?_ (okc ?_ (okc ?_ okn)))))))
    all_goals ((try simp only [hi0, hx]); first | done | rfl | omega | exact ⟨hP, hr⟩ | (simp (disch := omega) only [SS, hi0, hx]; first | done | omega | exact ⟨hP, hr⟩) | (simp_all; done) | (simp_all; omega))
  case rr =>
    clear next
    simp only [hw, hi0, hx]
    repeat' apply And.intro
    all_goals first | exact True.intro | with_reducible rfl | omega | (simp; done) | (intro k hk; exact hap k (by simpa using hk)) | (intros; simp_all; done) | rfl

theorem pl2_p0 (P : Ix → Int) (n M : Nat) (F : Ix → Int) (o : List (List UInt8)) (i : Nat) :
    isEnd (evTill Tryd.prog sumsPL 400 (99) 900 62 (headOf Tryd.f62 0) (envAt Tryd.f62.ntmps ([(3, vL 101 1 (o).length), (6, vL 62 1 n), (7, vN n), (8, vN (i : Nat))])) (([⟨62, false, none, 1, .ta M (.vi .i64 F)⟩] ++ pwF P) ++ (txE true 101 (o).length (o))) ⟨[.s false, .s true, .s true, .s true], 110⟩) (endP ([]) (vS (joinR 44 o)) ([]) 160) =
    (OkL [(decide ((↑i : Int) < (↑n : Int)), false), (((0 : Nat) + o.length).ble o.length, true), (o.length.ble (1000 : Nat), true), ((joinS (rowS (fun is => o.getD (List.headD is (0 : Nat)) []) [] (0 : Nat) o.length) [(44 : UInt8)]).length.ble (100000 : Nat), true)] ∧ joinR (44 : UInt8) o = joinS (rowS (fun is => o.getD (List.headD is (0 : Nat)) []) [] (0 : Nat) o.length) [(44 : UInt8)] ∧ True) := by kernel_rfl

set_option maxHeartbeats 4000000 in
theorem pl2 (P : Ix → Int) (n M : Nat) (F : Ix → Int) (o : List (List UInt8)) (i : Nat) (hi : i = n) (ho : o.length ≤ 1000) (hj : (joinR 44 o).length ≤ 100000)  :
    RunsTo Tryd.prog 62 (headOf Tryd.f62 0) (envAt Tryd.f62.ntmps ([(3, vL 101 1 (o).length), (6, vL 62 1 n), (7, vN n), (8, vN (i : Nat))])) (Sx.look (([⟨62, false, none, 1, .ta M (.vi .i64 F)⟩] ++ pwF P) ++ (txE true 101 (o).length (o)))) 80 (vS (joinR 44 o)) (Sx.look ([])) 160 := by
  have hjo : joinS (rowS (fun is => o.getD (is.headD 0) []) [] 0 o.length) [44] = joinR 44 o := by rw [rowS_is]; exact joinR_eq 44 o
  refine runs_last basePL (Sx.Ends.of (pl2_p0 P n M F o i) ⟨?oo, ?rr⟩) (by kernel_rfl) rfl (gtL (by decide)) (by decide)
  case oo =>
    refine (okc ?_ (okc ?_ (okc ?_ (okc ?_ okn))))
    all_goals ((try simp only [Go.Sx.sum, hjo]); first | done | rfl | omega | (simp (disch := omega) only [SS, hjo]; first | done | omega | assumption) | (simp_all; done) | (simp_all; omega))
  case rr =>
    refine ⟨?_, trivial⟩
    exact hjo.symm

theorem plT (P : Ix → Int) (n M : Nat) (F : Ix → Int) (hM : n ≤ M) (hn : n ≤ 1000) (hP : pwOK P = true) (hr : rangeI F n = true) : RunsTo Tryd.prog 62 [.code (bodyOf Tryd.f62)] (envOf [vL 62 1 n] Tryd.f62.ntmps) (Sx.look (([⟨62, false, none, 1, .ta M (.vi .i64 F)⟩] ++ pwF P) ++ ([]))) 80 (vS (placesR (intsF F n))) (Sx.look []) 160 := by
  refine pl0 P n M F hM hn hP _ _ ?_
  unfold placesR
  have hl := intsF_len F n
  suffices q : ∀ (k i : Nat), i + k = n → RunsTo Tryd.prog 62 (headOf Tryd.f62 0) (envAt Tryd.f62.ntmps ([(3, vL 101 1 (((intsF F n).take i).map Lib.itoa).length), (6, vL 62 1 n), (7, vN n), (8, vN (i : Nat))])) (Sx.look (([⟨62, false, none, 1, .ta M (.vi .i64 F)⟩] ++ pwF P) ++ (txE true 101 (((intsF F n).take i).map Lib.itoa).length (((intsF F n).take i).map Lib.itoa)))) 80 (vS (joinR 44 ((intsF F n).map Lib.itoa))) (Sx.look []) 160 from by
    have := q n 0 (by omega)
    simpa using this
  intro k
  induction k with
  | zero =>
    intro i hi
    have ht : (intsF F n).take i = intsF F n := List.take_of_length_le (by omega)
    rw [ht]
    refine pl2 P n M F _ i (by omega) (by rw [List.length_map]; omega) ?_
    have := joinR_le 44 ((intsF F n).map Lib.itoa) (fun a ha => by
      obtain ⟨x, hx, rfl⟩ := List.mem_map.1 ha
      obtain ⟨j, hj, rfl⟩ := List.mem_map.1 hx
      exact itoa_len (rangeI_at hr (List.mem_range.1 hj)))
    rw [List.length_map] at this
    omega
  | succ k ih =>
    intro i hi
    refine pl1 P n M F _ i (F [i]) (by omega) rfl (rangeI_at hr (by omega)) (by rw [List.length_map, List.length_take]; omega) hM hn hP _ _ ?_
    have := ih (i + 1) (by omega)
    rw [intsF_take F (show i < n by omega), List.map_append] at this
    exact this
def plP : PC := { args := [.v (.vl 62 1 0)], heap := [⟨62, false, 1, .ta 7 (.vi .i64 8)⟩], fams := [], tabs := [⟨17, false, 20, .tn 20 (.vi .u64 9)⟩], gs := [], G := 24, tp := 194, n := 80, n' := 160, cond := fun e => decide (eN e 0 ≤ eN e 7) && (decide (eN e 0 ≤ 1000) && (pwOK (eI e 9) && rangeI (eI e 8) (eN e 0))), v := fun e => vS (placesR (intsF (eI e 8) (eN e 0))), post := fun e => [] }
theorem plP_pc : PC.Runs Tryd.prog 62 Tryd.f62 (bodyOf Tryd.f62) plP := ⟨Tryd.func62, by kernel_rfl, (fun g hg => by first | (cases hg; done) | (revert g; show ∀ g ∈ ([] : List Nat), g < 24; decide)), fun e H hc => by
  have hc : (decide (eN e 0 ≤ eN e 7) && (decide (eN e 0 ≤ 1000) && (pwOK (eI e 9) && rangeI (eI e 8) (eN e 0)))) = true := hc
  try simp only [Bool.and_eq_true, decide_eq_true_eq, Nat.beq_eq] at hc
  exact plT (eI e 9) (eN e 0) (eN e 7) (eI e 8) hc.1 hc.2.1 hc.2.2.1 hc.2.2.2⟩
theorem md0_p0 (k n : Int) (l m N M : Nat) (B F : Ix → Int) :
    isMore (evTill Tryd.prog [] 300 (behind Tryd.f59 0) 900 59 [.code (bodyOf Tryd.f59)] (envOf [.agg (.tc (.vi .i64 fun _ => k) (.tc (.vi .i64 fun _ => n) (.tc (.vl 61 (fun _ => 0) 1 [] (fun _ => l)) (.tc (.vl 62 (fun _ => 0) 1 [] (fun _ => m)) .t0))))] Tryd.f59.ntmps) (([⟨61, false, none, 1, .ta N (.vi .u8 B)⟩] ++ [⟨62, false, none, 1, .ta M (.vi .i64 F)⟩]) ++ ([])) ⟨[], 80⟩) (moreP (headOf Tryd.f59 0) ([((101 : Nat), Rn.to (80 : Nat))]) Tryd.f59.ntmps ([(1, vP 101), (6, vL 62 1 m), (7, vN m), (8, vN (0 : Nat))]) ([⟨101, true, none, 123000004, (.tc (.vi .i64 fun _ => k) (.tc (.vi .i64 fun _ => n) (.tc (.vl 61 (fun _ => 0) 1 [] (fun _ => l)) (.tc (.vl 62 (fun _ => 0) 1 [] (fun _ => m)) .t0))))⟩]) 130) =
    (OkL [] ∧ headOf Tryd.f59 (0 : Nat) = headOf Tryd.f59 (0 : Nat) ∧ ((0 : Nat) = (0 : Nat) ∧ ((0 : Nat) = (0 : Nat) ∧ m = m) ∧ (↑m : Int) = (↑m : Int) ∧ (↑(0 : Nat) : Int) = (0 : Int)) ∧ k = k ∧ n = n ∧ ((0 : Nat) = (0 : Nat) ∧ l = l) ∧ (0 : Nat) = (0 : Nat) ∧ m = m) := by kernel_rfl

set_option maxHeartbeats 4000000 in
theorem md0 (k n : Int) (l m N M : Nat) (B F : Ix → Int) (hM : m ≤ M) (hl : l ≤ 100000) (hm : m ≤ 100000)  (v : SV) (L' : HF) (next : RunsTo Tryd.prog 59 (headOf Tryd.f59 0) (envAt Tryd.f59.ntmps ([(1, vP 101), (6, vL 62 1 m), (7, vN m), (8, vN (0 : Nat))])) (Sx.look (([⟨61, false, none, 1, .ta N (.vi .u8 B)⟩] ++ [⟨62, false, none, 1, .ta M (.vi .i64 F)⟩]) ++ ([⟨101, true, none, 123000004, (.tc (.vi .i64 fun _ => k) (.tc (.vi .i64 fun _ => n) (.tc (.vl 61 (fun _ => 0) 1 [] (fun _ => l)) (.tc (.vl 62 (fun _ => 0) 1 [] (fun _ => m)) .t0))))⟩]))) 80 (v) (L') 130) :
    RunsTo Tryd.prog 59 [.code (bodyOf Tryd.f59)] (envOf [.agg (.tc (.vi .i64 fun _ => k) (.tc (.vi .i64 fun _ => n) (.tc (.vl 61 (fun _ => 0) 1 [] (fun _ => l)) (.tc (.vl 62 (fun _ => 0) 1 [] (fun _ => m)) .t0))))] Tryd.f59.ntmps) (Sx.look (([⟨61, false, none, 1, .ta N (.vi .u8 B)⟩] ++ [⟨62, false, none, 1, .ta M (.vi .i64 F)⟩]) ++ ([]))) 80 (v) (L') 130 := by
  refine runs_more baseO (More.of (md0_p0 k n l m N M B F) ⟨?oo, rfl, ?rr⟩) (by kernel_rfl) (by kernel_rfl) rfl (gtL (by decide)) (by decide) next
  case oo =>
    clear next
    refine okn
    all_goals ((try simp (disch := omega) only [SS]); first | done | omega | assumption | (simp (disch := omega) only [SS] at *; first | done | omega | assumption) | (simp_all; done))
  case rr =>
    clear next
    try simp (disch := omega) only [SS]
    repeat' apply And.intro
    all_goals first | exact True.intro | with_reducible rfl | omega | (intros; first | exact True.intro | with_reducible rfl | omega | (simp_all; done)) | (simp_all; done) | rfl

theorem md1_p0 (k n : Int) (l m N M : Nat) (B F : Ix → Int) (i : Nat) (x p : Int) :
    isMore (evTill Tryd.prog [] 300 (behind Tryd.f59 0) 900 59 (headOf Tryd.f59 0) (envAt Tryd.f59.ntmps ([(1, vP 101), (6, vL 62 1 m), (7, vN m), (8, vN (i : Nat))])) (([⟨61, false, none, 1, .ta N (.vi .u8 B)⟩] ++ [⟨62, false, none, 1, .ta M (.vi .i64 F)⟩]) ++ ([⟨101, true, none, 123000004, (.tc (.vi .i64 fun _ => k) (.tc (.vi .i64 fun _ => n) (.tc (.vl 61 (fun _ => 0) 1 [] (fun _ => l)) (.tc (.vl 62 (fun _ => 0) 1 [] (fun _ => m)) .t0))))⟩])) ⟨[.s true, .s true, .s true, .s true, .s false, .s false, .s false], 110⟩) (moreP (headOf Tryd.f59 0) ([]) Tryd.f59.ntmps ([(1, vP 101), (6, vL 62 1 m), (7, vN m), (8, vN (i + 1 : Nat))]) ([⟨101, true, none, 123000004, (.tc (.vi .i64 fun _ => k) (.tc (.vi .i64 fun _ => n) (.tc (.vl 61 (fun _ => 0) 1 [] (fun _ => l)) (.tc (.vl 62 (fun _ => 0) 1 [] (fun _ => m)) .t0))))⟩]) 130) =
    (OkL [(decide ((↑i : Int) < (↑m : Int)), true), (decide ((0 : Int) ≤ (↑i : Int) ∧ (↑i : Int) < (↑m : Int)), true), (((0 : Nat) + (↑i : Int).toNat).blt M, true), (((0 : Nat) + (↑i : Int).toNat).blt M, true), (decide (F [(0 : Nat) + (↑i : Int).toNat] < (0 : Int)), false), (decide (F [(0 : Nat) + (↑i : Int).toNat] ≥ (↑l : Int)), false), (decide ((↑i : Int) > (0 : Int)), false)] ∧ headOf Tryd.f59 (0 : Nat) = headOf Tryd.f59 (0 : Nat) ∧ ((0 : Nat) = (0 : Nat) ∧ ((0 : Nat) = (0 : Nat) ∧ m = m) ∧ (↑m : Int) = (↑m : Int) ∧ (↑(i + (1 : Nat)) : Int) = IntKind.i64.wrap ((↑i : Int) + (1 : Int))) ∧ k = k ∧ n = n ∧ ((0 : Nat) = (0 : Nat) ∧ l = l) ∧ (0 : Nat) = (0 : Nat) ∧ m = m) := by kernel_rfl
theorem md1_p1 (k n : Int) (l m N M : Nat) (B F : Ix → Int) (i : Nat) (x p : Int) :
    isMore (evTill Tryd.prog [] 300 (behind Tryd.f59 0) 900 59 (headOf Tryd.f59 0) (envAt Tryd.f59.ntmps ([(1, vP 101), (6, vL 62 1 m), (7, vN m), (8, vN (i : Nat))])) (([⟨61, false, none, 1, .ta N (.vi .u8 B)⟩] ++ [⟨62, false, none, 1, .ta M (.vi .i64 F)⟩]) ++ ([⟨101, true, none, 123000004, (.tc (.vi .i64 fun _ => k) (.tc (.vi .i64 fun _ => n) (.tc (.vl 61 (fun _ => 0) 1 [] (fun _ => l)) (.tc (.vl 62 (fun _ => 0) 1 [] (fun _ => m)) .t0))))⟩])) ⟨[.s true, .s true, .s true, .s true, .s false, .s false, .s true, .s true, .s true, .s true, .s false], 110⟩) (moreP (headOf Tryd.f59 0) ([]) Tryd.f59.ntmps ([(1, vP 101), (6, vL 62 1 m), (7, vN m), (8, vN (i + 1 : Nat))]) ([⟨101, true, none, 123000004, (.tc (.vi .i64 fun _ => k) (.tc (.vi .i64 fun _ => n) (.tc (.vl 61 (fun _ => 0) 1 [] (fun _ => l)) (.tc (.vl 62 (fun _ => 0) 1 [] (fun _ => m)) .t0))))⟩]) 130) =
    (OkL [(decide ((↑i : Int) < (↑m : Int)), true), (decide ((0 : Int) ≤ (↑i : Int) ∧ (↑i : Int) < (↑m : Int)), true), (((0 : Nat) + (↑i : Int).toNat).blt M, true), (((0 : Nat) + (↑i : Int).toNat).blt M, true), (decide (F [(0 : Nat) + (↑i : Int).toNat] < (0 : Int)), false), (decide (F [(0 : Nat) + (↑i : Int).toNat] ≥ (↑l : Int)), false), (decide ((↑i : Int) > (0 : Int)), true), (decide ((0 : Int) ≤ IntKind.i64.wrap ((↑i : Int) - (1 : Int)) ∧ IntKind.i64.wrap ((↑i : Int) - (1 : Int)) < (↑m : Int)), true), (((0 : Nat) + (IntKind.i64.wrap ((↑i : Int) - (1 : Int))).toNat).blt M, true), (((0 : Nat) + (IntKind.i64.wrap ((↑i : Int) - (1 : Int))).toNat).blt M, true), (decide (F [(0 : Nat) + (↑i : Int).toNat] ≤ F [(0 : Nat) + (IntKind.i64.wrap ((↑i : Int) - (1 : Int))).toNat]), false)] ∧ headOf Tryd.f59 (0 : Nat) = headOf Tryd.f59 (0 : Nat) ∧ ((0 : Nat) = (0 : Nat) ∧ ((0 : Nat) = (0 : Nat) ∧ m = m) ∧ (↑m : Int) = (↑m : Int) ∧ (↑(i + (1 : Nat)) : Int) = IntKind.i64.wrap ((↑i : Int) + (1 : Int))) ∧ k = k ∧ n = n ∧ ((0 : Nat) = (0 : Nat) ∧ l = l) ∧ (0 : Nat) = (0 : Nat) ∧ m = m) := by kernel_rfl

set_option maxHeartbeats 4000000 in
theorem md1 (k n : Int) (l m N M : Nat) (B F : Ix → Int) (i : Nat) (x p : Int) (hk : p < x ∧ x < l) (hi : i < m) (hx : F [i] = x) (hp : (i = 0 ∧ p = -1) ∨ (0 < i ∧ F [i - 1] = p ∧ 0 ≤ p)) (hM : m ≤ M) (hl : l ≤ 100000) (hm : m ≤ 100000)  (v : SV) (L' : HF) (next : RunsTo Tryd.prog 59 (headOf Tryd.f59 0) (envAt Tryd.f59.ntmps ([(1, vP 101), (6, vL 62 1 m), (7, vN m), (8, vN (i + 1 : Nat))])) (Sx.look (([⟨61, false, none, 1, .ta N (.vi .u8 B)⟩] ++ [⟨62, false, none, 1, .ta M (.vi .i64 F)⟩]) ++ ([⟨101, true, none, 123000004, (.tc (.vi .i64 fun _ => k) (.tc (.vi .i64 fun _ => n) (.tc (.vl 61 (fun _ => 0) 1 [] (fun _ => l)) (.tc (.vl 62 (fun _ => 0) 1 [] (fun _ => m)) .t0))))⟩]))) 80 (v) (L') 130) :
    RunsTo Tryd.prog 59 (headOf Tryd.f59 0) (envAt Tryd.f59.ntmps ([(1, vP 101), (6, vL 62 1 m), (7, vN m), (8, vN (i : Nat))])) (Sx.look (([⟨61, false, none, 1, .ta N (.vi .u8 B)⟩] ++ [⟨62, false, none, 1, .ta M (.vi .i64 F)⟩]) ++ ([⟨101, true, none, 123000004, (.tc (.vi .i64 fun _ => k) (.tc (.vi .i64 fun _ => n) (.tc (.vl 61 (fun _ => 0) 1 [] (fun _ => l)) (.tc (.vl 62 (fun _ => 0) 1 [] (fun _ => m)) .t0))))⟩]))) 80 (v) (L') 130 := by
  have hw : IntKind.i64.wrap ((i : Int) + 1) = ((i + 1 : Nat) : Int) := by rw [wr64 (by omega)]; rfl
  have hi0 : 0 + ((i : Nat) : Int).toNat = i := by simp
  have hi1 : 0 < i → IntKind.i64.wrap ((i : Int) - 1) = ((i - 1 : Nat) : Int) := fun h => by rw [wr64 (by omega)]; omega
  have hi2 : 0 < i → (0 + ((i - 1 : Nat) : Int).toNat) = i - 1 := fun h => by simp
  refine bcase (c := (decide ((↑i : Int) > (0 : Int)))) (fun gg0 => ?_) (fun gg0 => ?_)
  · refine runs_more baseO (More.of (md1_p0 k n l m N M B F i x p) ⟨?oo, rfl, ?rr⟩) (by kernel_rfl) (by kernel_rfl) rfl (gtL (by decide)) (by decide) next
    case oo =>
      clear next
      refine (okc ?_ (okc ?_ (okc ?_ (okc ?_ (okc ?_ (okc ?_ (okc gg0 okn)))))))
      all_goals ((try simp only [hi0, hx]); first | done | rfl | omega | (simp (disch := omega) only [SS, hi0, hx]; first | done | omega) | (rcases hp with ⟨h1, h2⟩ | ⟨h1, h2, h3⟩ <;> (first | (simp (disch := omega) only [SS, hi0, hx, hi1 h1, h2] at *; first | done | omega | (simp_all; done) | (simp_all; omega)) | (subst h1; simp (disch := omega) only [SS, hi0, hx] at *; first | done | omega | (simp_all; done) | (simp_all; omega)))))
    case rr =>
      clear next
      try simp (disch := omega) only [SS, hw]
      repeat' apply And.intro
      all_goals first | exact True.intro | with_reducible rfl | omega | (intros; first | exact True.intro | with_reducible rfl | omega | (simp_all; done)) | (simp_all; done) | rfl
  · refine runs_more baseO (More.of (md1_p1 k n l m N M B F i x p) ⟨?oo, rfl, ?rr⟩) (by kernel_rfl) (by kernel_rfl) rfl (gtL (by decide)) (by decide) next
    case oo =>
      clear next
      refine (okc ?_ (okc ?_ (okc ?_ (okc ?_ (okc ?_ (okc ?_ (okc gg0 (okc ?_ (okc ?_ (okc ?_ (okc ?_ okn)))))))))))
      all_goals ((try simp only [hi0, hx]); first | done | rfl | omega | (simp (disch := omega) only [SS, hi0, hx]; first | done | omega) | (rcases hp with ⟨h1, h2⟩ | ⟨h1, h2, h3⟩ <;> (first | (simp (disch := omega) only [SS, hi0, hx, hi1 h1, h2] at *; first | done | omega | (simp_all; done) | (simp_all; omega)) | (subst h1; simp (disch := omega) only [SS, hi0, hx] at *; first | done | omega | (simp_all; done) | (simp_all; omega)))))
    case rr =>
      clear next
      try simp (disch := omega) only [SS, hw]
      repeat' apply And.intro
      all_goals first | exact True.intro | with_reducible rfl | omega | (intros; first | exact True.intro | with_reducible rfl | omega | (simp_all; done)) | (simp_all; done) | rfl

theorem md2_p0 (k n : Int) (l m N M : Nat) (B F : Ix → Int) (i : Nat) (x p : Int) :
    isEnd (evTill Tryd.prog [] 300 (99) 900 59 (headOf Tryd.f59 0) (envAt Tryd.f59.ntmps ([(1, vP 101), (6, vL 62 1 m), (7, vN m), (8, vN (i : Nat))])) (([⟨61, false, none, 1, .ta N (.vi .u8 B)⟩] ++ [⟨62, false, none, 1, .ta M (.vi .i64 F)⟩]) ++ ([⟨101, true, none, 123000004, (.tc (.vi .i64 fun _ => k) (.tc (.vi .i64 fun _ => n) (.tc (.vl 61 (fun _ => 0) 1 [] (fun _ => l)) (.tc (.vl 62 (fun _ => 0) 1 [] (fun _ => m)) .t0))))⟩])) ⟨[.s true, .s true, .s true, .s true, .s false, .s false, .s true, .s true, .s true, .s true, .s true], 110⟩) (endP ([]) (vB false) ([]) 130) =
    (OkL [(decide ((↑i : Int) < (↑m : Int)), true), (decide ((0 : Int) ≤ (↑i : Int) ∧ (↑i : Int) < (↑m : Int)), true), (((0 : Nat) + (↑i : Int).toNat).blt M, true), (((0 : Nat) + (↑i : Int).toNat).blt M, true), (decide (F [(0 : Nat) + (↑i : Int).toNat] < (0 : Int)), false), (decide (F [(0 : Nat) + (↑i : Int).toNat] ≥ (↑l : Int)), false), (decide ((↑i : Int) > (0 : Int)), true), (decide ((0 : Int) ≤ IntKind.i64.wrap ((↑i : Int) - (1 : Int)) ∧ IntKind.i64.wrap ((↑i : Int) - (1 : Int)) < (↑m : Int)), true), (((0 : Nat) + (IntKind.i64.wrap ((↑i : Int) - (1 : Int))).toNat).blt M, true), (((0 : Nat) + (IntKind.i64.wrap ((↑i : Int) - (1 : Int))).toNat).blt M, true), (decide (F [(0 : Nat) + (↑i : Int).toNat] ≤ F [(0 : Nat) + (IntKind.i64.wrap ((↑i : Int) - (1 : Int))).toNat]), true)] ∧ false = false ∧ True) := by kernel_rfl
theorem md2_p1 (k n : Int) (l m N M : Nat) (B F : Ix → Int) (i : Nat) (x p : Int) :
    isEnd (evTill Tryd.prog [] 300 (99) 900 59 (headOf Tryd.f59 0) (envAt Tryd.f59.ntmps ([(1, vP 101), (6, vL 62 1 m), (7, vN m), (8, vN (i : Nat))])) (([⟨61, false, none, 1, .ta N (.vi .u8 B)⟩] ++ [⟨62, false, none, 1, .ta M (.vi .i64 F)⟩]) ++ ([⟨101, true, none, 123000004, (.tc (.vi .i64 fun _ => k) (.tc (.vi .i64 fun _ => n) (.tc (.vl 61 (fun _ => 0) 1 [] (fun _ => l)) (.tc (.vl 62 (fun _ => 0) 1 [] (fun _ => m)) .t0))))⟩])) ⟨[.s true, .s true, .s true, .s true, .s false, .s true], 110⟩) (endP ([]) (vB false) ([]) 130) =
    (OkL [(decide ((↑i : Int) < (↑m : Int)), true), (decide ((0 : Int) ≤ (↑i : Int) ∧ (↑i : Int) < (↑m : Int)), true), (((0 : Nat) + (↑i : Int).toNat).blt M, true), (((0 : Nat) + (↑i : Int).toNat).blt M, true), (decide (F [(0 : Nat) + (↑i : Int).toNat] < (0 : Int)), false), (decide (F [(0 : Nat) + (↑i : Int).toNat] ≥ (↑l : Int)), true)] ∧ false = false ∧ True) := by kernel_rfl
theorem md2_p2 (k n : Int) (l m N M : Nat) (B F : Ix → Int) (i : Nat) (x p : Int) :
    isEnd (evTill Tryd.prog [] 300 (99) 900 59 (headOf Tryd.f59 0) (envAt Tryd.f59.ntmps ([(1, vP 101), (6, vL 62 1 m), (7, vN m), (8, vN (i : Nat))])) (([⟨61, false, none, 1, .ta N (.vi .u8 B)⟩] ++ [⟨62, false, none, 1, .ta M (.vi .i64 F)⟩]) ++ ([⟨101, true, none, 123000004, (.tc (.vi .i64 fun _ => k) (.tc (.vi .i64 fun _ => n) (.tc (.vl 61 (fun _ => 0) 1 [] (fun _ => l)) (.tc (.vl 62 (fun _ => 0) 1 [] (fun _ => m)) .t0))))⟩])) ⟨[.s true, .s true, .s true, .s true, .s true], 110⟩) (endP ([]) (vB false) ([]) 130) =
    (OkL [(decide ((↑i : Int) < (↑m : Int)), true), (decide ((0 : Int) ≤ (↑i : Int) ∧ (↑i : Int) < (↑m : Int)), true), (((0 : Nat) + (↑i : Int).toNat).blt M, true), (((0 : Nat) + (↑i : Int).toNat).blt M, true), (decide (F [(0 : Nat) + (↑i : Int).toNat] < (0 : Int)), true)] ∧ false = false ∧ True) := by kernel_rfl

set_option maxHeartbeats 4000000 in
theorem md2 (k n : Int) (l m N M : Nat) (B F : Ix → Int) (i : Nat) (x p : Int) (hk : ¬ (p < x ∧ x < l)) (hi : i < m) (hx : F [i] = x) (hp : (i = 0 ∧ p = -1) ∨ (0 < i ∧ F [i - 1] = p ∧ 0 ≤ p)) (hM : m ≤ M) (hl : l ≤ 100000) (hm : m ≤ 100000)  :
    RunsTo Tryd.prog 59 (headOf Tryd.f59 0) (envAt Tryd.f59.ntmps ([(1, vP 101), (6, vL 62 1 m), (7, vN m), (8, vN (i : Nat))])) (Sx.look (([⟨61, false, none, 1, .ta N (.vi .u8 B)⟩] ++ [⟨62, false, none, 1, .ta M (.vi .i64 F)⟩]) ++ ([⟨101, true, none, 123000004, (.tc (.vi .i64 fun _ => k) (.tc (.vi .i64 fun _ => n) (.tc (.vl 61 (fun _ => 0) 1 [] (fun _ => l)) (.tc (.vl 62 (fun _ => 0) 1 [] (fun _ => m)) .t0))))⟩]))) 80 (vB false) (Sx.look ([])) 130 := by
  have hw : IntKind.i64.wrap ((i : Int) + 1) = ((i + 1 : Nat) : Int) := by rw [wr64 (by omega)]; rfl
  have hi0 : 0 + ((i : Nat) : Int).toNat = i := by simp
  have hi1 : 0 < i → IntKind.i64.wrap ((i : Int) - 1) = ((i - 1 : Nat) : Int) := fun h => by rw [wr64 (by omega)]; omega
  have hi2 : 0 < i → (0 + ((i - 1 : Nat) : Int).toNat) = i - 1 := fun h => by simp
  refine bcase (c := (decide (F [(0 : Nat) + (↑i : Int).toNat] < (0 : Int)))) (fun gg0 => ?_) (fun gg0 => ?_)
  · refine bcase (c := (decide (F [(0 : Nat) + (↑i : Int).toNat] ≥ (↑l : Int)))) (fun gg1 => ?_) (fun gg1 => ?_)
    · refine runs_last baseO (Sx.Ends.of (md2_p0 k n l m N M B F i x p) ⟨?oo, ?rr⟩) (by kernel_rfl) rfl (gtL (by decide)) (by decide)
      case oo =>
        refine (okc ?_ (okc ?_ (okc ?_ (okc ?_ (okc gg0 (okc gg1 (okc ?_ (okc ?_ (okc ?_ (okc ?_ (okc ?_ okn)))))))))))
        all_goals ((try simp only [hi0, hx]); first | done | rfl | omega | (simp (disch := omega) only [SS, hi0, hx]; first | done | omega) | (rcases hp with ⟨h1, h2⟩ | ⟨h1, h2, h3⟩ <;> (first | (simp (disch := omega) only [SS, hi0, hx, hi1 h1, h2] at *; first | done | omega | (simp_all; done) | (simp_all; omega)) | (subst h1; simp (disch := omega) only [SS, hi0, hx] at *; first | done | omega | (simp_all; done) | (simp_all; omega)))))
      case rr =>
        try simp (disch := omega) only [SS, hw]
        repeat' apply And.intro
        all_goals first | exact True.intro | with_reducible rfl | omega | (intros; first | exact True.intro | with_reducible rfl | omega | (simp_all; done)) | (simp_all; done) | rfl
    · refine runs_last baseO (Sx.Ends.of (md2_p1 k n l m N M B F i x p) ⟨?oo, ?rr⟩) (by kernel_rfl) rfl (gtL (by decide)) (by decide)
      case oo =>
        refine (okc ?_ (okc ?_ (okc ?_ (okc ?_ (okc gg0 (okc gg1 okn))))))
        all_goals ((try simp only [hi0, hx]); first | done | rfl | omega | (simp (disch := omega) only [SS, hi0, hx]; first | done | omega) | (rcases hp with ⟨h1, h2⟩ | ⟨h1, h2, h3⟩ <;> (first | (simp (disch := omega) only [SS, hi0, hx, hi1 h1, h2] at *; first | done | omega | (simp_all; done) | (simp_all; omega)) | (subst h1; simp (disch := omega) only [SS, hi0, hx] at *; first | done | omega | (simp_all; done) | (simp_all; omega)))))
      case rr =>
        try simp (disch := omega) only [SS, hw]
        repeat' apply And.intro
        all_goals first | exact True.intro | with_reducible rfl | omega | (intros; first | exact True.intro | with_reducible rfl | omega | (simp_all; done)) | (simp_all; done) | rfl
  · refine runs_last baseO (Sx.Ends.of (md2_p2 k n l m N M B F i x p) ⟨?oo, ?rr⟩) (by kernel_rfl) rfl (gtL (by decide)) (by decide)
    case oo =>
      refine (okc ?_ (okc ?_ (okc ?_ (okc ?_ (okc gg0 okn)))))
      all_goals ((try simp only [hi0, hx]); first | done | rfl | omega | (simp (disch := omega) only [SS, hi0, hx]; first | done | omega) | (rcases hp with ⟨h1, h2⟩ | ⟨h1, h2, h3⟩ <;> (first | (simp (disch := omega) only [SS, hi0, hx, hi1 h1, h2] at *; first | done | omega | (simp_all; done) | (simp_all; omega)) | (subst h1; simp (disch := omega) only [SS, hi0, hx] at *; first | done | omega | (simp_all; done) | (simp_all; omega)))))
    case rr =>
      try simp (disch := omega) only [SS, hw]
      repeat' apply And.intro
      all_goals first | exact True.intro | with_reducible rfl | omega | (intros; first | exact True.intro | with_reducible rfl | omega | (simp_all; done)) | (simp_all; done) | rfl

theorem md3_p0 (k n : Int) (l m N M : Nat) (B F : Ix → Int) (i : Nat) :
    isEnd (evTill Tryd.prog [] 300 (99) 900 59 (headOf Tryd.f59 0) (envAt Tryd.f59.ntmps ([(1, vP 101), (6, vL 62 1 m), (7, vN m), (8, vN (i : Nat))])) (([⟨61, false, none, 1, .ta N (.vi .u8 B)⟩] ++ [⟨62, false, none, 1, .ta M (.vi .i64 F)⟩]) ++ ([⟨101, true, none, 123000004, (.tc (.vi .i64 fun _ => k) (.tc (.vi .i64 fun _ => n) (.tc (.vl 61 (fun _ => 0) 1 [] (fun _ => l)) (.tc (.vl 62 (fun _ => 0) 1 [] (fun _ => m)) .t0))))⟩])) ⟨[.s false], 110⟩) (endP ([]) (YES) ([]) 130) =
    (OkL [(decide ((↑i : Int) < (↑m : Int)), false)] ∧ true = true ∧ True) := by kernel_rfl

set_option maxHeartbeats 4000000 in
theorem md3 (k n : Int) (l m N M : Nat) (B F : Ix → Int) (i : Nat) (hi : i = m)  :
    RunsTo Tryd.prog 59 (headOf Tryd.f59 0) (envAt Tryd.f59.ntmps ([(1, vP 101), (6, vL 62 1 m), (7, vN m), (8, vN (i : Nat))])) (Sx.look (([⟨61, false, none, 1, .ta N (.vi .u8 B)⟩] ++ [⟨62, false, none, 1, .ta M (.vi .i64 F)⟩]) ++ ([⟨101, true, none, 123000004, (.tc (.vi .i64 fun _ => k) (.tc (.vi .i64 fun _ => n) (.tc (.vl 61 (fun _ => 0) 1 [] (fun _ => l)) (.tc (.vl 62 (fun _ => 0) 1 [] (fun _ => m)) .t0))))⟩]))) 80 (YES) (Sx.look ([])) 130 := by
  refine runs_last baseO (Sx.Ends.of (md3_p0 k n l m N M B F i) ⟨?oo, ?rr⟩) (by kernel_rfl) rfl (gtL (by decide)) (by decide)
  case oo =>
    refine (okc ?_ okn)
    all_goals ((try simp (disch := omega) only [SS]); first | done | omega | assumption | (simp (disch := omega) only [SS] at *; first | done | omega | assumption) | (simp_all; done))
  case rr =>
    try simp (disch := omega) only [SS]
    repeat' apply And.intro
    all_goals first | exact True.intro | with_reducible rfl | omega | (intros; first | exact True.intro | with_reducible rfl | omega | (simp_all; done)) | (simp_all; done) | rfl

theorem mdT (k n : Int) (l m N M : Nat) (B F : Ix → Int) (hM : m ≤ M) (hl : l ≤ 100000) (hm : m ≤ 100000) : RunsTo Tryd.prog 59 [.code (bodyOf Tryd.f59)] (envOf [.agg (.tc (.vi .i64 fun _ => k) (.tc (.vi .i64 fun _ => n) (.tc (.vl 61 (fun _ => 0) 1 [] (fun _ => l)) (.tc (.vl 62 (fun _ => 0) 1 [] (fun _ => m)) .t0))))] Tryd.f59.ntmps) (Sx.look (([⟨61, false, none, 1, .ta N (.vi .u8 B)⟩] ++ [⟨62, false, none, 1, .ta M (.vi .i64 F)⟩]) ++ ([]))) 80 (vB (upR l (-1) (intsF F m))) (Sx.look []) 130 := by
  refine md0 k n l m N M B F hM hl hm _ _ ?_
  suffices q : ∀ (j i : Nat) (p : Int), i + j = m → ((i = 0 ∧ p = -1) ∨ (0 < i ∧ F [i - 1] = p ∧ 0 ≤ p)) → RunsTo Tryd.prog 59 (headOf Tryd.f59 0) (envAt Tryd.f59.ntmps ([(1, vP 101), (6, vL 62 1 m), (7, vN m), (8, vN (i : Nat))])) (Sx.look (([⟨61, false, none, 1, .ta N (.vi .u8 B)⟩] ++ [⟨62, false, none, 1, .ta M (.vi .i64 F)⟩]) ++ ([⟨101, true, none, 123000004, (.tc (.vi .i64 fun _ => k) (.tc (.vi .i64 fun _ => n) (.tc (.vl 61 (fun _ => 0) 1 [] (fun _ => l)) (.tc (.vl 62 (fun _ => 0) 1 [] (fun _ => m)) .t0))))⟩]))) 80 (vB (upR l p ((intsF F m).drop i))) (Sx.look []) 130 from by
    have := q m 0 (-1) (by omega) (.inl ⟨rfl, rfl⟩)
    simpa using this
  intro j
  induction j with
  | zero =>
    intro i p hi hp
    rw [List.drop_eq_nil_of_le (by rw [intsF_len]; omega)]
    exact md3 k n l m N M B F i (by omega)
  | succ j ih =>
    intro i p hi hp
    rw [intsF_drop F (show i < m by omega), upR]
    by_cases hk : p < F [i] ∧ F [i] < l
    · rw [decide_eq_true hk, Bool.true_and]
      exact md1 k n l m N M B F i (F [i]) p hk (by omega) rfl hp hM hl hm _ _ (ih (i + 1) (F [i]) (by omega) (.inr ⟨by omega, rfl, by omega⟩))
    · rw [decide_eq_false hk, Bool.false_and]
      exact md2 k n l m N M B F i (F [i]) p hk (by omega) rfl hp hM hl hm
def mdP : PC := { args := [.agg (.tc (.vi .i64 0) (.tc (.vi .i64 1) (.tc (.vl 61 1 2) (.tc (.vl 62 1 3) .t0))))], heap := [⟨61, false, 1, .ta 5 (.vi .u8 6)⟩, ⟨62, false, 1, .ta 7 (.vi .i64 8)⟩], gs := [], G := 24, tp := 194, n := 80, n' := 130, cond := fun e => decide (eN e 3 ≤ eN e 7) && (decide (eN e 2 ≤ 100000) && decide (eN e 3 ≤ 100000)), v := fun e => vB (upR (eN e 2 : Nat) (-1) (intsF (eI e 8) (eN e 3))), post := fun e => [] }
theorem mdP_pc : PC.Runs Tryd.prog 59 Tryd.f59 (bodyOf Tryd.f59) mdP := ⟨Tryd.func59, by kernel_rfl, (fun g hg => by first | (cases hg; done) | (revert g; show ∀ g ∈ ([] : List Nat), g < 24; decide)), fun e H hc => by
  have hc : (decide (eN e 3 ≤ eN e 7) && (decide (eN e 2 ≤ 100000) && decide (eN e 3 ≤ 100000))) = true := hc
  try simp only [Bool.and_eq_true, decide_eq_true_eq, Nat.beq_eq] at hc
  exact mdT (eI e 0 []) (eI e 1 []) (eN e 2) (eN e 3) (eN e 5) (eN e 7) (eI e 6) (eI e 8) hc.1 hc.2.1 hc.2.2⟩
def sumsRG : List (FuncId × Summ) := [(59, mdP.summ 48)]
theorem baseRG : Base0 Tryd.prog sumsRG := (baseO.cons Tryd.func59 (by kernel_rfl) (PC.summ_ok mdP_pc gtopG))
theorem rgT_p0 (k n : Int) (l m N M : Nat) (B F : Ix → Int) :
    isEnd (evTill Tryd.prog sumsRG 300 (99) 900 31 [.code (bodyOf Tryd.f31)] (envOf [.agg (.tc (.vi .i64 fun _ => k) (.tc (.vi .i64 fun _ => n) (.tc (.vl 61 (fun _ => 0) 1 [] (fun _ => l)) (.tc (.vl 62 (fun _ => 0) 1 [] (fun _ => m)) .t0))))] Tryd.f31.ntmps) (([⟨61, false, none, 1, .ta N (.vi .u8 B)⟩] ++ [⟨62, false, none, 1, .ta M (.vi .i64 F)⟩]) ++ ([])) ⟨[.s false, .s false, .s false, .s false], 80⟩) (endP ([]) (vB (rightV k n l m F)) ([]) 140) =
    (OkL [(k == (1 : Int), false), (k == (2 : Int), false), (k == (3 : Int), false), (k == (4 : Int), false)] ∧ rightV k n l m F = false ∧ True) := by kernel_rfl
theorem rgT_p1 (k n : Int) (l m N M : Nat) (B F : Ix → Int) :
    isEnd (evTill Tryd.prog sumsRG 300 (99) 900 31 [.code (bodyOf Tryd.f31)] (envOf [.agg (.tc (.vi .i64 fun _ => k) (.tc (.vi .i64 fun _ => n) (.tc (.vl 61 (fun _ => 0) 1 [] (fun _ => l)) (.tc (.vl 62 (fun _ => 0) 1 [] (fun _ => m)) .t0))))] Tryd.f31.ntmps) (([⟨61, false, none, 1, .ta N (.vi .u8 B)⟩] ++ [⟨62, false, none, 1, .ta M (.vi .i64 F)⟩]) ++ ([])) ⟨[.s false, .s false, .s false, .s true, .s false], 80⟩) (endP ([]) (vB (rightV k n l m F)) ([]) 140) =
    (OkL [(k == (1 : Int), false), (k == (2 : Int), false), (k == (3 : Int), false), (k == (4 : Int), true), (n == (0 : Int), false)] ∧ rightV k n l m F = false ∧ True) := by kernel_rfl
theorem rgT_p2 (k n : Int) (l m N M : Nat) (B F : Ix → Int) :
    isEnd (evTill Tryd.prog sumsRG 300 (99) 900 31 [.code (bodyOf Tryd.f31)] (envOf [.agg (.tc (.vi .i64 fun _ => k) (.tc (.vi .i64 fun _ => n) (.tc (.vl 61 (fun _ => 0) 1 [] (fun _ => l)) (.tc (.vl 62 (fun _ => 0) 1 [] (fun _ => m)) .t0))))] Tryd.f31.ntmps) (([⟨61, false, none, 1, .ta N (.vi .u8 B)⟩] ++ [⟨62, false, none, 1, .ta M (.vi .i64 F)⟩]) ++ ([])) ⟨[.s false, .s false, .s false, .s true, .s true], 80⟩) (endP ([]) (vB (rightV k n l m F)) ([]) 140) =
    (OkL [(k == (1 : Int), false), (k == (2 : Int), false), (k == (3 : Int), false), (k == (4 : Int), true), (n == (0 : Int), true)] ∧ rightV k n l m F = (IntKind.i64.wrap ((↑l : Int) + (↑m : Int)) == (0 : Int)) ∧ True) := by kernel_rfl
theorem rgT_p3 (k n : Int) (l m N M : Nat) (B F : Ix → Int) :
    isEnd (evTill Tryd.prog sumsRG 300 (99) 900 31 [.code (bodyOf Tryd.f31)] (envOf [.agg (.tc (.vi .i64 fun _ => k) (.tc (.vi .i64 fun _ => n) (.tc (.vl 61 (fun _ => 0) 1 [] (fun _ => l)) (.tc (.vl 62 (fun _ => 0) 1 [] (fun _ => m)) .t0))))] Tryd.f31.ntmps) (([⟨61, false, none, 1, .ta N (.vi .u8 B)⟩] ++ [⟨62, false, none, 1, .ta M (.vi .i64 F)⟩]) ++ ([])) ⟨[.s false, .s false, .s true, .s false], 80⟩) (endP ([]) (vB (rightV k n l m F)) ([]) 140) =
    (OkL [(k == (1 : Int), false), (k == (2 : Int), false), (k == (3 : Int), true), (decide (n ≥ (0 : Int)), false)] ∧ rightV k n l m F = false ∧ True) := by kernel_rfl
theorem rgT_p4 (k n : Int) (l m N M : Nat) (B F : Ix → Int) :
    isEnd (evTill Tryd.prog sumsRG 300 (99) 900 31 [.code (bodyOf Tryd.f31)] (envOf [.agg (.tc (.vi .i64 fun _ => k) (.tc (.vi .i64 fun _ => n) (.tc (.vl 61 (fun _ => 0) 1 [] (fun _ => l)) (.tc (.vl 62 (fun _ => 0) 1 [] (fun _ => m)) .t0))))] Tryd.f31.ntmps) (([⟨61, false, none, 1, .ta N (.vi .u8 B)⟩] ++ [⟨62, false, none, 1, .ta M (.vi .i64 F)⟩]) ++ ([])) ⟨[.s false, .s false, .s true, .s true, .s false], 80⟩) (endP ([]) (vB (rightV k n l m F)) ([]) 140) =
    (OkL [(k == (1 : Int), false), (k == (2 : Int), false), (k == (3 : Int), true), (decide (n ≥ (0 : Int)), true), (decide (n ≤ (9999 : Int)), false)] ∧ rightV k n l m F = false ∧ True) := by kernel_rfl
theorem rgT_p5 (k n : Int) (l m N M : Nat) (B F : Ix → Int) :
    isEnd (evTill Tryd.prog sumsRG 300 (99) 900 31 [.code (bodyOf Tryd.f31)] (envOf [.agg (.tc (.vi .i64 fun _ => k) (.tc (.vi .i64 fun _ => n) (.tc (.vl 61 (fun _ => 0) 1 [] (fun _ => l)) (.tc (.vl 62 (fun _ => 0) 1 [] (fun _ => m)) .t0))))] Tryd.f31.ntmps) (([⟨61, false, none, 1, .ta N (.vi .u8 B)⟩] ++ [⟨62, false, none, 1, .ta M (.vi .i64 F)⟩]) ++ ([])) ⟨[.s false, .s false, .s true, .s true, .s true], 80⟩) (endP ([]) (vB (rightV k n l m F)) ([]) 140) =
    (OkL [(k == (1 : Int), false), (k == (2 : Int), false), (k == (3 : Int), true), (decide (n ≥ (0 : Int)), true), (decide (n ≤ (9999 : Int)), true)] ∧ rightV k n l m F = (IntKind.i64.wrap ((↑l : Int) + (↑m : Int)) == (0 : Int)) ∧ True) := by kernel_rfl
theorem rgT_p6 (k n : Int) (l m N M : Nat) (B F : Ix → Int) :
    isEnd (evTill Tryd.prog sumsRG 300 (99) 900 31 [.code (bodyOf Tryd.f31)] (envOf [.agg (.tc (.vi .i64 fun _ => k) (.tc (.vi .i64 fun _ => n) (.tc (.vl 61 (fun _ => 0) 1 [] (fun _ => l)) (.tc (.vl 62 (fun _ => 0) 1 [] (fun _ => m)) .t0))))] Tryd.f31.ntmps) (([⟨61, false, none, 1, .ta N (.vi .u8 B)⟩] ++ [⟨62, false, none, 1, .ta M (.vi .i64 F)⟩]) ++ ([])) ⟨[.s false, .s true, .s true, .s false], 80⟩) (endP ([]) (vB (rightV k n l m F)) ([]) 140) =
    (OkL [(k == (1 : Int), false), (k == (2 : Int), true), (k == (2 : Int), true), (decide (n ≥ (0 : Int)), false)] ∧ rightV k n l m F = false ∧ True) := by kernel_rfl
theorem rgT_p7 (k n : Int) (l m N M : Nat) (B F : Ix → Int) :
    isEnd (evTill Tryd.prog sumsRG 300 (99) 900 31 [.code (bodyOf Tryd.f31)] (envOf [.agg (.tc (.vi .i64 fun _ => k) (.tc (.vi .i64 fun _ => n) (.tc (.vl 61 (fun _ => 0) 1 [] (fun _ => l)) (.tc (.vl 62 (fun _ => 0) 1 [] (fun _ => m)) .t0))))] Tryd.f31.ntmps) (([⟨61, false, none, 1, .ta N (.vi .u8 B)⟩] ++ [⟨62, false, none, 1, .ta M (.vi .i64 F)⟩]) ++ ([])) ⟨[.s false, .s true, .s true, .s true, .s false], 80⟩) (endP ([]) (vB (rightV k n l m F)) ([]) 140) =
    (OkL [(k == (1 : Int), false), (k == (2 : Int), true), (k == (2 : Int), true), (decide (n ≥ (0 : Int)), true), (decide (n ≤ (9999 : Int)), false)] ∧ rightV k n l m F = false ∧ True) := by kernel_rfl
theorem rgT_p8 (k n : Int) (l m N M : Nat) (B F : Ix → Int) :
    isEnd (evTill Tryd.prog sumsRG 300 (99) 900 31 [.code (bodyOf Tryd.f31)] (envOf [.agg (.tc (.vi .i64 fun _ => k) (.tc (.vi .i64 fun _ => n) (.tc (.vl 61 (fun _ => 0) 1 [] (fun _ => l)) (.tc (.vl 62 (fun _ => 0) 1 [] (fun _ => m)) .t0))))] Tryd.f31.ntmps) (([⟨61, false, none, 1, .ta N (.vi .u8 B)⟩] ++ [⟨62, false, none, 1, .ta M (.vi .i64 F)⟩]) ++ ([])) ⟨[.s false, .s true, .s true, .s true, .s true], 80⟩) (endP ([]) (vB (rightV k n l m F)) ([]) 140) =
    (OkL [(k == (1 : Int), false), (k == (2 : Int), true), (k == (2 : Int), true), (decide (n ≥ (0 : Int)), true), (decide (n ≤ (9999 : Int)), true)] ∧ rightV k n l m F = (IntKind.i64.wrap ((↑l : Int) + (↑m : Int)) == (0 : Int)) ∧ True) := by kernel_rfl
theorem rgT_p9 (k n : Int) (l m N M : Nat) (B F : Ix → Int) :
    isEnd (evTill Tryd.prog sumsRG 300 (99) 900 31 [.code (bodyOf Tryd.f31)] (envOf [.agg (.tc (.vi .i64 fun _ => k) (.tc (.vi .i64 fun _ => n) (.tc (.vl 61 (fun _ => 0) 1 [] (fun _ => l)) (.tc (.vl 62 (fun _ => 0) 1 [] (fun _ => m)) .t0))))] Tryd.f31.ntmps) (([⟨61, false, none, 1, .ta N (.vi .u8 B)⟩] ++ [⟨62, false, none, 1, .ta M (.vi .i64 F)⟩]) ++ ([])) ⟨[.s true, .s false], 80⟩) (endP ([]) (vB (rightV k n l m F)) ([]) 140) =
    (OkL [(k == (1 : Int), true), (n == (0 : Int), false)] ∧ rightV k n l m F = false ∧ True) := by kernel_rfl
theorem rgT_p10 (k n : Int) (l m N M : Nat) (B F : Ix → Int) :
    isEnd (evTill Tryd.prog sumsRG 300 (99) 900 31 [.code (bodyOf Tryd.f31)] (envOf [.agg (.tc (.vi .i64 fun _ => k) (.tc (.vi .i64 fun _ => n) (.tc (.vl 61 (fun _ => 0) 1 [] (fun _ => l)) (.tc (.vl 62 (fun _ => 0) 1 [] (fun _ => m)) .t0))))] Tryd.f31.ntmps) (([⟨61, false, none, 1, .ta N (.vi .u8 B)⟩] ++ [⟨62, false, none, 1, .ta M (.vi .i64 F)⟩]) ++ ([])) ⟨[.s true, .s true, .s false], 80⟩) (endP ([]) (vB (rightV k n l m F)) ([]) 140) =
    (OkL [(k == (1 : Int), true), (n == (0 : Int), true), (decide ((↑l : Int) ≤ (1024 : Int)), false)] ∧ rightV k n l m F = false ∧ True) := by kernel_rfl
theorem rgT_p11 (k n : Int) (l m N M : Nat) (B F : Ix → Int) :
    isEnd (evTill Tryd.prog sumsRG 300 (99) 900 31 [.code (bodyOf Tryd.f31)] (envOf [.agg (.tc (.vi .i64 fun _ => k) (.tc (.vi .i64 fun _ => n) (.tc (.vl 61 (fun _ => 0) 1 [] (fun _ => l)) (.tc (.vl 62 (fun _ => 0) 1 [] (fun _ => m)) .t0))))] Tryd.f31.ntmps) (([⟨61, false, none, 1, .ta N (.vi .u8 B)⟩] ++ [⟨62, false, none, 1, .ta M (.vi .i64 F)⟩]) ++ ([])) ⟨[.s true, .s true, .s true, .s true], 80⟩) (endP ([]) (vB (rightV k n l m F)) ([]) 140) =
    (OkL [(k == (1 : Int), true), (n == (0 : Int), true), (decide ((↑l : Int) ≤ (1024 : Int)), true), (decide (m ≤ M) && (decide (l ≤ (100000 : Nat)) && decide (m ≤ (100000 : Nat))), true)] ∧ rightV k n l m F = upR (↑l : Int) (-1 : Int) (intsF F m) ∧ True) := by kernel_rfl

set_option maxHeartbeats 4000000 in
theorem rgT (k n : Int) (l m N M : Nat) (B F : Ix → Int) (hM : m ≤ M) (hl : l ≤ 100000) (hm : m ≤ 100000)  :
    RunsTo Tryd.prog 31 [.code (bodyOf Tryd.f31)] (envOf [.agg (.tc (.vi .i64 fun _ => k) (.tc (.vi .i64 fun _ => n) (.tc (.vl 61 (fun _ => 0) 1 [] (fun _ => l)) (.tc (.vl 62 (fun _ => 0) 1 [] (fun _ => m)) .t0))))] Tryd.f31.ntmps) (Sx.look (([⟨61, false, none, 1, .ta N (.vi .u8 B)⟩] ++ [⟨62, false, none, 1, .ta M (.vi .i64 F)⟩]) ++ ([]))) 80 (vB (rightV k n l m F)) (Sx.look ([])) 140 := by
  have hw : IntKind.i64.wrap ((l : Int) + (m : Int)) = (l : Int) + (m : Int) := wr64 (by omega)
  refine bcase (c := (k == (1 : Int))) (fun gg0 => ?_) (fun gg0 => ?_)
  · refine bcase (c := (k == (2 : Int))) (fun gg1 => ?_) (fun gg1 => ?_)
    · refine bcase (c := (k == (3 : Int))) (fun gg2 => ?_) (fun gg2 => ?_)
      · refine bcase (c := (k == (4 : Int))) (fun gg3 => ?_) (fun gg3 => ?_)
        · refine runs_last baseRG (Sx.Ends.of (rgT_p0 k n l m N M B F) ⟨?oo, ?rr⟩) (by kernel_rfl) rfl (gtL (by decide)) (by decide)
          case oo =>
            refine (okc gg0 (okc gg1 (okc gg2 (okc gg3 okn))))
            all_goals ((try simp (disch := omega) only [SS, hw]); first | done | omega | assumption | (simp (disch := omega) only [SS, hw] at *; first | done | omega | assumption) | (simp_all; done))
          case rr =>
            refine ⟨?_, trivial⟩
            unfold rightV
            simp only [dT, dF, hw, ieqT, ieqF] at *
            first | (simp_all; done) | (simp_all; omega) | (rw [Bool.eq_iff_iff]; simp_all; omega) | (rw [Bool.eq_iff_iff]; simp only [hw, decide_eq_true_eq, beq_iff_eq, bne_iff_ne]; simp_all; omega)
        · refine bcase (c := (n == (0 : Int))) (fun gg4 => ?_) (fun gg4 => ?_)
          · refine runs_last baseRG (Sx.Ends.of (rgT_p1 k n l m N M B F) ⟨?oo, ?rr⟩) (by kernel_rfl) rfl (gtL (by decide)) (by decide)
            case oo =>
              refine (okc gg0 (okc gg1 (okc gg2 (okc gg3 (okc gg4 okn)))))
              all_goals ((try simp (disch := omega) only [SS, hw]); first | done | omega | assumption | (simp (disch := omega) only [SS, hw] at *; first | done | omega | assumption) | (simp_all; done))
            case rr =>
              refine ⟨?_, trivial⟩
              unfold rightV
              simp only [dT, dF, hw, ieqT, ieqF] at *
              first | (simp_all; done) | (simp_all; omega) | (rw [Bool.eq_iff_iff]; simp_all; omega) | (rw [Bool.eq_iff_iff]; simp only [hw, decide_eq_true_eq, beq_iff_eq, bne_iff_ne]; simp_all; omega)
          · refine runs_last baseRG (Sx.Ends.of (rgT_p2 k n l m N M B F) ⟨?oo, ?rr⟩) (by kernel_rfl) rfl (gtL (by decide)) (by decide)
            case oo =>
              refine (okc gg0 (okc gg1 (okc gg2 (okc gg3 (okc gg4 okn)))))
              all_goals ((try simp (disch := omega) only [SS, hw]); first | done | omega | assumption | (simp (disch := omega) only [SS, hw] at *; first | done | omega | assumption) | (simp_all; done))
            case rr =>
              refine ⟨?_, trivial⟩
              unfold rightV
              simp only [dT, dF, hw, ieqT, ieqF] at *
              first | (simp_all; done) | (simp_all; omega) | (rw [Bool.eq_iff_iff]; simp_all; omega) | (rw [Bool.eq_iff_iff]; simp only [hw, decide_eq_true_eq, beq_iff_eq, bne_iff_ne]; simp_all; omega)
      · refine bcase (c := (decide (n ≥ (0 : Int)))) (fun gg3 => ?_) (fun gg3 => ?_)
        · refine runs_last baseRG (Sx.Ends.of (rgT_p3 k n l m N M B F) ⟨?oo, ?rr⟩) (by kernel_rfl) rfl (gtL (by decide)) (by decide)
          case oo =>
            refine (okc gg0 (okc gg1 (okc gg2 (okc gg3 okn))))
            all_goals ((try simp (disch := omega) only [SS, hw]); first | done | omega | assumption | (simp (disch := omega) only [SS, hw] at *; first | done | omega | assumption) | (simp_all; done))
          case rr =>
            refine ⟨?_, trivial⟩
            unfold rightV
            simp only [dT, dF, hw, ieqT, ieqF] at *
            first | (simp_all; done) | (simp_all; omega) | (rw [Bool.eq_iff_iff]; simp_all; omega) | (rw [Bool.eq_iff_iff]; simp only [hw, decide_eq_true_eq, beq_iff_eq, bne_iff_ne]; simp_all; omega)
        · refine bcase (c := (decide (n ≤ (9999 : Int)))) (fun gg4 => ?_) (fun gg4 => ?_)
          · refine runs_last baseRG (Sx.Ends.of (rgT_p4 k n l m N M B F) ⟨?oo, ?rr⟩) (by kernel_rfl) rfl (gtL (by decide)) (by decide)
            case oo =>
              refine (okc gg0 (okc gg1 (okc gg2 (okc gg3 (okc gg4 okn)))))
              all_goals ((try simp (disch := omega) only [SS, hw]); first | done | omega | assumption | (simp (disch := omega) only [SS, hw] at *; first | done | omega | assumption) | (simp_all; done))
            case rr =>
              refine ⟨?_, trivial⟩
              unfold rightV
              simp only [dT, dF, hw, ieqT, ieqF] at *
              first | (simp_all; done) | (simp_all; omega) | (rw [Bool.eq_iff_iff]; simp_all; omega) | (rw [Bool.eq_iff_iff]; simp only [hw, decide_eq_true_eq, beq_iff_eq, bne_iff_ne]; simp_all; omega)
          · refine runs_last baseRG (Sx.Ends.of (rgT_p5 k n l m N M B F) ⟨?oo, ?rr⟩) (by kernel_rfl) rfl (gtL (by decide)) (by decide)
            case oo =>
              refine (okc gg0 (okc gg1 (okc gg2 (okc gg3 (okc gg4 okn)))))
              all_goals ((try simp (disch := omega) only [SS, hw]); first | done | omega | assumption | (simp (disch := omega) only [SS, hw] at *; first | done | omega | assumption) | (simp_all; done))
            case rr =>
              refine ⟨?_, trivial⟩
              unfold rightV
              simp only [dT, dF, hw, ieqT, ieqF] at *
              first | (simp_all; done) | (simp_all; omega) | (rw [Bool.eq_iff_iff]; simp_all; omega) | (rw [Bool.eq_iff_iff]; simp only [hw, decide_eq_true_eq, beq_iff_eq, bne_iff_ne]; simp_all; omega)
    · refine bcase (c := (decide (n ≥ (0 : Int)))) (fun gg2 => ?_) (fun gg2 => ?_)
      · refine runs_last baseRG (Sx.Ends.of (rgT_p6 k n l m N M B F) ⟨?oo, ?rr⟩) (by kernel_rfl) rfl (gtL (by decide)) (by decide)
        case oo =>
          refine (okc gg0 (okc gg1 (okc gg1 (okc gg2 okn))))
          all_goals ((try simp (disch := omega) only [SS, hw]); first | done | omega | assumption | (simp (disch := omega) only [SS, hw] at *; first | done | omega | assumption) | (simp_all; done))
        case rr =>
          refine ⟨?_, trivial⟩
          unfold rightV
          simp only [dT, dF, hw, ieqT, ieqF] at *
          first | (simp_all; done) | (simp_all; omega) | (rw [Bool.eq_iff_iff]; simp_all; omega) | (rw [Bool.eq_iff_iff]; simp only [hw, decide_eq_true_eq, beq_iff_eq, bne_iff_ne]; simp_all; omega)
      · refine bcase (c := (decide (n ≤ (9999 : Int)))) (fun gg3 => ?_) (fun gg3 => ?_)
        · refine runs_last baseRG (Sx.Ends.of (rgT_p7 k n l m N M B F) ⟨?oo, ?rr⟩) (by kernel_rfl) rfl (gtL (by decide)) (by decide)
          case oo =>
            refine (okc gg0 (okc gg1 (okc gg1 (okc gg2 (okc gg3 okn)))))
            all_goals ((try simp (disch := omega) only [SS, hw]); first | done | omega | assumption | (simp (disch := omega) only [SS, hw] at *; first | done | omega | assumption) | (simp_all; done))
          case rr =>
            refine ⟨?_, trivial⟩
            unfold rightV
            simp only [dT, dF, hw, ieqT, ieqF] at *
            first | (simp_all; done) | (simp_all; omega) | (rw [Bool.eq_iff_iff]; simp_all; omega) | (rw [Bool.eq_iff_iff]; simp only [hw, decide_eq_true_eq, beq_iff_eq, bne_iff_ne]; simp_all; omega)
        · refine runs_last baseRG (Sx.Ends.of (rgT_p8 k n l m N M B F) ⟨?oo, ?rr⟩) (by kernel_rfl) rfl (gtL (by decide)) (by decide)
          case oo =>
            refine (okc gg0 (okc gg1 (okc gg1 (okc gg2 (okc gg3 okn)))))
            all_goals ((try simp (disch := omega) only [SS, hw]); first | done | omega | assumption | (simp (disch := omega) only [SS, hw] at *; first | done | omega | assumption) | (simp_all; done))
          case rr =>
            refine ⟨?_, trivial⟩
            unfold rightV
            simp only [dT, dF, hw, ieqT, ieqF] at *
            first | (simp_all; done) | (simp_all; omega) | (rw [Bool.eq_iff_iff]; simp_all; omega) | (rw [Bool.eq_iff_iff]; simp only [hw, decide_eq_true_eq, beq_iff_eq, bne_iff_ne]; simp_all; omega)
  · refine bcase (c := (n == (0 : Int))) (fun gg1 => ?_) (fun gg1 => ?_)
    · refine runs_last baseRG (Sx.Ends.of (rgT_p9 k n l m N M B F) ⟨?oo, ?rr⟩) (by kernel_rfl) rfl (gtL (by decide)) (by decide)
      case oo =>
        refine (okc gg0 (okc gg1 okn))
        all_goals ((try simp (disch := omega) only [SS, hw]); first | done | omega | assumption | (simp (disch := omega) only [SS, hw] at *; first | done | omega | assumption) | (simp_all; done))
      case rr =>
        refine ⟨?_, trivial⟩
        unfold rightV
        simp only [dT, dF, hw, ieqT, ieqF] at *
        first | (simp_all; done) | (simp_all; omega) | (rw [Bool.eq_iff_iff]; simp_all; omega) | (rw [Bool.eq_iff_iff]; simp only [hw, decide_eq_true_eq, beq_iff_eq, bne_iff_ne]; simp_all; omega)
    · refine bcase (c := (decide ((↑l : Int) ≤ (1024 : Int)))) (fun gg2 => ?_) (fun gg2 => ?_)
      · refine runs_last baseRG (Sx.Ends.of (rgT_p10 k n l m N M B F) ⟨?oo, ?rr⟩) (by kernel_rfl) rfl (gtL (by decide)) (by decide)
        case oo =>
          refine (okc gg0 (okc gg1 (okc gg2 okn)))
          all_goals ((try simp (disch := omega) only [SS, hw]); first | done | omega | assumption | (simp (disch := omega) only [SS, hw] at *; first | done | omega | assumption) | (simp_all; done))
        case rr =>
          refine ⟨?_, trivial⟩
          unfold rightV
          simp only [dT, dF, hw, ieqT, ieqF] at *
          first | (simp_all; done) | (simp_all; omega) | (rw [Bool.eq_iff_iff]; simp_all; omega) | (rw [Bool.eq_iff_iff]; simp only [hw, decide_eq_true_eq, beq_iff_eq, bne_iff_ne]; simp_all; omega)
      · refine runs_last baseRG (Sx.Ends.of (rgT_p11 k n l m N M B F) ⟨?oo, ?rr⟩) (by kernel_rfl) rfl (gtL (by decide)) (by decide)
        case oo =>
          refine (okc gg0 (okc gg1 (okc gg2 (okc ?_ okn))))
          all_goals ((try simp (disch := omega) only [SS, hw]); first | done | omega | assumption | (simp (disch := omega) only [SS, hw] at *; first | done | omega | assumption) | (simp_all; done))
        case rr =>
          refine ⟨?_, trivial⟩
          unfold rightV
          simp only [dT, dF, hw, ieqT, ieqF] at *
          first | (simp_all; done) | (simp_all; omega) | (rw [Bool.eq_iff_iff]; simp_all; omega) | (rw [Bool.eq_iff_iff]; simp only [hw, decide_eq_true_eq, beq_iff_eq, bne_iff_ne]; simp_all; omega)

def rgP : PC := { args := [.agg (.tc (.vi .i64 0) (.tc (.vi .i64 1) (.tc (.vl 61 1 2) (.tc (.vl 62 1 3) .t0))))], heap := [⟨61, false, 1, .ta 5 (.vi .u8 6)⟩, ⟨62, false, 1, .ta 7 (.vi .i64 8)⟩], gs := [], G := 24, tp := 194, n := 80, n' := 140, cond := fun e => decide (eN e 3 ≤ eN e 7) && (decide (eN e 2 ≤ 100000) && decide (eN e 3 ≤ 100000)), v := fun e => vB (rightV (eI e 0 []) (eI e 1 []) (eN e 2) (eN e 3) (eI e 8)), post := fun e => [] }
theorem rgP_pc : PC.Runs Tryd.prog 31 Tryd.f31 (bodyOf Tryd.f31) rgP := ⟨Tryd.func31, by kernel_rfl, (fun g hg => by first | (cases hg; done) | (revert g; show ∀ g ∈ ([] : List Nat), g < 24; decide)), fun e H hc => by
  have hc : (decide (eN e 3 ≤ eN e 7) && (decide (eN e 2 ≤ 100000) && decide (eN e 3 ≤ 100000))) = true := hc
  try simp only [Bool.and_eq_true, decide_eq_true_eq, Nat.beq_eq] at hc
  exact rgT (eI e 0 []) (eI e 1 []) (eN e 2) (eN e 3) (eN e 5) (eN e 7) (eI e 6) (eI e 8) hc.1 hc.2.1 hc.2.2⟩
end Go.Proofs.YtankmgnjkcgpaaaDoor

set_option linter.unusedSimpArgs false
set_option linter.unusedVariables false
set_option maxRecDepth 100000
namespace Go.Proofs.YtankmgnjkcgpaaaDoor
open Go.Sx

open RawR
theorem toldR_len (b : List UInt8) : (toldR b).length ≤ 2 * b.length + 1 := by
  have := hexT_len b
  unfold toldR
  split
  · simp
  · show (hexT b).length ≤ _
    omega
theorem all_loop {ok : Nat → Bool} {n : Nat} {R : Nat → Bool → Prop} (step : ∀ i, i < n → ok i = true → ∀ b, R (i + 1) b → R i b) (stop : ∀ i, i < n → ok i = false → R i false) (fin : R n true) : R 0 ((List.range n).all ok) := by
  suffices q : ∀ (k i : Nat), i + k = n → R i ((List.range' i k).all ok) from by
    have := q n 0 (by omega); rwa [← List.range_eq_range'] at this
  intro k
  induction k with
  | zero => intro i hi; rw [show i = n by omega]; simpa using fin
  | succ k ih =>
    intro i hi
    rw [List.range'_succ, List.all_cons]
    cases h : ok i with
    | true => rw [Bool.true_and]; exact step i (by omega) h _ (ih (i + 1) (by omega))
    | false => rw [Bool.false_and]; exact stop i (by omega) h
def sumsLN : List (FuncId × Summ) := [(31, rgP.summ 48), (61, tdP.summ 48), (62, plP.summ 48), (60, zitP.summ 48)]
theorem baseLN : Base0 Tryd.prog sumsLN := ((((baseO.cons Tryd.func60 (by kernel_rfl) (PC.summ_ok zitP_pc gtopG)).cons Tryd.func62 (by kernel_rfl) (PC.summ_ok plP_pc gtopG)).cons Tryd.func61 (by kernel_rfl) (PC.summ_ok tdP_pc gtopG)).cons Tryd.func31 (by kernel_rfl) (PC.summ_ok rgP_pc gtopG))
theorem ln0_p0 (k n : Int) (l m N M : Nat) (B F P : Ix → Int) :
    isEnd (evTill Tryd.prog sumsLN 400 (99) 900 32 [.code (bodyOf Tryd.f32)] (envOf [.agg (.tc (.vi .i64 fun _ => k) (.tc (.vi .i64 fun _ => n) (.tc (.vl 61 (fun _ => 0) 1 [] (fun _ => l)) (.tc (.vl 62 (fun _ => 0) 1 [] (fun _ => m)) .t0))))] Tryd.f32.ntmps) ((([⟨61, false, none, 1, .ta N (.vi .u8 B)⟩] ++ [⟨62, false, none, 1, .ta M (.vi .i64 F)⟩]) ++ pwF P) ++ ([])) ⟨[.s true, .s true], 80⟩) (endP ([]) (vS ([])) ([]) 300) =
    (OkL [(decide (m ≤ M) && (decide (l ≤ (100000 : Nat)) && decide (m ≤ (100000 : Nat))), true), (!rightV k n l m F, true)] ∧ ([] : List UInt8) = [] ∧ True) := by kernel_rfl

set_option maxHeartbeats 4000000 in
theorem ln0 (k n : Int) (l m N M : Nat) (B F P : Ix → Int) (hr : rightV k n l m F = false) (hM : m ≤ M) (hN : l ≤ N) (hl : l ≤ 100000) (hm : m ≤ 1000) (hB : bndB B l = true) (hF : rangeI F m = true) (hP : pwOK P = true) (hn : inN n = true)  :
    RunsTo Tryd.prog 32 [.code (bodyOf Tryd.f32)] (envOf [.agg (.tc (.vi .i64 fun _ => k) (.tc (.vi .i64 fun _ => n) (.tc (.vl 61 (fun _ => 0) 1 [] (fun _ => l)) (.tc (.vl 62 (fun _ => 0) 1 [] (fun _ => m)) .t0))))] Tryd.f32.ntmps) (Sx.look ((([⟨61, false, none, 1, .ta N (.vi .u8 B)⟩] ++ [⟨62, false, none, 1, .ta M (.vi .i64 F)⟩]) ++ pwF P) ++ ([]))) 80 (vS ([])) (Sx.look ([])) 300 := by
  have q1 := itoa_len hn
  have q2 := toldR_len (lenB B l)
  rw [lenB_len] at q2
  have q3 : (placesR (intsF F m)).length ≤ 22 * m := by have := joinR_le 44 ((intsF F m).map Lib.itoa) (fun a ha => by obtain ⟨x, hx, rfl⟩ := List.mem_map.1 ha; obtain ⟨j, hj, rfl⟩ := List.mem_map.1 hx; exact itoa_len (rangeI_at hF (List.mem_range.1 hj))); rw [List.length_map, intsF_len] at this; exact this
  refine runs_last baseLN (Sx.Ends.of (ln0_p0 k n l m N M B F P) ⟨?oo, ?rr⟩) (by kernel_rfl) rfl (gtL (by decide)) (by decide)
  case oo =>
    refine (okc ?_ (okc ?_ okn))
    all_goals ((try simp only [hr]); first | done | rfl | omega | assumption | exact ⟨hP, hn⟩ | exact ⟨hM, by omega, by omega⟩ | exact ⟨hN, hl, hB⟩ | exact ⟨hM, hm, hP, hF⟩ | (simp (disch := omega) only [SS, hr, List.length_append, List.length_cons, List.length_nil]; first | done | omega | assumption | exact ⟨hP, hn⟩ | exact ⟨hM, by omega, by omega⟩ | exact ⟨hN, hl, hB⟩ | exact ⟨hM, hm, hP, hF⟩) | (simp_all; done) | (simp_all; omega))
  case rr =>
    exact ⟨rfl, trivial⟩

theorem ln2_p0 (k n : Int) (l m N M : Nat) (B F P : Ix → Int) :
    isEnd (evTill Tryd.prog sumsLN 400 (99) 900 32 [.code (bodyOf Tryd.f32)] (envOf [.agg (.tc (.vi .i64 fun _ => k) (.tc (.vi .i64 fun _ => n) (.tc (.vl 61 (fun _ => 0) 1 [] (fun _ => l)) (.tc (.vl 62 (fun _ => 0) 1 [] (fun _ => m)) .t0))))] Tryd.f32.ntmps) ((([⟨61, false, none, 1, .ta N (.vi .u8 B)⟩] ++ [⟨62, false, none, 1, .ta M (.vi .i64 F)⟩]) ++ pwF P) ++ ([])) ⟨[.s true, .s false, .s true, .s true, .s true], 80⟩) (endP ([]) (vS ([103, 114, 97, 110, 116, 32] ++ Lib.itoa n)) ([]) 300) =
    (OkL [(decide (m ≤ M) && (decide (l ≤ (100000 : Nat)) && decide (m ≤ (100000 : Nat))), true), (!rightV k n l m F, false), (k == (2 : Int), true), (pwOK P && inN n, true), (decide ((6 : Nat) + (Lib.itoa n).length ≤ (9223372036854775807 : Nat)), true)] ∧ [(103 : UInt8), (114 : UInt8), (97 : UInt8), (110 : UInt8), (116 : UInt8), (32 : UInt8)] ++ Lib.itoa n = [(103 : UInt8), (114 : UInt8), (97 : UInt8), (110 : UInt8), (116 : UInt8), (32 : UInt8)] ++ Lib.itoa n ∧ True) := by kernel_rfl

set_option maxHeartbeats 4000000 in
theorem ln2 (k n : Int) (l m N M : Nat) (B F P : Ix → Int) (hk : k = 2) (hr : rightV k n l m F = true) (hM : m ≤ M) (hN : l ≤ N) (hl : l ≤ 100000) (hm : m ≤ 1000) (hB : bndB B l = true) (hF : rangeI F m = true) (hP : pwOK P = true) (hn : inN n = true)  :
    RunsTo Tryd.prog 32 [.code (bodyOf Tryd.f32)] (envOf [.agg (.tc (.vi .i64 fun _ => k) (.tc (.vi .i64 fun _ => n) (.tc (.vl 61 (fun _ => 0) 1 [] (fun _ => l)) (.tc (.vl 62 (fun _ => 0) 1 [] (fun _ => m)) .t0))))] Tryd.f32.ntmps) (Sx.look ((([⟨61, false, none, 1, .ta N (.vi .u8 B)⟩] ++ [⟨62, false, none, 1, .ta M (.vi .i64 F)⟩]) ++ pwF P) ++ ([]))) 80 (vS ([103, 114, 97, 110, 116, 32] ++ Lib.itoa n)) (Sx.look ([])) 300 := by
  have q1 := itoa_len hn
  have q2 := toldR_len (lenB B l)
  rw [lenB_len] at q2
  have q3 : (placesR (intsF F m)).length ≤ 22 * m := by have := joinR_le 44 ((intsF F m).map Lib.itoa) (fun a ha => by obtain ⟨x, hx, rfl⟩ := List.mem_map.1 ha; obtain ⟨j, hj, rfl⟩ := List.mem_map.1 hx; exact itoa_len (rangeI_at hF (List.mem_range.1 hj))); rw [List.length_map, intsF_len] at this; exact this
  refine runs_last baseLN (Sx.Ends.of (ln2_p0 k n l m N M B F P) ⟨?oo, ?rr⟩) (by kernel_rfl) rfl (gtL (by decide)) (by decide)
  case oo =>
    refine (okc ?_ (okc ?_ (okc ?_ (okc ?_ (okc ?_ okn)))))
    all_goals ((try simp only [hr]); first | done | rfl | omega | assumption | exact ⟨hP, hn⟩ | exact ⟨hM, by omega, by omega⟩ | exact ⟨hN, hl, hB⟩ | exact ⟨hM, hm, hP, hF⟩ | (simp (disch := omega) only [SS, hr, List.length_append, List.length_cons, List.length_nil]; first | done | omega | assumption | exact ⟨hP, hn⟩ | exact ⟨hM, by omega, by omega⟩ | exact ⟨hN, hl, hB⟩ | exact ⟨hM, hm, hP, hF⟩) | (simp_all; done) | (simp_all; omega))
  case rr =>
    exact ⟨rfl, trivial⟩

theorem ln3_p0 (k n : Int) (l m N M : Nat) (B F P : Ix → Int) :
    isEnd (evTill Tryd.prog sumsLN 400 (99) 900 32 [.code (bodyOf Tryd.f32)] (envOf [.agg (.tc (.vi .i64 fun _ => k) (.tc (.vi .i64 fun _ => n) (.tc (.vl 61 (fun _ => 0) 1 [] (fun _ => l)) (.tc (.vl 62 (fun _ => 0) 1 [] (fun _ => m)) .t0))))] Tryd.f32.ntmps) ((([⟨61, false, none, 1, .ta N (.vi .u8 B)⟩] ++ [⟨62, false, none, 1, .ta M (.vi .i64 F)⟩]) ++ pwF P) ++ ([])) ⟨[.s true, .s false, .s false, .s true, .s true, .s true], 80⟩) (endP ([]) (vS ([116, 105, 99, 107, 32] ++ Lib.itoa n)) ([]) 300) =
    (OkL [(decide (m ≤ M) && (decide (l ≤ (100000 : Nat)) && decide (m ≤ (100000 : Nat))), true), (!rightV k n l m F, false), (k == (2 : Int), false), (k == (3 : Int), true), (pwOK P && inN n, true), (decide ((5 : Nat) + (Lib.itoa n).length ≤ (9223372036854775807 : Nat)), true)] ∧ [(116 : UInt8), (105 : UInt8), (99 : UInt8), (107 : UInt8), (32 : UInt8)] ++ Lib.itoa n = [(116 : UInt8), (105 : UInt8), (99 : UInt8), (107 : UInt8), (32 : UInt8)] ++ Lib.itoa n ∧ True) := by kernel_rfl

set_option maxHeartbeats 4000000 in
theorem ln3 (k n : Int) (l m N M : Nat) (B F P : Ix → Int) (hk : k = 3) (hr : rightV k n l m F = true) (hM : m ≤ M) (hN : l ≤ N) (hl : l ≤ 100000) (hm : m ≤ 1000) (hB : bndB B l = true) (hF : rangeI F m = true) (hP : pwOK P = true) (hn : inN n = true)  :
    RunsTo Tryd.prog 32 [.code (bodyOf Tryd.f32)] (envOf [.agg (.tc (.vi .i64 fun _ => k) (.tc (.vi .i64 fun _ => n) (.tc (.vl 61 (fun _ => 0) 1 [] (fun _ => l)) (.tc (.vl 62 (fun _ => 0) 1 [] (fun _ => m)) .t0))))] Tryd.f32.ntmps) (Sx.look ((([⟨61, false, none, 1, .ta N (.vi .u8 B)⟩] ++ [⟨62, false, none, 1, .ta M (.vi .i64 F)⟩]) ++ pwF P) ++ ([]))) 80 (vS ([116, 105, 99, 107, 32] ++ Lib.itoa n)) (Sx.look ([])) 300 := by
  have q1 := itoa_len hn
  have q2 := toldR_len (lenB B l)
  rw [lenB_len] at q2
  have q3 : (placesR (intsF F m)).length ≤ 22 * m := by have := joinR_le 44 ((intsF F m).map Lib.itoa) (fun a ha => by obtain ⟨x, hx, rfl⟩ := List.mem_map.1 ha; obtain ⟨j, hj, rfl⟩ := List.mem_map.1 hx; exact itoa_len (rangeI_at hF (List.mem_range.1 hj))); rw [List.length_map, intsF_len] at this; exact this
  refine runs_last baseLN (Sx.Ends.of (ln3_p0 k n l m N M B F P) ⟨?oo, ?rr⟩) (by kernel_rfl) rfl (gtL (by decide)) (by decide)
  case oo =>
    refine (okc ?_ (okc ?_ (okc ?_ (okc ?_ (okc ?_ (okc ?_ okn))))))
    all_goals ((try simp only [hr]); first | done | rfl | omega | assumption | exact ⟨hP, hn⟩ | exact ⟨hM, by omega, by omega⟩ | exact ⟨hN, hl, hB⟩ | exact ⟨hM, hm, hP, hF⟩ | (simp (disch := omega) only [SS, hr, List.length_append, List.length_cons, List.length_nil]; first | done | omega | assumption | exact ⟨hP, hn⟩ | exact ⟨hM, by omega, by omega⟩ | exact ⟨hN, hl, hB⟩ | exact ⟨hM, hm, hP, hF⟩) | (simp_all; done) | (simp_all; omega))
  case rr =>
    exact ⟨rfl, trivial⟩

theorem ln4_p0 (k n : Int) (l m N M : Nat) (B F P : Ix → Int) :
    isEnd (evTill Tryd.prog sumsLN 400 (99) 900 32 [.code (bodyOf Tryd.f32)] (envOf [.agg (.tc (.vi .i64 fun _ => k) (.tc (.vi .i64 fun _ => n) (.tc (.vl 61 (fun _ => 0) 1 [] (fun _ => l)) (.tc (.vl 62 (fun _ => 0) 1 [] (fun _ => m)) .t0))))] Tryd.f32.ntmps) ((([⟨61, false, none, 1, .ta N (.vi .u8 B)⟩] ++ [⟨62, false, none, 1, .ta M (.vi .i64 F)⟩]) ++ pwF P) ++ ([])) ⟨[.s true, .s false, .s false, .s false, .s true], 80⟩) (endP ([]) (vS ([99, 108, 111, 115, 101])) ([]) 300) =
    (OkL [(decide (m ≤ M) && (decide (l ≤ (100000 : Nat)) && decide (m ≤ (100000 : Nat))), true), (!rightV k n l m F, false), (k == (2 : Int), false), (k == (3 : Int), false), (k == (4 : Int), true)] ∧ [(99 : UInt8), (108 : UInt8), (111 : UInt8), (115 : UInt8), (101 : UInt8)] = [(99 : UInt8), (108 : UInt8), (111 : UInt8), (115 : UInt8), (101 : UInt8)] ∧ True) := by kernel_rfl

set_option maxHeartbeats 4000000 in
theorem ln4 (k n : Int) (l m N M : Nat) (B F P : Ix → Int) (hk : k = 4) (hr : rightV k n l m F = true) (hM : m ≤ M) (hN : l ≤ N) (hl : l ≤ 100000) (hm : m ≤ 1000) (hB : bndB B l = true) (hF : rangeI F m = true) (hP : pwOK P = true) (hn : inN n = true)  :
    RunsTo Tryd.prog 32 [.code (bodyOf Tryd.f32)] (envOf [.agg (.tc (.vi .i64 fun _ => k) (.tc (.vi .i64 fun _ => n) (.tc (.vl 61 (fun _ => 0) 1 [] (fun _ => l)) (.tc (.vl 62 (fun _ => 0) 1 [] (fun _ => m)) .t0))))] Tryd.f32.ntmps) (Sx.look ((([⟨61, false, none, 1, .ta N (.vi .u8 B)⟩] ++ [⟨62, false, none, 1, .ta M (.vi .i64 F)⟩]) ++ pwF P) ++ ([]))) 80 (vS ([99, 108, 111, 115, 101])) (Sx.look ([])) 300 := by
  have q1 := itoa_len hn
  have q2 := toldR_len (lenB B l)
  rw [lenB_len] at q2
  have q3 : (placesR (intsF F m)).length ≤ 22 * m := by have := joinR_le 44 ((intsF F m).map Lib.itoa) (fun a ha => by obtain ⟨x, hx, rfl⟩ := List.mem_map.1 ha; obtain ⟨j, hj, rfl⟩ := List.mem_map.1 hx; exact itoa_len (rangeI_at hF (List.mem_range.1 hj))); rw [List.length_map, intsF_len] at this; exact this
  refine runs_last baseLN (Sx.Ends.of (ln4_p0 k n l m N M B F P) ⟨?oo, ?rr⟩) (by kernel_rfl) rfl (gtL (by decide)) (by decide)
  case oo =>
    refine (okc ?_ (okc ?_ (okc ?_ (okc ?_ (okc ?_ okn)))))
    all_goals ((try simp only [hr]); first | done | rfl | omega | assumption | exact ⟨hP, hn⟩ | exact ⟨hM, by omega, by omega⟩ | exact ⟨hN, hl, hB⟩ | exact ⟨hM, hm, hP, hF⟩ | (simp (disch := omega) only [SS, hr, List.length_append, List.length_cons, List.length_nil]; first | done | omega | assumption | exact ⟨hP, hn⟩ | exact ⟨hM, by omega, by omega⟩ | exact ⟨hN, hl, hB⟩ | exact ⟨hM, hm, hP, hF⟩) | (simp_all; done) | (simp_all; omega))
  case rr =>
    exact ⟨rfl, trivial⟩

theorem ln1_p0 (k n : Int) (l m N M : Nat) (B F P : Ix → Int) :
    isEnd (evTill Tryd.prog sumsLN 400 (99) 900 32 [.code (bodyOf Tryd.f32)] (envOf [.agg (.tc (.vi .i64 fun _ => k) (.tc (.vi .i64 fun _ => n) (.tc (.vl 61 (fun _ => 0) 1 [] (fun _ => l)) (.tc (.vl 62 (fun _ => 0) 1 [] (fun _ => m)) .t0))))] Tryd.f32.ntmps) ((([⟨61, false, none, 1, .ta N (.vi .u8 B)⟩] ++ [⟨62, false, none, 1, .ta M (.vi .i64 F)⟩]) ++ pwF P) ++ ([])) ⟨[.s true, .s false, .s false, .s false, .s false, .s true, .s true, .s true], 80⟩) (endP ([]) (vS ([98, 121, 116, 101, 115, 32] ++ toldR (lenB B l))) ([]) 300) =
    (OkL [(decide (m ≤ M) && (decide (l ≤ (100000 : Nat)) && decide (m ≤ (100000 : Nat))), true), (!rightV k n l m F, false), (k == (2 : Int), false), (k == (3 : Int), false), (k == (4 : Int), false), ((↑m : Int) == (0 : Int), true), (decide (l ≤ N) && (decide (l ≤ (100000 : Nat)) && bndB B l), true), (decide ((6 : Nat) + (toldR (lenB B l)).length ≤ (9223372036854775807 : Nat)), true)] ∧ [(98 : UInt8), (121 : UInt8), (116 : UInt8), (101 : UInt8), (115 : UInt8), (32 : UInt8)] ++ toldR (lenB B l) = [(98 : UInt8), (121 : UInt8), (116 : UInt8), (101 : UInt8), (115 : UInt8), (32 : UInt8)] ++ toldR (lenB B l) ∧ True) := by kernel_rfl

set_option maxHeartbeats 4000000 in
theorem ln1 (k n : Int) (l m N M : Nat) (B F P : Ix → Int) (hk : k = 1) (h0 : m = 0) (hr : rightV k n l m F = true) (hM : m ≤ M) (hN : l ≤ N) (hl : l ≤ 100000) (hm : m ≤ 1000) (hB : bndB B l = true) (hF : rangeI F m = true) (hP : pwOK P = true) (hn : inN n = true)  :
    RunsTo Tryd.prog 32 [.code (bodyOf Tryd.f32)] (envOf [.agg (.tc (.vi .i64 fun _ => k) (.tc (.vi .i64 fun _ => n) (.tc (.vl 61 (fun _ => 0) 1 [] (fun _ => l)) (.tc (.vl 62 (fun _ => 0) 1 [] (fun _ => m)) .t0))))] Tryd.f32.ntmps) (Sx.look ((([⟨61, false, none, 1, .ta N (.vi .u8 B)⟩] ++ [⟨62, false, none, 1, .ta M (.vi .i64 F)⟩]) ++ pwF P) ++ ([]))) 80 (vS ([98, 121, 116, 101, 115, 32] ++ toldR (lenB B l))) (Sx.look ([])) 300 := by
  have q1 := itoa_len hn
  have q2 := toldR_len (lenB B l)
  rw [lenB_len] at q2
  have q3 : (placesR (intsF F m)).length ≤ 22 * m := by have := joinR_le 44 ((intsF F m).map Lib.itoa) (fun a ha => by obtain ⟨x, hx, rfl⟩ := List.mem_map.1 ha; obtain ⟨j, hj, rfl⟩ := List.mem_map.1 hx; exact itoa_len (rangeI_at hF (List.mem_range.1 hj))); rw [List.length_map, intsF_len] at this; exact this
  refine runs_last baseLN (Sx.Ends.of (ln1_p0 k n l m N M B F P) ⟨?oo, ?rr⟩) (by kernel_rfl) rfl (gtL (by decide)) (by decide)
  case oo =>
    refine (okc ?_ (okc ?_ (okc ?_ (okc ?_ (okc ?_ (okc ?_ (okc ?_ (okc ?_ okn))))))))
    all_goals ((try simp only [hr]); first | done | rfl | omega | assumption | exact ⟨hP, hn⟩ | exact ⟨hM, by omega, by omega⟩ | exact ⟨hN, hl, hB⟩ | exact ⟨hM, hm, hP, hF⟩ | (simp (disch := omega) only [SS, hr, List.length_append, List.length_cons, List.length_nil]; first | done | omega | assumption | exact ⟨hP, hn⟩ | exact ⟨hM, by omega, by omega⟩ | exact ⟨hN, hl, hB⟩ | exact ⟨hM, hm, hP, hF⟩) | (simp_all; done) | (simp_all; omega))
  case rr =>
    exact ⟨rfl, trivial⟩

theorem ln5_p0 (k n : Int) (l m N M : Nat) (B F P : Ix → Int) :
    isEnd (evTill Tryd.prog sumsLN 400 (99) 900 32 [.code (bodyOf Tryd.f32)] (envOf [.agg (.tc (.vi .i64 fun _ => k) (.tc (.vi .i64 fun _ => n) (.tc (.vl 61 (fun _ => 0) 1 [] (fun _ => l)) (.tc (.vl 62 (fun _ => 0) 1 [] (fun _ => m)) .t0))))] Tryd.f32.ntmps) ((([⟨61, false, none, 1, .ta N (.vi .u8 B)⟩] ++ [⟨62, false, none, 1, .ta M (.vi .i64 F)⟩]) ++ pwF P) ++ ([])) ⟨[.s true, .s false, .s false, .s false, .s false, .s false, .s true, .s true, .s true, .s true, .s true], 80⟩) (endP ([]) (vS ((([98, 121, 116, 101, 115, 32] ++ toldR (lenB B l)) ++ [32, 109, 97, 114, 107, 115, 32]) ++ placesR (intsF F m))) ([]) 300) =
    (OkL [(decide (m ≤ M) && (decide (l ≤ (100000 : Nat)) && decide (m ≤ (100000 : Nat))), true), (!rightV k n l m F, false), (k == (2 : Int), false), (k == (3 : Int), false), (k == (4 : Int), false), ((↑m : Int) == (0 : Int), false), (decide (l ≤ N) && (decide (l ≤ (100000 : Nat)) && bndB B l), true), (decide ((6 : Nat) + (toldR (lenB B l)).length ≤ (9223372036854775807 : Nat)), true), (decide (([(98 : UInt8), (121 : UInt8), (116 : UInt8), (101 : UInt8), (115 : UInt8), (32 : UInt8)] ++ toldR (lenB B l)).length + (7 : Nat) ≤ (9223372036854775807 : Nat)), true), (decide (m ≤ M) && (decide (m ≤ (1000 : Nat)) && (pwOK P && rangeI F m)), true), (decide (([(98 : UInt8), (121 : UInt8), (116 : UInt8), (101 : UInt8), (115 : UInt8), (32 : UInt8)] ++ toldR (lenB B l) ++ [(32 : UInt8), (109 : UInt8), (97 : UInt8), (114 : UInt8), (107 : UInt8), (115 : UInt8), (32 : UInt8)]).length + (placesR (intsF F m)).length ≤ (9223372036854775807 : Nat)), true)] ∧ [(98 : UInt8), (121 : UInt8), (116 : UInt8), (101 : UInt8), (115 : UInt8), (32 : UInt8)] ++ toldR (lenB B l) ++ [(32 : UInt8), (109 : UInt8), (97 : UInt8), (114 : UInt8), (107 : UInt8), (115 : UInt8), (32 : UInt8)] ++ placesR (intsF F m) = [(98 : UInt8), (121 : UInt8), (116 : UInt8), (101 : UInt8), (115 : UInt8), (32 : UInt8)] ++ toldR (lenB B l) ++ [(32 : UInt8), (109 : UInt8), (97 : UInt8), (114 : UInt8), (107 : UInt8), (115 : UInt8), (32 : UInt8)] ++ placesR (intsF F m) ∧ True) := by kernel_rfl

set_option maxHeartbeats 4000000 in
theorem ln5 (k n : Int) (l m N M : Nat) (B F P : Ix → Int) (hk : k = 1) (h0 : m ≠ 0) (hr : rightV k n l m F = true) (hM : m ≤ M) (hN : l ≤ N) (hl : l ≤ 100000) (hm : m ≤ 1000) (hB : bndB B l = true) (hF : rangeI F m = true) (hP : pwOK P = true) (hn : inN n = true)  :
    RunsTo Tryd.prog 32 [.code (bodyOf Tryd.f32)] (envOf [.agg (.tc (.vi .i64 fun _ => k) (.tc (.vi .i64 fun _ => n) (.tc (.vl 61 (fun _ => 0) 1 [] (fun _ => l)) (.tc (.vl 62 (fun _ => 0) 1 [] (fun _ => m)) .t0))))] Tryd.f32.ntmps) (Sx.look ((([⟨61, false, none, 1, .ta N (.vi .u8 B)⟩] ++ [⟨62, false, none, 1, .ta M (.vi .i64 F)⟩]) ++ pwF P) ++ ([]))) 80 (vS ((([98, 121, 116, 101, 115, 32] ++ toldR (lenB B l)) ++ [32, 109, 97, 114, 107, 115, 32]) ++ placesR (intsF F m))) (Sx.look ([])) 300 := by
  have q1 := itoa_len hn
  have q2 := toldR_len (lenB B l)
  rw [lenB_len] at q2
  have q3 : (placesR (intsF F m)).length ≤ 22 * m := by have := joinR_le 44 ((intsF F m).map Lib.itoa) (fun a ha => by obtain ⟨x, hx, rfl⟩ := List.mem_map.1 ha; obtain ⟨j, hj, rfl⟩ := List.mem_map.1 hx; exact itoa_len (rangeI_at hF (List.mem_range.1 hj))); rw [List.length_map, intsF_len] at this; exact this
  refine runs_last baseLN (Sx.Ends.of (ln5_p0 k n l m N M B F P) ⟨?oo, ?rr⟩) (by kernel_rfl) rfl (gtL (by decide)) (by decide)
  case oo =>
    refine (okc ?_ (okc ?_ (okc ?_ (okc ?_ (okc ?_ (okc ?_ (okc ?_ (okc ?_ (okc ?_ (okc ?_ (okc ?_ okn)))))))))))
    all_goals ((try simp only [hr]); first | done | rfl | omega | assumption | exact ⟨hP, hn⟩ | exact ⟨hM, by omega, by omega⟩ | exact ⟨hN, hl, hB⟩ | exact ⟨hM, hm, hP, hF⟩ | (simp (disch := omega) only [SS, hr, List.length_append, List.length_cons, List.length_nil]; first | done | omega | assumption | exact ⟨hP, hn⟩ | exact ⟨hM, by omega, by omega⟩ | exact ⟨hN, hl, hB⟩ | exact ⟨hM, hm, hP, hF⟩) | (simp_all; done) | (simp_all; omega))
  case rr =>
    exact ⟨rfl, trivial⟩

theorem rightV_k {k n : Int} {l m : Nat} {F : Ix → Int} (h : rightV k n l m F = true) : k = 1 ∨ k = 2 ∨ k = 3 ∨ k = 4 := by
  unfold rightV at h
  split at h
  · omega
  · split at h
    · omega
    · split at h
      · omega
      · cases h
theorem lnT (k n : Int) (l m N M : Nat) (B F P : Ix → Int) (hM : m ≤ M) (hN : l ≤ N) (hl : l ≤ 100000) (hm : m ≤ 1000) (hB : bndB B l = true) (hF : rangeI F m = true) (hP : pwOK P = true) (hn : inN n = true) : RunsTo Tryd.prog 32 [.code (bodyOf Tryd.f32)] (envOf [.agg (.tc (.vi .i64 fun _ => k) (.tc (.vi .i64 fun _ => n) (.tc (.vl 61 (fun _ => 0) 1 [] (fun _ => l)) (.tc (.vl 62 (fun _ => 0) 1 [] (fun _ => m)) .t0))))] Tryd.f32.ntmps) (Sx.look ((([⟨61, false, none, 1, .ta N (.vi .u8 B)⟩] ++ [⟨62, false, none, 1, .ta M (.vi .i64 F)⟩]) ++ pwF P) ++ ([]))) 80 (vS (lineV k n l m B F)) (Sx.look []) 300 := by
  unfold lineV
  cases hr : rightV k n l m F with
  | false => exact ln0 k n l m N M B F P hr hM hN hl hm hB hF hP hn
  | true =>
    rw [if_pos rfl]
    unfold lineR evF
    have e2 : (intsF F m = []) = (m = 0) := by rw [← List.length_eq_zero_iff, intsF_len]
    rcases rightV_k hr with hk | hk | hk | hk
    · by_cases h0 : m = 0
      · have := ln1 k n l m N M B F P hk h0 hr hM hN hl hm hB hF hP hn
        rw [if_neg (by show ¬ k = 2; omega), if_neg (by show ¬ k = 3; omega), if_neg (by show ¬ k = 4; omega), if_pos (by rw [e2]; exact h0)]
        exact this
      · have := ln5 k n l m N M B F P hk h0 hr hM hN hl hm hB hF hP hn
        rw [if_neg (by show ¬ k = 2; omega), if_neg (by show ¬ k = 3; omega), if_neg (by show ¬ k = 4; omega), if_neg (by rw [e2]; exact h0)]
        rw [show (([98, 121, 116, 101, 115, 32] ++ toldR (lenB B l)) ++ [32, 109, 97, 114, 107, 115, 32]) ++ placesR (intsF F m) = wBytes ++ 32 :: (toldR (lenB B l) ++ 32 :: (wMarks ++ 32 :: placesR (intsF F m))) by simp [wBytes, wMarks]] at this
        exact this
    · rw [if_pos (show k = 2 from hk)]; exact ln2 k n l m N M B F P hk hr hM hN hl hm hB hF hP hn
    · rw [if_neg (by show ¬ k = 2; omega), if_pos (show k = 3 from hk)]; exact ln3 k n l m N M B F P hk hr hM hN hl hm hB hF hP hn
    · rw [if_neg (by show ¬ k = 2; omega), if_neg (by show ¬ k = 3; omega), if_pos (show k = 4 from hk)]; exact ln4 k n l m N M B F P hk hr hM hN hl hm hB hF hP hn
def lnP : PC := { args := [.agg (.tc (.vi .i64 0) (.tc (.vi .i64 1) (.tc (.vl 61 1 2) (.tc (.vl 62 1 3) .t0))))], heap := [⟨61, false, 1, .ta 5 (.vi .u8 6)⟩, ⟨62, false, 1, .ta 7 (.vi .i64 8)⟩], fams := [], tabs := [⟨17, false, 20, .tn 20 (.vi .u64 9)⟩], gs := [], G := 24, tp := 194, n := 80, n' := 300, cond := fun e => decide (eN e 3 ≤ eN e 7) && (decide (eN e 2 ≤ eN e 5) && (decide (eN e 2 ≤ 100000) && (decide (eN e 3 ≤ 1000) && (bndB (eI e 6) (eN e 2) && (rangeI (eI e 8) (eN e 3) && (pwOK (eI e 9) && inN (eI e 1 []))))))) , v := fun e => vS (lineV (eI e 0 []) (eI e 1 []) (eN e 2) (eN e 3) (eI e 6) (eI e 8)), post := fun e => [] }
theorem lnP_pc : PC.Runs Tryd.prog 32 Tryd.f32 (bodyOf Tryd.f32) lnP := ⟨Tryd.func32, by kernel_rfl, (fun g hg => by first | (cases hg; done) | (revert g; show ∀ g ∈ ([] : List Nat), g < 24; decide)), fun e H hc => by
  have hc : (decide (eN e 3 ≤ eN e 7) && (decide (eN e 2 ≤ eN e 5) && (decide (eN e 2 ≤ 100000) && (decide (eN e 3 ≤ 1000) && (bndB (eI e 6) (eN e 2) && (rangeI (eI e 8) (eN e 3) && (pwOK (eI e 9) && inN (eI e 1 []))))))) ) = true := hc
  try simp only [Bool.and_eq_true, decide_eq_true_eq, Nat.beq_eq] at hc
  exact lnT (eI e 0 []) (eI e 1 []) (eN e 2) (eN e 3) (eN e 5) (eN e 7) (eI e 6) (eI e 8) (eI e 9) hc.1 hc.2.1 hc.2.2.1 hc.2.2.2.1 hc.2.2.2.2.1 hc.2.2.2.2.2.1 hc.2.2.2.2.2.2.1 hc.2.2.2.2.2.2.2⟩
theorem se0_p0 (n m M N : Nat) (F U : Ix → Int) :
    isEnd (evTill Tryd.prog [] 300 (99) 900 64 [.code (bodyOf Tryd.f64)] (envOf [vL 62 1 n, vL 64 1 m] Tryd.f64.ntmps) (([⟨62, false, none, 1, .ta M (.vi .i64 F)⟩] ++ [⟨64, false, none, 1, .ta N (.vi .i64 U)⟩]) ++ ([])) ⟨[.s true], 80⟩) (endP ([]) (vB false) ([]) 130) =
    (OkL [((↑n : Int) != (↑m : Int), true)] ∧ false = false ∧ True) := by kernel_rfl

set_option maxHeartbeats 4000000 in
theorem se0 (n m M N : Nat) (F U : Ix → Int) (h : n ≠ m)  :
    RunsTo Tryd.prog 64 [.code (bodyOf Tryd.f64)] (envOf [vL 62 1 n, vL 64 1 m] Tryd.f64.ntmps) (Sx.look (([⟨62, false, none, 1, .ta M (.vi .i64 F)⟩] ++ [⟨64, false, none, 1, .ta N (.vi .i64 U)⟩]) ++ ([]))) 80 (vB false) (Sx.look ([])) 130 := by
  refine runs_last baseO (Sx.Ends.of (se0_p0 n m M N F U) ⟨?oo, ?rr⟩) (by kernel_rfl) rfl (gtL (by decide)) (by decide)
  case oo =>
    refine (okc ?_ okn)
    all_goals ((try simp (disch := omega) only [SS]); first | done | omega | assumption | (simp (disch := omega) only [SS] at *; first | done | omega | assumption) | (simp_all; done))
  case rr =>
    try simp (disch := omega) only [SS]
    repeat' apply And.intro
    all_goals first | exact True.intro | with_reducible rfl | omega | (intros; first | exact True.intro | with_reducible rfl | omega | (simp_all; done)) | (simp_all; done) | rfl

theorem se1_p0 (n m M N : Nat) (F U : Ix → Int) :
    isMore (evTill Tryd.prog [] 300 (behind Tryd.f64 0) 900 64 [.code (bodyOf Tryd.f64)] (envOf [vL 62 1 n, vL 64 1 m] Tryd.f64.ntmps) (([⟨62, false, none, 1, .ta M (.vi .i64 F)⟩] ++ [⟨64, false, none, 1, .ta N (.vi .i64 U)⟩]) ++ ([])) ⟨[.s false], 80⟩) (moreP (headOf Tryd.f64 0) ([]) Tryd.f64.ntmps ([(0, vL 62 1 n), (1, vL 64 1 m), (12, vN n), (13, vN (0 : Nat))]) ([]) 130) =
    (OkL [((↑n : Int) != (↑m : Int), false)] ∧ headOf Tryd.f64 (0 : Nat) = headOf Tryd.f64 (0 : Nat) ∧ (((0 : Nat) = (0 : Nat) ∧ n = n) ∧ ((0 : Nat) = (0 : Nat) ∧ m = m) ∧ (↑n : Int) = (↑n : Int) ∧ (↑(0 : Nat) : Int) = (0 : Int)) ∧ True) := by kernel_rfl

set_option maxHeartbeats 4000000 in
theorem se1 (n m M N : Nat) (F U : Ix → Int) (e : n = m)  (v : SV) (L' : HF) (next : RunsTo Tryd.prog 64 (headOf Tryd.f64 0) (envAt Tryd.f64.ntmps ([(0, vL 62 1 n), (1, vL 64 1 m), (12, vN n), (13, vN (0 : Nat))])) (Sx.look (([⟨62, false, none, 1, .ta M (.vi .i64 F)⟩] ++ [⟨64, false, none, 1, .ta N (.vi .i64 U)⟩]) ++ ([]))) 80 (v) (L') 130) :
    RunsTo Tryd.prog 64 [.code (bodyOf Tryd.f64)] (envOf [vL 62 1 n, vL 64 1 m] Tryd.f64.ntmps) (Sx.look (([⟨62, false, none, 1, .ta M (.vi .i64 F)⟩] ++ [⟨64, false, none, 1, .ta N (.vi .i64 U)⟩]) ++ ([]))) 80 (v) (L') 130 := by
  refine runs_more baseO (More.of (se1_p0 n m M N F U) ⟨?oo, rfl, ?rr⟩) (by kernel_rfl) (by kernel_rfl) rfl (gtL (by decide)) (by decide) next
  case oo =>
    clear next
    refine (okc ?_ okn)
    all_goals ((try simp (disch := omega) only [SS]); first | done | omega | assumption | (simp (disch := omega) only [SS] at *; first | done | omega | assumption) | (simp_all; done))
  case rr =>
    clear next
    try simp (disch := omega) only [SS]
    repeat' apply And.intro
    all_goals first | exact True.intro | with_reducible rfl | omega | (intros; first | exact True.intro | with_reducible rfl | omega | (simp_all; done)) | (simp_all; done) | rfl

theorem se2_p0 (n m M N : Nat) (F U : Ix → Int) (i : Nat) :
    isMore (evTill Tryd.prog [] 300 (behind Tryd.f64 0) 900 64 (headOf Tryd.f64 0) (envAt Tryd.f64.ntmps ([(0, vL 62 1 n), (1, vL 64 1 m), (12, vN n), (13, vN (i : Nat))])) (([⟨62, false, none, 1, .ta M (.vi .i64 F)⟩] ++ [⟨64, false, none, 1, .ta N (.vi .i64 U)⟩]) ++ ([])) ⟨[.s true, .s true, .s true, .s true, .s true, .s true, .s true, .s false], 110⟩) (moreP (headOf Tryd.f64 0) ([]) Tryd.f64.ntmps ([(0, vL 62 1 n), (1, vL 64 1 m), (12, vN n), (13, vN (i + 1 : Nat))]) ([]) 130) =
    (OkL [(decide ((↑i : Int) < (↑n : Int)), true), (decide ((0 : Int) ≤ (↑i : Int) ∧ (↑i : Int) < (↑n : Int)), true), (((0 : Nat) + (↑i : Int).toNat).blt M, true), (((0 : Nat) + (↑i : Int).toNat).blt M, true), (decide ((0 : Int) ≤ (↑i : Int) ∧ (↑i : Int) < (↑m : Int)), true), (((0 : Nat) + (↑i : Int).toNat).blt N, true), (((0 : Nat) + (↑i : Int).toNat).blt N, true), (F [(0 : Nat) + (↑i : Int).toNat] != U [(0 : Nat) + (↑i : Int).toNat], false)] ∧ headOf Tryd.f64 (0 : Nat) = headOf Tryd.f64 (0 : Nat) ∧ (((0 : Nat) = (0 : Nat) ∧ n = n) ∧ ((0 : Nat) = (0 : Nat) ∧ m = m) ∧ (↑n : Int) = (↑n : Int) ∧ (↑(i + (1 : Nat)) : Int) = IntKind.i64.wrap ((↑i : Int) + (1 : Int))) ∧ True) := by kernel_rfl

set_option maxHeartbeats 4000000 in
theorem se2 (n m M N : Nat) (F U : Ix → Int) (i : Nat) (hi : i < n) (e : n = m) (hM : n ≤ M) (hM2 : m ≤ N) (hn : n ≤ 100000) (h : F [i] = U [i])  (v : SV) (L' : HF) (next : RunsTo Tryd.prog 64 (headOf Tryd.f64 0) (envAt Tryd.f64.ntmps ([(0, vL 62 1 n), (1, vL 64 1 m), (12, vN n), (13, vN (i + 1 : Nat))])) (Sx.look (([⟨62, false, none, 1, .ta M (.vi .i64 F)⟩] ++ [⟨64, false, none, 1, .ta N (.vi .i64 U)⟩]) ++ ([]))) 80 (v) (L') 130) :
    RunsTo Tryd.prog 64 (headOf Tryd.f64 0) (envAt Tryd.f64.ntmps ([(0, vL 62 1 n), (1, vL 64 1 m), (12, vN n), (13, vN (i : Nat))])) (Sx.look (([⟨62, false, none, 1, .ta M (.vi .i64 F)⟩] ++ [⟨64, false, none, 1, .ta N (.vi .i64 U)⟩]) ++ ([]))) 80 (v) (L') 130 := by
  have hw : IntKind.i64.wrap ((i : Int) + 1) = ((i + 1 : Nat) : Int) := by rw [wr64 (by omega)]; rfl
  refine runs_more baseO (More.of (se2_p0 n m M N F U i) ⟨?oo, rfl, ?rr⟩) (by kernel_rfl) (by kernel_rfl) rfl (gtL (by decide)) (by decide) next
  case oo =>
    clear next
    refine (okc ?_ (okc ?_ (okc ?_ (okc ?_ (okc ?_ (okc ?_ (okc ?_ (okc ?_ okn))))))))
    all_goals ((try simp (disch := omega) only [SS, hw, h]); first | done | omega | assumption | (simp (disch := omega) only [SS, hw, h] at *; first | done | omega | assumption) | (simp_all; done))
  case rr =>
    clear next
    try simp (disch := omega) only [SS, hw, h]
    repeat' apply And.intro
    all_goals first | exact True.intro | with_reducible rfl | omega | (intros; first | exact True.intro | with_reducible rfl | omega | (simp_all; done)) | (simp_all; done) | rfl

theorem se3_p0 (n m M N : Nat) (F U : Ix → Int) (i : Nat) :
    isEnd (evTill Tryd.prog [] 300 (99) 900 64 (headOf Tryd.f64 0) (envAt Tryd.f64.ntmps ([(0, vL 62 1 n), (1, vL 64 1 m), (12, vN n), (13, vN (i : Nat))])) (([⟨62, false, none, 1, .ta M (.vi .i64 F)⟩] ++ [⟨64, false, none, 1, .ta N (.vi .i64 U)⟩]) ++ ([])) ⟨[.s true, .s true, .s true, .s true, .s true, .s true, .s true, .s true], 110⟩) (endP ([]) (vB false) ([]) 130) =
    (OkL [(decide ((↑i : Int) < (↑n : Int)), true), (decide ((0 : Int) ≤ (↑i : Int) ∧ (↑i : Int) < (↑n : Int)), true), (((0 : Nat) + (↑i : Int).toNat).blt M, true), (((0 : Nat) + (↑i : Int).toNat).blt M, true), (decide ((0 : Int) ≤ (↑i : Int) ∧ (↑i : Int) < (↑m : Int)), true), (((0 : Nat) + (↑i : Int).toNat).blt N, true), (((0 : Nat) + (↑i : Int).toNat).blt N, true), (F [(0 : Nat) + (↑i : Int).toNat] != U [(0 : Nat) + (↑i : Int).toNat], true)] ∧ false = false ∧ True) := by kernel_rfl

set_option maxHeartbeats 4000000 in
theorem se3 (n m M N : Nat) (F U : Ix → Int) (i : Nat) (hi : i < n) (e : n = m) (hM : n ≤ M) (hM2 : m ≤ N) (hn : n ≤ 100000) (h : F [i] ≠ U [i])  :
    RunsTo Tryd.prog 64 (headOf Tryd.f64 0) (envAt Tryd.f64.ntmps ([(0, vL 62 1 n), (1, vL 64 1 m), (12, vN n), (13, vN (i : Nat))])) (Sx.look (([⟨62, false, none, 1, .ta M (.vi .i64 F)⟩] ++ [⟨64, false, none, 1, .ta N (.vi .i64 U)⟩]) ++ ([]))) 80 (vB false) (Sx.look ([])) 130 := by
  have hw : IntKind.i64.wrap ((i : Int) + 1) = ((i + 1 : Nat) : Int) := by rw [wr64 (by omega)]; rfl
  refine runs_last baseO (Sx.Ends.of (se3_p0 n m M N F U i) ⟨?oo, ?rr⟩) (by kernel_rfl) rfl (gtL (by decide)) (by decide)
  case oo =>
    refine (okc ?_ (okc ?_ (okc ?_ (okc ?_ (okc ?_ (okc ?_ (okc ?_ (okc ?_ okn))))))))
    all_goals ((try simp (disch := omega) only [SS, hw, h]); first | done | omega | assumption | (simp (disch := omega) only [SS, hw, h] at *; first | done | omega | assumption) | (simp_all; done))
  case rr =>
    try simp (disch := omega) only [SS, hw, h]
    repeat' apply And.intro
    all_goals first | exact True.intro | with_reducible rfl | omega | (intros; first | exact True.intro | with_reducible rfl | omega | (simp_all; done)) | (simp_all; done) | rfl

theorem se4_p0 (n m M N : Nat) (F U : Ix → Int) (i : Nat) :
    isEnd (evTill Tryd.prog [] 300 (99) 900 64 (headOf Tryd.f64 0) (envAt Tryd.f64.ntmps ([(0, vL 62 1 n), (1, vL 64 1 m), (12, vN n), (13, vN (i : Nat))])) (([⟨62, false, none, 1, .ta M (.vi .i64 F)⟩] ++ [⟨64, false, none, 1, .ta N (.vi .i64 U)⟩]) ++ ([])) ⟨[.s false], 110⟩) (endP ([]) (YES) ([]) 130) =
    (OkL [(decide ((↑i : Int) < (↑n : Int)), false)] ∧ true = true ∧ True) := by kernel_rfl

set_option maxHeartbeats 4000000 in
theorem se4 (n m M N : Nat) (F U : Ix → Int) (i : Nat) (hi : i = n)  :
    RunsTo Tryd.prog 64 (headOf Tryd.f64 0) (envAt Tryd.f64.ntmps ([(0, vL 62 1 n), (1, vL 64 1 m), (12, vN n), (13, vN (i : Nat))])) (Sx.look (([⟨62, false, none, 1, .ta M (.vi .i64 F)⟩] ++ [⟨64, false, none, 1, .ta N (.vi .i64 U)⟩]) ++ ([]))) 80 (YES) (Sx.look ([])) 130 := by
  refine runs_last baseO (Sx.Ends.of (se4_p0 n m M N F U i) ⟨?oo, ?rr⟩) (by kernel_rfl) rfl (gtL (by decide)) (by decide)
  case oo =>
    refine (okc ?_ okn)
    all_goals ((try simp (disch := omega) only [SS]); first | done | omega | assumption | (simp (disch := omega) only [SS] at *; first | done | omega | assumption) | (simp_all; done))
  case rr =>
    try simp (disch := omega) only [SS]
    repeat' apply And.intro
    all_goals first | exact True.intro | with_reducible rfl | omega | (intros; first | exact True.intro | with_reducible rfl | omega | (simp_all; done)) | (simp_all; done) | rfl

theorem seT (n m M N : Nat) (F U : Ix → Int) (hM : n ≤ M) (hM2 : m ≤ N) (hn : n ≤ 100000) : RunsTo Tryd.prog 64 [.code (bodyOf Tryd.f64)] (envOf [vL 62 1 n, vL 64 1 m] Tryd.f64.ntmps) (Sx.look (([⟨62, false, none, 1, .ta M (.vi .i64 F)⟩] ++ [⟨64, false, none, 1, .ta N (.vi .i64 U)⟩]) ++ ([]))) 80 (vB (eqI n m F U)) (Sx.look []) 130 := by
  unfold eqI
  by_cases h : n = m
  · refine se1 n m M N F U h _ _ ?_
    rw [decide_eq_true h, Bool.true_and]
    exact all_loop (R := fun i b => RunsTo Tryd.prog 64 (headOf Tryd.f64 0) (envAt Tryd.f64.ntmps ([(0, vL 62 1 n), (1, vL 64 1 m), (12, vN n), (13, vN (i : Nat))])) (Sx.look (([⟨62, false, none, 1, .ta M (.vi .i64 F)⟩] ++ [⟨64, false, none, 1, .ta N (.vi .i64 U)⟩]) ++ ([]))) 80 (vB b) (Sx.look []) 130) (fun i hi hk b q => se2 n m M N F U i hi h hM hM2 hn (of_decide_eq_true hk) _ _ q) (fun i hi hk => se3 n m M N F U i hi h hM hM2 hn (of_decide_eq_false hk)) (se4 n m M N F U n rfl)
  · rw [decide_eq_false h, Bool.false_and]; exact se0 n m M N F U h
def seP : PC := { args := [.v (.vl 62 1 0), .v (.vl 64 1 1)], heap := [⟨62, false, 1, .ta 5 (.vi .i64 6)⟩, ⟨64, false, 1, .ta 7 (.vi .i64 8)⟩], gs := [], G := 24, tp := 194, n := 80, n' := 130, cond := fun e => decide (eN e 0 ≤ eN e 5) && (decide (eN e 1 ≤ eN e 7) && decide (eN e 0 ≤ 100000)), v := fun e => vB (eqI (eN e 0) (eN e 1) (eI e 6) (eI e 8)), post := fun e => [] }
theorem seP_pc : PC.Runs Tryd.prog 64 Tryd.f64 (bodyOf Tryd.f64) seP := ⟨Tryd.func64, by kernel_rfl, (fun g hg => by first | (cases hg; done) | (revert g; show ∀ g ∈ ([] : List Nat), g < 24; decide)), fun e H hc => by
  have hc : (decide (eN e 0 ≤ eN e 5) && (decide (eN e 1 ≤ eN e 7) && decide (eN e 0 ≤ 100000))) = true := hc
  try simp only [Bool.and_eq_true, decide_eq_true_eq, Nat.beq_eq] at hc
  exact seT (eN e 0) (eN e 1) (eN e 5) (eN e 7) (eI e 6) (eI e 8) hc.1 hc.2.1 hc.2.2⟩
def sumsSM : List (FuncId × Summ) := [(64, seP.summ 48)]
theorem baseSM : Base0 Tryd.prog sumsSM := (baseO.cons Tryd.func64 (by kernel_rfl) (PC.summ_ok seP_pc gtopG))
theorem smT_p0 (k n : Int) (l m N M : Nat) (B F : Ix → Int) (k' n' : Int) (l' m' N' M' : Nat) (B' F' : Ix → Int) :
    isEnd (evTill Tryd.prog sumsSM 300 (99) 900 33 [.code (bodyOf Tryd.f33)] (envOf [.agg (.tc (.vi .i64 fun _ => k) (.tc (.vi .i64 fun _ => n) (.tc (.vl 61 (fun _ => 0) 1 [] (fun _ => l)) (.tc (.vl 62 (fun _ => 0) 1 [] (fun _ => m)) .t0)))), .agg (.tc (.vi .i64 fun _ => k') (.tc (.vi .i64 fun _ => n') (.tc (.vl 63 (fun _ => 0) 1 [] (fun _ => l')) (.tc (.vl 64 (fun _ => 0) 1 [] (fun _ => m')) .t0))))] Tryd.f33.ntmps) ((([⟨61, false, none, 1, .ta N (.vi .u8 B)⟩] ++ [⟨62, false, none, 1, .ta M (.vi .i64 F)⟩]) ++ ([⟨63, false, none, 1, .ta N' (.vi .u8 B')⟩] ++ [⟨64, false, none, 1, .ta M' (.vi .i64 F')⟩])) ++ ([])) ⟨[.s false], 80⟩) (endP ([]) (vB (sameV k n k' n' l m l' m' B B' F F')) ([]) 150) =
    (OkL [(k == k', false)] ∧ sameV k n k' n' l m l' m' B B' F F' = false ∧ True) := by kernel_rfl
theorem smT_p1 (k n : Int) (l m N M : Nat) (B F : Ix → Int) (k' n' : Int) (l' m' N' M' : Nat) (B' F' : Ix → Int) :
    isEnd (evTill Tryd.prog sumsSM 300 (99) 900 33 [.code (bodyOf Tryd.f33)] (envOf [.agg (.tc (.vi .i64 fun _ => k) (.tc (.vi .i64 fun _ => n) (.tc (.vl 61 (fun _ => 0) 1 [] (fun _ => l)) (.tc (.vl 62 (fun _ => 0) 1 [] (fun _ => m)) .t0)))), .agg (.tc (.vi .i64 fun _ => k') (.tc (.vi .i64 fun _ => n') (.tc (.vl 63 (fun _ => 0) 1 [] (fun _ => l')) (.tc (.vl 64 (fun _ => 0) 1 [] (fun _ => m')) .t0))))] Tryd.f33.ntmps) ((([⟨61, false, none, 1, .ta N (.vi .u8 B)⟩] ++ [⟨62, false, none, 1, .ta M (.vi .i64 F)⟩]) ++ ([⟨63, false, none, 1, .ta N' (.vi .u8 B')⟩] ++ [⟨64, false, none, 1, .ta M' (.vi .i64 F')⟩])) ++ ([])) ⟨[.s true, .s false], 80⟩) (endP ([]) (vB (sameV k n k' n' l m l' m' B B' F F')) ([]) 150) =
    (OkL [(k == k', true), (n == n', false)] ∧ sameV k n k' n' l m l' m' B B' F F' = false ∧ True) := by kernel_rfl
theorem smT_p2 (k n : Int) (l m N M : Nat) (B F : Ix → Int) (k' n' : Int) (l' m' N' M' : Nat) (B' F' : Ix → Int) :
    isEnd (evTill Tryd.prog sumsSM 300 (99) 900 33 [.code (bodyOf Tryd.f33)] (envOf [.agg (.tc (.vi .i64 fun _ => k) (.tc (.vi .i64 fun _ => n) (.tc (.vl 61 (fun _ => 0) 1 [] (fun _ => l)) (.tc (.vl 62 (fun _ => 0) 1 [] (fun _ => m)) .t0)))), .agg (.tc (.vi .i64 fun _ => k') (.tc (.vi .i64 fun _ => n') (.tc (.vl 63 (fun _ => 0) 1 [] (fun _ => l')) (.tc (.vl 64 (fun _ => 0) 1 [] (fun _ => m')) .t0))))] Tryd.f33.ntmps) ((([⟨61, false, none, 1, .ta N (.vi .u8 B)⟩] ++ [⟨62, false, none, 1, .ta M (.vi .i64 F)⟩]) ++ ([⟨63, false, none, 1, .ta N' (.vi .u8 B')⟩] ++ [⟨64, false, none, 1, .ta M' (.vi .i64 F')⟩])) ++ ([])) ⟨[.s true, .s true, .s true, .s true, .s false], 80⟩) (endP ([]) (vB (sameV k n k' n' l m l' m' B B' F F')) ([]) 150) =
    (OkL [(k == k', true), (n == n', true), (((0 : Nat) + l).ble N, true), (((0 : Nat) + l').ble N', true), (bytesOf B [] (0 : Nat) l == bytesOf B' [] (0 : Nat) l', false)] ∧ sameV k n k' n' l m l' m' B B' F F' = false ∧ True) := by kernel_rfl
theorem smT_p3 (k n : Int) (l m N M : Nat) (B F : Ix → Int) (k' n' : Int) (l' m' N' M' : Nat) (B' F' : Ix → Int) :
    isEnd (evTill Tryd.prog sumsSM 300 (99) 900 33 [.code (bodyOf Tryd.f33)] (envOf [.agg (.tc (.vi .i64 fun _ => k) (.tc (.vi .i64 fun _ => n) (.tc (.vl 61 (fun _ => 0) 1 [] (fun _ => l)) (.tc (.vl 62 (fun _ => 0) 1 [] (fun _ => m)) .t0)))), .agg (.tc (.vi .i64 fun _ => k') (.tc (.vi .i64 fun _ => n') (.tc (.vl 63 (fun _ => 0) 1 [] (fun _ => l')) (.tc (.vl 64 (fun _ => 0) 1 [] (fun _ => m')) .t0))))] Tryd.f33.ntmps) ((([⟨61, false, none, 1, .ta N (.vi .u8 B)⟩] ++ [⟨62, false, none, 1, .ta M (.vi .i64 F)⟩]) ++ ([⟨63, false, none, 1, .ta N' (.vi .u8 B')⟩] ++ [⟨64, false, none, 1, .ta M' (.vi .i64 F')⟩])) ++ ([])) ⟨[.s true, .s true, .s true, .s true, .s true, .s true], 80⟩) (endP ([]) (vB (sameV k n k' n' l m l' m' B B' F F')) ([]) 150) =
    (OkL [(k == k', true), (n == n', true), (((0 : Nat) + l).ble N, true), (((0 : Nat) + l').ble N', true), (bytesOf B [] (0 : Nat) l == bytesOf B' [] (0 : Nat) l', true), (decide (m ≤ M) && (decide (m' ≤ M') && decide (m ≤ (100000 : Nat))), true)] ∧ sameV k n k' n' l m l' m' B B' F F' = eqI m m' F F' ∧ True) := by kernel_rfl

set_option maxHeartbeats 4000000 in
theorem smT (k n : Int) (l m N M : Nat) (B F : Ix → Int) (k' n' : Int) (l' m' N' M' : Nat) (B' F' : Ix → Int) (h1 : l ≤ N) (h2 : m ≤ M) (h3 : l' ≤ N') (h4 : m' ≤ M') (h5 : m ≤ 100000)  :
    RunsTo Tryd.prog 33 [.code (bodyOf Tryd.f33)] (envOf [.agg (.tc (.vi .i64 fun _ => k) (.tc (.vi .i64 fun _ => n) (.tc (.vl 61 (fun _ => 0) 1 [] (fun _ => l)) (.tc (.vl 62 (fun _ => 0) 1 [] (fun _ => m)) .t0)))), .agg (.tc (.vi .i64 fun _ => k') (.tc (.vi .i64 fun _ => n') (.tc (.vl 63 (fun _ => 0) 1 [] (fun _ => l')) (.tc (.vl 64 (fun _ => 0) 1 [] (fun _ => m')) .t0))))] Tryd.f33.ntmps) (Sx.look ((([⟨61, false, none, 1, .ta N (.vi .u8 B)⟩] ++ [⟨62, false, none, 1, .ta M (.vi .i64 F)⟩]) ++ ([⟨63, false, none, 1, .ta N' (.vi .u8 B')⟩] ++ [⟨64, false, none, 1, .ta M' (.vi .i64 F')⟩])) ++ ([]))) 80 (vB (sameV k n k' n' l m l' m' B B' F F')) (Sx.look ([])) 150 := by
  refine bcase (c := (k == k')) (fun gg0 => ?_) (fun gg0 => ?_)
  · refine runs_last baseSM (Sx.Ends.of (smT_p0 k n l m N M B F k' n' l' m' N' M' B' F') ⟨?oo, ?rr⟩) (by kernel_rfl) rfl (gtL (by decide)) (by decide)
    case oo =>
      refine (okc gg0 okn)
      all_goals first | rfl | assumption | exact ⟨h2, h4, h5⟩ | (simp (disch := omega) only [SS]; first | done | omega | exact ⟨h2, h4, h5⟩) | (simp_all; done)
    case rr =>
      refine ⟨?_, trivial⟩
      unfold sameV
      simp only [dT, dF, ieqT, ieqF, lenB, Go.Sx.sum] at *
      first | (simp_all; done) | (rw [Bool.eq_iff_iff]; simp_all; done)
  · refine bcase (c := (n == n')) (fun gg1 => ?_) (fun gg1 => ?_)
    · refine runs_last baseSM (Sx.Ends.of (smT_p1 k n l m N M B F k' n' l' m' N' M' B' F') ⟨?oo, ?rr⟩) (by kernel_rfl) rfl (gtL (by decide)) (by decide)
      case oo =>
        refine (okc gg0 (okc gg1 okn))
        all_goals first | rfl | assumption | exact ⟨h2, h4, h5⟩ | (simp (disch := omega) only [SS]; first | done | omega | exact ⟨h2, h4, h5⟩) | (simp_all; done)
      case rr =>
        refine ⟨?_, trivial⟩
        unfold sameV
        simp only [dT, dF, ieqT, ieqF, lenB, Go.Sx.sum] at *
        first | (simp_all; done) | (rw [Bool.eq_iff_iff]; simp_all; done)
    · refine bcase (c := (bytesOf B [] (0 : Nat) l == bytesOf B' [] (0 : Nat) l')) (fun gg2 => ?_) (fun gg2 => ?_)
      · refine runs_last baseSM (Sx.Ends.of (smT_p2 k n l m N M B F k' n' l' m' N' M' B' F') ⟨?oo, ?rr⟩) (by kernel_rfl) rfl (gtL (by decide)) (by decide)
        case oo =>
          refine (okc gg0 (okc gg1 (okc ?_ (okc ?_ (okc gg2 okn)))))
          all_goals first | rfl | assumption | exact ⟨h2, h4, h5⟩ | (simp (disch := omega) only [SS]; first | done | omega | exact ⟨h2, h4, h5⟩) | (simp_all; done)
        case rr =>
          refine ⟨?_, trivial⟩
          unfold sameV
          simp only [dT, dF, ieqT, ieqF, lenB, Go.Sx.sum] at *
          first | (simp_all; done) | (rw [Bool.eq_iff_iff]; simp_all; done)
      · refine runs_last baseSM (Sx.Ends.of (smT_p3 k n l m N M B F k' n' l' m' N' M' B' F') ⟨?oo, ?rr⟩) (by kernel_rfl) rfl (gtL (by decide)) (by decide)
        case oo =>
          refine (okc gg0 (okc gg1 (okc ?_ (okc ?_ (okc gg2 (okc ?_ okn))))))
          all_goals first | rfl | assumption | exact ⟨h2, h4, h5⟩ | (simp (disch := omega) only [SS]; first | done | omega | exact ⟨h2, h4, h5⟩) | (simp_all; done)
        case rr =>
          refine ⟨?_, trivial⟩
          unfold sameV
          simp only [dT, dF, ieqT, ieqF, lenB, Go.Sx.sum] at *
          first | (simp_all; done) | (rw [Bool.eq_iff_iff]; simp_all; done)

end Go.Proofs.YtankmgnjkcgpaaaDoor

set_option linter.unusedSimpArgs false
set_option linter.unusedVariables false
set_option maxRecDepth 100000
namespace Go.Proofs.YtankmgnjkcgpaaaDoor
open Go.Sx

open RawR
def paX (H : List Ent) : List Ent := sentEnts 24 194 (textsIn 24 H [1, 20, 21])
def evTr (l f : Nat) (e : RawR.Ev) : Tr := .tc (.vi .i64 fun _ => e.K) (.tc (.vi .i64 fun _ => e.N) (.tc (.vl l (fun _ => 0) 1 [] (fun _ => e.B.length)) (.tc (.vl f (fun _ => 0) 1 [] (fun _ => e.M.length)) .t0)))
def paV (e : RawR.Ev) (k : Nat) : SV := .tup [(true, evTr 141 142 e), (false, .vx 194 errL fun _ => k)]
def evR (s : List UInt8) : RawR.Ev := (parseR s).getD ev0
def evK (s : List UInt8) : Nat := if (parseR s).isSome then 16 else 4
def evP (e : RawR.Ev) : List Ent := bW 141 e.B ++ iW 142 e.M
def sumsPA : List (FuncId × Summ) := [(76, spP.summ 48), (86, rdP.summ 48), (87, mkP.summ 48), (88, nuP.summ 48), (31, rgP.summ 48)]
theorem basePA : Base0 Tryd.prog sumsPA := (((((baseO.cons Tryd.func31 (by kernel_rfl) (PC.summ_ok rgP_pc gtopG)).cons Tryd.func88 (by kernel_rfl) (PC.summ_ok nuP_pc gtopG)).cons Tryd.func87 (by kernel_rfl) (PC.summ_ok mkP_pc gtopG)).cons Tryd.func86 (by kernel_rfl) (PC.summ_ok rdP_pc gtopG)).cons Tryd.func76 (by kernel_rfl) (PC.summ_ok spP_pc gtopG))
def sumsPB : List (FuncId × Summ) := [(76, spP.summ 48), (86, rdP.summ 48), (87, mkP.summ 48), (88, nuP.summ 48)]
theorem basePB : Base0 Tryd.prog sumsPB := ((((baseO.cons Tryd.func88 (by kernel_rfl) (PC.summ_ok nuP_pc gtopG)).cons Tryd.func87 (by kernel_rfl) (PC.summ_ok mkP_pc gtopG)).cons Tryd.func86 (by kernel_rfl) (PC.summ_ok rdP_pc gtopG)).cons Tryd.func76 (by kernel_rfl) (PC.summ_ok spP_pc gtopG))

variable (H : List Ent) (s x : List UInt8)
abbrev rg1 := splitR (#[(32 : UInt8)].toList.headD (0 : UInt8)) s
abbrev rg2 := (decide ([(32 : UInt8)] = [#[(32 : UInt8)].toList.headD (0 : UInt8)]) && (decide ((0 : Int) = (0 : Int)) && (decide ((-1 : Int) = (-1 : Int)) && decide (s.length ≤ (1000000 : Nat)))), true)
abbrev rg28 := Sx.look (paX H ++ ([]))
abbrev rg3 := RunsTo Tryd.prog 30 [.code (bodyOf Tryd.f30)] (envOf [vS s] Tryd.f30.ntmps) (rg28 H) 80 (paV (ev0) 4) (Sx.look (evP (ev0))) 400
abbrev rg4 := (((0 : Int) = (0 : Int) ∧ (0 : Int) = (0 : Int) ∧ 0 = 0 ∧ 0 = 0) ∧ (0 = 0 ∧ true = true) ∧ True) ∧ 0 = 0 ∧ 0 = 0
abbrev rg9 := (↑(rg1 s).length : Int)
abbrev rg5 := (decide ((0 : Int) ≤ 0 ∧ (0 : Int) < (rg9 s)), true)
abbrev rg6 := (Nat.blt (0 : Nat) (rg1 s).length, true)
abbrev rg7 := ((rg1 s).getD (0 : Nat) [] == [(98 : UInt8), (121 : UInt8), (116 : UInt8), (101 : UInt8), (115 : UInt8)], false)
abbrev rg8 := ((rg1 s).getD (0 : Nat) [] == [(98 : UInt8), (121 : UInt8), (116 : UInt8), (101 : UInt8), (115 : UInt8)], true)
abbrev rg10 := (rg1 s).getD (1 : Nat) []
abbrev rg11 := (Nat.blt (1 : Nat) (rg1 s).length, true)
abbrev rg12 := ((rg1 s).getD (0 : Nat) [] == [(103 : UInt8), (114 : UInt8), (97 : UInt8), (110 : UInt8), (116 : UInt8)], false)
abbrev rg13 := (decide ((0 : Int) ≤ 1 ∧ (1 : Int) < (rg9 s)), true)
abbrev rg14 := (decide ((rg10 s).length ≤ (1000000 : Nat)), true)
abbrev rg15 := (rg1 s).getD (3 : Nat) []
abbrev rg16 := (!(rg1 s).getD (2 : Nat) [] == [(109 : UInt8), (97 : UInt8), (114 : UInt8), (107 : UInt8), (115 : UInt8)], false)
abbrev rg17 := (Nat.blt (2 : Nat) (rg1 s).length, true)
abbrev rg18 := ((rg1 s).getD (0 : Nat) [] == [(103 : UInt8), (114 : UInt8), (97 : UInt8), (110 : UInt8), (116 : UInt8)], true)
abbrev rg19 := (decide ((0 : Int) ≤ 2 ∧ (2 : Int) < (rg9 s)), true)
abbrev rg20 := ((rg1 s).getD (0 : Nat) [] == [(116 : UInt8), (105 : UInt8), (99 : UInt8), (107 : UInt8)], false)
abbrev rg21 := ((rg1 s).getD (0 : Nat) [] == [(116 : UInt8), (105 : UInt8), (99 : UInt8), (107 : UInt8)], true)
abbrev rg30 := marksV (rg15 s)
abbrev rg32 := readV (rg10 s)
abbrev rg22 := (decide ((rg30 s).length ≤ (rg30 s).length) && (decide ((rg32 s).length ≤ (100000 : Nat)) && decide ((rg30 s).length ≤ (100000 : Nat))), true)
abbrev rg23 := ((readV x).length = (rg32 s).length ∧ ∀ (i : Nat), i < (readV x).length → (↑((readV x).getD i (0 : UInt8)).toNat : Int) = (↑((rg32 s).getD i (0 : UInt8)).toNat : Int))
abbrev rg24 := (Nat.blt (3 : Nat) (rg1 s).length, true)
abbrev rg25 := ((rg1 s).getD (0 : Nat) [] == [(99 : UInt8), (108 : UInt8), (111 : UInt8), (115 : UInt8), (101 : UInt8)], true)
abbrev rg26 := (decide ((0 : Int) ≤ 3 ∧ (3 : Int) < (rg9 s)), true)
abbrev rg27 := (decide ((rg15 s).length ≤ (1000000 : Nat)), true)
abbrev rg29 := ((rg9 s) == 4, true)
abbrev rg31 := ((rg9 s) == 2, false)
set_option maxHeartbeats 4000000 in
theorem pa0 (H : List Ent) (s : List UInt8) (w : List UInt8) (ws : List (List UInt8)) (hl : s.length ≤ 100000) (hT : splitR 32 s = w :: ws) (hw1 : w ≠ [98, 121, 116, 101, 115]) (hw2 : w ≠ [103, 114, 97, 110, 116]) (hw3 : w ≠ [116, 105, 99, 107]) (hw4 : w ≠ [99, 108, 111, 115, 101])  :
    (rg3 H s) := by
  have E' := hT
  refine rEn basePB 500 (99) 900 80 (hI 9 196693) ([((141 : Nat), Rn.nil (1 : Nat)), ((142 : Nat), Rn.nil (1 : Nat))]) [(rg2 s), (rg5 s), (rg6 s), (rg6 s), (rg7 s), (rg12 s), (rg20 s), ((rg1 s).getD (0 : Nat) [] == [(99 : UInt8), (108 : UInt8), (111 : UInt8), (115 : UInt8), (101 : UInt8)], false)] rg4 (oc8 ?_ ?_ ?_ ?_ ?_ ?_ ?_ ?_ okn) ?_
  all_goals try dsimp only [rg2, rg5, rg9, rg1, rg6, rg7, rg12, rg20, rg4]
  all_goals exact sc1

set_option maxHeartbeats 4000000 in
theorem pag1 (H : List Ent) (s : List UInt8) (ws : List (List UInt8)) (hl : s.length ≤ 100000) (hT : splitR 32 s = [103, 114, 97, 110, 116] :: ws) (hn : ws.length ≠ 1)  :
    (rg3 H s) := by
  have E' := hT
  refine rEn basePB 500 (99) 900 80 (hI 8 54357) ([((141 : Nat), Rn.nil (1 : Nat)), ((142 : Nat), Rn.nil (1 : Nat))]) [(rg2 s), (rg5 s), (rg6 s), (rg6 s), (rg7 s), (rg18 s), ((rg9 s) != (2 : Int), true)] rg4 (oc7 ?_ ?_ ?_ ?_ ?_ ?_ ?_ okn) ?_
  all_goals try dsimp only [rg2, rg5, rg9, rg1, rg6, rg7, rg18, rg4]
  all_goals exact sc1

set_option maxHeartbeats 4000000 in
theorem pag2 (H : List Ent) (s : List UInt8) (x : List UInt8) (hl : s.length ≤ 100000) (hT : splitR 32 s = [[103, 114, 97, 110, 116], x]) (hx : numOK x = false) (hxl : x.length ≤ 100000)  :
    (rg3 H s) := by
  have E' := hT
  refine rEn basePB 500 (99) 900 80 (hI 12 5588053) ([((141 : Nat), Rn.nil (1 : Nat)), ((142 : Nat), Rn.nil (1 : Nat))]) [(rg2 s), (rg5 s), (rg6 s), (rg6 s), (rg7 s), (rg18 s), ((rg9 s) != (2 : Int), false), (rg13 s), (rg11 s), (rg11 s), (rg14 s), (!numOK (rg10 s), true)] rg4 (oc3 ?_ ?_ ?_ (oc9 ?_ ?_ ?_ ?_ ?_ ?_ ?_ ?_ ?_ okn)) ?_
  all_goals try dsimp only [rg2, rg5, rg9, rg1, rg6, rg7, rg18, rg13, rg11, rg14, rg10, rg4]
  all_goals exact sc1

set_option maxHeartbeats 4000000 in
theorem pag3 (H : List Ent) (s : List UInt8) (x b : List UInt8) (m : List Int) (hl : s.length ≤ 100000) (hT : splitR 32 s = [[103, 114, 97, 110, 116], x]) (hb : b = []) (hm : m = []) (hx : numOK x = true) (hxl : x.length ≤ 100000) (h0 : 0 ≤ numV x) (h9 : numV x ≤ 9999)  :
    (RunsTo Tryd.prog 30 [.code (bodyOf Tryd.f30)] (envOf [vS s] Tryd.f30.ntmps) (rg28 H) 80 (paV (⟨2, numV x, b, m⟩) 16) (Sx.look (evP (⟨2, numV x, b, m⟩))) 400) := by
  have E' := hT
  refine rEn basePB 500 (99) 900 80 (hI 18 42917512277) ([((141 : Nat), Rn.nil (1 : Nat)), ((142 : Nat), Rn.nil (1 : Nat))]) [(rg2 s), (rg5 s), (rg6 s), (rg6 s), (rg7 s), (rg18 s), ((rg9 s) != (2 : Int), false), (rg13 s), (rg11 s), (rg11 s), (rg14 s), (!numOK (rg10 s), false), (decide (numV (rg10 s) ≤ 9999), true)] ((((2 : Int) = (2 : Int) ∧ numV x = numV (rg10 s) ∧ b.length = (0 : Nat) ∧ m.length = (0 : Nat)) ∧ (none : Option Nat) = none ∧ True) ∧ b.length = (0 : Nat) ∧ m.length = (0 : Nat)) (oc4 ?_ ?_ ?_ ?_ (oc9 ?_ ?_ ?_ ?_ ?_ ?_ ?_ ?_ ?_ okn)) ?_
  all_goals try dsimp only [rg2, rg5, rg9, rg1, rg6, rg7, rg18, rg13, rg11, rg14, rg10]
  all_goals exact sc1

set_option maxHeartbeats 4000000 in
theorem pat1 (H : List Ent) (s : List UInt8) (ws : List (List UInt8)) (hl : s.length ≤ 100000) (hT : splitR 32 s = [116, 105, 99, 107] :: ws) (hn : ws.length ≠ 1)  :
    (rg3 H s) := by
  have E' := hT
  refine rEn basePB 500 (99) 900 80 (hI 9 217173) ([((141 : Nat), Rn.nil (1 : Nat)), ((142 : Nat), Rn.nil (1 : Nat))]) [(rg2 s), (rg5 s), (rg6 s), (rg6 s), (rg7 s), (rg12 s), (rg21 s), ((rg9 s) != (2 : Int), true)] rg4 (oc8 ?_ ?_ ?_ ?_ ?_ ?_ ?_ ?_ okn) ?_
  all_goals try dsimp only [rg2, rg5, rg9, rg1, rg6, rg7, rg12, rg21, rg4]
  all_goals exact sc1

set_option maxHeartbeats 4000000 in
theorem pat2 (H : List Ent) (s : List UInt8) (x : List UInt8) (hl : s.length ≤ 100000) (hT : splitR 32 s = [[116, 105, 99, 107], x]) (hx : numOK x = false) (hxl : x.length ≤ 100000)  :
    (rg3 H s) := by
  have E' := hT
  refine rEn basePB 500 (99) 900 80 (hI 13 22351957) ([((141 : Nat), Rn.nil (1 : Nat)), ((142 : Nat), Rn.nil (1 : Nat))]) [(rg2 s), (rg5 s), (rg6 s), (rg6 s), (rg7 s), (rg12 s), (rg21 s), ((rg9 s) != (2 : Int), false), (rg13 s), (rg11 s), (rg11 s), (rg14 s), (!numOK (rg10 s), true)] rg4 (oc4 ?_ ?_ ?_ ?_ (oc9 ?_ ?_ ?_ ?_ ?_ ?_ ?_ ?_ ?_ okn)) ?_
  all_goals try dsimp only [rg2, rg5, rg9, rg1, rg6, rg7, rg12, rg21, rg13, rg11, rg14, rg10, rg4]
  all_goals exact sc1

set_option maxHeartbeats 4000000 in
theorem pat3 (H : List Ent) (s : List UInt8) (x b : List UInt8) (m : List Int) (hl : s.length ≤ 100000) (hT : splitR 32 s = [[116, 105, 99, 107], x]) (hb : b = []) (hm : m = []) (hx : numOK x = true) (hxl : x.length ≤ 100000) (h0 : 0 ≤ numV x) (h9 : numV x ≤ 9999)  :
    (RunsTo Tryd.prog 30 [.code (bodyOf Tryd.f30)] (envOf [vS s] Tryd.f30.ntmps) (rg28 H) 80 (paV (⟨3, numV x, b, m⟩) 16) (Sx.look (evP (⟨3, numV x, b, m⟩))) 400) := by
  have E' := hT
  refine rEn basePB 500 (99) 900 80 (hI 19 171401613397) ([((141 : Nat), Rn.nil (1 : Nat)), ((142 : Nat), Rn.nil (1 : Nat))]) [(rg2 s), (rg5 s), (rg6 s), (rg6 s), (rg7 s), (rg12 s), (rg21 s), ((rg9 s) != (2 : Int), false), (rg13 s), (rg11 s), (rg11 s), (rg14 s), (!numOK (rg10 s), false), (decide (numV (rg10 s) ≤ 9999), true)] ((((3 : Int) = (3 : Int) ∧ numV x = numV (rg10 s) ∧ b.length = (0 : Nat) ∧ m.length = (0 : Nat)) ∧ (none : Option Nat) = none ∧ True) ∧ b.length = (0 : Nat) ∧ m.length = (0 : Nat)) (oc5 ?_ ?_ ?_ ?_ ?_ (oc9 ?_ ?_ ?_ ?_ ?_ ?_ ?_ ?_ ?_ okn)) ?_
  all_goals try dsimp only [rg2, rg5, rg9, rg1, rg6, rg7, rg12, rg21, rg13, rg11, rg14, rg10]
  all_goals exact sc1

set_option maxHeartbeats 4000000 in
theorem pac1 (H : List Ent) (s : List UInt8) (ws : List (List UInt8)) (hl : s.length ≤ 100000) (hT : splitR 32 s = [99, 108, 111, 115, 101] :: ws) (hn : ws.length ≠ 0)  :
    (rg3 H s) := by
  have E' := hT
  refine rEn basePB 500 (99) 900 80 (hI 9 82005) ([((141 : Nat), Rn.nil (1 : Nat)), ((142 : Nat), Rn.nil (1 : Nat))]) [(rg2 s), (rg5 s), (rg6 s), (rg6 s), (rg7 s), (rg12 s), (rg20 s), (rg25 s), (!(rg9 s) == 1, true)] rg4 (oc9 ?_ ?_ ?_ ?_ ?_ ?_ ?_ ?_ ?_ okn) ?_
  all_goals try dsimp only [rg2, rg5, rg9, rg1, rg6, rg7, rg12, rg20, rg25, rg4]
  all_goals exact sc1

set_option maxHeartbeats 4000000 in
theorem pac2 (H : List Ent) (s : List UInt8) (b : List UInt8) (m : List Int) (hl : s.length ≤ 100000) (hT : splitR 32 s = [[99, 108, 111, 115, 101]]) (hb : b = []) (hm : m = [])  :
    (RunsTo Tryd.prog 30 [.code (bodyOf Tryd.f30)] (envOf [vS s] Tryd.f30.ntmps) (rg28 H) 80 (paV (⟨4, 0, b, m⟩) 16) (Sx.look (evP (⟨4, 0, b, m⟩))) 400) := by
  have E' := hT
  refine rEn basePB 500 (99) 900 80 (hI 15 799555669) ([((141 : Nat), Rn.nil (1 : Nat)), ((142 : Nat), Rn.nil (1 : Nat))]) [(rg2 s), (rg5 s), (rg6 s), (rg6 s), (rg7 s), (rg12 s), (rg20 s), (rg25 s), (!(rg9 s) == 1, false)] ((((4 : Int) = (4 : Int) ∧ (0 : Int) = (0 : Int) ∧ b.length = (0 : Nat) ∧ m.length = (0 : Nat)) ∧ (none : Option Nat) = none ∧ True) ∧ b.length = (0 : Nat) ∧ m.length = (0 : Nat)) (oc9 ?_ ?_ ?_ ?_ ?_ ?_ ?_ ?_ ?_ okn) ?_
  all_goals try dsimp only [rg2, rg5, rg9, rg1, rg6, rg7, rg12, rg20, rg25]
  all_goals exact sc1

set_option maxHeartbeats 4000000 in
theorem pab1 (H : List Ent) (s : List UInt8) (ws : List (List UInt8)) (hl : s.length ≤ 100000) (hT : splitR 32 s = [98, 121, 116, 101, 115] :: ws) (hn : ws.length ≠ 1) (hm : ws.length ≠ 3)  :
    (rg3 H s) := by
  have E' := hT
  refine rEn basePB 500 (99) 900 80 (hI 8 49493) ([((141 : Nat), Rn.nil (1 : Nat)), ((142 : Nat), Rn.nil (1 : Nat))]) [(rg2 s), (rg5 s), (rg6 s), (rg6 s), (rg8 s), (rg31 s), ((rg9 s) == 4, false)] rg4 (oc7 ?_ ?_ ?_ ?_ ?_ ?_ ?_ okn) ?_
  all_goals try dsimp only [rg2, rg5, rg9, rg1, rg6, rg8, rg31, rg4]
  all_goals exact sc1

set_option maxHeartbeats 4000000 in
theorem pab5 (H : List Ent) (s : List UInt8) (ws : List (List UInt8)) (hl : s.length ≤ 100000) (hT : splitR 32 s = [98, 121, 116, 101, 115] :: ws) (hn : ws.length = 3) (hm : ws.getD 1 [] ≠ [109, 97, 114, 107, 115])  :
    (rg3 H s) := by
  have E' := hT
  refine rEn basePB 500 (99) 900 80 (hI 12 13979989) ([((141 : Nat), Rn.nil (1 : Nat)), ((142 : Nat), Rn.nil (1 : Nat))]) [(rg2 s), (rg5 s), (rg6 s), (rg6 s), (rg8 s), (rg31 s), (rg29 s), (rg19 s), (rg17 s), (rg17 s), (!(rg1 s).getD (2 : Nat) [] == [(109 : UInt8), (97 : UInt8), (114 : UInt8), (107 : UInt8), (115 : UInt8)], true)] rg4 (oc2 ?_ ?_ (oc9 ?_ ?_ ?_ ?_ ?_ ?_ ?_ ?_ ?_ okn)) ?_
  all_goals try dsimp only [rg2, rg5, rg9, rg1, rg6, rg8, rg31, rg29, rg19, rg17, rg4]
  all_goals exact sc1

set_option maxHeartbeats 4000000 in
theorem pab2 (H : List Ent) (s : List UInt8) (x : List UInt8) (hl : s.length ≤ 100000) (hT : splitR 32 s = [[98, 121, 116, 101, 115], x]) (hx : readK x = false) (hxl : x.length ≤ 100000)  :
    (rg3 H s) := by
  have E' := hT
  refine rEn basePB 500 (99) 900 80 (hI 12 4543829) ([((141 : Nat), Rn.nil (1 : Nat)), ((142 : Nat), Rn.nil (1 : Nat))]) [(rg2 s), (rg5 s), (rg6 s), (rg6 s), (rg8 s), ((rg9 s) == 2, true), (rg13 s), (rg11 s), (rg11 s), (rg14 s), (readK (rg10 s), false), (!readK (rg10 s), true)] rg4 (oc3 ?_ ?_ ?_ (oc9 ?_ ?_ ?_ ?_ ?_ ?_ ?_ ?_ ?_ okn)) ?_
  all_goals try dsimp only [rg2, rg5, rg9, rg1, rg6, rg8, rg13, rg11, rg14, rg10, rg4]
  all_goals exact sc1

set_option maxHeartbeats 4000000 in
theorem pab3 (H : List Ent) (s : List UInt8) (x : List UInt8) (m : List Int) (hl : s.length ≤ 100000) (hT : splitR 32 s = [[98, 121, 116, 101, 115], x]) (hm : m = []) (hx : readK x = true) (hxl : x.length ≤ 100000) (hr : (readV x).length ≤ 1024)  :
    (RunsTo Tryd.prog 30 [.code (bodyOf Tryd.f30)] (envOf [vS s] Tryd.f30.ntmps) (rg28 H) 80 (paV (⟨1, 0, readV x, m⟩) 16) (Sx.look (evP (⟨1, 0, readV x, m⟩))) 400) := by
  have E' := hT
  refine rEn basePB 500 (99) 900 80 (hI 18 45031445845) ([((141 : Nat), Rn.to (210 : Nat)), ((142 : Nat), Rn.nil (1 : Nat))]) [(rg2 s), (rg5 s), (rg6 s), (rg6 s), (rg8 s), ((rg9 s) == 2, true), (rg13 s), (rg11 s), (rg11 s), (rg14 s), (readK (rg10 s), true), ((rg9 s) == 4, false), (!readK (rg10 s), false), (decide ((↑(rg32 s).length : Int) ≤ 1024), true)] ((((1 : Int) = (1 : Int) ∧ (0 : Int) = (0 : Int) ∧ (0 = 0 ∧ (readV x).length = (rg32 s).length) ∧ m.length = (0 : Nat)) ∧ (none : Option Nat) = none ∧ True) ∧ (rg23 s x) ∧ m.length = (0 : Nat)) (oc5 ?_ ?_ ?_ ?_ ?_ (oc9 ?_ ?_ ?_ ?_ ?_ ?_ ?_ ?_ ?_ okn)) ?_
  all_goals try dsimp only [rg2, rg5, rg9, rg1, rg6, rg8, rg13, rg11, rg14, rg10, rg32, rg23]
  all_goals exact sc1

set_option maxHeartbeats 4000000 in
theorem pab4 (H : List Ent) (s : List UInt8) (x : List UInt8) (hl : s.length ≤ 100000) (hT : splitR 32 s = [[98, 121, 116, 101, 115], x]) (hx : readK x = true) (hxl : x.length ≤ 100000) (hr : ¬ (readV x).length ≤ 1024)  :
    (rg3 H s) := by
  have E' := hT
  refine rEn basePB 500 (99) 900 80 (hI 17 13892932949) ([((141 : Nat), Rn.nil (1 : Nat)), ((142 : Nat), Rn.nil (1 : Nat))]) [(rg2 s), (rg5 s), (rg6 s), (rg6 s), (rg8 s), ((rg9 s) == 2, true), (rg13 s), (rg11 s), (rg11 s), (rg14 s), (readK (rg10 s), true), ((rg9 s) == 4, false), (!readK (rg10 s), false), (decide ((↑(rg32 s).length : Int) ≤ 1024), false)] rg4 (oc5 ?_ ?_ ?_ ?_ ?_ (oc9 ?_ ?_ ?_ ?_ ?_ ?_ ?_ ?_ ?_ okn)) ?_
  all_goals try dsimp only [rg2, rg5, rg9, rg1, rg6, rg8, rg13, rg11, rg14, rg10, rg32, rg4]
  all_goals exact sc1

set_option maxHeartbeats 4000000 in
theorem pam1 (H : List Ent) (s : List UInt8) (x z : List UInt8) (hl : s.length ≤ 100000) (hT : splitR 32 s = [[98, 121, 116, 101, 115], x, [109, 97, 114, 107, 115], z]) (hx : readK x = false) (hxl : x.length ≤ 100000) (hzl : z.length ≤ 100000)  :
    (rg3 H s) := by
  have E' := hT
  refine rEn basePB 500 (99) 900 80 (hI 17 4651831637) ([((141 : Nat), Rn.nil (1 : Nat)), ((142 : Nat), Rn.nil (1 : Nat))]) [(rg2 s), (rg5 s), (rg6 s), (rg6 s), (rg8 s), (rg31 s), (rg29 s), (rg19 s), (rg17 s), (rg17 s), (rg16 s), (rg13 s), (rg11 s), (rg11 s), (rg14 s), (readK (rg10 s), false), (!readK (rg10 s), true)] rg4 (oc8 ?_ ?_ ?_ ?_ ?_ ?_ ?_ ?_ (oc9 ?_ ?_ ?_ ?_ ?_ ?_ ?_ ?_ ?_ okn)) ?_
  all_goals try dsimp only [rg2, rg5, rg9, rg1, rg6, rg8, rg31, rg29, rg19, rg17, rg16, rg13, rg11, rg14, rg10, rg4]
  all_goals exact sc1

set_option maxHeartbeats 4000000 in
theorem pam2 (H : List Ent) (s : List UInt8) (x z : List UInt8) (hl : s.length ≤ 100000) (hT : splitR 32 s = [[98, 121, 116, 101, 115], x, [109, 97, 114, 107, 115], z]) (hx : readK x = true) (hz : marksK z = false) (hxl : x.length ≤ 100000) (hzl : z.length ≤ 100000)  :
    (rg3 H s) := by
  have E' := hT
  refine rEn basePB 500 (99) 900 80 (hI 22 5864060965205) ([((141 : Nat), Rn.nil (1 : Nat)), ((142 : Nat), Rn.nil (1 : Nat))]) [(rg2 s), (rg5 s), (rg6 s), (rg6 s), (rg8 s), (rg31 s), (rg29 s), (rg19 s), (rg17 s), (rg17 s), (rg16 s), (rg13 s), (rg11 s), (rg11 s), (rg14 s), (readK (rg10 s), true), (rg29 s), (rg26 s), (rg24 s), (rg24 s), (rg27 s), (!marksK (rg15 s), true)] rg4 (oc4 ?_ ?_ ?_ ?_ (oc9 ?_ ?_ ?_ ?_ ?_ ?_ ?_ ?_ ?_ (oc9 ?_ ?_ ?_ ?_ ?_ ?_ ?_ ?_ ?_ okn))) ?_
  all_goals try dsimp only [rg2, rg5, rg9, rg1, rg6, rg8, rg31, rg29, rg19, rg17, rg16, rg13, rg11, rg14, rg10, rg26, rg24, rg27, rg15, rg4]
  all_goals exact sc1

set_option maxHeartbeats 4000000 in
theorem pam3 (H : List Ent) (s : List UInt8) (x z : List UInt8) (hl : s.length ≤ 100000) (hT : splitR 32 s = [[98, 121, 116, 101, 115], x, [109, 97, 114, 107, 115], z]) (hx : readK x = true) (hz : marksK z = true) (hr : rightV 1 0 (readV x).length (marksV z).length (fun is => (marksV z).getD (is.headD 0) 0) = true) (hb1 : (readV x).length ≤ 100000) (hb2 : (marksV z).length ≤ 100000) (hxl : x.length ≤ 100000) (hzl : z.length ≤ 100000)  :
    (RunsTo Tryd.prog 30 [.code (bodyOf Tryd.f30)] (envOf [vS s] Tryd.f30.ntmps) (rg28 H) 80 (paV (⟨1, 0, readV x, marksV z⟩) 16) (Sx.look (evP (⟨1, 0, readV x, marksV z⟩))) 400) := by
  have E' := hT
  refine rEn basePA 500 (99) 900 80 (hI 24 19058200498517) ([((141 : Nat), Rn.to (210 : Nat)), ((142 : Nat), Rn.to (275 : Nat))]) [(rg2 s), (rg5 s), (rg6 s), (rg6 s), (rg8 s), (rg31 s), (rg29 s), (rg19 s), (rg17 s), (rg17 s), (rg16 s), (rg13 s), (rg11 s), (rg11 s), (rg14 s), (readK (rg10 s), true), (rg29 s), (rg26 s), (rg24 s), (rg24 s), (rg27 s), (!marksK (rg15 s), false), (rg22 s), (!rightV (1 : Int) (0 : Int) (rg32 s).length (rg30 s).length fun is => (rg30 s).getD (List.headD is (0 : Nat)) (0 : Int), false)] ((((1 : Int) = (1 : Int) ∧ (0 : Int) = (0 : Int) ∧ (0 = 0 ∧ (readV x).length = (rg32 s).length) ∧ 0 = 0 ∧ (marksV z).length = (rg30 s).length) ∧ (none : Option Nat) = none ∧ True) ∧ (rg23 s x) ∧ (marksV z).length = (rg30 s).length ∧ ∀ (i : Nat), i < (marksV z).length → (marksV z).getD i (0 : Int) = (rg30 s).getD i (0 : Int)) (oc6 ?_ ?_ ?_ ?_ ?_ ?_ (oc9 ?_ ?_ ?_ ?_ ?_ ?_ ?_ ?_ ?_ (oc9 ?_ ?_ ?_ ?_ ?_ ?_ ?_ ?_ ?_ okn))) ?_
  all_goals try dsimp only [rg2, rg5, rg9, rg1, rg6, rg8, rg31, rg29, rg19, rg17, rg16, rg13, rg11, rg14, rg10, rg26, rg24, rg27, rg15, rg22, rg30, rg32, rg23]
  all_goals exact sc1

set_option maxHeartbeats 4000000 in
theorem pam4 (H : List Ent) (s : List UInt8) (x z : List UInt8) (hl : s.length ≤ 100000) (hT : splitR 32 s = [[98, 121, 116, 101, 115], x, [109, 97, 114, 107, 115], z]) (hx : readK x = true) (hz : marksK z = true) (hr : rightV 1 0 (readV x).length (marksV z).length (fun is => (marksV z).getD (is.headD 0) 0) = false) (hb1 : (readV x).length ≤ 100000) (hb2 : (marksV z).length ≤ 100000) (hxl : x.length ≤ 100000) (hzl : z.length ≤ 100000)  :
    (rg3 H s) := by
  have E' := hT
  refine rEn basePA 500 (99) 900 80 (hI 24 89426944676181) ([((141 : Nat), Rn.nil (1 : Nat)), ((142 : Nat), Rn.nil (1 : Nat))]) [(rg2 s), (rg5 s), (rg6 s), (rg6 s), (rg8 s), (rg31 s), (rg29 s), (rg19 s), (rg17 s), (rg17 s), (rg16 s), (rg13 s), (rg11 s), (rg11 s), (rg14 s), (readK (rg10 s), true), (rg29 s), (rg26 s), (rg24 s), (rg24 s), (rg27 s), (!marksK (rg15 s), false), (rg22 s), (!rightV (1 : Int) (0 : Int) (rg32 s).length (rg30 s).length fun is => (rg30 s).getD (List.headD is (0 : Nat)) (0 : Int), true)] rg4 (oc6 ?_ ?_ ?_ ?_ ?_ ?_ (oc9 ?_ ?_ ?_ ?_ ?_ ?_ ?_ ?_ ?_ (oc9 ?_ ?_ ?_ ?_ ?_ ?_ ?_ ?_ ?_ okn))) ?_
  all_goals try dsimp only [rg2, rg5, rg9, rg1, rg6, rg8, rg31, rg29, rg19, rg17, rg16, rg13, rg11, rg14, rg10, rg26, rg24, rg27, rg15, rg22, rg30, rg32, rg4]
  all_goals exact sc1

theorem read_get {x : List UInt8} : readR x = if readK x = true then some (readV x) else none := by
  unfold readK readV; cases readR x <;> rfl
theorem marks_get {x : List UInt8} : numsR (splitR 44 x) = if marksK x = true then some (marksV x) else none := by
  unfold marksK marksV; cases numsR (splitR 44 x) <;> rfl
theorem read_len {x b : List UInt8} (h : readR x = some b) : b.length ≤ x.length := by
  have h1 := told_read h
  have h2 := hexT_len b
  rw [← h1]
  unfold toldR
  split
  · rename_i e; rw [e]; simp
  · show b.length ≤ (hexT b).length
    omega
theorem readV_len (x : List UInt8) : (readV x).length ≤ x.length := by
  unfold readV
  cases h : readR x with
  | none => simp
  | some b => exact read_len h
theorem marksV_len (x : List UInt8) : (marksV x).length ≤ x.length + 1 := by
  unfold marksV
  cases h : numsR (splitR 44 x) with
  | none => simp
  | some b =>
    have := (nums_back h).2
    have h2 := splitR_len 44 x
    have h3 : x.count 44 ≤ x.length := List.count_le_length
    show b.length ≤ _
    omega
theorem intsF_list (m : List Int) : intsF (fun is => m.getD (is.headD 0) 0) m.length = m := by
  apply List.ext_getElem
  · simp [intsF]
  · intro i h1 h2
    simp [intsF, List.getD_eq_getElem?_getD, List.getElem?_eq_getElem h2]
theorem paT (H : List Ent) (s : List UInt8) (hl : s.length ≤ 100000) : RunsTo Tryd.prog 30 [.code (bodyOf Tryd.f30)] (envOf [vS s] Tryd.f30.ntmps) (Sx.look (paX H ++ ([]))) 80 (paV (evR s) (evK s)) (Sx.look (evP (evR s))) 400 := by
  have hmem := split_mem_len 32 s
  have none_ : parseR s = none → RunsTo Tryd.prog 30 [.code (bodyOf Tryd.f30)] (envOf [vS s] Tryd.f30.ntmps) (Sx.look (paX H ++ ([]))) 80 (paV ev0 4) (Sx.look (evP ev0)) 400 → RunsTo Tryd.prog 30 [.code (bodyOf Tryd.f30)] (envOf [vS s] Tryd.f30.ntmps) (Sx.look (paX H ++ ([]))) 80 (paV (evR s) (evK s)) (Sx.look (evP (evR s))) 400 := by
    intro h1 h2
    have e1 : evR s = ev0 := by unfold evR; rw [h1]; rfl
    have e2 : evK s = 4 := by unfold evK; rw [h1]; rfl
    rw [e1, e2]; exact h2
  have some_ : ∀ e, parseR s = some e → RunsTo Tryd.prog 30 [.code (bodyOf Tryd.f30)] (envOf [vS s] Tryd.f30.ntmps) (Sx.look (paX H ++ ([]))) 80 (paV e 16) (Sx.look (evP e)) 400 → RunsTo Tryd.prog 30 [.code (bodyOf Tryd.f30)] (envOf [vS s] Tryd.f30.ntmps) (Sx.look (paX H ++ ([]))) 80 (paV (evR s) (evK s)) (Sx.look (evP (evR s))) 400 := by
    intro e h1 h2
    have e1 : evR s = e := by unfold evR; rw [h1]; rfl
    have e2 : evK s = 16 := by unfold evK; rw [h1]; rfl
    rw [e1, e2]; exact h2
  generalize hT : splitR 32 s = T at hmem
  have hp : parseR s = match saidR T with | some e => if rightR e = true then some e else none | none => none := by unfold parseR; rw [hT]; rfl
  match T, hT with
  | [], hT => exact absurd hT (splitR_ne 32 s)
  | w :: ws, hT =>
  by_cases h1 : w = wBytes
  · subst h1
    match ws, hT, hmem with
    | [], hT, _ => exact none_ (by rw [hp]; simp [saidR, wBytes, wClose]) (pab1 H s [] hl hT (by simp) (by simp))
    | [x], hT, hmem =>
      have hxl : x.length ≤ 100000 := by have := hmem x (by simp); omega
      have hs : saidR [wBytes, x] = if readK x = true then some ⟨1, 0, readV x, []⟩ else none := by unfold saidR; dsimp only; rw [if_pos rfl, read_get]; cases readK x <;> rfl
      cases hk : readK x with
      | false => exact none_ (by rw [hp, hs, hk]; rfl) (pab2 H s x hl hT hk hxl)
      | true =>
        by_cases hr : (readV x).length ≤ 1024
        · exact some_ ⟨1, 0, readV x, []⟩ (by rw [hp, hs, hk]; simp [rightR, upR, hr]) (pab3 H s x [] hl hT rfl hk hxl hr)
        · exact none_ (by rw [hp, hs, hk]; simp [rightR, upR, hr]) (pab4 H s x hl hT hk hxl hr)
    | [x, y], hT, _ => exact none_ (by rw [hp]; simp [saidR]) (pab1 H s _ hl hT (by simp) (by simp))
    | [x, y, z], hT, hmem =>
      have hxl : x.length ≤ 100000 := by have := hmem x (by simp); omega
      have hzl : z.length ≤ 99999 := by
        have := congrArg List.length (join_split 32 s)
        rw [hT] at this
        simp [joinR] at this
        omega
      by_cases hy : y = wMarks
      · subst hy
        have hs : saidR [wBytes, x, wMarks, z] = if readK x = true then (if marksK z = true then some ⟨1, 0, readV x, marksV z⟩ else none) else none := by unfold saidR; dsimp only; rw [if_pos ⟨rfl, rfl⟩, read_get, marks_get]; cases readK x <;> cases marksK z <;> rfl
        have b1 := readV_len x
        have b2 := marksV_len z
        cases hk : readK x with
        | false => exact none_ (by rw [hp, hs, hk]; rfl) (pam1 H s x z hl hT hk hxl (by omega))
        | true =>
          cases hz : marksK z with
          | false => exact none_ (by rw [hp, hs, hk, hz]; rfl) (pam2 H s x z hl hT hk hz hxl (by omega))
          | true =>
            have hq : rightR ⟨1, 0, readV x, marksV z⟩ = rightV 1 0 (readV x).length (marksV z).length (fun is => (marksV z).getD (is.headD 0) 0) := by
              simp only [rightR, rightV, intsF_list]
              simp
            cases hr : rightV 1 0 (readV x).length (marksV z).length (fun is => (marksV z).getD (is.headD 0) 0) with
            | true => exact some_ ⟨1, 0, readV x, marksV z⟩ (by rw [hp, hs, hk, hz]; simp only [if_true]; rw [hq, hr]; rfl) (pam3 H s x z hl hT hk hz hr (by omega) (by omega) hxl (by omega))
            | false => exact none_ (by rw [hp, hs, hk, hz]; simp only [if_true]; rw [hq, hr]; rfl) (pam4 H s x z hl hT hk hz hr (by omega) (by omega) hxl (by omega))
      · exact none_ (by rw [hp]; simp [saidR, hy]) (pab5 H s _ hl hT rfl hy)
    | x :: y :: z :: u :: r, hT, _ => exact none_ (by rw [hp]; simp [saidR]) (pab1 H s _ hl hT (by simp) (by simp))
  have nums : ∀ k : Int, (k = 2 ∨ k = 3) → ∀ x : List UInt8, numOK x = true → rightR ⟨k, numV x, [], []⟩ = true := by
    intro k hk x hx
    obtain ⟨i1, i2⟩ := itoa_num hx
    have hle : numV x ≤ 9999 := by
      have h4 : x.length ≤ 4 := by unfold numOK at hx; simp only [Bool.and_eq_true, decide_eq_true_eq] at hx; exact hx.2.1
      have hv : numV x ≤ 65535 := (numV_le x).2
      by_cases h : numV x ≤ 9999
      · exact h
      · exfalso
        have hd : Lib.itoa (numV x) = Lib.decDigits (numV x).toNat := if_neg (by omega)
        have h5 : (Lib.itoa (numV x)).length = Lib.nDigits (numV x).toNat := by rw [hd, Lib.decDigits_length]
        rw [i1] at h5
        have h6 := Lib.lt_pow_nDigits (numV x).toNat
        have h7 : 10 ^ Lib.nDigits (numV x).toNat ≤ 10 ^ 4 := Nat.pow_le_pow_right (by omega) (by omega)
        omega
    rcases hk with rfl | rfl <;> simp [rightR, i2, hle]
  by_cases h2 : w = wGrant
  · subst h2
    match ws, hT, hmem with
    | [x], hT, hmem =>
      have hxl : x.length ≤ 100000 := by have := hmem x (by simp); omega
      have hs : saidR [wGrant, x] = if numOK x = true then some ⟨2, numV x, [], []⟩ else none := by simp [saidR, wGrant, wBytes]
      cases hk : numOK x with
      | false => exact none_ (by rw [hp, hs, hk]; rfl) (pag2 H s x hl hT hk hxl)
      | true =>
        have hR := nums 2 (.inl rfl) x hk
        have hR2 := hR
        simp [rightR] at hR2
        exact some_ ⟨2, numV x, [], []⟩ (by rw [hp, hs, hk]; simp only [if_true]; rw [hR]; rfl) (pag3 H s x [] [] hl hT rfl rfl hk hxl hR2.1 hR2.2)
    | [], hT, _ => exact none_ (by rw [hp]; simp [saidR, wGrant, wClose]) (pag1 H s _ hl hT (by simp))
    | [x, y], hT, _ => exact none_ (by rw [hp]; simp [saidR]) (pag1 H s _ hl hT (by simp))
    | [x, y, z], hT, _ => exact none_ (by rw [hp]; simp [saidR, wGrant, wBytes]) (pag1 H s _ hl hT (by simp))
    | x :: y :: z :: u :: r, hT, _ => exact none_ (by rw [hp]; simp [saidR]) (pag1 H s _ hl hT (by simp))
  by_cases h3 : w = wTick
  · subst h3
    match ws, hT, hmem with
    | [x], hT, hmem =>
      have hxl : x.length ≤ 100000 := by have := hmem x (by simp); omega
      have hs : saidR [wTick, x] = if numOK x = true then some ⟨3, numV x, [], []⟩ else none := by simp [saidR, wGrant, wTick, wBytes]
      cases hk : numOK x with
      | false => exact none_ (by rw [hp, hs, hk]; rfl) (pat2 H s x hl hT hk hxl)
      | true =>
        have hR := nums 3 (.inr rfl) x hk
        have hR2 := hR
        simp [rightR] at hR2
        exact some_ ⟨3, numV x, [], []⟩ (by rw [hp, hs, hk]; simp only [if_true]; rw [hR]; rfl) (pat3 H s x [] [] hl hT rfl rfl hk hxl hR2.1 hR2.2)
    | [], hT, _ => exact none_ (by rw [hp]; simp [saidR, wTick, wClose]) (pat1 H s _ hl hT (by simp))
    | [x, y], hT, _ => exact none_ (by rw [hp]; simp [saidR]) (pat1 H s _ hl hT (by simp))
    | [x, y, z], hT, _ => exact none_ (by rw [hp]; simp [saidR, wTick, wBytes]) (pat1 H s _ hl hT (by simp))
    | x :: y :: z :: u :: r, hT, _ => exact none_ (by rw [hp]; simp [saidR]) (pat1 H s _ hl hT (by simp))
  by_cases h4 : w = wClose
  · subst h4
    match ws, hT with
    | [], hT => exact some_ ⟨4, 0, [], []⟩ (by rw [hp]; simp [saidR, rightR]) (pac2 H s [] [] hl hT rfl rfl)
    | x :: r, hT => exact none_ (by
        rw [hp]
        match r with
        | [] => simp [saidR, wClose, wBytes, wGrant, wTick]
        | [y] => simp [saidR]
        | [y, z] => simp [saidR, wClose, wBytes]
        | y :: z :: u :: r => simp [saidR]) (pac1 H s _ hl hT (by simp))
  exact none_ (by
    rw [hp]
    match ws with
    | [] => simp [saidR, h4]
    | [x] => simp [saidR, h1, h2, h3]
    | [x, y] => simp [saidR]
    | [x, y, z] => simp [saidR, h1]
    | x :: y :: z :: u :: r => simp [saidR]) (pa0 H s w ws hl hT h1 h2 h3 h4)
def paP : PC := { args := [.v (.vs 0)], heap := [], gs := [1, 20, 21], G := 24, tp := 194, n := 80, n' := 400, cond := fun e => decide ((eS e 0 []).length ≤ 100000), v := fun e => paV (evR (eS e 0 [])) (evK (eS e 0 [])), post := fun e => evP (evR (eS e 0 [])) }
theorem paP_pc : PC.Runs Tryd.prog 30 Tryd.f30 (bodyOf Tryd.f30) paP := ⟨Tryd.func30, by kernel_rfl, (fun g hg => by first | (cases hg; done) | (revert g; show ∀ g ∈ ([1, 20, 21] : List Nat), g < 24; decide)), fun e H hc => by
  have hc : (decide ((eS e 0 []).length ≤ 100000)) = true := hc
  try simp only [Bool.and_eq_true, decide_eq_true_eq, Nat.beq_eq] at hc
  exact paT H (eS e 0 []) hc⟩
end Go.Proofs.YtankmgnjkcgpaaaDoor

set_option linter.unusedSimpArgs false
set_option linter.unusedVariables false
set_option maxRecDepth 100000
namespace Go.Proofs.YtankmgnjkcgpaaaDoor
open Go.Sx

open RawR
theorem inN_of {x : Int} (h : -9223372036854775808 ≤ x ∧ x < 9223372036854775808) : inN x = true := decide_eq_true h
theorem rightV_ev (e : RawR.Ev) : rightV e.K e.N e.B.length e.M.length (fun is => e.M.getD (is.headD 0) 0) = rightR e := by
  have e3 : (e.B = []) = (e.B.length = 0) := by rw [← List.length_eq_zero_iff]
  have e4 : (e.M = []) = (e.M.length = 0) := by rw [← List.length_eq_zero_iff]
  simp only [rightV, rightR, intsF_list, e3, e4]
theorem right_in {e : RawR.Ev} (h : rightR e = true) : inN e.N = true ∧ (∀ x ∈ e.M, 0 ≤ x ∧ x < 1024) ∧ e.B.length ≤ 1024 := by
  unfold rightR at h
  split at h
  · simp only [Bool.and_eq_true, decide_eq_true_eq] at h
    obtain ⟨⟨h1, h2⟩, h3⟩ := h
    exact ⟨inN_of (by omega), fun x hx => by have := up_in h3 x hx; omega, h2⟩
  · split at h
    · rw [decide_eq_true_eq] at h
      obtain ⟨h1, h2, h3, h4⟩ := h
      exact ⟨inN_of (by omega), (fun x hx => by rw [h4] at hx; cases hx), by rw [h3]; simp⟩
    · split at h
      · rw [decide_eq_true_eq] at h
        obtain ⟨h1, h3, h4⟩ := h
        exact ⟨inN_of (by omega), (fun x hx => by rw [h4] at hx; cases hx), by rw [h3]; simp⟩
      · cases h
theorem up_len {l : Int} : ∀ {m : List Int} {p : Int}, upR l p m = true → m ≠ [] → p + m.length < l
  | [], _, _, h => absurd rfl h
  | [a], p, h, _ => by unfold upR at h; simp at h; simp; omega
  | a :: b :: r, p, h, _ => by
    unfold upR at h
    rw [Bool.and_eq_true, decide_eq_true_eq] at h
    have := up_len h.2 (by simp)
    simp only [List.length_cons] at this ⊢
    omega
theorem right_marks {e : RawR.Ev} (h : rightR e = true) : e.M.length ≤ 1024 := by
  unfold rightR at h
  split at h
  · simp only [Bool.and_eq_true, decide_eq_true_eq] at h
    obtain ⟨⟨h1, h2⟩, h3⟩ := h
    by_cases hm : e.M = []
    · rw [hm]; simp
    · have := up_len h3 hm; omega
  · split at h
    · rw [decide_eq_true_eq] at h
      rw [h.2.2.2]; simp
    · split at h
      · rw [decide_eq_true_eq] at h
        rw [h.2.2]; simp
      · cases h
def sumsAV : List (FuncId × Summ) := [(30, paP.summ 48), (32, lnP.summ 48)]
theorem baseAV : Base0 Tryd.prog sumsAV := ((baseO.cons Tryd.func32 (by kernel_rfl) (PC.summ_ok lnP_pc gtopG)).cons Tryd.func30 (by kernel_rfl) (PC.summ_ok paP_pc gtopG))
theorem avI_p0 (H : List Ent) (P : Ix → Int) :
    isEnd (evTill Tryd.prog sumsAV 500 (99) 900 28 [.code (bodyOf Tryd.f28)] (envOf [] Tryd.f28.ntmps) ((paX H ++ pwF P) ++ ([])) ⟨[.t, .t, .t, .t, .t, .f, .t, .t, .t, .t, .t, .t, .t, .f, .f, .t, .s true], 80⟩) (endP ([]) (YES) ([]) 1200) =
    (OkL [(decide ((1 : Nat) ≤ (1 : Nat)) && (decide ((2 : Nat) ≤ (2 : Nat)) && (decide ((2 : Nat) ≤ (100000 : Nat)) && (decide ((1 : Nat) ≤ (1000 : Nat)) && (bndB (fun is => (↑([UInt8.ofNat (97 : Nat), UInt8.ofNat (98 : Nat)].getD (List.headD is (0 : Nat)) (0 : UInt8)).toNat : Int)) (2 : Nat) && (rangeI (fun is => [numV [(49 : UInt8)]].getD (List.headD is (0 : Nat)) (0 : Int)) (1 : Nat) && (pwOK P && inN (0 : Int))))))), true)] ∧ true = ((lineV (1 : Int) (0 : Int) (2 : Nat) (1 : Nat) (fun is => (↑([UInt8.ofNat (97 : Nat), UInt8.ofNat (98 : Nat)].getD (List.headD is (0 : Nat)) (0 : UInt8)).toNat : Int)) fun is => [numV [(49 : UInt8)]].getD (List.headD is (0 : Nat)) (0 : Int)) == [(98 : UInt8), (121 : UInt8), (116 : UInt8), (101 : UInt8), (115 : UInt8), (32 : UInt8), (54 : UInt8), (49 : UInt8), (54 : UInt8), (50 : UInt8), (32 : UInt8), (109 : UInt8), (97 : UInt8), (114 : UInt8), (107 : UInt8), (115 : UInt8), (32 : UInt8), (49 : UInt8)]) ∧ True) := by kernel_rfl

set_option maxHeartbeats 4000000 in
theorem avI (H : List Ent) (P : Ix → Int) (hP : pwOK P = true)  :
    RunsTo Tryd.prog 28 [.code (bodyOf Tryd.f28)] (envOf [] Tryd.f28.ntmps) (Sx.look ((paX H ++ pwF P) ++ ([]))) 80 (YES) (Sx.look ([])) 1200 := by
  refine runs_last baseAV (Sx.Ends.of (avI_p0 H P) ⟨?oo, ?rr⟩) (by kernel_rfl) rfl (gtL (by decide)) (by decide)
  case oo =>
    refine (okc ?_ okn)
    all_goals (rw [hP]; kernel_rfl)
  case rr =>
    exact ⟨by kernel_rfl, trivial⟩

def avP : PC := { args := [], heap := [], fams := [], tabs := [⟨17, false, 20, .tn 20 (.vi .u64 9)⟩], gs := [1, 20, 21], G := 24, tp := 194, n := 80, n' := 1200, cond := fun e => pwOK (eI e 9), v := fun e => YES, post := fun e => [] }
theorem avP_pc : PC.Runs Tryd.prog 28 Tryd.f28 (bodyOf Tryd.f28) avP := ⟨Tryd.func28, by kernel_rfl, (fun g hg => by first | (cases hg; done) | (revert g; show ∀ g ∈ ([1, 20, 21] : List Nat), g < 24; decide)), fun e H hc => by
  have hc : (pwOK (eI e 9)) = true := hc
  try simp only [Bool.and_eq_true, decide_eq_true_eq, Nat.beq_eq] at hc
  exact avI H (eI e 9) hc⟩
end Go.Proofs.YtankmgnjkcgpaaaDoor

set_option linter.unusedSimpArgs false
set_option linter.unusedVariables false
set_option maxRecDepth 100000
namespace Go.Proofs.YtankmgnjkcgpaaaDoor
open Go.Sx RawR

def powT : List Int := [1, 10, 100, 1000, 10000, 100000, 1000000, 10000000, 100000000, 1000000000, 10000000000, 100000000000, 1000000000000, 10000000000000, 100000000000000, 1000000000000000, 10000000000000000, 100000000000000000, 1000000000000000000, 10000000000000000000]
def powF : Ix → Int := fun is => powT.getD (is.headD 0) 0
theorem powF_ok : pwOK powF = true := by decide +kernel
end Go.Proofs.YtankmgnjkcgpaaaDoor

