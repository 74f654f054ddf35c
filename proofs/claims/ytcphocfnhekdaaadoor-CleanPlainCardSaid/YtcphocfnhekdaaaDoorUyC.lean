/- Telling: all tokens' bytes. -/
import Derived.Test.YtcphocfnhekdaaaDoorUdC
set_option linter.unusedSimpArgs false
set_option linter.unusedVariables false
set_option maxRecDepth 100000
namespace Go.Proofs.YtcphocfnhekdaaaDoor
open Go.Sx

open GramR
def pR (l f N : Nat) (K C O : Ix → Int) (m n : Ix → Nat) (CU : Ix → Bool) : List Ent := [⟨l, false, none, 5, .ta N (.tc (.vi .i64 K) (.tc (.vi .i64 C) (.tc (.vi .i64 O) (.tc (.vl f m 1 [] n) (.tc (.vb CU) .t0)))))⟩]
def pF (f R : Nat) (ls : Nat → Nat) (F : Ix → Int) : List Ent := [⟨f, false, some (R, ls), 1, .vi .u8 F⟩]
/-- What a token of a row is told as. -/
def tkAt (K C O : Ix → Int) (m n : Ix → Nat) (CU : Ix → Bool) (F : Ix → Int) (i : Nat) : List UInt8 ⊕ Nat := tkR (K [i]) (C [i]) (O [i]) (bytesOf F [m [i]] 0 (n [i])) (CU [i])
def alE (K C O : Ix → Int) (m n : Ix → Nat) (CU : Ix → Bool) (F : Ix → Int) : Nat → Nat → Nat
  | 0, _ => 0
  | k + 1, i => match tkAt K C O m n CU F i with | .inl _ => alE K C O m n CU F k (i + 1) | .inr e => e
def alB (K C O : Ix → Int) (m n : Ix → Nat) (CU : Ix → Bool) (F : Ix → Int) : Nat → List UInt8
  | 0 => []
  | i + 1 => alB K C O m n CU F i ++ theB (tkAt K C O m n CU F i)
def okAt (R : Nat) (m n : Ix → Nat) (ls : Nat → Nat) (F : Ix → Int) (i : Nat) : Bool := decide (m [i] < R ∧ n [i] ≤ ls (m [i]) ∧ n [i] ≤ 1000) && bndB (fun js => F ([m [i]] ++ js)) (n [i])
def okRow (N R : Nat) (m n : Ix → Nat) (ls : Nat → Nat) (F : Ix → Int) : Bool := (List.range N).all (okAt R m n ls F)
def tkOkF : PC := { args := [.agg (.tc (.vi .i64 2) (.tc (.vi .i64 3) (.tc (.vi .i64 4) (.tc (.vm 60 1 0) (.tc (.vb 5) .t0)))))], heap := [⟨60, false, 1, .ta 9 (.vi .u8 1)⟩], gs := [1, 2, 3], G := 19, tp := 144, n := 80, n' := 700, cond := fun e => decide (eN e 0 ≤ eN e 9) && (bndB (eI e 1) (eN e 0) && decide (tkC (eI e 2 []) (eI e 3 []) (eI e 4 []) (eN e 0) (eI e 1) (eB e 5 []) = 0)), v := fun e => .tup [(false, .vl 141 (fun _ => 0) 1 [] (fun _ => (tkB (eI e 2 []) (eI e 3 []) (eI e 4 []) (eN e 0) (eI e 1) (eB e 5 [])).length)), (false, .ve0)], post := fun e => bW 141 (tkB (eI e 2 []) (eI e 3 []) (eI e 4 []) (eN e 0) (eI e 1) (eB e 5 [])) }
theorem tkOkF_pc : PC.Runs Tryd.prog 30 Tryd.f30 (bodyOf Tryd.f30) tkOkF := ⟨Tryd.func30, by kernel_rfl, (fun g hg => by first | (cases hg; done) | (revert g; show ∀ g ∈ ([1, 2, 3] : List Nat), g < 19; decide)), fun e H hc => by
  have hc : (decide (eN e 0 ≤ eN e 9) && (bndB (eI e 1) (eN e 0) && decide (tkC (eI e 2 []) (eI e 3 []) (eI e 4 []) (eN e 0) (eI e 1) (eB e 5 []) = 0))) = true := hc
  try simp only [Bool.and_eq_true, decide_eq_true_eq, Nat.beq_eq] at hc
  exact tkOk (textAt2 H (19 + 1)) (textAt2 H (19 + 2)) (textAt2 H (19 + 3)) (eN e 0) (eN e 9) (eI e 1) (eI e 2 []) (eI e 3 []) (eI e 4 []) (eB e 5 []) hc.1 hc.2.1 hc.2.2⟩
def tkKiF : PC := { args := [.agg (.tc (.vi .i64 2) (.tc (.vi .i64 3) (.tc (.vi .i64 4) (.tc (.vm 60 1 0) (.tc (.vb 5) .t0)))))], heap := [⟨60, false, 1, .ta 9 (.vi .u8 1)⟩], gs := [1, 2, 3], G := 19, tp := 144, n := 80, n' := 700, cond := fun e => decide (eN e 0 ≤ eN e 9) && (bndB (eI e 1) (eN e 0) && decide (tkC (eI e 2 []) (eI e 3 []) (eI e 4 []) (eN e 0) (eI e 1) (eB e 5 []) = 1)), v := fun e => .tup [(false, .vl0), (false, vErr 1)], post := fun e => [] }
theorem tkKiF_pc : PC.Runs Tryd.prog 30 Tryd.f30 (bodyOf Tryd.f30) tkKiF := ⟨Tryd.func30, by kernel_rfl, (fun g hg => by first | (cases hg; done) | (revert g; show ∀ g ∈ ([1, 2, 3] : List Nat), g < 19; decide)), fun e H hc => by
  have hc : (decide (eN e 0 ≤ eN e 9) && (bndB (eI e 1) (eN e 0) && decide (tkC (eI e 2 []) (eI e 3 []) (eI e 4 []) (eN e 0) (eI e 1) (eB e 5 []) = 1))) = true := hc
  try simp only [Bool.and_eq_true, decide_eq_true_eq, Nat.beq_eq] at hc
  exact tkKi (textAt2 H (19 + 1)) (textAt2 H (19 + 2)) (textAt2 H (19 + 3)) (eN e 0) (eN e 9) (eI e 1) (eI e 2 []) (eI e 3 []) (eI e 4 []) (eB e 5 []) hc.1 hc.2.1 hc.2.2⟩
def tkRaF : PC := { args := [.agg (.tc (.vi .i64 2) (.tc (.vi .i64 3) (.tc (.vi .i64 4) (.tc (.vm 60 1 0) (.tc (.vb 5) .t0)))))], heap := [⟨60, false, 1, .ta 9 (.vi .u8 1)⟩], gs := [1, 2, 3], G := 19, tp := 144, n := 80, n' := 700, cond := fun e => decide (eN e 0 ≤ eN e 9) && (bndB (eI e 1) (eN e 0) && decide (tkC (eI e 2 []) (eI e 3 []) (eI e 4 []) (eN e 0) (eI e 1) (eB e 5 []) = 2)), v := fun e => .tup [(false, .vl0), (false, vErr 2)], post := fun e => [] }
theorem tkRaF_pc : PC.Runs Tryd.prog 30 Tryd.f30 (bodyOf Tryd.f30) tkRaF := ⟨Tryd.func30, by kernel_rfl, (fun g hg => by first | (cases hg; done) | (revert g; show ∀ g ∈ ([1, 2, 3] : List Nat), g < 19; decide)), fun e H hc => by
  have hc : (decide (eN e 0 ≤ eN e 9) && (bndB (eI e 1) (eN e 0) && decide (tkC (eI e 2 []) (eI e 3 []) (eI e 4 []) (eN e 0) (eI e 1) (eB e 5 []) = 2))) = true := hc
  try simp only [Bool.and_eq_true, decide_eq_true_eq, Nat.beq_eq] at hc
  exact tkRa (textAt2 H (19 + 1)) (textAt2 H (19 + 2)) (textAt2 H (19 + 3)) (eN e 0) (eN e 9) (eI e 1) (eI e 2 []) (eI e 3 []) (eI e 4 []) (eB e 5 []) hc.1 hc.2.1 hc.2.2⟩
def tkLoF : PC := { args := [.agg (.tc (.vi .i64 2) (.tc (.vi .i64 3) (.tc (.vi .i64 4) (.tc (.vm 60 1 0) (.tc (.vb 5) .t0)))))], heap := [⟨60, false, 1, .ta 9 (.vi .u8 1)⟩], gs := [1, 2, 3], G := 19, tp := 144, n := 80, n' := 700, cond := fun e => decide (eN e 0 ≤ eN e 9) && (bndB (eI e 1) (eN e 0) && decide (tkC (eI e 2 []) (eI e 3 []) (eI e 4 []) (eN e 0) (eI e 1) (eB e 5 []) = 3)), v := fun e => .tup [(false, .vl0), (false, vErr 3)], post := fun e => [] }
theorem tkLoF_pc : PC.Runs Tryd.prog 30 Tryd.f30 (bodyOf Tryd.f30) tkLoF := ⟨Tryd.func30, by kernel_rfl, (fun g hg => by first | (cases hg; done) | (revert g; show ∀ g ∈ ([1, 2, 3] : List Nat), g < 19; decide)), fun e H hc => by
  have hc : (decide (eN e 0 ≤ eN e 9) && (bndB (eI e 1) (eN e 0) && decide (tkC (eI e 2 []) (eI e 3 []) (eI e 4 []) (eN e 0) (eI e 1) (eB e 5 []) = 3))) = true := hc
  try simp only [Bool.and_eq_true, decide_eq_true_eq, Nat.beq_eq] at hc
  exact tkLo (textAt2 H (19 + 1)) (textAt2 H (19 + 2)) (textAt2 H (19 + 3)) (eN e 0) (eN e 9) (eI e 1) (eI e 2 []) (eI e 3 []) (eI e 4 []) (eB e 5 []) hc.1 hc.2.1 hc.2.2⟩
def sumsATOk : List (FuncId × Summ) := [(30, tkOkF.summ 38)]
theorem baseATOk : Base0 Tryd.prog sumsATOk := (baseO.cons Tryd.func30 (by kernel_rfl) (PC.summ_ok tkOkF_pc gtopG))
def sumsATKi : List (FuncId × Summ) := [(30, tkKiF.summ 38)]
theorem baseATKi : Base0 Tryd.prog sumsATKi := (baseO.cons Tryd.func30 (by kernel_rfl) (PC.summ_ok tkKiF_pc gtopG))
def sumsATRa : List (FuncId × Summ) := [(30, tkRaF.summ 38)]
theorem baseATRa : Base0 Tryd.prog sumsATRa := (baseO.cons Tryd.func30 (by kernel_rfl) (PC.summ_ok tkRaF_pc gtopG))
def sumsATLo : List (FuncId × Summ) := [(30, tkLoF.summ 38)]
theorem baseATLo : Base0 Tryd.prog sumsATLo := (baseO.cons Tryd.func30 (by kernel_rfl) (PC.summ_ok tkLoF_pc gtopG))
theorem app2 (o b : List UInt8) (g1 g2 : Ix → Int) (h1 : ∀ j, j < o.length → g1 [j] = ((o.getD j 0).toNat : Int)) (h2 : ∀ j, j < b.length → g2 [j] = ((b.getD j 0).toNat : Int)) : ∀ k, k < (o ++ b).length → (((o ++ b).getD k 0).toNat : Int) = appF o.length 0 g1 g2 [k] := by
  intro k hk
  simp only [appF, Nat.zero_add, Nat.sub_zero]
  rw [List.length_append] at hk
  by_cases q : k < o.length
  · rw [if_pos q, getD_left q, h1 k q]
  · rw [if_neg q, h2 _ (by omega)]
    have e : o.length + (k - o.length) = k := by omega
    have := getD_right (a := o) (b := b) (i := k - o.length) rfl (0 : UInt8)
    rw [e] at this
    rw [this]
theorem tkR_le {k c o : Int} {b : List UInt8} {cut : Bool} {e : Nat} (h : tkR k c o b cut = .inr e) : e ≠ 0 ∧ e ≤ 3 := by
  have hs : ∀ e, sbR o b = .inr e → e ≠ 0 ∧ e ≤ 3 := by
    intro e h
    unfold sbR at h
    split at h
    · cases h; decide
    · split at h
      · cases h; decide
      · cases h
  have hv : ∀ e, vbR c o = .inr e → e ≠ 0 ∧ e ≤ 3 := by
    intro e h
    unfold vbR at h
    split at h
    · cases h; decide
    · split at h
      · cases h; decide
      · cases h
  have hp : ∀ e, plR c = .inr e → e ≠ 0 ∧ e ≤ 3 := by
    intro e h
    unfold plR at h
    split at h
    · cases h
    · cases h; decide
  unfold tkR at h
  split at h
  · split at h
    · cases h; decide
    · cases h
  · split at h
    · exact hp e h
    · split at h
      · exact hv e h
      · split at h
        · cases hq : sbR o b with
          | inl l =>
            rw [hq] at h
            simp only at h
            split at h
            · cases h; decide
            · cases h
          | inr x =>
            rw [hq] at h
            injection h with h
            subst h
            exact hs _ hq
        · cases h; decide
theorem tkR_len {k c o : Int} {b : List UInt8} {cut : Bool} : (theB (tkR k c o b cut)).length ≤ 517 := by
  have hd : ∀ l : List UInt8, (dbl l).length ≤ 2 * l.length := fun l => by have := dbl_len l; have := cnt5_le l; omega
  have hp : (theB (plR c)).length ≤ 517 := by unfold plR; split <;> simp [theB]
  have hv : (theB (vbR c o)).length ≤ 517 := by
    unfold vbR
    split
    · simp [theB]
    · split <;> simp [theB]
  have hs : (theB (match sbR o b with | .inl l => if cut = true then Sum.inr 3 else Sum.inl l | .inr e => Sum.inr e)).length ≤ 517 := by
    cases hq : sbR o b with
    | inr e => simp [theB]
    | inl l =>
      have hl : l.length ≤ 517 := by
        unfold sbR at hq
        split at hq
        · cases hq
        · split at hq
          · cases hq
          · injection hq with hq
            subst hq
            have := hd b
            simp only [List.length_append, List.length_cons, List.length_nil]; omega
      simp only
      split
      · simp [theB]
      · exact hl
  unfold tkR
  split
  · split
    · simp [theB]
    · have := hd [u8o c]; simp only [theB, List.length_cons, List.length_nil] at this ⊢; omega
  · split
    · exact hp
    · split
      · exact hv
      · split
        · exact hs
        · simp [theB]
theorem alStart_p0 (t1 t2 t3 : List UInt8) (N R : Nat) (K C O : Ix → Int) (m n : Ix → Nat) (CU : Ix → Bool) (ls : Nat → Nat) (F : Ix → Int) :
    isMore (evTill Tryd.prog sumsATOk 300 (behind Tryd.f31 0) 900 31 [.code (bodyOf Tryd.f31)] (envOf [vL 61 5 N] Tryd.f31.ntmps) (sentEnts 19 144 [(1, t1), (2, t2), (3, t3)] ++ (pR 61 62 N K C O m n CU ++ pF 62 R ls F) ++ ([])) ⟨[], 80⟩) (moreP (headOf Tryd.f31 0) ([((121 : Nat), Rn.nil (1 : Nat))]) Tryd.f31.ntmps ([(4, vL 121 1 (([] : List UInt8)).length), (9, vL 61 5 N), (10, vN N), (11, vN (0 : Nat))]) (bW 121 (([] : List UInt8))) 1000) =
    (OkL [] ∧ headOf Tryd.f31 (0 : Nat) = headOf Tryd.f31 (0 : Nat) ∧ ((0 : Nat) = (0 : Nat) ∧ ((0 : Nat) = (0 : Nat) ∧ N = N) ∧ (↑N : Int) = (↑N : Int) ∧ (↑(0 : Nat) : Int) = (0 : Int)) ∧ (0 : Nat) = (0 : Nat)) := by kernel_rfl

set_option maxHeartbeats 4000000 in
theorem alStart (t1 t2 t3 : List UInt8) (N R : Nat) (K C O : Ix → Int) (m n : Ix → Nat) (CU : Ix → Bool) (ls : Nat → Nat) (F : Ix → Int)  (v : SV) (L' : HF) (next : RunsTo Tryd.prog 31 (headOf Tryd.f31 0) (envAt Tryd.f31.ntmps ([(4, vL 121 1 (([] : List UInt8)).length), (9, vL 61 5 N), (10, vN N), (11, vN (0 : Nat))])) (Sx.look (sentEnts 19 144 [(1, t1), (2, t2), (3, t3)] ++ (pR 61 62 N K C O m n CU ++ pF 62 R ls F) ++ (bW 121 (([] : List UInt8))))) 80 (v) (L') 1000) :
    RunsTo Tryd.prog 31 [.code (bodyOf Tryd.f31)] (envOf [vL 61 5 N] Tryd.f31.ntmps) (Sx.look (sentEnts 19 144 [(1, t1), (2, t2), (3, t3)] ++ (pR 61 62 N K C O m n CU ++ pF 62 R ls F) ++ ([]))) 80 (v) (L') 1000 := by
  refine runs_more baseATOk (More.of (alStart_p0 t1 t2 t3 N R K C O m n CU ls F) ⟨?oo, rfl, ?rr⟩) (by kernel_rfl) (by kernel_rfl) rfl (gtL (by decide)) (by decide) next
  case oo =>
    clear next
    refine okn
    all_goals ((try simp (disch := omega) only [SS]); first | done | omega | assumption | (simp (disch := omega) only [SS] at *; first | done | omega | assumption) | (simp_all; done))
  case rr =>
    clear next
    try simp (disch := omega) only [SS]
    repeat' apply And.intro
    all_goals first | exact True.intro | with_reducible rfl | omega | (intros; first | exact True.intro | with_reducible rfl | omega | (simp_all; done)) | (simp_all; done) | rfl

theorem alOk_p0 (t1 t2 t3 : List UInt8) (N R : Nat) (K C O : Ix → Int) (m n : Ix → Nat) (CU : Ix → Bool) (ls : Nat → Nat) (F : Ix → Int) (o b : List UInt8) (i : Nat) :
    isMore (evTill Tryd.prog sumsATOk 300 (behind Tryd.f31 0) 900 31 (headOf Tryd.f31 0) (envAt Tryd.f31.ntmps ([(4, vL 121 1 (o).length), (9, vL 61 5 N), (10, vN N), (11, vN (i : Nat))])) (sentEnts 19 144 [(1, t1), (2, t2), (3, t3)] ++ (pR 61 62 N K C O m n CU ++ pF 62 R ls F) ++ (bW 121 (o))) ⟨[.s true, .s true, .s true, .s true, .s true, .s true, .f, .s true, .s true, .s true], 130⟩) (moreP (headOf Tryd.f31 0) ([((121 : Nat), Rn.to (751 : Nat))]) Tryd.f31.ntmps ([(4, vL 121 1 (o ++ b).length), (9, vL 61 5 N), (10, vN N), (11, vN (i + 1 : Nat))]) (bW 121 (o ++ b)) 1000) =
    (OkL [(decide ((↑i : Int) < (↑N : Int)), true), (decide ((0 : Int) ≤ (↑i : Int) ∧ (↑i : Int) < (↑N : Int)), true), (((0 : Nat) + (↑i : Int).toNat).blt N, true), (((0 : Nat) + (↑i : Int).toNat).blt N, true), ((m [(0 : Nat) + (↑i : Int).toNat] + (1 : Nat) + (R - (m [(0 : Nat) + (↑i : Int).toNat] + (1 : Nat)))).beq R, true), (decide (n [(0 : Nat) + (↑i : Int).toNat] ≤ ls (m [(0 : Nat) + (↑i : Int).toNat])) && (bndB (fun js => F (m [(0 : Nat) + (↑i : Int).toNat] :: js)) (n [(0 : Nat) + (↑i : Int).toNat]) && decide (tkC (K [(0 : Nat) + (↑i : Int).toNat]) (C [(0 : Nat) + (↑i : Int).toNat]) (O [(0 : Nat) + (↑i : Int).toNat]) (n [(0 : Nat) + (↑i : Int).toNat]) (fun js => F (m [(0 : Nat) + (↑i : Int).toNat] :: js)) (CU [(0 : Nat) + (↑i : Int).toNat]) = (0 : Nat))), true), (((0 : Nat) + (tkB (K [(0 : Nat) + (↑i : Int).toNat]) (C [(0 : Nat) + (↑i : Int).toNat]) (O [(0 : Nat) + (↑i : Int).toNat]) (n [(0 : Nat) + (↑i : Int).toNat]) (fun js => F (m [(0 : Nat) + (↑i : Int).toNat] :: js)) (CU [(0 : Nat) + (↑i : Int).toNat])).length).ble (tkB (K [(0 : Nat) + (↑i : Int).toNat]) (C [(0 : Nat) + (↑i : Int).toNat]) (O [(0 : Nat) + (↑i : Int).toNat]) (n [(0 : Nat) + (↑i : Int).toNat]) (fun js => F (m [(0 : Nat) + (↑i : Int).toNat] :: js)) (CU [(0 : Nat) + (↑i : Int).toNat])).length, true), (((0 : Nat) + o.length).ble o.length, true), (decide (((2 : Nat) * (o.length + (tkB (K [(0 : Nat) + (↑i : Int).toNat]) (C [(0 : Nat) + (↑i : Int).toNat]) (O [(0 : Nat) + (↑i : Int).toNat]) (n [(0 : Nat) + (↑i : Int).toNat]) (fun js => F (m [(0 : Nat) + (↑i : Int).toNat] :: js)) (CU [(0 : Nat) + (↑i : Int).toNat])).length) + (192 : Nat)) * (1 : Nat) ≤ (281474976710656 : Nat)), true)] ∧ headOf Tryd.f31 (0 : Nat) = headOf Tryd.f31 (0 : Nat) ∧ (((0 : Nat) = (0 : Nat) ∧ (o ++ b).length = o.length + (tkB (K [(0 : Nat) + (↑i : Int).toNat]) (C [(0 : Nat) + (↑i : Int).toNat]) (O [(0 : Nat) + (↑i : Int).toNat]) (n [(0 : Nat) + (↑i : Int).toNat]) (fun js => F (m [(0 : Nat) + (↑i : Int).toNat] :: js)) (CU [(0 : Nat) + (↑i : Int).toNat])).length) ∧ ((0 : Nat) = (0 : Nat) ∧ N = N) ∧ (↑N : Int) = (↑N : Int) ∧ (↑(i + (1 : Nat)) : Int) = IntKind.i64.wrap ((↑i : Int) + (1 : Int))) ∧ (o ++ b).length = o.length + (tkB (K [(0 : Nat) + (↑i : Int).toNat]) (C [(0 : Nat) + (↑i : Int).toNat]) (O [(0 : Nat) + (↑i : Int).toNat]) (n [(0 : Nat) + (↑i : Int).toNat]) (fun js => F (m [(0 : Nat) + (↑i : Int).toNat] :: js)) (CU [(0 : Nat) + (↑i : Int).toNat])).length ∧ ∀ (i_1 : Nat), i_1 < (o ++ b).length → (↑((o ++ b).getD i_1 (0 : UInt8)).toNat : Int) = appF o.length (0 : Nat) (fun is => (↑(o.getD (List.headD is (0 : Nat)) (0 : UInt8)).toNat : Int)) (fun js => (↑((tkB (K [(0 : Nat) + (↑i : Int).toNat]) (C [(0 : Nat) + (↑i : Int).toNat]) (O [(0 : Nat) + (↑i : Int).toNat]) (n [(0 : Nat) + (↑i : Int).toNat]) (fun js => F (m [(0 : Nat) + (↑i : Int).toNat] :: js)) (CU [(0 : Nat) + (↑i : Int).toNat])).getD (List.headD (subIx (0 : Nat) js) (0 : Nat)) (0 : UInt8)).toNat : Int)) [i_1]) := by kernel_rfl

set_option maxHeartbeats 4000000 in
theorem alOk (t1 t2 t3 : List UInt8) (N R : Nat) (K C O : Ix → Int) (m n : Ix → Nat) (CU : Ix → Bool) (ls : Nat → Nat) (F : Ix → Int) (o b : List UInt8) (i : Nat) (hi : i < N) (hN : N ≤ 1000) (h1 : m [i] < R) (h2 : n [i] ≤ ls (m [i])) (hB : bndB (fun js => F ([m [i]] ++ js)) (n [i]) = true) (ho : o.length ≤ 1000 * i) (hr : tkC (K [i]) (C [i]) (O [i]) (n [i]) (fun js => F ([m [i]] ++ js)) (CU [i]) = 0) (hb : tkB (K [i]) (C [i]) (O [i]) (n [i]) (fun js => F ([m [i]] ++ js)) (CU [i]) = b) (hl : b.length ≤ 1000)  (v : SV) (L' : HF) (next : RunsTo Tryd.prog 31 (headOf Tryd.f31 0) (envAt Tryd.f31.ntmps ([(4, vL 121 1 (o ++ b).length), (9, vL 61 5 N), (10, vN N), (11, vN (i + 1 : Nat))])) (Sx.look (sentEnts 19 144 [(1, t1), (2, t2), (3, t3)] ++ (pR 61 62 N K C O m n CU ++ pF 62 R ls F) ++ (bW 121 (o ++ b)))) 80 (v) (L') 1000) :
    RunsTo Tryd.prog 31 (headOf Tryd.f31 0) (envAt Tryd.f31.ntmps ([(4, vL 121 1 (o).length), (9, vL 61 5 N), (10, vN N), (11, vN (i : Nat))])) (Sx.look (sentEnts 19 144 [(1, t1), (2, t2), (3, t3)] ++ (pR 61 62 N K C O m n CU ++ pF 62 R ls F) ++ (bW 121 (o)))) 80 (v) (L') 1000 := by
  have hw : IntKind.i64.wrap ((i : Int) + 1) = ((i + 1 : Nat) : Int) := by rw [wr64 (by omega)]; rfl
  have hb' : tkB (K [i]) (C [i]) (O [i]) (n [i]) (fun js => F (m [i] :: js)) (CU [i]) = b := hb
  refine runs_more baseATOk (More.of (alOk_p0 t1 t2 t3 N R K C O m n CU ls F o b i) ⟨?oo, rfl, ?rr⟩) (by kernel_rfl) (by kernel_rfl) rfl (gtL (by decide)) (by decide) next
  case oo =>
    clear next
    refine (okc ?_ (okc ?_ (okc ?_ (okc ?_ (okc ?_ (okc ?_ (okc ?_ (okc ?_ (okc ?_ okn)))))))))
    all_goals first | omega | (simp (disch := omega) only [SS, hw, hb, hb']; first | done | omega | exact ⟨h2, hB, hr⟩) | exact ⟨h2, hB, hr⟩ | (simp_all; done) | (simp_all; omega)
  case rr =>
    clear next
    try simp (disch := omega) only [SS, hw, hb, hb', Go.Sx.sum, Nat.zero_add, List.length_append]
    repeat' apply And.intro
    all_goals first | exact True.intro | with_reducible rfl | omega | (intro k hk; exact app2 o b _ _ (fun j hj => by first | rfl | (simp [subIx]; done)) (fun j hj => by first | rfl | (show ((b.getD (0 + j) 0).toNat : Int) = _; rw [Nat.zero_add])) k (by first | exact hk | (rw [List.length_append]; exact hk))) | (simp_all; done)

theorem alKi_p0 (t1 t2 t3 : List UInt8) (N R : Nat) (K C O : Ix → Int) (m n : Ix → Nat) (CU : Ix → Bool) (ls : Nat → Nat) (F : Ix → Int) (o : List UInt8) (i : Nat) :
    isEnd (evTill Tryd.prog sumsATKi 300 (99) 900 31 (headOf Tryd.f31 0) (envAt Tryd.f31.ntmps ([(4, vL 121 1 (o).length), (9, vL 61 5 N), (10, vN N), (11, vN (i : Nat))])) (sentEnts 19 144 [(1, t1), (2, t2), (3, t3)] ++ (pR 61 62 N K C O m n CU ++ pF 62 R ls F) ++ (bW 121 (o))) ⟨[.s true, .s true, .s true, .s true, .s true, .s true, .t], 130⟩) (endP ([]) (.tup [(false, .vl0), (false, vErr 1)]) ([]) 1000) =
    (OkL [(decide ((↑i : Int) < (↑N : Int)), true), (decide ((0 : Int) ≤ (↑i : Int) ∧ (↑i : Int) < (↑N : Int)), true), (((0 : Nat) + (↑i : Int).toNat).blt N, true), (((0 : Nat) + (↑i : Int).toNat).blt N, true), ((m [(0 : Nat) + (↑i : Int).toNat] + (1 : Nat) + (R - (m [(0 : Nat) + (↑i : Int).toNat] + (1 : Nat)))).beq R, true), (decide (n [(0 : Nat) + (↑i : Int).toNat] ≤ ls (m [(0 : Nat) + (↑i : Int).toNat])) && (bndB (fun js => F (m [(0 : Nat) + (↑i : Int).toNat] :: js)) (n [(0 : Nat) + (↑i : Int).toNat]) && decide (tkC (K [(0 : Nat) + (↑i : Int).toNat]) (C [(0 : Nat) + (↑i : Int).toNat]) (O [(0 : Nat) + (↑i : Int).toNat]) (n [(0 : Nat) + (↑i : Int).toNat]) (fun js => F (m [(0 : Nat) + (↑i : Int).toNat] :: js)) (CU [(0 : Nat) + (↑i : Int).toNat]) = (1 : Nat))), true)] ∧ (True ∧ (0 : Nat) = (0 : Nat) ∧ True) ∧ True) := by kernel_rfl

set_option maxHeartbeats 4000000 in
theorem alKi (t1 t2 t3 : List UInt8) (N R : Nat) (K C O : Ix → Int) (m n : Ix → Nat) (CU : Ix → Bool) (ls : Nat → Nat) (F : Ix → Int) (o : List UInt8) (i : Nat) (hi : i < N) (hN : N ≤ 1000) (h1 : m [i] < R) (h2 : n [i] ≤ ls (m [i])) (hB : bndB (fun js => F ([m [i]] ++ js)) (n [i]) = true) (ho : o.length ≤ 1000 * i) (hr : tkC (K [i]) (C [i]) (O [i]) (n [i]) (fun js => F ([m [i]] ++ js)) (CU [i]) = 1)  :
    RunsTo Tryd.prog 31 (headOf Tryd.f31 0) (envAt Tryd.f31.ntmps ([(4, vL 121 1 (o).length), (9, vL 61 5 N), (10, vN N), (11, vN (i : Nat))])) (Sx.look (sentEnts 19 144 [(1, t1), (2, t2), (3, t3)] ++ (pR 61 62 N K C O m n CU ++ pF 62 R ls F) ++ (bW 121 (o)))) 80 (.tup [(false, .vl0), (false, vErr 1)]) (Sx.look ([])) 1000 := by
  have hw : IntKind.i64.wrap ((i : Int) + 1) = ((i + 1 : Nat) : Int) := by rw [wr64 (by omega)]; rfl
  refine runs_last baseATKi (Sx.Ends.of (alKi_p0 t1 t2 t3 N R K C O m n CU ls F o i) ⟨?oo, ?rr⟩) (by kernel_rfl) rfl (gtL (by decide)) (by decide)
  case oo =>
    refine (okc ?_ (okc ?_ (okc ?_ (okc ?_ (okc ?_ (okc ?_ okn))))))
    all_goals first | omega | (simp (disch := omega) only [SS, hw]; first | done | omega | exact ⟨h2, hB, hr⟩) | exact ⟨h2, hB, hr⟩ | (simp_all; done) | (simp_all; omega)
  case rr =>
    try simp (disch := omega) only [SS, hw]
    repeat' apply And.intro
    all_goals first | exact True.intro | with_reducible rfl | omega | (intros; first | exact True.intro | with_reducible rfl | omega | (simp_all; done)) | (simp_all; done) | rfl

theorem alRa_p0 (t1 t2 t3 : List UInt8) (N R : Nat) (K C O : Ix → Int) (m n : Ix → Nat) (CU : Ix → Bool) (ls : Nat → Nat) (F : Ix → Int) (o : List UInt8) (i : Nat) :
    isEnd (evTill Tryd.prog sumsATRa 300 (99) 900 31 (headOf Tryd.f31 0) (envAt Tryd.f31.ntmps ([(4, vL 121 1 (o).length), (9, vL 61 5 N), (10, vN N), (11, vN (i : Nat))])) (sentEnts 19 144 [(1, t1), (2, t2), (3, t3)] ++ (pR 61 62 N K C O m n CU ++ pF 62 R ls F) ++ (bW 121 (o))) ⟨[.s true, .s true, .s true, .s true, .s true, .s true, .t], 130⟩) (endP ([]) (.tup [(false, .vl0), (false, vErr 2)]) ([]) 1000) =
    (OkL [(decide ((↑i : Int) < (↑N : Int)), true), (decide ((0 : Int) ≤ (↑i : Int) ∧ (↑i : Int) < (↑N : Int)), true), (((0 : Nat) + (↑i : Int).toNat).blt N, true), (((0 : Nat) + (↑i : Int).toNat).blt N, true), ((m [(0 : Nat) + (↑i : Int).toNat] + (1 : Nat) + (R - (m [(0 : Nat) + (↑i : Int).toNat] + (1 : Nat)))).beq R, true), (decide (n [(0 : Nat) + (↑i : Int).toNat] ≤ ls (m [(0 : Nat) + (↑i : Int).toNat])) && (bndB (fun js => F (m [(0 : Nat) + (↑i : Int).toNat] :: js)) (n [(0 : Nat) + (↑i : Int).toNat]) && decide (tkC (K [(0 : Nat) + (↑i : Int).toNat]) (C [(0 : Nat) + (↑i : Int).toNat]) (O [(0 : Nat) + (↑i : Int).toNat]) (n [(0 : Nat) + (↑i : Int).toNat]) (fun js => F (m [(0 : Nat) + (↑i : Int).toNat] :: js)) (CU [(0 : Nat) + (↑i : Int).toNat]) = (2 : Nat))), true)] ∧ (True ∧ (0 : Nat) = (0 : Nat) ∧ True) ∧ True) := by kernel_rfl

set_option maxHeartbeats 4000000 in
theorem alRa (t1 t2 t3 : List UInt8) (N R : Nat) (K C O : Ix → Int) (m n : Ix → Nat) (CU : Ix → Bool) (ls : Nat → Nat) (F : Ix → Int) (o : List UInt8) (i : Nat) (hi : i < N) (hN : N ≤ 1000) (h1 : m [i] < R) (h2 : n [i] ≤ ls (m [i])) (hB : bndB (fun js => F ([m [i]] ++ js)) (n [i]) = true) (ho : o.length ≤ 1000 * i) (hr : tkC (K [i]) (C [i]) (O [i]) (n [i]) (fun js => F ([m [i]] ++ js)) (CU [i]) = 2)  :
    RunsTo Tryd.prog 31 (headOf Tryd.f31 0) (envAt Tryd.f31.ntmps ([(4, vL 121 1 (o).length), (9, vL 61 5 N), (10, vN N), (11, vN (i : Nat))])) (Sx.look (sentEnts 19 144 [(1, t1), (2, t2), (3, t3)] ++ (pR 61 62 N K C O m n CU ++ pF 62 R ls F) ++ (bW 121 (o)))) 80 (.tup [(false, .vl0), (false, vErr 2)]) (Sx.look ([])) 1000 := by
  have hw : IntKind.i64.wrap ((i : Int) + 1) = ((i + 1 : Nat) : Int) := by rw [wr64 (by omega)]; rfl
  refine runs_last baseATRa (Sx.Ends.of (alRa_p0 t1 t2 t3 N R K C O m n CU ls F o i) ⟨?oo, ?rr⟩) (by kernel_rfl) rfl (gtL (by decide)) (by decide)
  case oo =>
    refine (okc ?_ (okc ?_ (okc ?_ (okc ?_ (okc ?_ (okc ?_ okn))))))
    all_goals first | omega | (simp (disch := omega) only [SS, hw]; first | done | omega | exact ⟨h2, hB, hr⟩) | exact ⟨h2, hB, hr⟩ | (simp_all; done) | (simp_all; omega)
  case rr =>
    try simp (disch := omega) only [SS, hw]
    repeat' apply And.intro
    all_goals first | exact True.intro | with_reducible rfl | omega | (intros; first | exact True.intro | with_reducible rfl | omega | (simp_all; done)) | (simp_all; done) | rfl

theorem alLo_p0 (t1 t2 t3 : List UInt8) (N R : Nat) (K C O : Ix → Int) (m n : Ix → Nat) (CU : Ix → Bool) (ls : Nat → Nat) (F : Ix → Int) (o : List UInt8) (i : Nat) :
    isEnd (evTill Tryd.prog sumsATLo 300 (99) 900 31 (headOf Tryd.f31 0) (envAt Tryd.f31.ntmps ([(4, vL 121 1 (o).length), (9, vL 61 5 N), (10, vN N), (11, vN (i : Nat))])) (sentEnts 19 144 [(1, t1), (2, t2), (3, t3)] ++ (pR 61 62 N K C O m n CU ++ pF 62 R ls F) ++ (bW 121 (o))) ⟨[.s true, .s true, .s true, .s true, .s true, .s true, .t], 130⟩) (endP ([]) (.tup [(false, .vl0), (false, vErr 3)]) ([]) 1000) =
    (OkL [(decide ((↑i : Int) < (↑N : Int)), true), (decide ((0 : Int) ≤ (↑i : Int) ∧ (↑i : Int) < (↑N : Int)), true), (((0 : Nat) + (↑i : Int).toNat).blt N, true), (((0 : Nat) + (↑i : Int).toNat).blt N, true), ((m [(0 : Nat) + (↑i : Int).toNat] + (1 : Nat) + (R - (m [(0 : Nat) + (↑i : Int).toNat] + (1 : Nat)))).beq R, true), (decide (n [(0 : Nat) + (↑i : Int).toNat] ≤ ls (m [(0 : Nat) + (↑i : Int).toNat])) && (bndB (fun js => F (m [(0 : Nat) + (↑i : Int).toNat] :: js)) (n [(0 : Nat) + (↑i : Int).toNat]) && decide (tkC (K [(0 : Nat) + (↑i : Int).toNat]) (C [(0 : Nat) + (↑i : Int).toNat]) (O [(0 : Nat) + (↑i : Int).toNat]) (n [(0 : Nat) + (↑i : Int).toNat]) (fun js => F (m [(0 : Nat) + (↑i : Int).toNat] :: js)) (CU [(0 : Nat) + (↑i : Int).toNat]) = (3 : Nat))), true)] ∧ (True ∧ (0 : Nat) = (0 : Nat) ∧ True) ∧ True) := by kernel_rfl

set_option maxHeartbeats 4000000 in
theorem alLo (t1 t2 t3 : List UInt8) (N R : Nat) (K C O : Ix → Int) (m n : Ix → Nat) (CU : Ix → Bool) (ls : Nat → Nat) (F : Ix → Int) (o : List UInt8) (i : Nat) (hi : i < N) (hN : N ≤ 1000) (h1 : m [i] < R) (h2 : n [i] ≤ ls (m [i])) (hB : bndB (fun js => F ([m [i]] ++ js)) (n [i]) = true) (ho : o.length ≤ 1000 * i) (hr : tkC (K [i]) (C [i]) (O [i]) (n [i]) (fun js => F ([m [i]] ++ js)) (CU [i]) = 3)  :
    RunsTo Tryd.prog 31 (headOf Tryd.f31 0) (envAt Tryd.f31.ntmps ([(4, vL 121 1 (o).length), (9, vL 61 5 N), (10, vN N), (11, vN (i : Nat))])) (Sx.look (sentEnts 19 144 [(1, t1), (2, t2), (3, t3)] ++ (pR 61 62 N K C O m n CU ++ pF 62 R ls F) ++ (bW 121 (o)))) 80 (.tup [(false, .vl0), (false, vErr 3)]) (Sx.look ([])) 1000 := by
  have hw : IntKind.i64.wrap ((i : Int) + 1) = ((i + 1 : Nat) : Int) := by rw [wr64 (by omega)]; rfl
  refine runs_last baseATLo (Sx.Ends.of (alLo_p0 t1 t2 t3 N R K C O m n CU ls F o i) ⟨?oo, ?rr⟩) (by kernel_rfl) rfl (gtL (by decide)) (by decide)
  case oo =>
    refine (okc ?_ (okc ?_ (okc ?_ (okc ?_ (okc ?_ (okc ?_ okn))))))
    all_goals first | omega | (simp (disch := omega) only [SS, hw]; first | done | omega | exact ⟨h2, hB, hr⟩) | exact ⟨h2, hB, hr⟩ | (simp_all; done) | (simp_all; omega)
  case rr =>
    try simp (disch := omega) only [SS, hw]
    repeat' apply And.intro
    all_goals first | exact True.intro | with_reducible rfl | omega | (intros; first | exact True.intro | with_reducible rfl | omega | (simp_all; done)) | (simp_all; done) | rfl

theorem alEnd_p0 (t1 t2 t3 : List UInt8) (N R : Nat) (K C O : Ix → Int) (m n : Ix → Nat) (CU : Ix → Bool) (ls : Nat → Nat) (F : Ix → Int) (o : List UInt8) (i : Nat) :
    isEnd (evTill Tryd.prog sumsATOk 300 (99) 900 31 (headOf Tryd.f31 0) (envAt Tryd.f31.ntmps ([(4, vL 121 1 (o).length), (9, vL 61 5 N), (10, vN N), (11, vN (i : Nat))])) (sentEnts 19 144 [(1, t1), (2, t2), (3, t3)] ++ (pR 61 62 N K C O m n CU ++ pF 62 R ls F) ++ (bW 121 (o))) ⟨[.s false], 130⟩) (endP ([((141 : Nat), Rn.to (121 : Nat))]) (.tup [(false, .vl 141 (fun _ => 0) 1 [] (fun _ => (o).length)), (false, .ve0)]) (bW 141 o) 1000) =
    (OkL [(decide ((↑i : Int) < (↑N : Int)), false)] ∧ (((0 : Nat) = (0 : Nat) ∧ o.length = o.length) ∧ True ∧ True) ∧ o.length = o.length ∧ ∀ (i : Nat), i < o.length → (↑(o.getD i (0 : UInt8)).toNat : Int) = (↑(o.getD i (0 : UInt8)).toNat : Int)) := by kernel_rfl

set_option maxHeartbeats 4000000 in
theorem alEnd (t1 t2 t3 : List UInt8) (N R : Nat) (K C O : Ix → Int) (m n : Ix → Nat) (CU : Ix → Bool) (ls : Nat → Nat) (F : Ix → Int) (o : List UInt8) (i : Nat) (hi : i = N)  :
    RunsTo Tryd.prog 31 (headOf Tryd.f31 0) (envAt Tryd.f31.ntmps ([(4, vL 121 1 (o).length), (9, vL 61 5 N), (10, vN N), (11, vN (i : Nat))])) (Sx.look (sentEnts 19 144 [(1, t1), (2, t2), (3, t3)] ++ (pR 61 62 N K C O m n CU ++ pF 62 R ls F) ++ (bW 121 (o)))) 80 (.tup [(false, .vl 141 (fun _ => 0) 1 [] (fun _ => (o).length)), (false, .ve0)]) (Sx.look (bW 141 o)) 1000 := by
  refine runs_last baseATOk (Sx.Ends.of (alEnd_p0 t1 t2 t3 N R K C O m n CU ls F o i) ⟨?oo, ?rr⟩) (by kernel_rfl) rfl (gtL (by decide)) (by decide)
  case oo =>
    refine (okc ?_ okn)
    all_goals ((try simp (disch := omega) only [SS]); first | done | omega | assumption | (simp (disch := omega) only [SS] at *; first | done | omega | assumption) | (simp_all; done))
  case rr =>
    try simp (disch := omega) only [SS]
    repeat' apply And.intro
    all_goals first | exact True.intro | with_reducible rfl | omega | (intros; first | exact True.intro | with_reducible rfl | omega | (simp_all; done)) | (simp_all; done) | rfl

theorem alOkI (t1 t2 t3 : List UInt8) (N R : Nat) (K C O : Ix → Int) (m n : Ix → Nat) (CU : Ix → Bool) (ls : Nat → Nat) (F : Ix → Int) (hN : N ≤ 1000) (hr : okRow N R m n ls F = true) (hv : alE K C O m n CU F N 0 = 0) : RunsTo Tryd.prog 31 [.code (bodyOf Tryd.f31)] (envOf [vL 61 5 N] Tryd.f31.ntmps) (Sx.look (sentEnts 19 144 [(1, t1), (2, t2), (3, t3)] ++ (pR 61 62 N K C O m n CU ++ pF 62 R ls F) ++ ([]))) 80 (.tup [(false, .vl 141 (fun _ => 0) 1 [] (fun _ => (alB K C O m n CU F N).length)), (false, .ve0)]) (Sx.look (bW 141 (alB K C O m n CU F N))) 1000 := by
  refine alStart t1 t2 t3 N R K C O m n CU ls F _ _ ?_
  suffices q : ∀ (k i : Nat), i + k = N → alE K C O m n CU F k i = 0 → (alB K C O m n CU F i).length ≤ 1000 * i → RunsTo Tryd.prog 31 (headOf Tryd.f31 0) (envAt Tryd.f31.ntmps ([(4, vL 121 1 (alB K C O m n CU F i).length), (9, vL 61 5 N), (10, vN N), (11, vN (i : Nat))])) (Sx.look (sentEnts 19 144 [(1, t1), (2, t2), (3, t3)] ++ (pR 61 62 N K C O m n CU ++ pF 62 R ls F) ++ (bW 121 (alB K C O m n CU F i)))) 80 (.tup [(false, .vl 141 (fun _ => 0) 1 [] (fun _ => (alB K C O m n CU F N).length)), (false, .ve0)]) (Sx.look (bW 141 (alB K C O m n CU F N))) 1000 from q N 0 (by omega) hv (by simp [alB])
  intro k
  induction k with
  | zero =>
    intro i hi he _
    rw [show i = N by omega] at *; exact alEnd t1 t2 t3 N R K C O m n CU ls F _ N rfl
  | succ k ih =>
    intro i hi he hol
    have h0 := all_ok hr (i := i) (by omega)
    simp only [okAt, Bool.and_eq_true, decide_eq_true_eq] at h0
    obtain ⟨⟨h1, h2, h3⟩, hB⟩ := h0
    have hlen : (theB (tkAt K C O m n CU F i)).length ≤ 517 := tkR_len
    simp only [alE] at he
    cases hz : tkAt K C O m n CU F i with
    | inl l =>
      rw [hz] at he hlen
      have hcz : tkC (K [i]) (C [i]) (O [i]) (n [i]) (fun js => F ([m [i]] ++ js)) (CU [i]) = 0 := by
        show (match tkAt K C O m n CU F i with | .inl _ => 0 | .inr e => e) = 0
        rw [hz]
      have hbz : tkB (K [i]) (C [i]) (O [i]) (n [i]) (fun js => F ([m [i]] ++ js)) (CU [i]) = l := by
        show theB (tkAt K C O m n CU F i) = l
        rw [hz]; rfl
      have e : alB K C O m n CU F (i + 1) = alB K C O m n CU F i ++ l := by simp only [alB, hz]; rfl
      have hll : l.length ≤ 517 := hlen
      have q := ih (i + 1) (by omega) he (by rw [e, List.length_append]; omega)
      rw [e] at q
      exact alOk t1 t2 t3 N R K C O m n CU ls F _ l i (by omega) hN h1 h2 hB hol hcz hbz (by omega) _ _ q
    | inr e =>
      rw [hz] at he
      have hcz : tkC (K [i]) (C [i]) (O [i]) (n [i]) (fun js => F ([m [i]] ++ js)) (CU [i]) = e := by
        show (match tkAt K C O m n CU F i with | .inl _ => 0 | .inr e => e) = e
        rw [hz]
      simp only at he
      exact absurd he (tkR_le hz).1
theorem alKiI (t1 t2 t3 : List UInt8) (N R : Nat) (K C O : Ix → Int) (m n : Ix → Nat) (CU : Ix → Bool) (ls : Nat → Nat) (F : Ix → Int) (hN : N ≤ 1000) (hr : okRow N R m n ls F = true) (hv : alE K C O m n CU F N 0 = 1) : RunsTo Tryd.prog 31 [.code (bodyOf Tryd.f31)] (envOf [vL 61 5 N] Tryd.f31.ntmps) (Sx.look (sentEnts 19 144 [(1, t1), (2, t2), (3, t3)] ++ (pR 61 62 N K C O m n CU ++ pF 62 R ls F) ++ ([]))) 80 (.tup [(false, .vl0), (false, vErr 1)]) (Sx.look []) 1000 := by
  refine alStart t1 t2 t3 N R K C O m n CU ls F _ _ ?_
  suffices q : ∀ (k i : Nat), i + k = N → alE K C O m n CU F k i = 1 → (alB K C O m n CU F i).length ≤ 1000 * i → RunsTo Tryd.prog 31 (headOf Tryd.f31 0) (envAt Tryd.f31.ntmps ([(4, vL 121 1 (alB K C O m n CU F i).length), (9, vL 61 5 N), (10, vN N), (11, vN (i : Nat))])) (Sx.look (sentEnts 19 144 [(1, t1), (2, t2), (3, t3)] ++ (pR 61 62 N K C O m n CU ++ pF 62 R ls F) ++ (bW 121 (alB K C O m n CU F i)))) 80 (.tup [(false, .vl0), (false, vErr 1)]) (Sx.look []) 1000 from q N 0 (by omega) hv (by simp [alB])
  intro k
  induction k with
  | zero =>
    intro i hi he _
    simp [alE] at he
  | succ k ih =>
    intro i hi he hol
    have h0 := all_ok hr (i := i) (by omega)
    simp only [okAt, Bool.and_eq_true, decide_eq_true_eq] at h0
    obtain ⟨⟨h1, h2, h3⟩, hB⟩ := h0
    have hlen : (theB (tkAt K C O m n CU F i)).length ≤ 517 := tkR_len
    simp only [alE] at he
    cases hz : tkAt K C O m n CU F i with
    | inl l =>
      rw [hz] at he hlen
      have hcz : tkC (K [i]) (C [i]) (O [i]) (n [i]) (fun js => F ([m [i]] ++ js)) (CU [i]) = 0 := by
        show (match tkAt K C O m n CU F i with | .inl _ => 0 | .inr e => e) = 0
        rw [hz]
      have hbz : tkB (K [i]) (C [i]) (O [i]) (n [i]) (fun js => F ([m [i]] ++ js)) (CU [i]) = l := by
        show theB (tkAt K C O m n CU F i) = l
        rw [hz]; rfl
      have e : alB K C O m n CU F (i + 1) = alB K C O m n CU F i ++ l := by simp only [alB, hz]; rfl
      have hll : l.length ≤ 517 := hlen
      have q := ih (i + 1) (by omega) he (by rw [e, List.length_append]; omega)
      rw [e] at q
      exact alOk t1 t2 t3 N R K C O m n CU ls F _ l i (by omega) hN h1 h2 hB hol hcz hbz (by omega) _ _ q
    | inr e =>
      rw [hz] at he
      have hcz : tkC (K [i]) (C [i]) (O [i]) (n [i]) (fun js => F ([m [i]] ++ js)) (CU [i]) = e := by
        show (match tkAt K C O m n CU F i with | .inl _ => 0 | .inr e => e) = e
        rw [hz]
      simp only at he
      exact alKi t1 t2 t3 N R K C O m n CU ls F _ i (by omega) hN h1 h2 hB hol (by rw [← he]; exact hcz)
theorem alRaI (t1 t2 t3 : List UInt8) (N R : Nat) (K C O : Ix → Int) (m n : Ix → Nat) (CU : Ix → Bool) (ls : Nat → Nat) (F : Ix → Int) (hN : N ≤ 1000) (hr : okRow N R m n ls F = true) (hv : alE K C O m n CU F N 0 = 2) : RunsTo Tryd.prog 31 [.code (bodyOf Tryd.f31)] (envOf [vL 61 5 N] Tryd.f31.ntmps) (Sx.look (sentEnts 19 144 [(1, t1), (2, t2), (3, t3)] ++ (pR 61 62 N K C O m n CU ++ pF 62 R ls F) ++ ([]))) 80 (.tup [(false, .vl0), (false, vErr 2)]) (Sx.look []) 1000 := by
  refine alStart t1 t2 t3 N R K C O m n CU ls F _ _ ?_
  suffices q : ∀ (k i : Nat), i + k = N → alE K C O m n CU F k i = 2 → (alB K C O m n CU F i).length ≤ 1000 * i → RunsTo Tryd.prog 31 (headOf Tryd.f31 0) (envAt Tryd.f31.ntmps ([(4, vL 121 1 (alB K C O m n CU F i).length), (9, vL 61 5 N), (10, vN N), (11, vN (i : Nat))])) (Sx.look (sentEnts 19 144 [(1, t1), (2, t2), (3, t3)] ++ (pR 61 62 N K C O m n CU ++ pF 62 R ls F) ++ (bW 121 (alB K C O m n CU F i)))) 80 (.tup [(false, .vl0), (false, vErr 2)]) (Sx.look []) 1000 from q N 0 (by omega) hv (by simp [alB])
  intro k
  induction k with
  | zero =>
    intro i hi he _
    simp [alE] at he
  | succ k ih =>
    intro i hi he hol
    have h0 := all_ok hr (i := i) (by omega)
    simp only [okAt, Bool.and_eq_true, decide_eq_true_eq] at h0
    obtain ⟨⟨h1, h2, h3⟩, hB⟩ := h0
    have hlen : (theB (tkAt K C O m n CU F i)).length ≤ 517 := tkR_len
    simp only [alE] at he
    cases hz : tkAt K C O m n CU F i with
    | inl l =>
      rw [hz] at he hlen
      have hcz : tkC (K [i]) (C [i]) (O [i]) (n [i]) (fun js => F ([m [i]] ++ js)) (CU [i]) = 0 := by
        show (match tkAt K C O m n CU F i with | .inl _ => 0 | .inr e => e) = 0
        rw [hz]
      have hbz : tkB (K [i]) (C [i]) (O [i]) (n [i]) (fun js => F ([m [i]] ++ js)) (CU [i]) = l := by
        show theB (tkAt K C O m n CU F i) = l
        rw [hz]; rfl
      have e : alB K C O m n CU F (i + 1) = alB K C O m n CU F i ++ l := by simp only [alB, hz]; rfl
      have hll : l.length ≤ 517 := hlen
      have q := ih (i + 1) (by omega) he (by rw [e, List.length_append]; omega)
      rw [e] at q
      exact alOk t1 t2 t3 N R K C O m n CU ls F _ l i (by omega) hN h1 h2 hB hol hcz hbz (by omega) _ _ q
    | inr e =>
      rw [hz] at he
      have hcz : tkC (K [i]) (C [i]) (O [i]) (n [i]) (fun js => F ([m [i]] ++ js)) (CU [i]) = e := by
        show (match tkAt K C O m n CU F i with | .inl _ => 0 | .inr e => e) = e
        rw [hz]
      simp only at he
      exact alRa t1 t2 t3 N R K C O m n CU ls F _ i (by omega) hN h1 h2 hB hol (by rw [← he]; exact hcz)
theorem alLoI (t1 t2 t3 : List UInt8) (N R : Nat) (K C O : Ix → Int) (m n : Ix → Nat) (CU : Ix → Bool) (ls : Nat → Nat) (F : Ix → Int) (hN : N ≤ 1000) (hr : okRow N R m n ls F = true) (hv : alE K C O m n CU F N 0 = 3) : RunsTo Tryd.prog 31 [.code (bodyOf Tryd.f31)] (envOf [vL 61 5 N] Tryd.f31.ntmps) (Sx.look (sentEnts 19 144 [(1, t1), (2, t2), (3, t3)] ++ (pR 61 62 N K C O m n CU ++ pF 62 R ls F) ++ ([]))) 80 (.tup [(false, .vl0), (false, vErr 3)]) (Sx.look []) 1000 := by
  refine alStart t1 t2 t3 N R K C O m n CU ls F _ _ ?_
  suffices q : ∀ (k i : Nat), i + k = N → alE K C O m n CU F k i = 3 → (alB K C O m n CU F i).length ≤ 1000 * i → RunsTo Tryd.prog 31 (headOf Tryd.f31 0) (envAt Tryd.f31.ntmps ([(4, vL 121 1 (alB K C O m n CU F i).length), (9, vL 61 5 N), (10, vN N), (11, vN (i : Nat))])) (Sx.look (sentEnts 19 144 [(1, t1), (2, t2), (3, t3)] ++ (pR 61 62 N K C O m n CU ++ pF 62 R ls F) ++ (bW 121 (alB K C O m n CU F i)))) 80 (.tup [(false, .vl0), (false, vErr 3)]) (Sx.look []) 1000 from q N 0 (by omega) hv (by simp [alB])
  intro k
  induction k with
  | zero =>
    intro i hi he _
    simp [alE] at he
  | succ k ih =>
    intro i hi he hol
    have h0 := all_ok hr (i := i) (by omega)
    simp only [okAt, Bool.and_eq_true, decide_eq_true_eq] at h0
    obtain ⟨⟨h1, h2, h3⟩, hB⟩ := h0
    have hlen : (theB (tkAt K C O m n CU F i)).length ≤ 517 := tkR_len
    simp only [alE] at he
    cases hz : tkAt K C O m n CU F i with
    | inl l =>
      rw [hz] at he hlen
      have hcz : tkC (K [i]) (C [i]) (O [i]) (n [i]) (fun js => F ([m [i]] ++ js)) (CU [i]) = 0 := by
        show (match tkAt K C O m n CU F i with | .inl _ => 0 | .inr e => e) = 0
        rw [hz]
      have hbz : tkB (K [i]) (C [i]) (O [i]) (n [i]) (fun js => F ([m [i]] ++ js)) (CU [i]) = l := by
        show theB (tkAt K C O m n CU F i) = l
        rw [hz]; rfl
      have e : alB K C O m n CU F (i + 1) = alB K C O m n CU F i ++ l := by simp only [alB, hz]; rfl
      have hll : l.length ≤ 517 := hlen
      have q := ih (i + 1) (by omega) he (by rw [e, List.length_append]; omega)
      rw [e] at q
      exact alOk t1 t2 t3 N R K C O m n CU ls F _ l i (by omega) hN h1 h2 hB hol hcz hbz (by omega) _ _ q
    | inr e =>
      rw [hz] at he
      have hcz : tkC (K [i]) (C [i]) (O [i]) (n [i]) (fun js => F ([m [i]] ++ js)) (CU [i]) = e := by
        show (match tkAt K C O m n CU F i with | .inl _ => 0 | .inr e => e) = e
        rw [hz]
      simp only at he
      exact alLo t1 t2 t3 N R K C O m n CU ls F _ i (by omega) hN h1 h2 hB hol (by rw [← he]; exact hcz)
def alOkP : PC := { args := [.v (.vl 61 5 0)], heap := [⟨61, false, 5, .ta 0 (.tc (.vi .i64 1) (.tc (.vi .i64 2) (.tc (.vi .i64 3) (.tc (.vf 62 1 4 5) (.tc (.vb 6) .t0)))))⟩], fams := [⟨62, false, 1, 9, 7, .vi .u8 8⟩], gs := [1, 2, 3], G := 19, tp := 144, n := 80, n' := 1000, cond := fun e => decide (eN e 0 ≤ 1000) && (okRow (eN e 0) (eN e 9) (eM e 4) (eM e 5) (eL e 7) (eI e 8) && decide (alE (eI e 1) (eI e 2) (eI e 3) (eM e 4) (eM e 5) (eB e 6) (eI e 8) (eN e 0) 0 = 0)), v := fun e => .tup [(false, .vl 141 (fun _ => 0) 1 [] (fun _ => (alB (eI e 1) (eI e 2) (eI e 3) (eM e 4) (eM e 5) (eB e 6) (eI e 8) (eN e 0)).length)), (false, .ve0)], post := fun e => bW 141 (alB (eI e 1) (eI e 2) (eI e 3) (eM e 4) (eM e 5) (eB e 6) (eI e 8) (eN e 0)) }
theorem alOkP_pc : PC.Runs Tryd.prog 31 Tryd.f31 (bodyOf Tryd.f31) alOkP := ⟨Tryd.func31, by kernel_rfl, (fun g hg => by first | (cases hg; done) | (revert g; show ∀ g ∈ ([1, 2, 3] : List Nat), g < 19; decide)), fun e H hc => by
  have hc : (decide (eN e 0 ≤ 1000) && (okRow (eN e 0) (eN e 9) (eM e 4) (eM e 5) (eL e 7) (eI e 8) && decide (alE (eI e 1) (eI e 2) (eI e 3) (eM e 4) (eM e 5) (eB e 6) (eI e 8) (eN e 0) 0 = 0))) = true := hc
  try simp only [Bool.and_eq_true, decide_eq_true_eq, Nat.beq_eq] at hc
  exact alOkI (textAt2 H (19 + 1)) (textAt2 H (19 + 2)) (textAt2 H (19 + 3)) (eN e 0) (eN e 9) (eI e 1) (eI e 2) (eI e 3) (eM e 4) (eM e 5) (eB e 6) (eL e 7) (eI e 8) hc.1 hc.2.1 hc.2.2⟩
def alKiP : PC := { args := [.v (.vl 61 5 0)], heap := [⟨61, false, 5, .ta 0 (.tc (.vi .i64 1) (.tc (.vi .i64 2) (.tc (.vi .i64 3) (.tc (.vf 62 1 4 5) (.tc (.vb 6) .t0)))))⟩], fams := [⟨62, false, 1, 9, 7, .vi .u8 8⟩], gs := [1, 2, 3], G := 19, tp := 144, n := 80, n' := 1000, cond := fun e => decide (eN e 0 ≤ 1000) && (okRow (eN e 0) (eN e 9) (eM e 4) (eM e 5) (eL e 7) (eI e 8) && decide (alE (eI e 1) (eI e 2) (eI e 3) (eM e 4) (eM e 5) (eB e 6) (eI e 8) (eN e 0) 0 = 1)), v := fun e => .tup [(false, .vl0), (false, vErr 1)], post := fun e => [] }
theorem alKiP_pc : PC.Runs Tryd.prog 31 Tryd.f31 (bodyOf Tryd.f31) alKiP := ⟨Tryd.func31, by kernel_rfl, (fun g hg => by first | (cases hg; done) | (revert g; show ∀ g ∈ ([1, 2, 3] : List Nat), g < 19; decide)), fun e H hc => by
  have hc : (decide (eN e 0 ≤ 1000) && (okRow (eN e 0) (eN e 9) (eM e 4) (eM e 5) (eL e 7) (eI e 8) && decide (alE (eI e 1) (eI e 2) (eI e 3) (eM e 4) (eM e 5) (eB e 6) (eI e 8) (eN e 0) 0 = 1))) = true := hc
  try simp only [Bool.and_eq_true, decide_eq_true_eq, Nat.beq_eq] at hc
  exact alKiI (textAt2 H (19 + 1)) (textAt2 H (19 + 2)) (textAt2 H (19 + 3)) (eN e 0) (eN e 9) (eI e 1) (eI e 2) (eI e 3) (eM e 4) (eM e 5) (eB e 6) (eL e 7) (eI e 8) hc.1 hc.2.1 hc.2.2⟩
def alRaP : PC := { args := [.v (.vl 61 5 0)], heap := [⟨61, false, 5, .ta 0 (.tc (.vi .i64 1) (.tc (.vi .i64 2) (.tc (.vi .i64 3) (.tc (.vf 62 1 4 5) (.tc (.vb 6) .t0)))))⟩], fams := [⟨62, false, 1, 9, 7, .vi .u8 8⟩], gs := [1, 2, 3], G := 19, tp := 144, n := 80, n' := 1000, cond := fun e => decide (eN e 0 ≤ 1000) && (okRow (eN e 0) (eN e 9) (eM e 4) (eM e 5) (eL e 7) (eI e 8) && decide (alE (eI e 1) (eI e 2) (eI e 3) (eM e 4) (eM e 5) (eB e 6) (eI e 8) (eN e 0) 0 = 2)), v := fun e => .tup [(false, .vl0), (false, vErr 2)], post := fun e => [] }
theorem alRaP_pc : PC.Runs Tryd.prog 31 Tryd.f31 (bodyOf Tryd.f31) alRaP := ⟨Tryd.func31, by kernel_rfl, (fun g hg => by first | (cases hg; done) | (revert g; show ∀ g ∈ ([1, 2, 3] : List Nat), g < 19; decide)), fun e H hc => by
  have hc : (decide (eN e 0 ≤ 1000) && (okRow (eN e 0) (eN e 9) (eM e 4) (eM e 5) (eL e 7) (eI e 8) && decide (alE (eI e 1) (eI e 2) (eI e 3) (eM e 4) (eM e 5) (eB e 6) (eI e 8) (eN e 0) 0 = 2))) = true := hc
  try simp only [Bool.and_eq_true, decide_eq_true_eq, Nat.beq_eq] at hc
  exact alRaI (textAt2 H (19 + 1)) (textAt2 H (19 + 2)) (textAt2 H (19 + 3)) (eN e 0) (eN e 9) (eI e 1) (eI e 2) (eI e 3) (eM e 4) (eM e 5) (eB e 6) (eL e 7) (eI e 8) hc.1 hc.2.1 hc.2.2⟩
def alLoP : PC := { args := [.v (.vl 61 5 0)], heap := [⟨61, false, 5, .ta 0 (.tc (.vi .i64 1) (.tc (.vi .i64 2) (.tc (.vi .i64 3) (.tc (.vf 62 1 4 5) (.tc (.vb 6) .t0)))))⟩], fams := [⟨62, false, 1, 9, 7, .vi .u8 8⟩], gs := [1, 2, 3], G := 19, tp := 144, n := 80, n' := 1000, cond := fun e => decide (eN e 0 ≤ 1000) && (okRow (eN e 0) (eN e 9) (eM e 4) (eM e 5) (eL e 7) (eI e 8) && decide (alE (eI e 1) (eI e 2) (eI e 3) (eM e 4) (eM e 5) (eB e 6) (eI e 8) (eN e 0) 0 = 3)), v := fun e => .tup [(false, .vl0), (false, vErr 3)], post := fun e => [] }
theorem alLoP_pc : PC.Runs Tryd.prog 31 Tryd.f31 (bodyOf Tryd.f31) alLoP := ⟨Tryd.func31, by kernel_rfl, (fun g hg => by first | (cases hg; done) | (revert g; show ∀ g ∈ ([1, 2, 3] : List Nat), g < 19; decide)), fun e H hc => by
  have hc : (decide (eN e 0 ≤ 1000) && (okRow (eN e 0) (eN e 9) (eM e 4) (eM e 5) (eL e 7) (eI e 8) && decide (alE (eI e 1) (eI e 2) (eI e 3) (eM e 4) (eM e 5) (eB e 6) (eI e 8) (eN e 0) 0 = 3))) = true := hc
  try simp only [Bool.and_eq_true, decide_eq_true_eq, Nat.beq_eq] at hc
  exact alLoI (textAt2 H (19 + 1)) (textAt2 H (19 + 2)) (textAt2 H (19 + 3)) (eN e 0) (eN e 9) (eI e 1) (eI e 2) (eI e 3) (eM e 4) (eM e 5) (eB e 6) (eL e 7) (eI e 8) hc.1 hc.2.1 hc.2.2⟩
end Go.Proofs.YtcphocfnhekdaaaDoor

