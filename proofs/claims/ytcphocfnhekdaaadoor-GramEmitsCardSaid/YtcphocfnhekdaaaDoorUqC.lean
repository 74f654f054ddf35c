/- Telling: what tokens are told as is of the grammar. -/
import Derived.Test.YtcphocfnhekdaaaDoorUyC
import Derived.Test.YtcphocfnhekdaaaDoorUfC
import Derived.Test.YtcphocfnhekdaaaDoorSyY
import Derived.Test.YtcphocfnhekdaaaDoorSyPl
import Derived.Lay
import Derived.Test.YtcphocfnhekdaaaDoorTie
import Derived.Test.YtcphocfnhekdaaaDoorCards
set_option linter.unusedSimpArgs false
set_option linter.unusedVariables false
namespace Go.Proofs.YtcphocfnhekdaaaDoor
open Go.Sx GramR

theorem sub_dbl (o : Nat) (rest : List UInt8) : ∀ (b acc : List UInt8) (i : Nat), subI o (dbl b ++ 255 :: 240 :: rest) acc i = .ok ⟨5, 0, o, acc ++ b⟩ (i + (dbl b).length + 2)
  | [], acc, i => by simp [dbl, subI]
  | c :: r, acc, i => by
    by_cases hc : c = 255
    · subst hc
      have e : ∀ q : List UInt8, subI o (255 :: 255 :: q) acc i = subI o q (acc ++ [255]) (i + 2) := fun q => by simp [subI]
      simp only [dbl, if_pos, List.cons_append]
      rw [e, sub_dbl o rest r]
      simp only [List.append_assoc, List.cons_append, List.nil_append, List.length_cons, Res.ok.injEq, true_and]
      omega
    · have e : ∀ q : List UInt8, subI o (c :: q) acc i = subI o q (acc ++ [c]) (i + 1) := fun q => by rw [subI.eq_def]; simp [hc]
      simp only [dbl, if_neg hc, List.cons_append]
      rw [e, sub_dbl o rest r]
      simp only [List.append_assoc, List.cons_append, List.nil_append, List.length_cons, Res.ok.injEq, true_and]
      omega
theorem u8o_nat {c : Int} (h : 0 ≤ c ∧ c ≤ 255) : (((u8o c).toNat : Nat) : Int) = c := u8of (by omega)
/-- A token's bytes are one item. -/
theorem emit_item {k c o : Int} {b l : List UInt8} {cut : Bool} (h : tkR k c o b cut = .inl l) (rest : List UInt8) :
    ∃ x, itemI true (l ++ rest) = .ok x l.length ∧ (x.kind : Int) = (if k = 1 then 1 else k + 1) ∧ 0 < l.length := by
  unfold tkR at h
  by_cases h1 : k = 1
  · rw [if_pos h1] at h
    cases hc : byN c with
    | false => rw [hc, if_pos rfl] at h; cases h
    | true =>
      rw [hc, if_neg (by decide)] at h
      injection h with h
      subst h
      by_cases hq : u8o c = 255
      · refine ⟨⟨1, 255, 0, []⟩, ?_, by rw [if_pos h1]; rfl, by simp [dbl, hq]⟩
        rw [hq]
        simp [dbl, itemI, cmdI]
      · refine ⟨⟨1, (u8o c).toNat, 0, []⟩, ?_, by rw [if_pos h1]; rfl, by simp [dbl, hq]⟩
        simp only [dbl, if_neg hq, List.cons_append, List.nil_append, itemI, List.length_cons, List.length_nil]
        rw [if_pos (.inr trivial)]
  rw [if_neg h1] at h
  by_cases h2 : k = 2
  · rw [if_pos h2] at h
    unfold plR at h
    by_cases hc : 241 ≤ c ∧ c ≤ 249
    · rw [if_pos hc] at h
      injection h with h
      subst h
      have hn := u8o_nat (c := c) (by omega)
      have hd : u8o c ≠ 255 := fun e => by rw [e] at hn; have : ((255 : UInt8).toNat : Int) = 255 := rfl; omega
      have hp : 241 ≤ (u8o c).toNat ∧ (u8o c).toNat ≤ 249 := by omega
      refine ⟨⟨3, (u8o c).toNat, 0, []⟩, ?_, by rw [if_neg h1, h2]; rfl, by simp⟩
      simp [itemI, cmdI, hd, hp]
    · rw [if_neg hc] at h; cases h
  rw [if_neg h2] at h
  by_cases h3 : k = 3
  · rw [if_pos h3] at h
    unfold vbR at h
    by_cases hc : 251 ≤ c ∧ c ≤ 254
    · rw [if_neg (fun e => e hc)] at h
      cases ho : byN o with
      | false => rw [ho, if_pos rfl] at h; cases h
      | true =>
        rw [ho, if_neg (by decide)] at h
        injection h with h
        subst h
        have hn := u8o_nat (c := c) (by omega)
        have hd : u8o c ≠ 255 := fun e => by rw [e] at hn; have : ((255 : UInt8).toNat : Int) = 255 := rfl; omega
        have hp : ¬ (241 ≤ (u8o c).toNat ∧ (u8o c).toNat ≤ 249) := by omega
        have hv : 251 ≤ (u8o c).toNat ∧ (u8o c).toNat ≤ 254 := by omega
        refine ⟨⟨4, (u8o c).toNat, (u8o o).toNat, []⟩, ?_, by rw [if_neg h1, h3]; rfl, by simp⟩
        simp only [List.cons_append, List.nil_append, itemI, cmdI, if_pos, if_neg hd, if_neg hp, if_pos hv, List.length_cons, List.length_nil]
    · rw [if_pos hc] at h; cases h
  rw [if_neg h3] at h
  by_cases h4 : k = 4
  · rw [if_pos h4] at h
    have hs : ∀ m, sbR o b = .inl m → m = [255, 250, u8o o] ++ dbl b ++ [255, 240] := by
      intro m hm
      unfold sbR at hm
      split at hm
      · cases hm
      · split at hm
        · cases hm
        · injection hm with hm; exact hm.symm
    cases hq : sbR o b with
    | inr e => rw [hq] at h; cases h
    | inl m =>
      rw [hq] at h
      simp only at h
      split at h
      · cases h
      · injection h with h
        subst h
        rw [hs _ hq]
        refine ⟨⟨5, 0, (u8o o).toNat, b⟩, ?_, by rw [if_neg h1, h4]; rfl, by simp⟩
        have e : [255, 250, u8o o] ++ dbl b ++ [255, 240] ++ rest = 255 :: 250 :: u8o o :: (dbl b ++ 255 :: 240 :: rest) := by simp
        have e2 : cmdI (250 :: u8o o :: (dbl b ++ 255 :: 240 :: rest)) = subI (u8o o).toNat (dbl b ++ 255 :: 240 :: rest) [] 3 := by simp [cmdI]
        rw [e]
        simp only [itemI, if_pos]
        rw [e2, sub_dbl]
        simp only [List.nil_append, List.length_append, List.length_cons, List.length_nil, Res.ok.injEq, true_and]
  rw [if_neg h4] at h; cases h

def catF (f : Nat → List UInt8) : Nat → Nat → List UInt8
  | 0, _ => []
  | k + 1, i => f i ++ catF f k (i + 1)
theorem read_cat (f : Nat → List UInt8) (kd : Nat → Int) : ∀ (k i a fuel : Nat), (catF f k i).length < fuel →
    (∀ j, i ≤ j → j < i + k → ∀ rest, ∃ x, itemI true (f j ++ rest) = .ok x (f j).length ∧ (x.kind : Int) = kd j ∧ 0 < (f j).length) →
    ∃ T : List (It × Nat × Nat), readI true fuel a (catF f k i) = some (T, 0) ∧ T.length = k ∧ ∀ j, j < k → ((T.getD j (⟨0, 0, 0, []⟩, 0, 0)).1.kind : Int) = kd (i + j)
  | 0, i, a, fuel, hf, h => by
    obtain ⟨n, rfl⟩ : ∃ n, fuel = n + 1 := ⟨fuel - 1, by omega⟩
    exact ⟨[], by simp [catF, readI], rfl, fun j hj => absurd hj (by omega)⟩
  | k + 1, i, a, fuel, hf, h => by
    obtain ⟨n, rfl⟩ : ∃ n, fuel = n + 1 := ⟨fuel - 1, by omega⟩
    obtain ⟨x, hx, hk, hl⟩ := h i (Nat.le_refl _) (by omega) (catF f k (i + 1))
    have hlen : (catF f (k + 1) i).length = (f i).length + (catF f k (i + 1)).length := by simp [catF]
    obtain ⟨T, t1, t2, t3⟩ := read_cat f kd k (i + 1) (a + (f i).length) n (by omega) (fun j h1 h2 => h j (by omega) (by omega))
    have hne : f i ++ catF f k (i + 1) ≠ [] := fun e => by
      have := congrArg List.length e
      rw [List.length_append, List.length_nil] at this; omega
    refine ⟨(x, a, a + (f i).length) :: T, ?_, by rw [List.length_cons, t2], fun j hj => ?_⟩
    · show readI true (n + 1) a (f i ++ catF f k (i + 1)) = _
      simp only [readI]
      rw [if_neg hne, hx]
      simp only [List.drop_left]
      rw [t1]
    · cases j with
      | zero => exact hk
      | succ j =>
        have := t3 j (by omega)
        rw [show i + (j + 1) = i + 1 + j by omega]
        simpa using this
theorem cat_snoc (f : Nat → List UInt8) : ∀ k i, catF f (k + 1) i = catF f k i ++ f (i + k)
  | 0, i => by simp [catF]
  | k + 1, i => by
    have := cat_snoc f k (i + 1)
    rw [catF, this, catF, List.append_assoc, show i + 1 + k = i + (k + 1) by omega]
theorem alB_cat (K C O : Ix → Int) (m n : Ix → Nat) (CU : Ix → Bool) (F : Ix → Int) : ∀ i, alB K C O m n CU F i = catF (fun j => theB (tkAt K C O m n CU F j)) i 0
  | 0 => rfl
  | i + 1 => by rw [cat_snoc, ← alB_cat K C O m n CU F i, Nat.zero_add]; rfl
theorem alE_inl (K C O : Ix → Int) (m n : Ix → Nat) (CU : Ix → Bool) (F : Ix → Int) : ∀ k i, alE K C O m n CU F k i = 0 → ∀ j, i ≤ j → j < i + k → ∃ l, tkAt K C O m n CU F j = .inl l
  | 0, i, h, j, h1, h2 => by omega
  | k + 1, i, h, j, h1, h2 => by
    simp only [alE] at h
    cases hz : tkAt K C O m n CU F i with
    | inr e => rw [hz] at h; exact absurd h (tkR_le hz).1
    | inl l =>
      rw [hz] at h
      by_cases e : j = i
      · subst e; exact ⟨l, hz⟩
      · exact alE_inl K C O m n CU F k (i + 1) h j (by omega) (by omega)
/-- What tokens are told as, told back as items. -/
theorem emits (K C O : Ix → Int) (m n : Ix → Nat) (CU : Ix → Bool) (F : Ix → Int) (N : Nat) (h : alE K C O m n CU F N 0 = 0) :
    ∃ T : List (It × Nat × Nat), parseI true (alB K C O m n CU F N) = some (T, 0) ∧ T.length = N ∧ ∀ j, j < N → ((T.getD j (⟨0, 0, 0, []⟩, 0, 0)).1.kind : Int) = (if K [j] = 1 then 1 else K [j] + 1) := by
  rw [alB_cat]
  unfold parseI
  obtain ⟨T, t1, t2, t3⟩ := read_cat (fun j => theB (tkAt K C O m n CU F j)) (fun j => if K [j] = 1 then 1 else K [j] + 1) N 0 0 _ (Nat.lt_succ_self _) (fun j _ h2 rest => by
    obtain ⟨l, hl⟩ := alE_inl K C O m n CU F N 0 h j (by omega) (by omega)
    have := emit_item hl rest
    simp only [hl, theB]
    exact this)
  exact ⟨T, t1, t2, fun j hj => by have := t3 j hj; rw [Nat.zero_add] at this; exact this⟩
end Go.Proofs.YtcphocfnhekdaaaDoor

set_option linter.unusedSimpArgs false
set_option linter.unusedVariables false
set_option maxRecDepth 100000
namespace Go.Proofs.YtcphocfnhekdaaaDoor
open Go.Sx

open GramR
def sumsMOk : List (FuncId × Summ) := [(31, alOkP.summ 38), (11, avP.summ 38), (12, psOkP.summ 38), (13, rsP.summ 38)]
theorem baseMOk : Base0 Tryd.prog sumsMOk := ((((baseO.cons Tryd.func13 (by kernel_rfl) (PC.summ_ok rsP_pc gtopG)).cons Tryd.func12 (by kernel_rfl) (PC.summ_ok psOkP_pc gtopG)).cons Tryd.func11 (by kernel_rfl) (PC.summ_ok avP_pc gtopG)).cons Tryd.func31 (by kernel_rfl) (PC.summ_ok alOkP_pc gtopG))
def sumsMKi : List (FuncId × Summ) := [(31, alKiP.summ 38), (11, avP.summ 38), (12, psOkP.summ 38), (13, rsP.summ 38)]
theorem baseMKi : Base0 Tryd.prog sumsMKi := ((((baseO.cons Tryd.func13 (by kernel_rfl) (PC.summ_ok rsP_pc gtopG)).cons Tryd.func12 (by kernel_rfl) (PC.summ_ok psOkP_pc gtopG)).cons Tryd.func11 (by kernel_rfl) (PC.summ_ok avP_pc gtopG)).cons Tryd.func31 (by kernel_rfl) (PC.summ_ok alKiP_pc gtopG))
def sumsMRa : List (FuncId × Summ) := [(31, alRaP.summ 38), (11, avP.summ 38), (12, psOkP.summ 38), (13, rsP.summ 38)]
theorem baseMRa : Base0 Tryd.prog sumsMRa := ((((baseO.cons Tryd.func13 (by kernel_rfl) (PC.summ_ok rsP_pc gtopG)).cons Tryd.func12 (by kernel_rfl) (PC.summ_ok psOkP_pc gtopG)).cons Tryd.func11 (by kernel_rfl) (PC.summ_ok avP_pc gtopG)).cons Tryd.func31 (by kernel_rfl) (PC.summ_ok alRaP_pc gtopG))
def sumsMLo : List (FuncId × Summ) := [(31, alLoP.summ 38), (11, avP.summ 38), (12, psOkP.summ 38), (13, rsP.summ 38)]
theorem baseMLo : Base0 Tryd.prog sumsMLo := ((((baseO.cons Tryd.func13 (by kernel_rfl) (PC.summ_ok rsP_pc gtopG)).cons Tryd.func12 (by kernel_rfl) (PC.summ_ok psOkP_pc gtopG)).cons Tryd.func11 (by kernel_rfl) (PC.summ_ok avP_pc gtopG)).cons Tryd.func31 (by kernel_rfl) (PC.summ_ok alLoP_pc gtopG))
def emS (t0 t1 t2 t3 t4 : List UInt8) : List Ent := sentEnts 19 144 [(2, t0), (4, t1), (3, t2), (0, t3), (1, t4)]
theorem geLong_p0 (t0 t1 t2 t3 t4 : List UInt8) (N : Nat) (K C O : Ix → Int) (bl : Ix → Nat) (CU : Ix → Bool) (B : Ix → Int) :
    isEnd (evTill Tryd.prog sumsMOk 700 (99) 900 10 [.code (bodyOf Tryd.f10)] (envOf [vL 100 5 N] Tryd.f10.ntmps) (emS t0 t1 t2 t3 t4 ++ ([⟨100, false, none, 5, .ta N (.tc (.vi .i64 K) (.tc (.vi .i64 C) (.tc (.vi .i64 O) (.tc (.vl 101 (fun is => is.headD 0) 1 [] bl) (.tc (.vb CU) .t0)))))⟩] ++ [⟨101, false, some (N, fun i => bl [i]), 1, .vi .u8 B⟩]) ++ ([])) ⟨[.t, .f, .s true], 110⟩) (endP ([]) (YES) ([]) 9000) =
    (OkL [(decide ((↑N : Int) > (30 : Int)), true)] ∧ true = true ∧ True) := by kernel_rfl

set_option maxHeartbeats 4000000 in
theorem geLong (t0 t1 t2 t3 t4 : List UInt8) (N : Nat) (K C O : Ix → Int) (bl : Ix → Nat) (CU : Ix → Bool) (B : Ix → Int) (h : 30 < N)  :
    RunsTo Tryd.prog 10 [.code (bodyOf Tryd.f10)] (envOf [vL 100 5 N] Tryd.f10.ntmps) (Sx.look (emS t0 t1 t2 t3 t4 ++ ([⟨100, false, none, 5, .ta N (.tc (.vi .i64 K) (.tc (.vi .i64 C) (.tc (.vi .i64 O) (.tc (.vl 101 (fun is => is.headD 0) 1 [] bl) (.tc (.vb CU) .t0)))))⟩] ++ [⟨101, false, some (N, fun i => bl [i]), 1, .vi .u8 B⟩]) ++ ([]))) 110 (YES) (Sx.look ([])) 9000 := by
  refine runs_last baseMOk (Sx.Ends.of (geLong_p0 t0 t1 t2 t3 t4 N K C O bl CU B) ⟨?oo, ?rr⟩) (by kernel_rfl) rfl (gtL (by decide)) (by decide)
  case oo =>
    refine (okc ?_ okn)
    all_goals ((try simp (disch := omega) only [SS]); first | done | omega | assumption | (simp (disch := omega) only [SS] at *; first | done | omega | assumption) | (simp_all; done))
  case rr =>
    try simp (disch := omega) only [SS]
    repeat' apply And.intro
    all_goals first | exact True.intro | with_reducible rfl | omega | (intros; first | exact True.intro | with_reducible rfl | omega | (simp_all; done)) | (simp_all; done) | rfl

theorem geStart_p0 (t0 t1 t2 t3 t4 : List UInt8) (N : Nat) (K C O : Ix → Int) (bl : Ix → Nat) (CU : Ix → Bool) (B : Ix → Int) :
    isMore (evTill Tryd.prog sumsMOk 700 (behind Tryd.f10 0) 900 10 [.code (bodyOf Tryd.f10)] (envOf [vL 100 5 N] Tryd.f10.ntmps) (emS t0 t1 t2 t3 t4 ++ ([⟨100, false, none, 5, .ta N (.tc (.vi .i64 K) (.tc (.vi .i64 C) (.tc (.vi .i64 O) (.tc (.vl 101 (fun is => is.headD 0) 1 [] bl) (.tc (.vb CU) .t0)))))⟩] ++ [⟨101, false, some (N, fun i => bl [i]), 1, .vi .u8 B⟩]) ++ ([])) ⟨[.t, .f, .s false], 110⟩) (moreP (headOf Tryd.f10 0) ([]) Tryd.f10.ntmps ([(0, vL 100 5 N), (16, vL 100 5 N), (17, vN N), (18, vN (0 : Nat))]) ([]) 9000) =
    (OkL [(decide ((↑N : Int) > (30 : Int)), false)] ∧ headOf Tryd.f10 (0 : Nat) = headOf Tryd.f10 (0 : Nat) ∧ (((0 : Nat) = (0 : Nat) ∧ N = N) ∧ ((0 : Nat) = (0 : Nat) ∧ N = N) ∧ (↑N : Int) = (↑N : Int) ∧ (↑(0 : Nat) : Int) = (0 : Int)) ∧ True) := by kernel_rfl

set_option maxHeartbeats 4000000 in
theorem geStart (t0 t1 t2 t3 t4 : List UInt8) (N : Nat) (K C O : Ix → Int) (bl : Ix → Nat) (CU : Ix → Bool) (B : Ix → Int) (hN : N ≤ 30)  (next : RunsTo Tryd.prog 10 (headOf Tryd.f10 0) (envAt Tryd.f10.ntmps ([(0, vL 100 5 N), (16, vL 100 5 N), (17, vN N), (18, vN (0 : Nat))])) (Sx.look (emS t0 t1 t2 t3 t4 ++ ([⟨100, false, none, 5, .ta N (.tc (.vi .i64 K) (.tc (.vi .i64 C) (.tc (.vi .i64 O) (.tc (.vl 101 (fun is => is.headD 0) 1 [] bl) (.tc (.vb CU) .t0)))))⟩] ++ [⟨101, false, some (N, fun i => bl [i]), 1, .vi .u8 B⟩]) ++ ([]))) 110 (YES) (Sx.look []) 9000) :
    RunsTo Tryd.prog 10 [.code (bodyOf Tryd.f10)] (envOf [vL 100 5 N] Tryd.f10.ntmps) (Sx.look (emS t0 t1 t2 t3 t4 ++ ([⟨100, false, none, 5, .ta N (.tc (.vi .i64 K) (.tc (.vi .i64 C) (.tc (.vi .i64 O) (.tc (.vl 101 (fun is => is.headD 0) 1 [] bl) (.tc (.vb CU) .t0)))))⟩] ++ [⟨101, false, some (N, fun i => bl [i]), 1, .vi .u8 B⟩]) ++ ([]))) 110 (YES) (Sx.look []) 9000 := by
  refine runs_more baseMOk (More.of (geStart_p0 t0 t1 t2 t3 t4 N K C O bl CU B) ⟨?oo, rfl, ?rr⟩) (by kernel_rfl) (by kernel_rfl) rfl (gtL (by decide)) (by decide) next
  case oo =>
    clear next
    refine (okc ?_ okn)
    all_goals ((try simp (disch := omega) only [SS]); first | done | omega | assumption | (simp (disch := omega) only [SS] at *; first | done | omega | assumption) | (simp_all; done))
  case rr =>
    clear next
    try simp (disch := omega) only [SS]
    repeat' apply And.intro
    all_goals first | exact True.intro | with_reducible rfl | omega | (intros; first | exact True.intro | with_reducible rfl | omega | (simp_all; done)) | (simp_all; done) | rfl

theorem geBody_p0 (t0 t1 t2 t3 t4 : List UInt8) (N : Nat) (K C O : Ix → Int) (bl : Ix → Nat) (CU : Ix → Bool) (B : Ix → Int) (i : Nat) :
    isEnd (evTill Tryd.prog sumsMOk 700 (99) 900 10 (headOf Tryd.f10 0) (envAt Tryd.f10.ntmps ([(0, vL 100 5 N), (16, vL 100 5 N), (17, vN N), (18, vN (i : Nat))])) (emS t0 t1 t2 t3 t4 ++ ([⟨100, false, none, 5, .ta N (.tc (.vi .i64 K) (.tc (.vi .i64 C) (.tc (.vi .i64 O) (.tc (.vl 101 (fun is => is.headD 0) 1 [] bl) (.tc (.vb CU) .t0)))))⟩] ++ [⟨101, false, some (N, fun i => bl [i]), 1, .vi .u8 B⟩]) ++ ([])) ⟨[.s true, .s true, .s true, .s true, .s true], 140⟩) (endP ([]) (YES) ([]) 9000) =
    (OkL [(decide ((↑i : Int) < (↑N : Int)), true), (decide ((0 : Int) ≤ (↑i : Int) ∧ (↑i : Int) < (↑N : Int)), true), (((0 : Nat) + (↑i : Int).toNat).blt N, true), (((0 : Nat) + (↑i : Int).toNat).blt N, true), (decide ((↑(bl [(0 : Nat) + (↑i : Int).toNat]) : Int) > (300 : Int)), true)] ∧ true = true ∧ True) := by kernel_rfl

set_option maxHeartbeats 4000000 in
theorem geBody (t0 t1 t2 t3 t4 : List UInt8) (N : Nat) (K C O : Ix → Int) (bl : Ix → Nat) (CU : Ix → Bool) (B : Ix → Int) (i : Nat) (hi : i < N) (h : 300 < bl [i])  :
    RunsTo Tryd.prog 10 (headOf Tryd.f10 0) (envAt Tryd.f10.ntmps ([(0, vL 100 5 N), (16, vL 100 5 N), (17, vN N), (18, vN (i : Nat))])) (Sx.look (emS t0 t1 t2 t3 t4 ++ ([⟨100, false, none, 5, .ta N (.tc (.vi .i64 K) (.tc (.vi .i64 C) (.tc (.vi .i64 O) (.tc (.vl 101 (fun is => is.headD 0) 1 [] bl) (.tc (.vb CU) .t0)))))⟩] ++ [⟨101, false, some (N, fun i => bl [i]), 1, .vi .u8 B⟩]) ++ ([]))) 110 (YES) (Sx.look ([])) 9000 := by
  refine runs_last baseMOk (Sx.Ends.of (geBody_p0 t0 t1 t2 t3 t4 N K C O bl CU B i) ⟨?oo, ?rr⟩) (by kernel_rfl) rfl (gtL (by decide)) (by decide)
  case oo =>
    refine (okc ?_ (okc ?_ (okc ?_ (okc ?_ (okc ?_ okn)))))
    all_goals ((try simp (disch := omega) only [SS]); first | done | omega | assumption | (simp (disch := omega) only [SS] at *; first | done | omega | assumption) | (simp_all; done))
  case rr =>
    try simp (disch := omega) only [SS]
    repeat' apply And.intro
    all_goals first | exact True.intro | with_reducible rfl | omega | (intros; first | exact True.intro | with_reducible rfl | omega | (simp_all; done)) | (simp_all; done) | rfl

theorem geR_p0 (t0 t1 t2 t3 t4 : List UInt8) (N : Nat) (K C O : Ix → Int) (bl : Ix → Nat) (CU : Ix → Bool) (B : Ix → Int) (i : Nat) :
    isMore (evTill Tryd.prog sumsMOk 700 (behind Tryd.f10 0) 900 10 (headOf Tryd.f10 0) (envAt Tryd.f10.ntmps ([(0, vL 100 5 N), (16, vL 100 5 N), (17, vN N), (18, vN (i : Nat))])) (emS t0 t1 t2 t3 t4 ++ ([⟨100, false, none, 5, .ta N (.tc (.vi .i64 K) (.tc (.vi .i64 C) (.tc (.vi .i64 O) (.tc (.vl 101 (fun is => is.headD 0) 1 [] bl) (.tc (.vb CU) .t0)))))⟩] ++ [⟨101, false, some (N, fun i => bl [i]), 1, .vi .u8 B⟩]) ++ ([])) ⟨[.s true, .s true, .s true, .s true, .s false], 140⟩) (moreP (headOf Tryd.f10 0) ([]) Tryd.f10.ntmps ([(0, vL 100 5 N), (16, vL 100 5 N), (17, vN N), (18, vN (i + 1 : Nat))]) ([]) 9000) =
    (OkL [(decide ((↑i : Int) < (↑N : Int)), true), (decide ((0 : Int) ≤ (↑i : Int) ∧ (↑i : Int) < (↑N : Int)), true), (((0 : Nat) + (↑i : Int).toNat).blt N, true), (((0 : Nat) + (↑i : Int).toNat).blt N, true), (decide ((↑(bl [(0 : Nat) + (↑i : Int).toNat]) : Int) > (300 : Int)), false)] ∧ headOf Tryd.f10 (0 : Nat) = headOf Tryd.f10 (0 : Nat) ∧ (((0 : Nat) = (0 : Nat) ∧ N = N) ∧ ((0 : Nat) = (0 : Nat) ∧ N = N) ∧ (↑N : Int) = (↑N : Int) ∧ (↑(i + (1 : Nat)) : Int) = IntKind.i64.wrap ((↑i : Int) + (1 : Int))) ∧ True) := by kernel_rfl

set_option maxHeartbeats 4000000 in
theorem geR (t0 t1 t2 t3 t4 : List UInt8) (N : Nat) (K C O : Ix → Int) (bl : Ix → Nat) (CU : Ix → Bool) (B : Ix → Int) (i : Nat) (hi : i < N) (hN : N ≤ 30) (h : bl [i] ≤ 300)  (next : RunsTo Tryd.prog 10 (headOf Tryd.f10 0) (envAt Tryd.f10.ntmps ([(0, vL 100 5 N), (16, vL 100 5 N), (17, vN N), (18, vN (i + 1 : Nat))])) (Sx.look (emS t0 t1 t2 t3 t4 ++ ([⟨100, false, none, 5, .ta N (.tc (.vi .i64 K) (.tc (.vi .i64 C) (.tc (.vi .i64 O) (.tc (.vl 101 (fun is => is.headD 0) 1 [] bl) (.tc (.vb CU) .t0)))))⟩] ++ [⟨101, false, some (N, fun i => bl [i]), 1, .vi .u8 B⟩]) ++ ([]))) 110 (YES) (Sx.look []) 9000) :
    RunsTo Tryd.prog 10 (headOf Tryd.f10 0) (envAt Tryd.f10.ntmps ([(0, vL 100 5 N), (16, vL 100 5 N), (17, vN N), (18, vN (i : Nat))])) (Sx.look (emS t0 t1 t2 t3 t4 ++ ([⟨100, false, none, 5, .ta N (.tc (.vi .i64 K) (.tc (.vi .i64 C) (.tc (.vi .i64 O) (.tc (.vl 101 (fun is => is.headD 0) 1 [] bl) (.tc (.vb CU) .t0)))))⟩] ++ [⟨101, false, some (N, fun i => bl [i]), 1, .vi .u8 B⟩]) ++ ([]))) 110 (YES) (Sx.look []) 9000 := by
  have hw : IntKind.i64.wrap ((i : Int) + 1) = ((i + 1 : Nat) : Int) := by rw [wr64 (by omega)]; rfl
  refine runs_more baseMOk (More.of (geR_p0 t0 t1 t2 t3 t4 N K C O bl CU B i) ⟨?oo, rfl, ?rr⟩) (by kernel_rfl) (by kernel_rfl) rfl (gtL (by decide)) (by decide) next
  case oo =>
    clear next
    refine (okc ?_ (okc ?_ (okc ?_ (okc ?_ (okc ?_ okn)))))
    all_goals ((try simp (disch := omega) only [SS, hw]); first | done | omega | assumption | (simp (disch := omega) only [SS, hw] at *; first | done | omega | assumption) | (simp_all; done))
  case rr =>
    clear next
    try simp (disch := omega) only [SS, hw]
    repeat' apply And.intro
    all_goals first | exact True.intro | with_reducible rfl | omega | (intros; first | exact True.intro | with_reducible rfl | omega | (simp_all; done)) | (simp_all; done) | rfl

theorem geEKi_p0 (t0 t1 t2 t3 t4 : List UInt8) (N : Nat) (K C O : Ix → Int) (bl : Ix → Nat) (CU : Ix → Bool) (B : Ix → Int) (i : Nat) :
    isEnd (evTill Tryd.prog sumsMKi 700 (99) 900 10 (headOf Tryd.f10 0) (envAt Tryd.f10.ntmps ([(0, vL 100 5 N), (16, vL 100 5 N), (17, vN N), (18, vN (i : Nat))])) (emS t0 t1 t2 t3 t4 ++ ([⟨100, false, none, 5, .ta N (.tc (.vi .i64 K) (.tc (.vi .i64 C) (.tc (.vi .i64 O) (.tc (.vl 101 (fun is => is.headD 0) 1 [] bl) (.tc (.vb CU) .t0)))))⟩] ++ [⟨101, false, some (N, fun i => bl [i]), 1, .vi .u8 B⟩]) ++ ([])) ⟨[.s false, .s true, .s true, .t], 140⟩) (endP ([]) (YES) ([]) 9000) =
    (OkL [(decide ((↑i : Int) < (↑N : Int)), false), (N.beq N, true), (decide (N ≤ (1000 : Nat)) && (okRow N N (fun is => List.headD is (0 : Nat)) bl (fun i => bl [i]) B && decide (alE K C O (fun is => List.headD is (0 : Nat)) bl CU B N (0 : Nat) = (1 : Nat))), true)] ∧ true = true ∧ True) := by kernel_rfl

set_option maxHeartbeats 4000000 in
theorem geEKi (t0 t1 t2 t3 t4 : List UInt8) (N : Nat) (K C O : Ix → Int) (bl : Ix → Nat) (CU : Ix → Bool) (B : Ix → Int) (i : Nat) (hi : i = N) (hN : N ≤ 30) (hok : okRow N N (fun is => is.headD 0) bl (fun i => bl [i]) B = true) (he : alE K C O (fun is => is.headD 0) bl CU B N 0 = 1)  :
    RunsTo Tryd.prog 10 (headOf Tryd.f10 0) (envAt Tryd.f10.ntmps ([(0, vL 100 5 N), (16, vL 100 5 N), (17, vN N), (18, vN (i : Nat))])) (Sx.look (emS t0 t1 t2 t3 t4 ++ ([⟨100, false, none, 5, .ta N (.tc (.vi .i64 K) (.tc (.vi .i64 C) (.tc (.vi .i64 O) (.tc (.vl 101 (fun is => is.headD 0) 1 [] bl) (.tc (.vb CU) .t0)))))⟩] ++ [⟨101, false, some (N, fun i => bl [i]), 1, .vi .u8 B⟩]) ++ ([]))) 110 (YES) (Sx.look ([])) 9000 := by
  refine runs_last baseMKi (Sx.Ends.of (geEKi_p0 t0 t1 t2 t3 t4 N K C O bl CU B i) ⟨?oo, ?rr⟩) (by kernel_rfl) rfl (gtL (by decide)) (by decide)
  case oo =>
    refine (okc ?_ (okc ?_ (okc ?_ okn)))
    all_goals first | omega | exact ⟨hok, he⟩ | (simp (disch := omega) only [SS]; first | done | omega | exact ⟨hok, he⟩ | exact ⟨by omega, hok, he⟩ | exact ⟨by omega, hbn, hm⟩ | exact ⟨by omega, hbn⟩ | exact ⟨hbn, hm⟩ | exact hbn) | (simp_all; done) | (simp_all; omega)
  case rr =>
    try simp (disch := omega) only [SS]
    repeat' apply And.intro
    all_goals first | exact True.intro | with_reducible rfl | omega | (intros; first | exact True.intro | with_reducible rfl | omega | (simp_all; done)) | (simp_all; done) | rfl

theorem geERa_p0 (t0 t1 t2 t3 t4 : List UInt8) (N : Nat) (K C O : Ix → Int) (bl : Ix → Nat) (CU : Ix → Bool) (B : Ix → Int) (i : Nat) :
    isEnd (evTill Tryd.prog sumsMRa 700 (99) 900 10 (headOf Tryd.f10 0) (envAt Tryd.f10.ntmps ([(0, vL 100 5 N), (16, vL 100 5 N), (17, vN N), (18, vN (i : Nat))])) (emS t0 t1 t2 t3 t4 ++ ([⟨100, false, none, 5, .ta N (.tc (.vi .i64 K) (.tc (.vi .i64 C) (.tc (.vi .i64 O) (.tc (.vl 101 (fun is => is.headD 0) 1 [] bl) (.tc (.vb CU) .t0)))))⟩] ++ [⟨101, false, some (N, fun i => bl [i]), 1, .vi .u8 B⟩]) ++ ([])) ⟨[.s false, .s true, .s true, .t], 140⟩) (endP ([]) (YES) ([]) 9000) =
    (OkL [(decide ((↑i : Int) < (↑N : Int)), false), (N.beq N, true), (decide (N ≤ (1000 : Nat)) && (okRow N N (fun is => List.headD is (0 : Nat)) bl (fun i => bl [i]) B && decide (alE K C O (fun is => List.headD is (0 : Nat)) bl CU B N (0 : Nat) = (2 : Nat))), true)] ∧ true = true ∧ True) := by kernel_rfl

set_option maxHeartbeats 4000000 in
theorem geERa (t0 t1 t2 t3 t4 : List UInt8) (N : Nat) (K C O : Ix → Int) (bl : Ix → Nat) (CU : Ix → Bool) (B : Ix → Int) (i : Nat) (hi : i = N) (hN : N ≤ 30) (hok : okRow N N (fun is => is.headD 0) bl (fun i => bl [i]) B = true) (he : alE K C O (fun is => is.headD 0) bl CU B N 0 = 2)  :
    RunsTo Tryd.prog 10 (headOf Tryd.f10 0) (envAt Tryd.f10.ntmps ([(0, vL 100 5 N), (16, vL 100 5 N), (17, vN N), (18, vN (i : Nat))])) (Sx.look (emS t0 t1 t2 t3 t4 ++ ([⟨100, false, none, 5, .ta N (.tc (.vi .i64 K) (.tc (.vi .i64 C) (.tc (.vi .i64 O) (.tc (.vl 101 (fun is => is.headD 0) 1 [] bl) (.tc (.vb CU) .t0)))))⟩] ++ [⟨101, false, some (N, fun i => bl [i]), 1, .vi .u8 B⟩]) ++ ([]))) 110 (YES) (Sx.look ([])) 9000 := by
  refine runs_last baseMRa (Sx.Ends.of (geERa_p0 t0 t1 t2 t3 t4 N K C O bl CU B i) ⟨?oo, ?rr⟩) (by kernel_rfl) rfl (gtL (by decide)) (by decide)
  case oo =>
    refine (okc ?_ (okc ?_ (okc ?_ okn)))
    all_goals first | omega | exact ⟨hok, he⟩ | (simp (disch := omega) only [SS]; first | done | omega | exact ⟨hok, he⟩ | exact ⟨by omega, hok, he⟩ | exact ⟨by omega, hbn, hm⟩ | exact ⟨by omega, hbn⟩ | exact ⟨hbn, hm⟩ | exact hbn) | (simp_all; done) | (simp_all; omega)
  case rr =>
    try simp (disch := omega) only [SS]
    repeat' apply And.intro
    all_goals first | exact True.intro | with_reducible rfl | omega | (intros; first | exact True.intro | with_reducible rfl | omega | (simp_all; done)) | (simp_all; done) | rfl

theorem geELo_p0 (t0 t1 t2 t3 t4 : List UInt8) (N : Nat) (K C O : Ix → Int) (bl : Ix → Nat) (CU : Ix → Bool) (B : Ix → Int) (i : Nat) :
    isEnd (evTill Tryd.prog sumsMLo 700 (99) 900 10 (headOf Tryd.f10 0) (envAt Tryd.f10.ntmps ([(0, vL 100 5 N), (16, vL 100 5 N), (17, vN N), (18, vN (i : Nat))])) (emS t0 t1 t2 t3 t4 ++ ([⟨100, false, none, 5, .ta N (.tc (.vi .i64 K) (.tc (.vi .i64 C) (.tc (.vi .i64 O) (.tc (.vl 101 (fun is => is.headD 0) 1 [] bl) (.tc (.vb CU) .t0)))))⟩] ++ [⟨101, false, some (N, fun i => bl [i]), 1, .vi .u8 B⟩]) ++ ([])) ⟨[.s false, .s true, .s true, .t], 140⟩) (endP ([]) (YES) ([]) 9000) =
    (OkL [(decide ((↑i : Int) < (↑N : Int)), false), (N.beq N, true), (decide (N ≤ (1000 : Nat)) && (okRow N N (fun is => List.headD is (0 : Nat)) bl (fun i => bl [i]) B && decide (alE K C O (fun is => List.headD is (0 : Nat)) bl CU B N (0 : Nat) = (3 : Nat))), true)] ∧ true = true ∧ True) := by kernel_rfl

set_option maxHeartbeats 4000000 in
theorem geELo (t0 t1 t2 t3 t4 : List UInt8) (N : Nat) (K C O : Ix → Int) (bl : Ix → Nat) (CU : Ix → Bool) (B : Ix → Int) (i : Nat) (hi : i = N) (hN : N ≤ 30) (hok : okRow N N (fun is => is.headD 0) bl (fun i => bl [i]) B = true) (he : alE K C O (fun is => is.headD 0) bl CU B N 0 = 3)  :
    RunsTo Tryd.prog 10 (headOf Tryd.f10 0) (envAt Tryd.f10.ntmps ([(0, vL 100 5 N), (16, vL 100 5 N), (17, vN N), (18, vN (i : Nat))])) (Sx.look (emS t0 t1 t2 t3 t4 ++ ([⟨100, false, none, 5, .ta N (.tc (.vi .i64 K) (.tc (.vi .i64 C) (.tc (.vi .i64 O) (.tc (.vl 101 (fun is => is.headD 0) 1 [] bl) (.tc (.vb CU) .t0)))))⟩] ++ [⟨101, false, some (N, fun i => bl [i]), 1, .vi .u8 B⟩]) ++ ([]))) 110 (YES) (Sx.look ([])) 9000 := by
  refine runs_last baseMLo (Sx.Ends.of (geELo_p0 t0 t1 t2 t3 t4 N K C O bl CU B i) ⟨?oo, ?rr⟩) (by kernel_rfl) rfl (gtL (by decide)) (by decide)
  case oo =>
    refine (okc ?_ (okc ?_ (okc ?_ okn)))
    all_goals first | omega | exact ⟨hok, he⟩ | (simp (disch := omega) only [SS]; first | done | omega | exact ⟨hok, he⟩ | exact ⟨by omega, hok, he⟩ | exact ⟨by omega, hbn, hm⟩ | exact ⟨by omega, hbn⟩ | exact ⟨hbn, hm⟩ | exact hbn) | (simp_all; done) | (simp_all; omega)
  case rr =>
    try simp (disch := omega) only [SS]
    repeat' apply And.intro
    all_goals first | exact True.intro | with_reducible rfl | omega | (intros; first | exact True.intro | with_reducible rfl | omega | (simp_all; done)) | (simp_all; done) | rfl

theorem geOk_p0 (t0 t1 t2 t3 t4 : List UInt8) (N : Nat) (K C O : Ix → Int) (bl : Ix → Nat) (CU : Ix → Bool) (B : Ix → Int) (b : List UInt8) (T : List Itm) (i : Nat) :
    isMore (evTill Tryd.prog sumsMOk 700 (behind Tryd.f10 1) 900 10 (headOf Tryd.f10 0) (envAt Tryd.f10.ntmps ([(0, vL 100 5 N), (16, vL 100 5 N), (17, vN N), (18, vN (i : Nat))])) (emS t0 t1 t2 t3 t4 ++ ([⟨100, false, none, 5, .ta N (.tc (.vi .i64 K) (.tc (.vi .i64 C) (.tc (.vi .i64 O) (.tc (.vl 101 (fun is => is.headD 0) 1 [] bl) (.tc (.vb CU) .t0)))))⟩] ++ [⟨101, false, some (N, fun i => bl [i]), 1, .vi .u8 B⟩]) ++ ([])) ⟨[.s false, .s true, .s true, .f, .s true, .f, .s false, .s true, .s false], 140⟩) (moreP (headOf Tryd.f10 1) ([((121 : Nat), Rn.to (1121 : Nat)), ((122 : Nat), Rn.to (1122 : Nat))]) Tryd.f10.ntmps ([(7, vL 121 6 T.length), (53, vL 100 5 N), (54, vN N), (55, vN (0 : Nat))]) (itE 121 122 T) 9000) =
    (OkL [(decide ((↑i : Int) < (↑N : Int)), false), (N.beq N, true), (decide (N ≤ (1000 : Nat)) && (okRow N N (fun is => List.headD is (0 : Nat)) bl (fun i => bl [i]) B && decide (alE K C O (fun is => List.headD is (0 : Nat)) bl CU B N (0 : Nat) = (0 : Nat))), true), (decide ((alB K C O (fun is => List.headD is (0 : Nat)) bl CU B N).length ≤ (100000 : Nat)) && (decide ((alB K C O (fun is => List.headD is (0 : Nat)) bl CU B N).length ≤ (alB K C O (fun is => List.headD is (0 : Nat)) bl CU B N).length) && (bndB (fun is => (↑((alB K C O (fun is => List.headD is (0 : Nat)) bl CU B N).getD (List.headD is (0 : Nat)) (0 : UInt8)).toNat : Int)) (alB K C O (fun is => List.headD is (0 : Nat)) bl CU B N).length && (ptM true (alB K C O (fun is => List.headD is (0 : Nat)) bl CU B N).length fun is => (↑((alB K C O (fun is => List.headD is (0 : Nat)) bl CU B N).getD (List.headD is (0 : Nat)) (0 : UInt8)).toNat : Int)).isSome)), true), ((↑(ptT true (alB K C O (fun is => List.headD is (0 : Nat)) bl CU B N).length fun is => (↑((alB K C O (fun is => List.headD is (0 : Nat)) bl CU B N).getD (List.headD is (0 : Nat)) (0 : UInt8)).toNat : Int)).length : Int) != (↑N : Int), false), (decide ((alB K C O (fun is => List.headD is (0 : Nat)) bl CU B N).length ≤ (100000 : Nat)) && (decide ((alB K C O (fun is => List.headD is (0 : Nat)) bl CU B N).length ≤ (alB K C O (fun is => List.headD is (0 : Nat)) bl CU B N).length) && bndB (fun is => (↑((alB K C O (fun is => List.headD is (0 : Nat)) bl CU B N).getD (List.headD is (0 : Nat)) (0 : UInt8)).toNat : Int)) (alB K C O (fun is => List.headD is (0 : Nat)) bl CU B N).length), true), ((↑(restN true (alB K C O (fun is => List.headD is (0 : Nat)) bl CU B N).length fun is => (↑((alB K C O (fun is => List.headD is (0 : Nat)) bl CU B N).getD (List.headD is (0 : Nat)) (0 : UInt8)).toNat : Int)) : Int) != (0 : Int), false)] ∧ headOf Tryd.f10 (1 : Nat) = headOf Tryd.f10 (1 : Nat) ∧ (((0 : Nat) = (0 : Nat) ∧ T.length = (ptT true (alB K C O (fun is => List.headD is (0 : Nat)) bl CU B N).length fun is => (↑((alB K C O (fun is => List.headD is (0 : Nat)) bl CU B N).getD (List.headD is (0 : Nat)) (0 : UInt8)).toNat : Int)).length) ∧ ((0 : Nat) = (0 : Nat) ∧ N = N) ∧ (↑N : Int) = (↑N : Int) ∧ (↑(0 : Nat) : Int) = (0 : Int)) ∧ (T.length = (ptT true (alB K C O (fun is => List.headD is (0 : Nat)) bl CU B N).length fun is => (↑((alB K C O (fun is => List.headD is (0 : Nat)) bl CU B N).getD (List.headD is (0 : Nat)) (0 : UInt8)).toNat : Int)).length ∧ (∀ (i : Nat), i < T.length → iK T [i] = iK (ptT true (alB K C O (fun is => List.headD is (0 : Nat)) bl CU B N).length fun is => (↑((alB K C O (fun is => List.headD is (0 : Nat)) bl CU B N).getD (List.headD is (0 : Nat)) (0 : UInt8)).toNat : Int)) [i]) ∧ (∀ (i : Nat), i < T.length → iF T [i] = iF (ptT true (alB K C O (fun is => List.headD is (0 : Nat)) bl CU B N).length fun is => (↑((alB K C O (fun is => List.headD is (0 : Nat)) bl CU B N).getD (List.headD is (0 : Nat)) (0 : UInt8)).toNat : Int)) [i]) ∧ (∀ (i : Nat), i < T.length → iT T [i] = iT (ptT true (alB K C O (fun is => List.headD is (0 : Nat)) bl CU B N).length fun is => (↑((alB K C O (fun is => List.headD is (0 : Nat)) bl CU B N).getD (List.headD is (0 : Nat)) (0 : UInt8)).toNat : Int)) [i]) ∧ (∀ (i : Nat), i < T.length → iC T [i] = iC (ptT true (alB K C O (fun is => List.headD is (0 : Nat)) bl CU B N).length fun is => (↑((alB K C O (fun is => List.headD is (0 : Nat)) bl CU B N).getD (List.headD is (0 : Nat)) (0 : UInt8)).toNat : Int)) [i]) ∧ (∀ (i : Nat), i < T.length → iO T [i] = iO (ptT true (alB K C O (fun is => List.headD is (0 : Nat)) bl CU B N).length fun is => (↑((alB K C O (fun is => List.headD is (0 : Nat)) bl CU B N).getD (List.headD is (0 : Nat)) (0 : UInt8)).toNat : Int)) [i]) ∧ (∀ (i : Nat), i < T.length → iM T [i] = iM (ptT true (alB K C O (fun is => List.headD is (0 : Nat)) bl CU B N).length fun is => (↑((alB K C O (fun is => List.headD is (0 : Nat)) bl CU B N).getD (List.headD is (0 : Nat)) (0 : UInt8)).toNat : Int)) [i]) ∧ ∀ (i : Nat), i < T.length → iW T [i] = iW (ptT true (alB K C O (fun is => List.headD is (0 : Nat)) bl CU B N).length fun is => (↑((alB K C O (fun is => List.headD is (0 : Nat)) bl CU B N).getD (List.headD is (0 : Nat)) (0 : UInt8)).toNat : Int)) [i]) ∧ T.length = (ptT true (alB K C O (fun is => List.headD is (0 : Nat)) bl CU B N).length fun is => (↑((alB K C O (fun is => List.headD is (0 : Nat)) bl CU B N).getD (List.headD is (0 : Nat)) (0 : UInt8)).toNat : Int)).length ∧ ∀ (m : Nat), m < T.length → iL T m = iL (ptT true (alB K C O (fun is => List.headD is (0 : Nat)) bl CU B N).length fun is => (↑((alB K C O (fun is => List.headD is (0 : Nat)) bl CU B N).getD (List.headD is (0 : Nat)) (0 : UInt8)).toNat : Int)) m ∧ ∀ (i : Nat), i < iL T m → iZ T [m, i] = iZ (ptT true (alB K C O (fun is => List.headD is (0 : Nat)) bl CU B N).length fun is => (↑((alB K C O (fun is => List.headD is (0 : Nat)) bl CU B N).getD (List.headD is (0 : Nat)) (0 : UInt8)).toNat : Int)) [m, i]) := by kernel_rfl

set_option maxHeartbeats 4000000 in
theorem geOk (t0 t1 t2 t3 t4 : List UInt8) (N : Nat) (K C O : Ix → Int) (bl : Ix → Nat) (CU : Ix → Bool) (B : Ix → Int) (b : List UInt8) (T : List Itm) (i : Nat) (hi : i = N) (hN : N ≤ 30) (hok : okRow N N (fun is => is.headD 0) bl (fun i => bl [i]) B = true) (he : alE K C O (fun is => is.headD 0) bl CU B N 0 = 0) (hb : alB K C O (fun is => is.headD 0) bl CU B N = b) (hl : b.length ≤ 20000) (hbn : bndB (fun is => ((b.getD (is.headD 0) 0).toNat : Int)) b.length = true) (hm : (ptM true b.length (fun is => ((b.getD (is.headD 0) 0).toNat : Int))).isSome = true) (hT : ptT true b.length (fun is => ((b.getD (is.headD 0) 0).toNat : Int)) = T) (hTl : T.length = N) (hr : restN true b.length (fun is => ((b.getD (is.headD 0) 0).toNat : Int)) = 0)  (next : RunsTo Tryd.prog 10 (headOf Tryd.f10 1) (envAt Tryd.f10.ntmps ([(7, vL 121 6 T.length), (53, vL 100 5 N), (54, vN N), (55, vN (0 : Nat))])) (Sx.look (emS t0 t1 t2 t3 t4 ++ ([⟨100, false, none, 5, .ta N (.tc (.vi .i64 K) (.tc (.vi .i64 C) (.tc (.vi .i64 O) (.tc (.vl 101 (fun is => is.headD 0) 1 [] bl) (.tc (.vb CU) .t0)))))⟩] ++ [⟨101, false, some (N, fun i => bl [i]), 1, .vi .u8 B⟩]) ++ (itE 121 122 T))) 110 (YES) (Sx.look []) 9000) :
    RunsTo Tryd.prog 10 (headOf Tryd.f10 0) (envAt Tryd.f10.ntmps ([(0, vL 100 5 N), (16, vL 100 5 N), (17, vN N), (18, vN (i : Nat))])) (Sx.look (emS t0 t1 t2 t3 t4 ++ ([⟨100, false, none, 5, .ta N (.tc (.vi .i64 K) (.tc (.vi .i64 C) (.tc (.vi .i64 O) (.tc (.vl 101 (fun is => is.headD 0) 1 [] bl) (.tc (.vb CU) .t0)))))⟩] ++ [⟨101, false, some (N, fun i => bl [i]), 1, .vi .u8 B⟩]) ++ ([]))) 110 (YES) (Sx.look []) 9000 := by
  refine runs_more baseMOk (More.of (geOk_p0 t0 t1 t2 t3 t4 N K C O bl CU B b T i) ⟨?oo, rfl, ?rr⟩) (by kernel_rfl) (by kernel_rfl) rfl (gtL (by decide)) (by decide) next
  case oo =>
    clear next
    refine (okc ?_ (okc ?_ (okc ?_ (okc ?_ (okc ?_ (okc ?_ (okc ?_ okn)))))))
    all_goals first | omega | exact ⟨hok, he⟩ | (simp (disch := omega) only [SS, hb, hT, hr, hTl]; first | done | omega | exact ⟨hok, he⟩ | exact ⟨by omega, hok, he⟩ | exact ⟨by omega, hbn, hm⟩ | exact ⟨by omega, hbn⟩ | exact ⟨hbn, hm⟩ | exact hbn) | (simp_all; done) | (simp_all; omega)
  case rr =>
    clear next
    try simp (disch := omega) only [SS, hb, hT, hr, hTl]
    repeat' apply And.intro
    all_goals first | exact True.intro | with_reducible rfl | omega | (intros; first | exact True.intro | with_reducible rfl | omega | (simp_all; done)) | (simp_all; done) | rfl

theorem geA_p0 (t0 t1 t2 t3 t4 : List UInt8) (N : Nat) (K C O : Ix → Int) (bl : Ix → Nat) (CU : Ix → Bool) (B : Ix → Int) (T : List Itm) (i : Nat) :
    isMore (evTill Tryd.prog sumsMOk 700 (behind Tryd.f10 1) 900 10 (headOf Tryd.f10 1) (envAt Tryd.f10.ntmps ([(7, vL 121 6 T.length), (53, vL 100 5 N), (54, vN N), (55, vN (i : Nat))])) (emS t0 t1 t2 t3 t4 ++ ([⟨100, false, none, 5, .ta N (.tc (.vi .i64 K) (.tc (.vi .i64 C) (.tc (.vi .i64 O) (.tc (.vl 101 (fun is => is.headD 0) 1 [] bl) (.tc (.vb CU) .t0)))))⟩] ++ [⟨101, false, some (N, fun i => bl [i]), 1, .vi .u8 B⟩]) ++ (itE 121 122 T)) ⟨[.s true, .s true, .s true, .s true, .s false, .s true, .s true, .s true, .s false], 140⟩) (moreP (headOf Tryd.f10 1) ([]) Tryd.f10.ntmps ([(7, vL 121 6 T.length), (53, vL 100 5 N), (54, vN N), (55, vN (i + 1 : Nat))]) (itE 121 122 T) 9000) =
    (OkL [(decide ((↑i : Int) < (↑N : Int)), true), (decide ((0 : Int) ≤ (↑i : Int) ∧ (↑i : Int) < (↑N : Int)), true), (((0 : Nat) + (↑i : Int).toNat).blt N, true), (((0 : Nat) + (↑i : Int).toNat).blt N, true), (K [(0 : Nat) + (↑i : Int).toNat] != (1 : Int), false), (decide ((0 : Int) ≤ (↑i : Int) ∧ (↑i : Int) < (↑T.length : Int)), true), (((0 : Nat) + (↑i : Int).toNat).blt T.length, true), (((0 : Nat) + (↑i : Int).toNat).blt T.length, true), (iK T [(0 : Nat) + (↑i : Int).toNat] != (1 : Int), false)] ∧ headOf Tryd.f10 (1 : Nat) = headOf Tryd.f10 (1 : Nat) ∧ (((0 : Nat) = (0 : Nat) ∧ T.length = T.length) ∧ ((0 : Nat) = (0 : Nat) ∧ N = N) ∧ (↑N : Int) = (↑N : Int) ∧ (↑(i + (1 : Nat)) : Int) = IntKind.i64.wrap ((↑i : Int) + (1 : Int))) ∧ (T.length = T.length ∧ (∀ (i : Nat), i < T.length → iK T [i] = iK T [i]) ∧ (∀ (i : Nat), i < T.length → iF T [i] = iF T [i]) ∧ (∀ (i : Nat), i < T.length → iT T [i] = iT T [i]) ∧ (∀ (i : Nat), i < T.length → iC T [i] = iC T [i]) ∧ (∀ (i : Nat), i < T.length → iO T [i] = iO T [i]) ∧ (∀ (i : Nat), i < T.length → iM T [i] = iM T [i]) ∧ ∀ (i : Nat), i < T.length → iW T [i] = iW T [i]) ∧ T.length = T.length ∧ ∀ (m : Nat), m < T.length → iL T m = iL T m ∧ ∀ (i : Nat), i < iL T m → iZ T [m, i] = iZ T [m, i]) := by kernel_rfl

set_option maxHeartbeats 4000000 in
theorem geA (t0 t1 t2 t3 t4 : List UInt8) (N : Nat) (K C O : Ix → Int) (bl : Ix → Nat) (CU : Ix → Bool) (B : Ix → Int) (T : List Itm) (i : Nat) (hi : i < N) (hN : N ≤ 30) (hTl : T.length = N) (h : K [i] = 1) (hk : iK T [i] = 1)  (next : RunsTo Tryd.prog 10 (headOf Tryd.f10 1) (envAt Tryd.f10.ntmps ([(7, vL 121 6 T.length), (53, vL 100 5 N), (54, vN N), (55, vN (i + 1 : Nat))])) (Sx.look (emS t0 t1 t2 t3 t4 ++ ([⟨100, false, none, 5, .ta N (.tc (.vi .i64 K) (.tc (.vi .i64 C) (.tc (.vi .i64 O) (.tc (.vl 101 (fun is => is.headD 0) 1 [] bl) (.tc (.vb CU) .t0)))))⟩] ++ [⟨101, false, some (N, fun i => bl [i]), 1, .vi .u8 B⟩]) ++ (itE 121 122 T))) 110 (YES) (Sx.look []) 9000) :
    RunsTo Tryd.prog 10 (headOf Tryd.f10 1) (envAt Tryd.f10.ntmps ([(7, vL 121 6 T.length), (53, vL 100 5 N), (54, vN N), (55, vN (i : Nat))])) (Sx.look (emS t0 t1 t2 t3 t4 ++ ([⟨100, false, none, 5, .ta N (.tc (.vi .i64 K) (.tc (.vi .i64 C) (.tc (.vi .i64 O) (.tc (.vl 101 (fun is => is.headD 0) 1 [] bl) (.tc (.vb CU) .t0)))))⟩] ++ [⟨101, false, some (N, fun i => bl [i]), 1, .vi .u8 B⟩]) ++ (itE 121 122 T))) 110 (YES) (Sx.look []) 9000 := by
  have hw : IntKind.i64.wrap ((i : Int) + 1) = ((i + 1 : Nat) : Int) := by rw [wr64 (by omega)]; rfl
  refine runs_more baseMOk (More.of (geA_p0 t0 t1 t2 t3 t4 N K C O bl CU B T i) ⟨?oo, rfl, ?rr⟩) (by kernel_rfl) (by kernel_rfl) rfl (gtL (by decide)) (by decide) next
  case oo =>
    clear next
    refine (okc ?_ (okc ?_ (okc ?_ (okc ?_ (okc ?_ (okc ?_ (okc ?_ (okc ?_ (okc ?_ okn)))))))))
    all_goals ((try simp (disch := omega) only [SS, hw, hk, h]); first | done | omega | assumption | (simp (disch := omega) only [SS, hw, hk, h] at *; first | done | omega | assumption) | (simp_all; done))
  case rr =>
    clear next
    try simp (disch := omega) only [SS, hw, hk, h]
    repeat' apply And.intro
    all_goals first | exact True.intro | with_reducible rfl | omega | (intros; first | exact True.intro | with_reducible rfl | omega | (simp_all; done)) | (simp_all; done) | rfl

theorem geB_p0 (t0 t1 t2 t3 t4 : List UInt8) (N : Nat) (K C O : Ix → Int) (bl : Ix → Nat) (CU : Ix → Bool) (B : Ix → Int) (T : List Itm) (i : Nat) :
    isMore (evTill Tryd.prog sumsMOk 700 (behind Tryd.f10 1) 900 10 (headOf Tryd.f10 1) (envAt Tryd.f10.ntmps ([(7, vL 121 6 T.length), (53, vL 100 5 N), (54, vN N), (55, vN (i : Nat))])) (emS t0 t1 t2 t3 t4 ++ ([⟨100, false, none, 5, .ta N (.tc (.vi .i64 K) (.tc (.vi .i64 C) (.tc (.vi .i64 O) (.tc (.vl 101 (fun is => is.headD 0) 1 [] bl) (.tc (.vb CU) .t0)))))⟩] ++ [⟨101, false, some (N, fun i => bl [i]), 1, .vi .u8 B⟩]) ++ (itE 121 122 T)) ⟨[.s true, .s true, .s true, .s true, .s true, .s true, .s true, .s true, .s false], 140⟩) (moreP (headOf Tryd.f10 1) ([]) Tryd.f10.ntmps ([(7, vL 121 6 T.length), (53, vL 100 5 N), (54, vN N), (55, vN (i + 1 : Nat))]) (itE 121 122 T) 9000) =
    (OkL [(decide ((↑i : Int) < (↑N : Int)), true), (decide ((0 : Int) ≤ (↑i : Int) ∧ (↑i : Int) < (↑N : Int)), true), (((0 : Nat) + (↑i : Int).toNat).blt N, true), (((0 : Nat) + (↑i : Int).toNat).blt N, true), (K [(0 : Nat) + (↑i : Int).toNat] != (1 : Int), true), (decide ((0 : Int) ≤ (↑i : Int) ∧ (↑i : Int) < (↑T.length : Int)), true), (((0 : Nat) + (↑i : Int).toNat).blt T.length, true), (((0 : Nat) + (↑i : Int).toNat).blt T.length, true), (iK T [(0 : Nat) + (↑i : Int).toNat] != IntKind.i64.wrap (K [(0 : Nat) + (↑i : Int).toNat] + (1 : Int)), false)] ∧ headOf Tryd.f10 (1 : Nat) = headOf Tryd.f10 (1 : Nat) ∧ (((0 : Nat) = (0 : Nat) ∧ T.length = T.length) ∧ ((0 : Nat) = (0 : Nat) ∧ N = N) ∧ (↑N : Int) = (↑N : Int) ∧ (↑(i + (1 : Nat)) : Int) = IntKind.i64.wrap ((↑i : Int) + (1 : Int))) ∧ (T.length = T.length ∧ (∀ (i : Nat), i < T.length → iK T [i] = iK T [i]) ∧ (∀ (i : Nat), i < T.length → iF T [i] = iF T [i]) ∧ (∀ (i : Nat), i < T.length → iT T [i] = iT T [i]) ∧ (∀ (i : Nat), i < T.length → iC T [i] = iC T [i]) ∧ (∀ (i : Nat), i < T.length → iO T [i] = iO T [i]) ∧ (∀ (i : Nat), i < T.length → iM T [i] = iM T [i]) ∧ ∀ (i : Nat), i < T.length → iW T [i] = iW T [i]) ∧ T.length = T.length ∧ ∀ (m : Nat), m < T.length → iL T m = iL T m ∧ ∀ (i : Nat), i < iL T m → iZ T [m, i] = iZ T [m, i]) := by kernel_rfl

set_option maxHeartbeats 4000000 in
theorem geB (t0 t1 t2 t3 t4 : List UInt8) (N : Nat) (K C O : Ix → Int) (bl : Ix → Nat) (CU : Ix → Bool) (B : Ix → Int) (T : List Itm) (i : Nat) (hi : i < N) (hN : N ≤ 30) (hTl : T.length = N) (h : K [i] ≠ 1) (hk : iK T [i] = K [i] + 1) (hK : 0 ≤ K [i] ∧ K [i] ≤ 4)  (next : RunsTo Tryd.prog 10 (headOf Tryd.f10 1) (envAt Tryd.f10.ntmps ([(7, vL 121 6 T.length), (53, vL 100 5 N), (54, vN N), (55, vN (i + 1 : Nat))])) (Sx.look (emS t0 t1 t2 t3 t4 ++ ([⟨100, false, none, 5, .ta N (.tc (.vi .i64 K) (.tc (.vi .i64 C) (.tc (.vi .i64 O) (.tc (.vl 101 (fun is => is.headD 0) 1 [] bl) (.tc (.vb CU) .t0)))))⟩] ++ [⟨101, false, some (N, fun i => bl [i]), 1, .vi .u8 B⟩]) ++ (itE 121 122 T))) 110 (YES) (Sx.look []) 9000) :
    RunsTo Tryd.prog 10 (headOf Tryd.f10 1) (envAt Tryd.f10.ntmps ([(7, vL 121 6 T.length), (53, vL 100 5 N), (54, vN N), (55, vN (i : Nat))])) (Sx.look (emS t0 t1 t2 t3 t4 ++ ([⟨100, false, none, 5, .ta N (.tc (.vi .i64 K) (.tc (.vi .i64 C) (.tc (.vi .i64 O) (.tc (.vl 101 (fun is => is.headD 0) 1 [] bl) (.tc (.vb CU) .t0)))))⟩] ++ [⟨101, false, some (N, fun i => bl [i]), 1, .vi .u8 B⟩]) ++ (itE 121 122 T))) 110 (YES) (Sx.look []) 9000 := by
  have hw : IntKind.i64.wrap ((i : Int) + 1) = ((i + 1 : Nat) : Int) := by rw [wr64 (by omega)]; rfl
  have hw2 : IntKind.i64.wrap (K [i] + 1) = K [i] + 1 := wr64 (by omega)
  refine runs_more baseMOk (More.of (geB_p0 t0 t1 t2 t3 t4 N K C O bl CU B T i) ⟨?oo, rfl, ?rr⟩) (by kernel_rfl) (by kernel_rfl) rfl (gtL (by decide)) (by decide) next
  case oo =>
    clear next
    refine (okc ?_ (okc ?_ (okc ?_ (okc ?_ (okc ?_ (okc ?_ (okc ?_ (okc ?_ (okc ?_ okn)))))))))
    all_goals ((try simp (disch := omega) only [SS, hw, hk, hw2]); first | done | omega | assumption | (simp (disch := omega) only [SS, hw, hk, hw2] at *; first | done | omega | assumption) | (simp_all; done))
  case rr =>
    clear next
    try simp (disch := omega) only [SS, hw, hk, hw2]
    repeat' apply And.intro
    all_goals first | exact True.intro | with_reducible rfl | omega | (intros; first | exact True.intro | with_reducible rfl | omega | (simp_all; done)) | (simp_all; done) | rfl

theorem geEnd_p0 (t0 t1 t2 t3 t4 : List UInt8) (N : Nat) (K C O : Ix → Int) (bl : Ix → Nat) (CU : Ix → Bool) (B : Ix → Int) (T : List Itm) (i : Nat) :
    isEnd (evTill Tryd.prog sumsMOk 700 (99) 900 10 (headOf Tryd.f10 1) (envAt Tryd.f10.ntmps ([(7, vL 121 6 T.length), (53, vL 100 5 N), (54, vN N), (55, vN (i : Nat))])) (emS t0 t1 t2 t3 t4 ++ ([⟨100, false, none, 5, .ta N (.tc (.vi .i64 K) (.tc (.vi .i64 C) (.tc (.vi .i64 O) (.tc (.vl 101 (fun is => is.headD 0) 1 [] bl) (.tc (.vb CU) .t0)))))⟩] ++ [⟨101, false, some (N, fun i => bl [i]), 1, .vi .u8 B⟩]) ++ (itE 121 122 T)) ⟨[.s false], 140⟩) (endP ([]) (YES) ([]) 9000) =
    (OkL [(decide ((↑i : Int) < (↑N : Int)), false)] ∧ true = true ∧ True) := by kernel_rfl

set_option maxHeartbeats 4000000 in
theorem geEnd (t0 t1 t2 t3 t4 : List UInt8) (N : Nat) (K C O : Ix → Int) (bl : Ix → Nat) (CU : Ix → Bool) (B : Ix → Int) (T : List Itm) (i : Nat) (hi : i = N) (hTl : T.length = N)  :
    RunsTo Tryd.prog 10 (headOf Tryd.f10 1) (envAt Tryd.f10.ntmps ([(7, vL 121 6 T.length), (53, vL 100 5 N), (54, vN N), (55, vN (i : Nat))])) (Sx.look (emS t0 t1 t2 t3 t4 ++ ([⟨100, false, none, 5, .ta N (.tc (.vi .i64 K) (.tc (.vi .i64 C) (.tc (.vi .i64 O) (.tc (.vl 101 (fun is => is.headD 0) 1 [] bl) (.tc (.vb CU) .t0)))))⟩] ++ [⟨101, false, some (N, fun i => bl [i]), 1, .vi .u8 B⟩]) ++ (itE 121 122 T))) 110 (YES) (Sx.look ([])) 9000 := by
  refine runs_last baseMOk (Sx.Ends.of (geEnd_p0 t0 t1 t2 t3 t4 N K C O bl CU B T i) ⟨?oo, ?rr⟩) (by kernel_rfl) rfl (gtL (by decide)) (by decide)
  case oo =>
    refine (okc ?_ okn)
    all_goals ((try simp (disch := omega) only [SS]); first | done | omega | assumption | (simp (disch := omega) only [SS] at *; first | done | omega | assumption) | (simp_all; done))
  case rr =>
    try simp (disch := omega) only [SS]
    repeat' apply And.intro
    all_goals first | exact True.intro | with_reducible rfl | omega | (intros; first | exact True.intro | with_reducible rfl | omega | (simp_all; done)) | (simp_all; done) | rfl

end Go.Proofs.YtcphocfnhekdaaaDoor

set_option linter.unusedSimpArgs false
set_option linter.unusedVariables false
set_option maxRecDepth 100000
namespace Go.Proofs.YtcphocfnhekdaaaDoor
open Go.Sx GramR

theorem alE_le3 (K C O : Ix → Int) (m n : Ix → Nat) (CU : Ix → Bool) (F : Ix → Int) : ∀ k j, alE K C O m n CU F k j ≤ 3
  | 0, j => Nat.zero_le _
  | k + 1, j => by
    simp only [alE]
    cases hz : tkAt K C O m n CU F j with
    | inl l => exact alE_le3 K C O m n CU F k (j + 1)
    | inr e => exact (tkR_le hz).2
theorem alB_le (K C O : Ix → Int) (m n : Ix → Nat) (CU : Ix → Bool) (F : Ix → Int) : ∀ i, (alB K C O m n CU F i).length ≤ 517 * i
  | 0 => by simp [alB]
  | i + 1 => by
    have := alB_le K C O m n CU F i
    have h : (theB (tkAt K C O m n CU F i)).length ≤ 517 := tkR_len
    simp only [alB, List.length_append]; omega
theorem tkR_kind {k c o : Int} {b l : List UInt8} {cut : Bool} (h : tkR k c o b cut = .inl l) : 1 ≤ k ∧ k ≤ 4 := by
  unfold tkR at h
  by_cases h1 : k = 1
  · omega
  rw [if_neg h1] at h
  by_cases h2 : k = 2
  · omega
  rw [if_neg h2] at h
  by_cases h3 : k = 3
  · omega
  rw [if_neg h3] at h
  by_cases h4 : k = 4
  · omega
  rw [if_neg h4] at h
  cases h
theorem pt_of' {raw : Bool} {n : Nat} {B : Ix → Int} {l : List Itm} {m : Nat} (h : parseI raw (bytesOf B [] 0 n) = some (l, m)) : ptT raw n B = l ∧ ptM raw n B = some m := by
  rw [allI_parse] at h
  unfold ptT ptM
  cases hz : (allI raw (bytesOf B [] 0 n)).2 with
  | none => rw [hz] at h; cases h
  | some k =>
    rw [hz] at h
    simp only [Option.some.injEq, Prod.mk.injEq] at h
    exact ⟨h.1, by rw [h.2]⟩
theorem gramEmits_law (t0 t1 t2 t3 t4 : List UInt8) (N : Nat) (K C O : Ix → Int) (bl : Ix → Nat) (CU : Ix → Bool) (B : Ix → Int) (hB : ∀ i, i < N → ∀ j, j < bl [i] → 0 ≤ B [i, j] ∧ B [i, j] < 256) : RunsTo Tryd.prog 10 [.code (bodyOf Tryd.f10)] (envOf [vL 100 5 N] Tryd.f10.ntmps) (Sx.look (emS t0 t1 t2 t3 t4 ++ ([⟨100, false, none, 5, .ta N (.tc (.vi .i64 K) (.tc (.vi .i64 C) (.tc (.vi .i64 O) (.tc (.vl 101 (fun is => is.headD 0) 1 [] bl) (.tc (.vb CU) .t0)))))⟩] ++ [⟨101, false, some (N, fun i => bl [i]), 1, .vi .u8 B⟩]) ++ ([]))) 110 (YES) (Sx.look []) 9000 := by
  by_cases hN : 30 < N
  · exact geLong t0 t1 t2 t3 t4 N K C O bl CU B hN
  have hN : N ≤ 30 := by omega
  refine geStart t0 t1 t2 t3 t4 N K C O bl CU B hN ?_
  suffices q : ∀ (k i : Nat), i + k = N → (∀ j, j < i → bl [j] ≤ 300) → RunsTo Tryd.prog 10 (headOf Tryd.f10 0) (envAt Tryd.f10.ntmps ([(0, vL 100 5 N), (16, vL 100 5 N), (17, vN N), (18, vN (i : Nat))])) (Sx.look (emS t0 t1 t2 t3 t4 ++ ([⟨100, false, none, 5, .ta N (.tc (.vi .i64 K) (.tc (.vi .i64 C) (.tc (.vi .i64 O) (.tc (.vl 101 (fun is => is.headD 0) 1 [] bl) (.tc (.vb CU) .t0)))))⟩] ++ [⟨101, false, some (N, fun i => bl [i]), 1, .vi .u8 B⟩]) ++ ([]))) 110 (YES) (Sx.look []) 9000 from q N 0 (by omega) (fun j hj => by omega)
  intro k
  induction k with
  | zero =>
    intro i hi h4
    have e : i = N := by omega
    have hok : okRow N N (fun is => is.headD 0) bl (fun i => bl [i]) B = true := List.all_eq_true.2 fun j hj => by
      have hj := List.mem_range.1 hj
      have h5 := h4 j (by omega)
      show (decide (j < N ∧ bl [j] ≤ bl [j] ∧ bl [j] ≤ 1000) && bndB (fun js => B ([j] ++ js)) (bl [j])) = true
      exact Bool.and_eq_true_iff.2 ⟨decide_eq_true ⟨hj, Nat.le_refl _, by omega⟩, bndB_of fun x hx => hB j hj x hx⟩
    have h3 := alE_le3 K C O (fun is => is.headD 0) bl CU B N 0
    have hl := alB_le K C O (fun is => is.headD 0) bl CU B N
    rcases (show alE K C O (fun is => is.headD 0) bl CU B N 0 = 0 ∨ alE K C O (fun is => is.headD 0) bl CU B N 0 = 1 ∨ alE K C O (fun is => is.headD 0) bl CU B N 0 = 2 ∨ alE K C O (fun is => is.headD 0) bl CU B N 0 = 3 by omega) with h | h | h | h
    · obtain ⟨T, v1, v2, v3⟩ := emits K C O (fun is => is.headD 0) bl CU B N h
      generalize hb : alB K C O (fun is => is.headD 0) bl CU B N = b at *
      have hp : parseI true (bytesOf (fun is => ((b.getD (is.headD 0) 0).toNat : Int)) [] 0 b.length) = some (T, 0) := by rw [bytesOf_full]; exact v1
      obtain ⟨p1, p2⟩ := pt_of' hp
      refine geOk t0 t1 t2 t3 t4 N K C O bl CU B b T i e hN hok h hb (by omega) (bndB_of fun i hi => u8nat _) (by rw [p2]; rfl) p1 v2 (by unfold restN; rw [p2]; rfl) ?_
      suffices q : ∀ (k i : Nat), i + k = N → RunsTo Tryd.prog 10 (headOf Tryd.f10 1) (envAt Tryd.f10.ntmps ([(7, vL 121 6 T.length), (53, vL 100 5 N), (54, vN N), (55, vN (i : Nat))])) (Sx.look (emS t0 t1 t2 t3 t4 ++ ([⟨100, false, none, 5, .ta N (.tc (.vi .i64 K) (.tc (.vi .i64 C) (.tc (.vi .i64 O) (.tc (.vl 101 (fun is => is.headD 0) 1 [] bl) (.tc (.vb CU) .t0)))))⟩] ++ [⟨101, false, some (N, fun i => bl [i]), 1, .vi .u8 B⟩]) ++ (itE 121 122 T))) 110 (YES) (Sx.look []) 9000 from q N 0 (by omega)
      intro k
      induction k with
      | zero => intro i hi; exact geEnd t0 t1 t2 t3 t4 N K C O bl CU B T i (by omega) v2
      | succ k ih =>
        intro i hi
        have hk : iK T [i] = (if K [i] = 1 then 1 else K [i] + 1) := v3 i (by omega)
        obtain ⟨l, hl⟩ := alE_inl K C O (fun is => is.headD 0) bl CU B N 0 h i (by omega) (by omega)
        have hr := tkR_kind hl
        by_cases h1 : K [i] = 1
        · rw [if_pos h1] at hk
          exact geA t0 t1 t2 t3 t4 N K C O bl CU B T i (by omega) hN v2 h1 hk (ih (i + 1) (by omega))
        · rw [if_neg h1] at hk
          exact geB t0 t1 t2 t3 t4 N K C O bl CU B T i (by omega) hN v2 h1 hk (by omega) (ih (i + 1) (by omega))
    · exact geEKi t0 t1 t2 t3 t4 N K C O bl CU B i e hN hok h
    · exact geERa t0 t1 t2 t3 t4 N K C O bl CU B i e hN hok h
    · exact geELo t0 t1 t2 t3 t4 N K C O bl CU B i e hN hok h
  | succ k ih =>
    intro i hi h4
    by_cases hb : 300 < bl [i]
    · exact geBody t0 t1 t2 t3 t4 N K C O bl CU B i (by omega) hb
    exact geR t0 t1 t2 t3 t4 N K C O bl CU B i (by omega) hN (by omega) (ih (i + 1) (by omega) (fun j hj => by
      by_cases q : j = i
      · subst q; omega
      · exact h4 j (by omega)))
theorem tok_bytes {W : World} {v : Value} (h : (Sh.sl (.tc (.ki .i64) (.tc (.ki .i64) (.tc (.ki .i64) (.tc (.sl (.ki .u8)) (.tc .kb .t0)))))).Is W [v]) {g : Rd} {o : Nat} (hg : g [] o = v) :
    ∀ i, i < lenOf v → ∀ j, j < lenOf (rdOf W 5 g o [i] 3) → 0 ≤ Sx.intOf (rdOf W 1 (rdOf W 5 g o) 3 [i, j] 0) ∧ Sx.intOf (rdOf W 1 (rdOf W 5 g o) 3 [i, j] 0) < 256 := by
  obtain ⟨v', hv', _, _, _, _, hrows⟩ := h
  have hv' : v = v' := by simpa using hv'
  subst hv'
  intro i hi j hj
  obtain ⟨_, _, e, _, ⟨a, rfl, _⟩, _, _, rfl, _, ⟨b, rfl, _⟩, _, _, rfl, _, ⟨c, rfl, _⟩, _, r5, rfl, _, hu, _⟩ := hrows i hi
  have hrd : ∀ j, rdOf W 5 g o [i] j = (rowsOf W 5 v i).getD j undef := fun j => by
    have : rdOf W 5 g o [i] j = (rowsOf W 5 (g [] o) i).getD j undef := rfl
    rw [this, hg]
  obtain ⟨u, hu', _, _, _, _, hbytes⟩ := hu
  subst hu'
  have e3 : rowsOf W 5 v i = .int .i64 a :: .int .i64 b :: .int .i64 c :: u :: r5 := e
  have h2 : rdOf W 5 g o [i] 3 = u := by rw [hrd, e3]; rfl
  rw [h2] at hj
  obtain ⟨n, hn, hwf⟩ := hbytes j hj
  have h3 : rdOf W 1 (rdOf W 5 g o) 3 [i, j] 0 = .int .u8 n := by
    have : rdOf W 1 (rdOf W 5 g o) 3 [i, j] 0 = (rowsOf W 1 (rdOf W 5 g o [i] 3) j).getD 0 undef := rfl
    rw [this, h2]
    have e1 : (Sh.ki .u8).size = 1 := rfl
    rw [e1] at hn
    rw [hn]; rfl
  rw [h3]
  exact bnd_u8 hwf
end Go.Proofs.YtcphocfnhekdaaaDoor

set_option maxRecDepth 100000
set_option linter.unusedSimpArgs false
set_option linter.unusedVariables false
namespace Go.Proofs.YtcphocfnhekdaaaDoor
open Go.ChangeShapes Go.WideShapes Go.ChangeAt Go.RowKit
open Go.Sx

theorem gramEmits_sh : shsOf Tryd.prog Tryd.f10.params.toList = some [.sl (.tc (.ki .i64) (.tc (.ki .i64) (.tc (.ki .i64) (.tc (.sl (.ki .u8)) (.tc .kb .t0)))))] := by kernel_rfl

theorem gramEmits_star : "*" ++ "errors.errorString" = "*errors.errorString" := by decide
theorem gramEmits_row (u : TypeId) (h : Tryd.prog.typeName? 3 u = some "*errors.errorString") : u = 144 :=
  typeName_ptr_named (nm := "errors.errorString") (by rw [gramEmits_star]; kernel_rfl) (by kernel_rfl) (by decide) u (by rw [gramEmits_star]; exact h)

theorem gramEmits_errTy : ErrTy Tryd.prog "*errors.errorString" 26 144 169 9 := errTy_of (by kernel_rfl) gramEmits_row (by kernel_rfl) (by kernel_rfl) (by kernel_rfl) (by kernel_rfl) (by kernel_rfl)

theorem gramEmits_own : ownKnob Tryd.prog.godebug = none := by kernel_rfl
theorem gramEmits_met (os : Os) (args : Array Value) : laidMetH Tryd.prog Rows.gramEmitsRow.laid ((World.laidAll Tryd.prog os Rows.gramEmitsRow.laid).forCall (fun _ _ => 0) ⟨#[], args, []⟩).memory := by
  rw [MakeChecks.laidMetH_plain _ _ _ (by kernel_rfl)]; exact laidMet_laidAll _ (by kernel_rfl) (by kernel_rfl)
theorem gramEmits_plain (w : World) : laidMetH Tryd.prog Rows.gramEmitsRow.laid w = laidMet Tryd.prog Rows.gramEmitsRow.laid w := MakeChecks.laidMetH_plain _ _ _ (by kernel_rfl)

def gramEmits_texts : List (Nat × List UInt8) := [(2, [97, 32, 110, 117, 109, 98, 101, 114, 32, 105, 115, 32, 111, 117, 116, 32, 111, 102, 32, 105, 116, 115, 32, 114, 97, 110, 103, 101]), (4, [115, 111, 109, 101, 116, 104, 105, 110, 103, 32, 105, 115, 32, 109, 105, 115, 115, 105, 110, 103, 32, 97, 116, 32, 116, 104, 101, 32, 101, 110, 100]), (3, [116, 104, 101, 114, 101, 32, 105, 115, 32, 109, 111, 114, 101, 32, 116, 104, 97, 110, 32, 109, 97, 121, 32, 98, 101]), (0, [105, 116, 32, 105, 115, 32, 110, 111, 116, 32, 111, 102, 32, 105, 116, 115, 32, 102, 111, 114, 109]), (1, [105, 116, 32, 105, 115, 32, 111, 102, 32, 97, 110, 111, 116, 104, 101, 114, 32, 107, 105, 110, 100])]
theorem gramEmits_sent : sentOf Tryd.prog "*errors.errorString" Rows.gramEmitsRow.laid = some gramEmits_texts := by kernel_rfl

theorem gramEmits_readable : ∀ t ∈ Tryd.f10.params.toList, Tryd.prog.readableRec t = true ∧ t < Tryd.prog.types.size := by
  have h : (Tryd.f10.params.toList.all fun t => Tryd.prog.readableRec t && decide (t < Tryd.prog.types.size)) = true := by kernel_rfl
  intro t ht
  have := List.all_eq_true.1 h t ht
  simpa using this

theorem gramEmits_wants : ∀ t ∈ Tryd.f10.params.toList, Tryd.prog.wantsStandIn t = false := by
  have h : (Tryd.f10.params.toList.all fun t => !Tryd.prog.wantsStandIn t) = true := by kernel_rfl
  intro t ht
  have := List.all_eq_true.1 h t ht
  simpa using this

theorem gramEmits_lifted (os : Os) (started : os.Started) (H : Type) (enc : TypeId × Value → H) :
    ReturnsInHanded {} Tryd.checked os 10 .any (fun w args => (Rows.gramEmitsSpec.pre enc Tryd.prog Tryd.f10 [] false w args ∧ laidMetH Tryd.prog Rows.gramEmitsRow.laid w) ∧ sizedMet enc Tryd.prog Tryd.f10 (OpenSpec.ofChange Rows.gramEmitsSpec) false w args)
      (Rows.gramEmitsSpec.post enc Tryd.prog Tryd.f10 false true false false) := by
  refine returnsInHanded_of_change_and (C := Tryd.checked) (X := fun w _ => laidMetH Tryd.prog Rows.gramEmitsRow.laid w) (fun _ _ _ hh h => h.of_heap hh) gramEmits_own started (by kernel_rfl) Tryd.func10
    (ChangeSpec.witness_shaped (enc := enc) (C := Tryd.checked) (os := os) (X := fun w _ => laidMetH Tryd.prog Rows.gramEmitsRow.laid w) false (World.laidAll Tryd.prog os Rows.gramEmitsRow.laid) #[.slice none 0 0] 8 (World.laidAll_os _ _ _) (World.shaped_of_ZipB (by kernel_rfl) (by kernel_rfl)) (by kernel_rfl) (by kernel_rfl) (by kernel_rfl) (gramEmits_met os _)) ?_
  intro W base args ds gs before hval hW _ _ hL _
  have hW' := hW
  obtain ⟨p, q, hA, hV, rfl, hfz, hnd⟩ := hW
  obtain ⟨rfl, rfl⟩ := trodVars_none hV
  rw [gramEmits_plain] at hL
  obtain ⟨s1, s2, s3⟩ := sents_open gramEmits_errTy hL gramEmits_sent (by kernel_rfl)
  have hG : Tryd.prog.globals.size = 19 := by kernel_rfl
  rw [hG] at s2 s3
  have g3 : ds.length = 1 := (args_open gramEmits_sh hA (fun j t v h1 h2 => hval j t v (by rw [← Array.getElem?_toList]; exact h1) (by rw [← Array.getElem?_toList]; exact h2))).2.2.1
  match ds, g3 with
  | [d1], _ =>
    refine (law_calls Tryd.func10 (body := bodyOf Tryd.f10) (by kernel_rfl) gramEmits_sh hA hval (lab := 100) (n := 110) (n' := 9000) (L' := Sx.look []) gtopP s1 s2 (fun e he => ?_) (fun cs hcs hIs => ?_)).mono fun e W' ⟨he, hB⟩ => ⟨_, he, law_post (bt := 4) (by kernel_rfl) gramEmits_readable rfl (by kernel_rfl) (by kernel_rfl) hW' rfl hB⟩
    · obtain ⟨a1, a2, a3⟩ := s3 e he
      exact ⟨a1, Nat.lt_of_lt_of_le a2 gtopP, fun l hl => Nat.lt_of_lt_of_le (a3 l hl) gtopP⟩
    · clear hcs
      have hB : ∀ i, i < lenOf (Go.Sx.rd0 cs [] 0) → ∀ j, j < lenOf (rdOf W 5 (Go.Sx.rd0 cs) 0 [i] 3) → 0 ≤ Sx.intOf (rdOf W 1 (rdOf W 5 (Go.Sx.rd0 cs) 0) 3 [i, j] 0) ∧ Sx.intOf (rdOf W 1 (rdOf W 5 (Go.Sx.rd0 cs) 0) 3 [i, j] 0) < 256 := by
        obtain ⟨a1, r1, e1, l1, he, hrest⟩ := hIs
        have he2 := he
        obtain ⟨v, e4, _⟩ := he2
        rw [e4] at he
        have e5 : Go.Sx.rd0 cs [] 0 = v := by
          show cs.getD 0 undef = v
          rw [e1, e4]
          rfl
        intro i hi
        rw [e5] at hi
        exact tok_bytes he e5 i hi
      refine RunsTo.start (cargs := [.v (.vl 100 (fun _ => 0) 5 [] (fun _ => lenOf (Go.Sx.rd0 cs [] 0)))]) ?_ ⟨⟨rfl, rfl⟩, trivial⟩
      exact gramEmits_law _ _ _ _ _ (lenOf (Go.Sx.rd0 cs [] 0)) (fun is => Sx.intOf (rdOf W 5 (Go.Sx.rd0 cs) 0 is 0)) (fun is => Sx.intOf (rdOf W 5 (Go.Sx.rd0 cs) 0 is 1)) (fun is => Sx.intOf (rdOf W 5 (Go.Sx.rd0 cs) 0 is 2)) (fun is => lenOf (rdOf W 5 (Go.Sx.rd0 cs) 0 is 3)) (fun is => Sx.boolOf (rdOf W 5 (Go.Sx.rd0 cs) 0 is 4)) (fun is => Sx.intOf (rdOf W 1 (rdOf W 5 (Go.Sx.rd0 cs) 0) 3 is 0)) hB

theorem gramEmits_holds : Rows.GramEmitsSaid :=
  OpenClaim.holds_of_wide 10 Tryd.f10 rfl rfl rfl rfl rfl rfl rfl ⟨rfl, rfl, rfl, rfl, rfl⟩ rfl rfl rfl rfl rfl (by kernel_rfl) Tryd.func10 (by kernel_rfl)
    (of_decide_eq_true (by kernel_rfl)) (by unfold Func.isWrapper; first | (rw [if_pos (by decide +kernel)]; kernel_rfl) | (rw [if_neg (by decide +kernel)]; exact ⟨rfl, rfl⟩))
    (fun os started H enc _ => gramEmits_lifted os started H enc)

theorem gramEmits_card_holds : Rows.GramEmitsCardSaid :=
  Claim7.holds_tied_plain_at .later [] [.data, .sentinel, .sentinel, .sentinel, .sentinel, .sentinel, .pinned] true (true, "f530cd95f545498e1079217162ceacc12c579589fcdd7c478fda70c03005852d") true
    gramEmits_holds (fun _ h => by cases h) (by kernel_rfl) (fun _ h => by cases h) gramEmits_row_tie rfl ⟨rfl, rfl⟩ (by kernel_rfl) rfl
    (fun f fn hf hfn => by
      obtain rfl : f = 10 := Option.some.inj ((show Tryd.prog.funcNamed "truchman/truchmanlaw07.GramEmits" = some 10 by kernel_rfl).symm.trans hf) |>.symm
      obtain rfl : fn = Tryd.f10 := (Option.some.inj (Tryd.func10.symm.trans hfn)).symm
      exact ⟨by kernel_rfl, fun j t ht => gramEmits_wants t (List.mem_of_getElem? (by rw [Array.getElem?_toList]; exact ht))⟩)
    (by kernel_rfl)
end Go.Proofs.YtcphocfnhekdaaaDoor

