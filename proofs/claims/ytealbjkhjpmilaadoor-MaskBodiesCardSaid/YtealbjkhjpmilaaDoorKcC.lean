/- Masks: rows, the law. -/
import Derived.Test.YtealbjkhjpmilaaDoorKbC
set_option linter.unusedSimpArgs false
set_option linter.unusedVariables false
set_option maxRecDepth 100000
namespace Go.Proofs.YtealbjkhjpmilaaDoor
open Go.Sx

theorem bit_all : ((List.range 256).all fun b => (List.range 8).all fun k => (!(iand .u8 b (ishr .u8 128 k) == 0)) == (b / 2 ^ (7 - k) % 2 == 1)) = true := by kernel_rfl
theorem has_in {F : Ix → Int} {c : Int} (hc : 0 ≤ c ∧ c < 256) (hF : ∀ i, i < 32 → 0 ≤ F [i] ∧ F [i] < 256) : hasM F c = inR (bytesOf F [] 0 32) c := by
  obtain ⟨c, rfl⟩ : ∃ k : Nat, c = k := ⟨c.toNat, by omega⟩
  have hc8 : c / 8 < 32 := by omega
  obtain ⟨b, hb⟩ : ∃ b : Nat, F [c / 8] = b := ⟨(F [c / 8]).toNat, by have := hF _ hc8; omega⟩
  have hb2 := hF _ hc8
  have h1 := List.all_eq_true.1 bit_all b (by simp; omega)
  have h2 := List.all_eq_true.1 h1 (c % 8) (by simp; omega)
  have e1 : ((c : Int) / 8).toNat = c / 8 := by omega
  have e2 : (c : Int).tmod 8 = ((c % 8 : Nat) : Int) := tmN c 8
  have e3 : ((bytesOf F [] 0 32).getD (c / 8) 0).toNat = b := by
    have := bytesOf_nat (B := F) (is := []) (st := 0) (n := 32) hc8 (by simpa using hb2)
    simp only [List.nil_append, Nat.zero_add] at this
    omega
  have e4 : ¬ (bytesOf F [] 0 32).length ≤ c / 8 := by rw [bytesOf_len]; omega
  simp only [hasM, inR, e1, e2, Int.toNat_natCast, e3, e4, if_false, hb]
  simpa using h2
/-- A row's bytes up to its last that is none. -/
theorem cut_bytes (F : Ix → Int) : ∀ n, (∀ i, i < n → 0 ≤ F [i] ∧ F [i] < 256) → bytesOf F [] 0 (cutN F 0 n) = cutL (bytesOf F [] 0 n)
  | 0, _ => by simp [cutN, bytesOf, cutL]
  | n + 1, h => by
    have ih := cut_bytes F n (fun i hi => h i (by omega))
    have e : bytesOf F [] 0 (n + 1) = bytesOf F [] 0 n ++ [UInt8.ofNat (F [n]).toNat] := by simp [bytesOf, List.range_succ]
    have hn := h n (by omega)
    rw [e, cutL_app]
    by_cases h0 : F [n] = 0
    · have : UInt8.ofNat (F [n]).toNat = 0 := by rw [h0]; rfl
      rw [if_pos this, ← ih]
      simp [cutN, h0]
    · have h8 : UInt8.ofNat (F [n]).toNat ≠ 0 := by
        intro hh
        have := u8of hn
        rw [hh] at this
        simp at this
        omega
      rw [if_neg h8]
      simp only [cutN, h0, if_false, e]
def eight (p : Bool → Bool → Bool → Bool → Bool → Bool → Bool → Bool → Bool) : Bool :=
  [false, true].all fun a => [false, true].all fun b => [false, true].all fun c => [false, true].all fun d => [false, true].all fun e => [false, true].all fun f => [false, true].all fun g => [false, true].all fun h => p a b c d e f g h
theorem bool_in (b : Bool) : b ∈ [false, true] := by cases b <;> simp
theorem eight_ok {p : Bool → Bool → Bool → Bool → Bool → Bool → Bool → Bool → Bool} (h : eight p = true) (a b c d e f g k : Bool) : p a b c d e f g k = true := by
  unfold eight at h
  exact List.all_eq_true.1 (List.all_eq_true.1 (List.all_eq_true.1 (List.all_eq_true.1 (List.all_eq_true.1 (List.all_eq_true.1 (List.all_eq_true.1 (List.all_eq_true.1 h a (bool_in a)) b (bool_in b)) c (bool_in c)) d (bool_in d)) e (bool_in e)) f (bool_in f)) g (bool_in g)) k (bool_in k)
def nb (b : Bool) : Int := if b = true then 1 else 0
def v8 (a b c d e f g h : Bool) : Int := 2 * (2 * (2 * (2 * (2 * (2 * (2 * (2 * 0 + nb a) + nb b) + nb c) + nb d) + nb e) + nb f) + nb g) + nb h
theorem vB8_v8 (f : Nat → Bool) : vB8 f 8 = v8 (f 0) (f 1) (f 2) (f 3) (f 4) (f 5) (f 6) (f 7) := rfl
theorem or_all : eight (fun a b c d e f g h => (List.range 8).all fun j => ior .u8 (v8 a b c d e f g h) (ishr .u8 128 j) == v8 (a || j == 0) (b || j == 1) (c || j == 2) (d || j == 3) (e || j == 4) (f || j == 5) (g || j == 6) (h || j == 7)) = true := by kernel_rfl
theorem or_bit (f : Nat → Bool) (j : Nat) (hj : j < 8) : ior .u8 (vB8 f 8) (ishr .u8 128 (j : Int)) = vB8 (fun k => f k || j == k) 8 := by
  have h := List.all_eq_true.1 (eight_ok or_all (f 0) (f 1) (f 2) (f 3) (f 4) (f 5) (f 6) (f 7)) j (by simpa using hj)
  rw [vB8_v8, vB8_v8]
  simpa using h
theorem vB8_congr {f g : Nat → Bool} : ∀ k, (∀ j, j < k → f j = g j) → vB8 f k = vB8 g k
  | 0, _ => rfl
  | k + 1, h => by simp only [vB8]; rw [vB8_congr k (fun j hj => h j (by omega)), h k (by omega)]
theorem of_val (B : Ix → Int) : ∀ n, (∀ i, i < n → 0 ≤ B [i] ∧ B [i] < 256) → ∀ i, ofN B n i = vK (bytesOf B [] 0 n) i 8
  | 0, _, i => by
    have : ∀ k, vB8 (fun k => memL (bytesOf B [] 0 0) (8 * i + k)) k = 0 := by
      intro k
      induction k with
      | zero => rfl
      | succ k ih => simp only [vB8, ih]; simp [bytesOf, memL]
    exact (this 8).symm
  | n + 1, h, i => by
    have ih := of_val B n (fun i hi => h i (by omega))
    obtain ⟨c, hc⟩ : ∃ c : Nat, B [n] = c := ⟨(B [n]).toNat, by have := h n (by omega); omega⟩
    have hb := h n (by omega)
    have e : bytesOf B [] 0 (n + 1) = bytesOf B [] 0 n ++ [UInt8.ofNat c] := by simp [bytesOf, List.range_succ, hc]
    have hc8 : (UInt8.ofNat c).toNat = c := by simp; omega
    have e1 : ((c : Int) / 8).toNat = c / 8 := by omega
    have e2 : (c : Int).tmod 8 = ((c % 8 : Nat) : Int) := tmN c 8
    have hm : ∀ x, memL (bytesOf B [] 0 (n + 1)) x = (memL (bytesOf B [] 0 n) x || c == x) := by
      intro x
      rw [e]
      simp only [memL, List.any_append, List.any_cons, List.any_nil, Bool.or_false, hc8]
    simp only [ofN, ofS, hc, e1, e2, ih]
    by_cases hi : i = c / 8
    · rw [if_pos hi, vK, or_bit _ _ (by omega)]
      refine vB8_congr 8 fun k hk => ?_
      rw [hm]
      congr 1
      rw [Bool.eq_iff_iff]
      simp
      omega
    · rw [if_neg hi]
      refine vB8_congr 8 fun k hk => ?_
      rw [hm]
      have : (c == 8 * i + k) = false := by simp; omega
      rw [this, Bool.or_false]
theorem rowR_bytes (s : List UInt8) : ∀ n, rowR s n = bytesOf (fun is => vK s (is.headD 0) 8) [] 0 n
  | 0 => rfl
  | n + 1 => by
    rw [rowR, rowR_bytes s n]
    simp [bytesOf, List.range_succ]
theorem cutN_le (F : Ix → Int) (c : Int) : ∀ n, cutN F c n ≤ n
  | 0 => Nat.le_refl _
  | n + 1 => by
    have := cutN_le F c n
    simp only [cutN]
    split <;> omega
theorem of_row (B : Ix → Int) (n : Nat) (h : ∀ i, i < n → 0 ≤ B [i] ∧ B [i] < 256) : bytesOf (fN (ofN B n)) [] 0 (cutN (fN (ofN B n)) 0 32) = cutL (rowR (bytesOf B [] 0 n) 32) := by
  have e : fN (ofN B n) = fun is => vK (bytesOf B [] 0 n) (is.headD 0) 8 := by funext is; simp only [fN, of_val B n h]
  rw [e, cut_bytes _ 32 (fun i _ => vK_bnd _ _ 8 (Nat.le_refl _)), rowR_bytes]
def aliP : PC := { args := [], heap := [], gs := [], G := 25, tp := 223, n := 80, n' := 140, cond := fun _ => true, v := fun _ => YES, post := fun _ => [] }
theorem aliI_p0 (u : Nat) :
    isEnd (evTill Tryd.prog [] 2000 (99) 900 23 [.code (bodyOf Tryd.f23)] (envOf [] Tryd.f23.ntmps) ([] ++ ([])) ⟨[.t, .t, .t, .t, .t, .t, .t, .t, .t, .t, .t, .f, .f, .f, .t, .t, .t, .t, .t, .t, .t, .t, .t, .t, .t, .t, .t, .t, .t, .t, .t, .t, .t, .t, .t, .t, .t, .t, .t, .t, .t, .t, .t, .t, .t, .t, .t, .t, .t, .t, .t, .t, .t, .t, .t, .t, .t, .t, .t, .t, .t, .t, .t, .t, .t, .t, .t, .t, .t, .t, .t, .t, .t, .t, .t, .t, .t, .t, .t, .t, .t, .t, .t, .t, .t, .t, .t, .t, .t, .t, .t, .t, .t, .t, .t, .t, .t, .t, .t, .t, .t, .t, .t, .t, .t, .t, .t, .t, .t, .t, .t, .t, .t, .t, .t, .t, .t, .t, .t, .t, .t, .t, .t, .t, .t, .t, .t, .t, .t, .t, .t, .t, .t, .t, .t, .t, .t, .t, .t, .t, .t, .t, .t, .t, .t, .t, .t, .t, .t, .t, .t, .t, .t, .t, .t, .t, .t, .t, .t, .t, .t, .t, .t, .t, .t, .t, .t, .t, .t, .t, .t, .t, .t, .t, .t, .t, .t, .t, .t, .t, .t, .t, .t, .t, .t, .t, .t, .t, .t, .t, .t, .t, .t, .t, .t, .t, .t, .t, .t, .t, .t, .t, .t, .t, .t, .t, .t, .f, .t, .t, .t, .t, .t, .t, .t, .t, .t, .t, .t, .t, .t], 80⟩) (endP ([]) (YES) ([]) 140) =
    (OkL [] ∧ true = true ∧ True) := by kernel_rfl

set_option maxHeartbeats 4000000 in
theorem aliI (u : Nat)  :
    RunsTo Tryd.prog 23 [.code (bodyOf Tryd.f23)] (envOf [] Tryd.f23.ntmps) (Sx.look ([] ++ ([]))) 80 (YES) (Sx.look ([])) 140 := by
  refine runs_last baseO (Sx.Ends.of (aliI_p0 u) ⟨?oo, ?rr⟩) (by kernel_rfl) rfl (gtL (by decide)) (by decide)
  case oo =>
    refine okn
    all_goals ((try simp (disch := omega) only [SS]); first | done | omega | assumption | (simp (disch := omega) only [SS] at *; first | done | omega | assumption) | (simp_all; done) | grind)
  case rr =>
    try simp (disch := omega) only [SS]
    repeat' apply And.intro
    all_goals first | exact True.intro | with_reducible rfl | omega | (intros; first | exact True.intro | with_reducible rfl | omega | (simp_all; done)) | (simp_all; done) | rfl

theorem ali_pc : PC.Runs Tryd.prog 23 Tryd.f23 (bodyOf Tryd.f23) aliP := ⟨Tryd.func23, by kernel_rfl, (fun g hg => by cases hg), fun e H hc => aliI 0⟩
def sumsL : List (FuncId × Summ) := [(23, aliP.summ 50), (24, ofP.summ 50), (100, trP.summ 50), (28, hasP.summ 50), (29, bytesP.summ 50), (30, cutP.summ 50), (27, inP.summ 50), (26, rowP.summ 50)]
theorem baseL : Base0 Tryd.prog sumsL := ((((((((baseO.cons Tryd.func26 (by kernel_rfl) (PC.summ_ok rowP_pc gtopG)).cons Tryd.func27 (by kernel_rfl) (PC.summ_ok inP_pc gtopG)).cons Tryd.func30 (by kernel_rfl) (PC.summ_ok cutP_pc gtopG)).cons Tryd.func29 (by kernel_rfl) (PC.summ_ok bytesP_pc gtopG)).cons Tryd.func28 (by kernel_rfl) (PC.summ_ok hasP_pc gtopG)).cons Tryd.func100 (by kernel_rfl) (PC.summ_ok trP_pc gtopG)).cons Tryd.func24 (by kernel_rfl) (PC.summ_ok ofP_pc gtopG)).cons Tryd.func23 (by kernel_rfl) (PC.summ_ok ali_pc gtopG))
theorem mrLong_p0 (N : Nat) (B F : Ix → Int) (c : Int) :
    isEnd (evTill Tryd.prog sumsL 300 (99) 900 4 [.code (bodyOf Tryd.f4)] (envOf [vL 100 1 N, .agg (arrT F), vU c] Tryd.f4.ntmps) (bE 100 N B ++ ([])) ⟨[.t, .f, .s true], 110⟩) (endP ([]) (YES) ([]) 900) =
    (OkL [(decide ((↑N : Int) > (300 : Int)), true)] ∧ true = true ∧ True) := by kernel_rfl

set_option maxHeartbeats 4000000 in
theorem mrLong (N : Nat) (B F : Ix → Int) (c : Int) (hN : 300 < N) :
    RunsTo Tryd.prog 4 [.code (bodyOf Tryd.f4)] (envOf [vL 100 1 N, .agg (arrT F), vU c] Tryd.f4.ntmps) (Sx.look (bE 100 N B ++ ([]))) 110 (YES) (Sx.look ([])) 900 := by
  refine runs_last baseL (Sx.Ends.of (mrLong_p0 N B F c) ⟨?oo, ?rr⟩) (by kernel_rfl) rfl (gtL (by decide)) (by decide)
  case oo =>
    refine (okc ?_ okn)
    all_goals ((try simp (disch := omega) only [SS]); first | done | omega | assumption | (simp (disch := omega) only [SS] at *; first | done | omega | assumption) | (simp_all; done) | grind)
  case rr =>
    try simp (disch := omega) only [SS]
    repeat' apply And.intro
    all_goals first | exact True.intro | with_reducible rfl | omega | (intros; first | exact True.intro | with_reducible rfl | omega | (simp_all; done)) | (simp_all; done) | rfl

theorem mrStart_p0 (N : Nat) (B F : Ix → Int) (c : Int) :
    isMore (evTill Tryd.prog sumsL 300 (behind Tryd.f4 0) 900 4 [.code (bodyOf Tryd.f4)] (envOf [vL 100 1 N, .agg (arrT F), vU c] Tryd.f4.ntmps) (bE 100 N B ++ ([])) ⟨[.t, .f, .s false, .s true, .s true, .f, .f, .t, .t, .t, .t, .t, .s true, .s true, .s true, .s false, .t], 110⟩) (moreP (headOf Tryd.f4 0) ([((112 : Nat), Rn.to (412 : Nat))]) Tryd.f4.ntmps ([(2, vU c), (4, vP 110), (7, vS (bytesOf F [] 0 32)), (8, rS 112 ([])), (9, vN 0)]) (mE 110 F ++ rE 112 ([])) 900) =
    (OkL [(decide ((↑N : Int) > (300 : Int)), false), (N.beq N, true), (decide (N ≤ (1000000 : Nat)) && bndB B N, true), (((0 : Nat) + cutN (fN (ofN B N)) (↑(0 : Nat) : Int) (32 : Nat)).ble (32 : Nat), true), (((0 : Nat) + N).ble N, true), (decide ((bytesOf B [] (0 : Nat) N).length ≤ (1000000 : Nat)), true), (!bytesOf (fN (ofN B N)) [] (0 : Nat) (cutN (fN (ofN B N)) (↑(0 : Nat) : Int) (32 : Nat)) == cutL (rowR (bytesOf B [] (0 : Nat) N) (32 : Nat)), false)] ∧ headOf Tryd.f4 (0 : Nat) = headOf Tryd.f4 (0 : Nat) ∧ (c = c ∧ (0 : Nat) = (0 : Nat) ∧ bytesOf F [] (0 : Nat) (32 : Nat) = bytesOf F [] (0 : Nat) (32 : Nat) ∧ ((0 : Nat) = (0 : Nat) ∧ (0 : Nat) = (0 : Nat)) ∧ (0 : Int) = (0 : Int)) ∧ ((32 : Nat) = (32 : Nat) ∧ ∀ (i : Nat), i < (32 : Nat) → F [i] = F [i]) ∧ (0 : Nat) = (0 : Nat) ∧ ∀ (i : Nat), i < (0 : Nat) → (↑([].getD i (0 : UInt8)).toNat : Int) = (0 : Int)) := by kernel_rfl

set_option maxHeartbeats 4000000 in
theorem mrStart (N : Nat) (B F : Ix → Int) (c : Int) (hN : N ≤ 300) (hB : ∀ i, i < N → 0 ≤ B [i] ∧ B [i] < 256) (hF : ∀ i, i < 32 → 0 ≤ F [i] ∧ F [i] < 256) (hc : 0 ≤ c ∧ c < 256)  (next : RunsTo Tryd.prog 4 (headOf Tryd.f4 0) (envAt Tryd.f4.ntmps ([(2, vU c), (4, vP 110), (7, vS (bytesOf F [] 0 32)), (8, rS 112 ([])), (9, vN 0)])) (Sx.look (bE 100 N B ++ (mE 110 F ++ rE 112 ([])))) 110 (YES) (Sx.look []) 900) :
    RunsTo Tryd.prog 4 [.code (bodyOf Tryd.f4)] (envOf [vL 100 1 N, .agg (arrT F), vU c] Tryd.f4.ntmps) (Sx.look (bE 100 N B ++ ([]))) 110 (YES) (Sx.look []) 900 := by
  have hs := of_row B N hB
  have hbd := bndB_of hB
  have hl : (bytesOf B [] 0 N).length = N := bytesOf_len _ _ _ _
  have hcu : cutN (fN (ofN B N)) 0 32 ≤ 32 := cutN_le _ _ _
  refine runs_more baseL (More.of (mrStart_p0 N B F c) ⟨?oo, rfl, ?rr⟩) (by kernel_rfl) (by kernel_rfl) rfl (gtL (by decide)) (by decide) next
  case oo =>
    clear next
    refine (okc ?_ (okc ?_ (okc ?_ (okc ?_ (okc ?_ (okc ?_ (okc ?_ okn)))))))
    all_goals ((try simp (disch := omega) only [SS, hs, hbd, hl]); first | done | omega | assumption | (simp (disch := omega) only [SS, hs, hbd, hl] at *; first | done | omega | assumption) | (simp_all; done) | grind)
  case rr =>
    clear next
    try simp (disch := omega) only [SS, hs, hbd, hl]
    repeat' apply And.intro
    all_goals first | exact True.intro | with_reducible rfl | omega | (intros; first | exact True.intro | with_reducible rfl | omega | (simp_all; done)) | (simp_all; done) | rfl

theorem mrIn_p0 (N : Nat) (B F : Ix → Int) (c : Int) (a : List UInt8) (i : Nat) :
    isMore (evTill Tryd.prog sumsL 300 (behind Tryd.f4 0) 900 4 (headOf Tryd.f4 0) (envAt Tryd.f4.ntmps ([(2, vU c), (4, vP 110), (7, vS (bytesOf F [] 0 32)), (8, rS 112 (a)), (9, vN i)])) (bE 100 N B ++ (mE 110 F ++ rE 112 (a))) ⟨[.s true, .s true, .s true, .t, .s true, .s true], 140⟩) (moreP (headOf Tryd.f4 0) ([((112 : Nat), Rn.to (201 : Nat))]) Tryd.f4.ntmps ([(2, vU c), (4, vP 110), (7, vS (bytesOf F [] 0 32)), (8, rS 112 (a ++ [UInt8.ofNat i])), (9, vN (i + 1))]) (mE 110 F ++ rE 112 (a ++ [UInt8.ofNat i])) 900) =
    (OkL [(decide ((↑i : Int) < (256 : Int)), true), (decide ((0 : Int) ≤ (↑i : Int) ∧ (↑i : Int) < (256 : Int)), true), (inR (bytesOf F [] (0 : Nat) (32 : Nat)) (↑i : Int), true), (((0 : Nat) + a.length).ble a.length, true), (decide (((2 : Nat) * (a.length + (1 : Nat)) + (192 : Nat)) * (1 : Nat) ≤ (281474976710656 : Nat)), true)] ∧ headOf Tryd.f4 (0 : Nat) = headOf Tryd.f4 (0 : Nat) ∧ (c = c ∧ (0 : Nat) = (0 : Nat) ∧ bytesOf F [] (0 : Nat) (32 : Nat) = bytesOf F [] (0 : Nat) (32 : Nat) ∧ ((0 : Nat) = (0 : Nat) ∧ (a ++ [UInt8.ofNat i]).length = a.length + (1 : Nat)) ∧ (↑i : Int) + (1 : Int) = IntKind.i64.wrap ((↑i : Int) + (1 : Int))) ∧ ((32 : Nat) = (32 : Nat) ∧ ∀ (i : Nat), i < (32 : Nat) → F [i] = F [i]) ∧ (a ++ [UInt8.ofNat i]).length = a.length + (1 : Nat) ∧ ∀ (i_1 : Nat), i_1 < (a ++ [UInt8.ofNat i]).length → (↑((a ++ [UInt8.ofNat i]).getD i_1 (0 : UInt8)).toNat : Int) = appF a.length (0 : Nat) (fun is => (↑(a.getD (List.headD is (0 : Nat)) (0 : UInt8)).toNat : Int)) (fun js => IntKind.u8.wrap (↑i : Int)) [i_1]) := by kernel_rfl

set_option maxHeartbeats 4000000 in
theorem mrIn (N : Nat) (B F : Ix → Int) (c : Int) (a : List UInt8) (i : Nat) (hi : i < 256) (ha : a.length ≤ 1000) (hh : inR (bytesOf F [] 0 32) i = true) (next : RunsTo Tryd.prog 4 (headOf Tryd.f4 0) (envAt Tryd.f4.ntmps ([(2, vU c), (4, vP 110), (7, vS (bytesOf F [] 0 32)), (8, rS 112 (a ++ [UInt8.ofNat i])), (9, vN (i + 1))])) (Sx.look (bE 100 N B ++ (mE 110 F ++ rE 112 (a ++ [UInt8.ofNat i])))) 110 (YES) (Sx.look []) 900) :
    RunsTo Tryd.prog 4 (headOf Tryd.f4 0) (envAt Tryd.f4.ntmps ([(2, vU c), (4, vP 110), (7, vS (bytesOf F [] 0 32)), (8, rS 112 (a)), (9, vN i)])) (Sx.look (bE 100 N B ++ (mE 110 F ++ rE 112 (a)))) 110 (YES) (Sx.look []) 900 := by
  have wi : IntKind.i64.wrap ((i : Int) + 1) = ((i + 1 : Nat) : Int) := wr1 (by omega)
  have hu : IntKind.u8.wrap (i : Int) = (i : Int) := u8id (by omega)
  refine runs_more baseL (More.of (mrIn_p0 N B F c a i) ⟨?oo, rfl, ?rr⟩) (by kernel_rfl) (by kernel_rfl) rfl (gtL (by decide)) (by decide) next
  case oo =>
    clear next
    refine (okc ?_ (okc ?_ (okc ?_ (okc ?_ (okc ?_ okn)))))
    all_goals ((try simp (disch := omega) only [SS, wi, hu, hh, List.length_append, List.length_singleton, Go.Sx.sum]); first | done | omega | assumption | (simp (disch := omega) only [SS, wi, hu, hh, List.length_append, List.length_singleton, Go.Sx.sum] at *; first | done | omega | assumption) | (simp_all; done) | grind)
  case rr =>
    clear next
    try simp (disch := omega) only [SS, wi, hu, List.length_append, List.length_singleton, Go.Sx.sum]
    repeat' apply And.intro
    all_goals first | trivial | rfl | omega | exact app_byte1 _ _ _ (by have h8 := u8w hi; rw [hu] at h8; first | exact h8 | (show IntKind.u8.wrap _ = _; rw [hu]; exact h8)) | (intros; first | rfl | omega | (simp_all; done)) | (simp_all; done)

theorem mrOut_p0 (N : Nat) (B F : Ix → Int) (c : Int) (a : List UInt8) (i : Nat) :
    isMore (evTill Tryd.prog sumsL 300 (behind Tryd.f4 0) 900 4 (headOf Tryd.f4 0) (envAt Tryd.f4.ntmps ([(2, vU c), (4, vP 110), (7, vS (bytesOf F [] 0 32)), (8, rS 112 (a)), (9, vN i)])) (bE 100 N B ++ (mE 110 F ++ rE 112 (a))) ⟨[.s true, .s true, .s false], 140⟩) (moreP (headOf Tryd.f4 0) ([]) Tryd.f4.ntmps ([(2, vU c), (4, vP 110), (7, vS (bytesOf F [] 0 32)), (8, rS 112 (a)), (9, vN (i + 1))]) (mE 110 F ++ rE 112 (a)) 900) =
    (OkL [(decide ((↑i : Int) < (256 : Int)), true), (decide ((0 : Int) ≤ (↑i : Int) ∧ (↑i : Int) < (256 : Int)), true), (inR (bytesOf F [] (0 : Nat) (32 : Nat)) (↑i : Int), false)] ∧ headOf Tryd.f4 (0 : Nat) = headOf Tryd.f4 (0 : Nat) ∧ (c = c ∧ (0 : Nat) = (0 : Nat) ∧ bytesOf F [] (0 : Nat) (32 : Nat) = bytesOf F [] (0 : Nat) (32 : Nat) ∧ ((0 : Nat) = (0 : Nat) ∧ a.length = a.length) ∧ (↑i : Int) + (1 : Int) = IntKind.i64.wrap ((↑i : Int) + (1 : Int))) ∧ ((32 : Nat) = (32 : Nat) ∧ ∀ (i : Nat), i < (32 : Nat) → F [i] = F [i]) ∧ a.length = a.length ∧ ∀ (i : Nat), i < a.length → (↑(a.getD i (0 : UInt8)).toNat : Int) = (↑(a.getD i (0 : UInt8)).toNat : Int)) := by kernel_rfl

set_option maxHeartbeats 4000000 in
theorem mrOut (N : Nat) (B F : Ix → Int) (c : Int) (a : List UInt8) (i : Nat) (hi : i < 256) (ha : a.length ≤ 1000) (hh : inR (bytesOf F [] 0 32) i = false) (next : RunsTo Tryd.prog 4 (headOf Tryd.f4 0) (envAt Tryd.f4.ntmps ([(2, vU c), (4, vP 110), (7, vS (bytesOf F [] 0 32)), (8, rS 112 (a)), (9, vN (i + 1))])) (Sx.look (bE 100 N B ++ (mE 110 F ++ rE 112 (a)))) 110 (YES) (Sx.look []) 900) :
    RunsTo Tryd.prog 4 (headOf Tryd.f4 0) (envAt Tryd.f4.ntmps ([(2, vU c), (4, vP 110), (7, vS (bytesOf F [] 0 32)), (8, rS 112 (a)), (9, vN i)])) (Sx.look (bE 100 N B ++ (mE 110 F ++ rE 112 (a)))) 110 (YES) (Sx.look []) 900 := by
  have wi : IntKind.i64.wrap ((i : Int) + 1) = ((i + 1 : Nat) : Int) := wr1 (by omega)
  have hu : IntKind.u8.wrap (i : Int) = (i : Int) := u8id (by omega)
  refine runs_more baseL (More.of (mrOut_p0 N B F c a i) ⟨?oo, rfl, ?rr⟩) (by kernel_rfl) (by kernel_rfl) rfl (gtL (by decide)) (by decide) next
  case oo =>
    clear next
    refine (okc ?_ (okc ?_ (okc ?_ okn)))
    all_goals ((try simp (disch := omega) only [SS, wi, hu, hh]); first | done | omega | assumption | (simp (disch := omega) only [SS, wi, hu, hh] at *; first | done | omega | assumption) | (simp_all; done) | grind)
  case rr =>
    clear next
    try simp (disch := omega) only [SS, wi, hu, hh]
    repeat' apply And.intro
    all_goals first | exact True.intro | with_reducible rfl | omega | (intros; first | exact True.intro | with_reducible rfl | omega | (simp_all; done)) | (simp_all; done) | rfl

theorem mrEnd_p0 (N : Nat) (B F : Ix → Int) (c : Int) (a : List UInt8) (i : Nat) :
    isEnd (evTill Tryd.prog sumsL 300 (99) 900 4 (headOf Tryd.f4 0) (envAt Tryd.f4.ntmps ([(2, vU c), (4, vP 110), (7, vS (bytesOf F [] 0 32)), (8, rS 112 (a)), (9, vN i)])) (bE 100 N B ++ (mE 110 F ++ rE 112 (a))) ⟨[.s false, .s true, .s true, .s true, .t, .s true, .s true, .s true, .f, .f, .t, .t, .t, .t, .t, .s true, .t], 140⟩) (endP ([]) (YES) ([]) 900) =
    (OkL [(decide ((↑i : Int) < (256 : Int)), false), (decide ((0 : Int) ≤ c ∧ c < (256 : Int)), true), (decide ((0 : Int) ≤ IntKind.i64.wrap c ∧ IntKind.i64.wrap c < (256 : Int)), true), (hasM (fun js => F js) c == inR (bytesOf F [] (0 : Nat) (32 : Nat)) (IntKind.i64.wrap c), true), (((0 : Nat) + (bytesM (fun js => F js) (256 : Nat)).length).ble (bytesM (fun js => F js) (256 : Nat)).length, true), (((0 : Nat) + a.length).ble a.length, true), (bytesOf (fun is => (↑((bytesM (fun js => F js) (256 : Nat)).getD (List.headD is (0 : Nat)) (0 : UInt8)).toNat : Int)) [] (0 : Nat) (bytesM (fun js => F js) (256 : Nat)).length == bytesOf (fun is => (↑(a.getD (List.headD is (0 : Nat)) (0 : UInt8)).toNat : Int)) [] (0 : Nat) a.length, true), (((0 : Nat) + cutN (fun js => F js) (↑(0 : Nat) : Int) (32 : Nat)).ble (32 : Nat), true)] ∧ true = (bytesOf (fun js => F js) [] (0 : Nat) (cutN (fun js => F js) (↑(0 : Nat) : Int) (32 : Nat)) == cutL (bytesOf F [] (0 : Nat) (32 : Nat))) ∧ True) := by kernel_rfl

set_option maxHeartbeats 4000000 in
theorem mrEnd (N : Nat) (B F : Ix → Int) (c : Int) (a : List UInt8) (i : Nat) (hi : i = 256) (ha : a = bytesM F 256) (hB : ∀ i, i < N → 0 ≤ B [i] ∧ B [i] < 256) (hF : ∀ i, i < 32 → 0 ≤ F [i] ∧ F [i] < 256) (hc : 0 ≤ c ∧ c < 256)  :
    RunsTo Tryd.prog 4 (headOf Tryd.f4 0) (envAt Tryd.f4.ntmps ([(2, vU c), (4, vP 110), (7, vS (bytesOf F [] 0 32)), (8, rS 112 (a)), (9, vN i)])) (Sx.look (bE 100 N B ++ (mE 110 F ++ rE 112 (a)))) 110 (YES) (Sx.look ([])) 900 := by
  have h1 := has_in hc hF
  have wc : IntKind.i64.wrap c = c := wr64 (by omega)
  have h2 := cut_bytes F 32 hF
  have h3 := bytesOf_full a
  have ha2 : bytesM (fun js => F js) 256 = a := ha.symm
  clear ha
  have hbl := bytesOf_len F [] 0 32
  have hcu : cutN F 0 32 ≤ 32 := cutN_le _ _ _
  have z0 : ((0 : Nat) : Int) = 0 := rfl
  refine runs_last baseL (Sx.Ends.of (mrEnd_p0 N B F c a i) ⟨?oo, ?rr⟩) (by kernel_rfl) rfl (gtL (by decide)) (by decide)
  case oo =>
    refine (okc ?_ (okc ?_ (okc ?_ (okc ?_ (okc ?_ (okc ?_ (okc ?_ (okc ?_ okn))))))))
    all_goals ((try simp (disch := omega) only [SS, ha2, h1, wc, h2, h3, hbl, z0, beq_self_eq_true]); first | done | omega | assumption | (simp (disch := omega) only [SS, ha2, h1, wc, h2, h3, hbl, z0, beq_self_eq_true] at *; first | done | omega | assumption) | (simp_all; done) | grind)
  case rr =>
    try simp (disch := omega) only [SS, ha2, h1, wc, h2, h3, hbl, z0, beq_self_eq_true]
    repeat' apply And.intro
    all_goals first | exact True.intro | with_reducible rfl | omega | (intros; first | exact True.intro | with_reducible rfl | omega | (simp_all; done)) | (simp_all; done) | rfl

theorem mr_law (N : Nat) (B F : Ix → Int) (c : Int) (hB : ∀ i, i < N → 0 ≤ B [i] ∧ B [i] < 256) (hF : ∀ i, i < 32 → 0 ≤ F [i] ∧ F [i] < 256) (hc : 0 ≤ c ∧ c < 256) : RunsTo Tryd.prog 4 [.code (bodyOf Tryd.f4)] (envOf [vL 100 1 N, .agg (arrT F), vU c] Tryd.f4.ntmps) (Sx.look (bE 100 N B ++ ([]))) 110 (YES) (Sx.look []) 900 := by
  by_cases hN : 300 < N
  · exact mrLong N B F c hN
  refine mrStart N B F c (by omega) hB hF hc ?_
  have key : ∀ (d i : Nat), i + d = 256 → RunsTo Tryd.prog 4 (headOf Tryd.f4 0) (envAt Tryd.f4.ntmps ([(2, vU c), (4, vP 110), (7, vS (bytesOf F [] 0 32)), (8, rS 112 (bytesM F i)), (9, vN i)])) (Sx.look (bE 100 N B ++ (mE 110 F ++ rE 112 (bytesM F i)))) 110 (YES) (Sx.look []) 900 := by
    intro d
    induction d with
    | zero =>
      intro i hi
      have hi2 : i = 256 := by omega
      exact mrEnd N B F c _ i hi2 (congrArg (bytesM F) hi2) hB hF hc
    | succ d ih =>
      intro i hi
      have h2 := ih (i + 1) (by omega)
      have hl := bytesM_len F i
      have hh := has_in (F := F) (c := i) (by omega) hF
      cases hh2 : hasM F i with
      | true =>
        have e : bytesM F (i + 1) = bytesM F i ++ [UInt8.ofNat i] := by simp [bytesM, hh2]
        rw [e] at h2
        exact mrIn N B F c _ i (by omega) (by omega) (by rw [← hh]; exact hh2) h2
      | false =>
        have e : bytesM F (i + 1) = bytesM F i := by simp [bytesM, hh2]
        rw [e] at h2
        exact mrOut N B F c _ i (by omega) (by omega) (by rw [← hh]; exact hh2) h2
  exact key 256 0 (by omega)
end Go.Proofs.YtealbjkhjpmilaaDoor
