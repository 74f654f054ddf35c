/- Masks: bodies, what the functions do. -/
import Derived.Test.YtealbjkhjpmilaaDoorKcC
set_option linter.unusedSimpArgs false
set_option linter.unusedVariables false
set_option maxRecDepth 100000
namespace Go.Proofs.YtealbjkhjpmilaaDoor
open Go.Sx


def XB (t0 t1 t2 : List UInt8) (N : Nat) (B : Ix → Int) : List Ent := sentEnts 25 223 [(3, t0), (4, t1), (5, t2)] ++ bE 100 N B
theorem bits_all : ((List.range 256).all fun b => v8 (!(iand .u8 b (ishr .u8 128 0) == 0)) (!(iand .u8 b (ishr .u8 128 1) == 0)) (!(iand .u8 b (ishr .u8 128 2) == 0)) (!(iand .u8 b (ishr .u8 128 3) == 0)) (!(iand .u8 b (ishr .u8 128 4) == 0)) (!(iand .u8 b (ishr .u8 128 5) == 0)) (!(iand .u8 b (ishr .u8 128 6) == 0)) (!(iand .u8 b (ishr .u8 128 7) == 0)) == b) = true := by kernel_rfl
theorem hasb_all : eight (fun a b c d e f g h => (List.range 8).all fun j => (!(iand .u8 (v8 a b c d e f g h) (ishr .u8 128 j) == 0)) == ([a, b, c, d, e, f, g, h].getD j false)) = true := by kernel_rfl
theorem mem_bytesM (F : Ix → Int) (c : Nat) : ∀ n, n ≤ 256 → memL (bytesM F n) c = (decide (c < n) && hasM F c)
  | 0, _ => by simp [bytesM, memL]
  | n + 1, h => by
    have ih := mem_bytesM F c n (by omega)
    have hn : (UInt8.ofNat n).toNat = n := by simp; omega
    have e : memL (bytesM F (n + 1)) c = (memL (bytesM F n) c || memL (if hasM F n = true then [UInt8.ofNat n] else []) c) := by simp [memL, bytesM, List.any_append]
    rw [e, ih]
    by_cases hc : c = n
    · subst hc
      have h1 : decide (c < c) = false := by simp
      have h2 : decide (c < c + 1) = true := by simp
      rw [h1, h2]
      cases hh : hasM F c
      · simp [memL]
      · simp [memL, hn]
    · have h1 : decide (c < n + 1) = decide (c < n) := by simp; omega
      rw [h1]
      have h2 : memL (if hasM F n = true then [UInt8.ofNat n] else []) c = false := by
        split
        · simp [memL, hn]; omega
        · rfl
      rw [h2, Bool.or_false]
theorem bytes_back {F : Ix → Int} (hF : ∀ i, i < 32 → 0 ≤ F [i] ∧ F [i] < 256) (i : Nat) (hi : i < 32) : vK (bytesM F 256) i 8 = F [i] := by
  obtain ⟨b, hb⟩ : ∃ b : Nat, F [i] = b := ⟨(F [i]).toNat, by have := hF i hi; omega⟩
  have hb2 := hF i hi
  have h1 := List.all_eq_true.1 bits_all b (by simp; omega)
  have hk : ∀ k, k < 8 → memL (bytesM F 256) (8 * i + k) = !(iand .u8 (b : Int) (ishr .u8 128 (k : Int)) == 0) := by
    intro k hk
    rw [mem_bytesM F _ 256 (Nat.le_refl _)]
    have e0 : decide (8 * i + k < 256) = true := by simp; omega
    have e1 : (((8 * i + k : Nat) : Int) / 8).toNat = i := by omega
    have e2 : ((8 * i + k : Nat) : Int).tmod 8 = (k : Int) := by rw [show ((8 * i + k : Nat) : Int).tmod 8 = (((8 * i + k) % 8 : Nat) : Int) from tmN _ 8]; omega
    simp only [e0, Bool.true_and, hasM, e1, e2, hb]
  rw [vK, vB8_v8, hk 0 (by omega), hk 1 (by omega), hk 2 (by omega), hk 3 (by omega), hk 4 (by omega), hk 5 (by omega), hk 6 (by omega), hk 7 (by omega), hb]
  simpa using h1
theorem has_of {B : Ix → Int} {n : Nat} (h : ∀ i, i < n → 0 ≤ B [i] ∧ B [i] < 256) {c : Int} (hc : 0 ≤ c ∧ c < 256) : hasM (fN (ofN B n)) c = memL (bytesOf B [] 0 n) c.toNat := by
  obtain ⟨c, rfl⟩ : ∃ k : Nat, c = k := ⟨c.toNat, by omega⟩
  have e1 : ((c : Int) / 8).toNat = c / 8 := by omega
  have e2 : (c : Int).tmod 8 = ((c % 8 : Nat) : Int) := tmN c 8
  simp only [hasM, e1, e2, fN, List.headD_cons, of_val B n h, vK, vB8_v8, Int.toNat_natCast]
  have h1 := List.all_eq_true.1 (eight_ok hasb_all (memL (bytesOf B [] 0 n) (8 * (c / 8) + 0)) (memL (bytesOf B [] 0 n) (8 * (c / 8) + 1)) (memL (bytesOf B [] 0 n) (8 * (c / 8) + 2)) (memL (bytesOf B [] 0 n) (8 * (c / 8) + 3)) (memL (bytesOf B [] 0 n) (8 * (c / 8) + 4)) (memL (bytesOf B [] 0 n) (8 * (c / 8) + 5)) (memL (bytesOf B [] 0 n) (8 * (c / 8) + 6)) (memL (bytesOf B [] 0 n) (8 * (c / 8) + 7))) (c % 8) (by simp; omega)
  have h2 := eq_of_beq h1
  rw [h2]
  have : c % 8 = 0 ∨ c % 8 = 1 ∨ c % 8 = 2 ∨ c % 8 = 3 ∨ c % 8 = 4 ∨ c % 8 = 5 ∨ c % 8 = 6 ∨ c % 8 = 7 := by omega
  rcases this with e | e | e | e | e | e | e | e <;> rw [e] <;> simp only [List.getD_cons_zero, List.getD_cons_succ] <;> congr 1 <;> omega
/-- Behind the last byte that is none all are none. -/
theorem cut_zero (F : Ix → Int) : ∀ n i, cutN F 0 n ≤ i → i < n → F [i] = 0
  | 0, i, _, h => by omega
  | n + 1, i, h1, h2 => by
    by_cases h0 : F [n] = 0
    · simp only [cutN, h0, if_true] at h1
      by_cases hi : i = n
      · rw [hi]; exact h0
      · exact cut_zero F n i h1 (by omega)
    · simp only [cutN, h0, if_false] at h1; omega

def parF (N : Nat) (B : Ix → Int) : Ix → Int := fun is => if is.headD 0 + 2 < N then B [is.headD 0 + 2] else 0
def bodyL (v : Int) (F : Ix → Int) : List UInt8 := if v = 253 then [253, 2] ++ bytesOf F [] 0 (cutN F 0 32) else [UInt8.ofNat v.toNat, 2]
def sumsT : List (FuncId × Summ) := [(100, trP.summ 50)]
theorem baseT : Base0 Tryd.prog sumsT := (baseO.cons Tryd.func100 (by kernel_rfl) (PC.summ_ok trP_pc gtopG))
theorem boDO_p0 (F : Ix → Int) :
    isEnd (evTill Tryd.prog sumsT 300 (99) 900 39 [.code (bodyOf Tryd.f39)] (envOf [vN 253, .agg (arrT F)] Tryd.f39.ntmps) ([] ++ ([])) ⟨[.t, .f, .t, .f, .f, .t, .t, .t, .t, .t, .s true, .t, .s true], 80⟩) (endP ([((150 : Nat), Rn.to (143 : Nat))]) (.tup [(false, .vl 150 (fun _ => 0) 1 [] (fun _ => ([253, 2] ++ bytesOf F [] 0 (cutN F 0 32)).length)), (false, .ve0)]) (rE 150 ([253, 2] ++ bytesOf F [] 0 (cutN F 0 32))) 180) =
    (OkL [(((0 : Nat) + cutN (fun js => F js) (↑(0 : Nat) : Int) (32 : Nat)).ble (32 : Nat), true), (decide (((2 : Nat) * ((2 : Nat) + cutN (fun js => F js) (↑(0 : Nat) : Int) (32 : Nat)) + (192 : Nat)) * (1 : Nat) ≤ (281474976710656 : Nat)), true)] ∧ (((0 : Nat) = (0 : Nat) ∧ ([(253 : UInt8), (2 : UInt8)] ++ bytesOf F [] (0 : Nat) (cutN F (0 : Int) (32 : Nat))).length = (2 : Nat) + cutN (fun js => F js) (↑(0 : Nat) : Int) (32 : Nat)) ∧ True ∧ True) ∧ ([(253 : UInt8), (2 : UInt8)] ++ bytesOf F [] (0 : Nat) (cutN F (0 : Int) (32 : Nat))).length = (2 : Nat) + cutN (fun js => F js) (↑(0 : Nat) : Int) (32 : Nat) ∧ ∀ (i : Nat), i < ([(253 : UInt8), (2 : UInt8)] ++ bytesOf F [] (0 : Nat) (cutN F (0 : Int) (32 : Nat))).length → (↑(([(253 : UInt8), (2 : UInt8)] ++ bytesOf F [] (0 : Nat) (cutN F (0 : Int) (32 : Nat))).getD i (0 : UInt8)).toNat : Int) = appF (2 : Nat) (0 : Nat) (upd (upd (fun is => (0 : Int)) [(0 : Nat)] (IntKind.u8.wrap (253 : Int))) [(1 : Nat)] (2 : Int)) (fun js => F (subIx (0 : Nat) js)) [i]) := by kernel_rfl

set_option maxHeartbeats 4000000 in
theorem boDO (F : Ix → Int) (hF : ∀ i, i < 32 → 0 ≤ F [i] ∧ F [i] < 256) :
    RunsTo Tryd.prog 39 [.code (bodyOf Tryd.f39)] (envOf [vN 253, .agg (arrT F)] Tryd.f39.ntmps) (Sx.look ([] ++ ([]))) 80 (.tup [(false, .vl 150 (fun _ => 0) 1 [] (fun _ => ([253, 2] ++ bytesOf F [] 0 (cutN F 0 32)).length)), (false, .ve0)]) (Sx.look (rE 150 ([253, 2] ++ bytesOf F [] 0 (cutN F 0 32)))) 180 := by
  have hcu : cutN F 0 32 ≤ 32 := cutN_le _ _ _
  have z0 : ((0 : Nat) : Int) = 0 := rfl
  have hl : ([253, 2] ++ bytesOf F [] 0 (cutN F 0 32)).length = 2 + cutN F 0 32 := by simp [bytesOf_len]; omega
  have ha := app_bytes [253, 2] (bytesOf F [] 0 (cutN F 0 32))
  refine runs_last baseT (Sx.Ends.of (boDO_p0 F) ⟨?oo, ?rr⟩) (by kernel_rfl) rfl (gtL (by decide)) (by decide)
  case oo =>
    refine (okc ?_ (okc ?_ okn))
    all_goals ((try simp (disch := omega) only [SS, z0, bytesOf_len, hl]); first | done | omega | assumption | (simp (disch := omega) only [SS, z0, bytesOf_len, hl] at *; first | done | omega | assumption) | (simp_all; done) | grind)
  case rr =>
    try simp (disch := omega) only [SS, z0, hl]
    repeat' apply And.intro
    all_goals first | exact True.intro | with_reducible rfl | omega | exact hl | skip
    all_goals (intro k hk; have hk2 : k < ([253, 2] ++ bytesOf F [] 0 (cutN F 0 32)).length := by first | exact hk | (rw [hl]; exact hk))
    all_goals (refine (ha (fun js => F (subIx 0 js)) (fun j hj => ?_) k hk2).trans ?_)
    · have hj2 : j < cutN F 0 32 := by simpa [bytesOf_len] using hj
      have := bytesOf_nat (B := F) (is := []) (st := 0) (n := cutN F 0 32) hj2 (by simpa using hF j (by omega))
      simp only [List.nil_append, Nat.zero_add] at this
      simp only [subIx, Nat.zero_add, this]
    · simp only [appF, List.length_cons, List.length_nil, Nat.zero_add]
      by_cases h2 : k < 2
      · rcases (by omega : k = 0 ∨ k = 1) with rfl | rfl <;> rfl
      · simp [h2]

theorem boV_p0 (v : Int) (F : Ix → Int) :
    isEnd (evTill Tryd.prog sumsT 300 (99) 900 39 [.code (bodyOf Tryd.f39)] (envOf [vN v, .agg (arrT F)] Tryd.f39.ntmps) ([] ++ ([])) ⟨[.s true, .s false, .s false], 80⟩) (endP ([((150 : Nat), Rn.to (81 : Nat))]) (.tup [(false, .vl 150 (fun _ => 0) 1 [] (fun _ => ([UInt8.ofNat v.toNat, 2]).length)), (false, .ve0)]) (rE 150 [UInt8.ofNat v.toNat, 2]) 180) =
    (OkL [(decide (v ≥ (251 : Int)), true), (!decide (v ≤ (254 : Int)), false), (v == (253 : Int), false)] ∧ (((0 : Nat) = (0 : Nat) ∧ [UInt8.ofNat v.toNat, (2 : UInt8)].length = (2 : Nat)) ∧ True ∧ True) ∧ [UInt8.ofNat v.toNat, (2 : UInt8)].length = (2 : Nat) ∧ ∀ (i : Nat), i < [UInt8.ofNat v.toNat, (2 : UInt8)].length → (↑([UInt8.ofNat v.toNat, (2 : UInt8)].getD i (0 : UInt8)).toNat : Int) = upd (upd (fun is => (0 : Int)) [(0 : Nat)] (IntKind.u8.wrap v)) [(1 : Nat)] (2 : Int) [i]) := by kernel_rfl

set_option maxHeartbeats 4000000 in
theorem boV (v : Int) (F : Ix → Int) (hv : 251 ≤ v ∧ v ≤ 254 ∧ v ≠ 253) :
    RunsTo Tryd.prog 39 [.code (bodyOf Tryd.f39)] (envOf [vN v, .agg (arrT F)] Tryd.f39.ntmps) (Sx.look ([] ++ ([]))) 80 (.tup [(false, .vl 150 (fun _ => 0) 1 [] (fun _ => ([UInt8.ofNat v.toNat, 2]).length)), (false, .ve0)]) (Sx.look (rE 150 [UInt8.ofNat v.toNat, 2])) 180 := by
  have hu : IntKind.u8.wrap v = v := u8id (by omega)
  refine runs_last baseT (Sx.Ends.of (boV_p0 v F) ⟨?oo, ?rr⟩) (by kernel_rfl) rfl (gtL (by decide)) (by decide)
  case oo =>
    refine (okc ?_ (okc ?_ (okc ?_ okn)))
    all_goals ((try simp (disch := omega) only [SS, hu]); first | done | omega | assumption | (simp (disch := omega) only [SS, hu] at *; first | done | omega | assumption) | (simp_all; done) | grind)
  case rr =>
    try simp (disch := omega) only [SS, hu]
    repeat' apply And.intro
    all_goals first | exact True.intro | with_reducible rfl | omega | rfl | skip
    all_goals (intro k hk; rcases (by simp at hk; omega : k = 0 ∨ k = 1) with rfl | rfl)
    all_goals first | rfl | (have := u8of (show 0 ≤ v ∧ v < 256 by omega); simpa [upd] using this.symm) | (have := u8of (show 0 ≤ v ∧ v < 256 by omega); simpa [upd] using this)

theorem paOk_p0 (N : Nat) (B : Ix → Int) :
    isEnd (evTill Tryd.prog [] 300 (99) 900 40 [.code (bodyOf Tryd.f40)] (envOf [vL 60 1 N] Tryd.f40.ntmps) (bE 60 N B ++ ([])) ⟨[.s false, .s true, .s true, .s true, .s true, .s false, .s true, .s true, .s true, .s false, .s false, .s false, .s true, .s true, .s true, .s true, .t, .s true, .s true, .s true], 80⟩) (endP ([]) (.tup [(false, .vi .i64 fun _ => B [0]), (true, arrT (parF N B)), (false, .ve0)]) ([]) 180) =
    (OkL [(decide ((↑N : Int) < (2 : Int)), false), (decide ((0 : Int) ≤ (0 : Int) ∧ (0 : Int) < (↑N : Int)), true), (Nat.blt (0 : Nat) N, true), (Nat.blt (0 : Nat) N, true), (decide (IntKind.i64.wrap (B [(0 : Nat)]) ≥ (251 : Int)), true), (!decide (IntKind.i64.wrap (B [(0 : Nat)]) ≤ (254 : Int)), false), (decide ((0 : Int) ≤ (1 : Int) ∧ (1 : Int) < (↑N : Int)), true), (Nat.blt (1 : Nat) N, true), (Nat.blt (1 : Nat) N, true), (B [(1 : Nat)] != (2 : Int), false), (decide (IntKind.i64.wrap ((↑N : Int) - (2 : Int)) > (32 : Int)), false), (decide ((↑N : Int) > (2 : Int)), false), (((0 : Nat) + N).ble N, true), (decide ((0 : Int) ≤ (2 : Int) ∧ (2 : Int) ≤ (↑N : Int)), true), (((2 : Nat) + (N - (2 : Nat))).ble N, true), ((N - (2 : Nat)).ble (32 : Nat), true), (decide ((0 : Int) ≤ (0 : Int) ∧ (0 : Int) < (↑N : Int)), true), (Nat.blt (0 : Nat) N, true), (Nat.blt (0 : Nat) N, true)] ∧ (B [(0 : Nat)] = IntKind.i64.wrap (B [(0 : Nat)]) ∧ ((32 : Nat) = (32 : Nat) ∧ ∀ (i : Nat), i < (32 : Nat) → parF N B [i] = cpyF (N - (2 : Nat)) (0 : Nat) (fun x => (0 : Int)) (fun js => B (subIx (sum (([] : List Nat) ++ [(((2 : Int))).toNat])) js)) [i]) ∧ True ∧ True) ∧ True) := by kernel_rfl
theorem paOk_p1 (N : Nat) (B : Ix → Int) :
    isEnd (evTill Tryd.prog [] 300 (99) 900 40 [.code (bodyOf Tryd.f40)] (envOf [vL 60 1 N] Tryd.f40.ntmps) (bE 60 N B ++ ([])) ⟨[.s false, .s true, .s true, .s true, .s true, .s false, .s true, .s true, .s true, .s false, .s false, .s true, .s true, .s true, .s true, .s false, .s true, .s true, .s true, .s true, .t, .s true, .s true, .s true], 80⟩) (endP ([]) (.tup [(false, .vi .i64 fun _ => B [0]), (true, arrT (parF N B)), (false, .ve0)]) ([]) 180) =
    (OkL [(decide ((↑N : Int) < (2 : Int)), false), (decide ((0 : Int) ≤ (0 : Int) ∧ (0 : Int) < (↑N : Int)), true), (Nat.blt (0 : Nat) N, true), (Nat.blt (0 : Nat) N, true), (decide (IntKind.i64.wrap (B [(0 : Nat)]) ≥ (251 : Int)), true), (!decide (IntKind.i64.wrap (B [(0 : Nat)]) ≤ (254 : Int)), false), (decide ((0 : Int) ≤ (1 : Int) ∧ (1 : Int) < (↑N : Int)), true), (Nat.blt (1 : Nat) N, true), (Nat.blt (1 : Nat) N, true), (B [(1 : Nat)] != (2 : Int), false), (decide (IntKind.i64.wrap ((↑N : Int) - (2 : Int)) > (32 : Int)), false), (decide ((↑N : Int) > (2 : Int)), true), (decide ((0 : Int) ≤ (0 : Int) ∧ (0 : Int) < (↑N : Int)), true), (Nat.blt (0 : Nat) N, true), (Nat.blt (0 : Nat) N, true), (B [(0 : Nat)] != (253 : Int), false), (((0 : Nat) + N).ble N, true), (decide ((0 : Int) ≤ (2 : Int) ∧ (2 : Int) ≤ (↑N : Int)), true), (((2 : Nat) + (N - (2 : Nat))).ble N, true), ((N - (2 : Nat)).ble (32 : Nat), true), (decide ((0 : Int) ≤ (0 : Int) ∧ (0 : Int) < (↑N : Int)), true), (Nat.blt (0 : Nat) N, true), (Nat.blt (0 : Nat) N, true)] ∧ (B [(0 : Nat)] = IntKind.i64.wrap (B [(0 : Nat)]) ∧ ((32 : Nat) = (32 : Nat) ∧ ∀ (i : Nat), i < (32 : Nat) → parF N B [i] = cpyF (N - (2 : Nat)) (0 : Nat) (fun x => (0 : Int)) (fun js => B (subIx (sum (([] : List Nat) ++ [(((2 : Int))).toNat])) js)) [i]) ∧ True ∧ True) ∧ True) := by kernel_rfl

set_option maxHeartbeats 4000000 in
theorem paOk (N : Nat) (B : Ix → Int) (hN : 2 ≤ N ∧ N ≤ 34) (h0 : 251 ≤ B [0] ∧ B [0] ≤ 254) (h1 : B [1] = 2) (h2 : N = 2 ∨ B [0] = 253) :
    RunsTo Tryd.prog 40 [.code (bodyOf Tryd.f40)] (envOf [vL 60 1 N] Tryd.f40.ntmps) (Sx.look (bE 60 N B ++ ([]))) 80 (.tup [(false, .vi .i64 fun _ => B [0]), (true, arrT (parF N B)), (false, .ve0)]) (Sx.look ([])) 180 := by
  have hw : IntKind.i64.wrap (B [0]) = B [0] := wr64 (by omega)
  refine bcase (c := (decide ((↑N : Int) > (2 : Int)))) (fun gg0 => ?_) (fun gg0 => ?_)
  · refine runs_last baseO (Sx.Ends.of (paOk_p0 N B) ⟨?oo, ?rr⟩) (by kernel_rfl) rfl (gtL (by decide)) (by decide)
    case oo =>
      refine (okc ?_ (okc ?_ (okc ?_ (okc ?_ (okc ?_ (okc ?_ (okc ?_ (okc ?_ (okc ?_ (okc ?_ (okc ?_ (okc gg0 (okc ?_ (okc ?_ (okc ?_ (okc ?_ (okc ?_ (okc ?_ (okc ?_ okn)))))))))))))))))))
      all_goals ((try simp (disch := omega) only [SS, hw, h1, Int.toNat_zero, Int.toNat_one]); first | done | omega | assumption | (simp (disch := omega) only [SS, hw, h1, Int.toNat_zero, Int.toNat_one] at *; first | done | omega | assumption) | (simp_all; done) | grind)
    case rr =>
      try simp (disch := omega) only [SS, hw, h1]
      repeat' apply And.intro
      all_goals first | exact True.intro | with_reducible rfl | omega | exact hw.symm | skip
      all_goals (intro k hk; simp only [parF, cpyF, List.headD_cons, subIx, Go.Sx.sum, Nat.zero_le, true_and, Nat.zero_add, Nat.sub_zero, List.nil_append, Nat.add_zero]; by_cases hk2 : k + 2 < N)
      all_goals first | (have e : k < N - 2 := by omega); simp [hk2, e, Go.Sx.sum, Nat.add_comm]; done | (have e : ¬ k < N - 2 := by omega); simp [hk2, e]; done
  · refine runs_last baseO (Sx.Ends.of (paOk_p1 N B) ⟨?oo, ?rr⟩) (by kernel_rfl) rfl (gtL (by decide)) (by decide)
    case oo =>
      refine (okc ?_ (okc ?_ (okc ?_ (okc ?_ (okc ?_ (okc ?_ (okc ?_ (okc ?_ (okc ?_ (okc ?_ (okc ?_ (okc gg0 (okc ?_ (okc ?_ (okc ?_ (okc ?_ (okc ?_ (okc ?_ (okc ?_ (okc ?_ (okc ?_ (okc ?_ (okc ?_ okn)))))))))))))))))))))))
      all_goals ((try simp (disch := omega) only [SS, hw, h1, Int.toNat_zero, Int.toNat_one]); first | done | omega | assumption | (simp (disch := omega) only [SS, hw, h1, Int.toNat_zero, Int.toNat_one] at *; first | done | omega | assumption) | (simp_all; done) | grind)
    case rr =>
      try simp (disch := omega) only [SS, hw, h1]
      repeat' apply And.intro
      all_goals first | exact True.intro | with_reducible rfl | omega | exact hw.symm | skip
      all_goals (intro k hk; simp only [parF, cpyF, List.headD_cons, subIx, Go.Sx.sum, Nat.zero_le, true_and, Nat.zero_add, Nat.sub_zero, List.nil_append, Nat.add_zero]; by_cases hk2 : k + 2 < N)
      all_goals first | (have e : k < N - 2 := by omega); simp [hk2, e, Go.Sx.sum, Nat.add_comm]; done | (have e : ¬ k < N - 2 := by omega); simp [hk2, e]; done

def bodyDoP : PC := { args := [.v (.vi .i64 0), .agg (.tn 32 (.vi .u8 1))], heap := [], gs := [], G := 25, tp := 223, n := 80, n' := 180, cond := fun e => decide (eI e 0 [] = 253) && bndB (eI e 1) 32, v := fun e => .tup [(false, .vl 150 (fun _ => 0) 1 [] (fun _ => ([253, 2] ++ bytesOf (eI e 1) [] 0 (cutN (eI e 1) 0 32)).length)), (false, .ve0)], post := fun e => rE 150 ([253, 2] ++ bytesOf (eI e 1) [] 0 (cutN (eI e 1) 0 32)) }
theorem bodyDoP_pc : PC.Runs Tryd.prog 39 Tryd.f39 (bodyOf Tryd.f39) bodyDoP := ⟨Tryd.func39, by kernel_rfl, (fun g hg => by first | cases hg | (revert g; decide)), fun e H hc => by
  have hc : (decide (eI e 0 [] = 253) && bndB (eI e 1) 32) = true := hc
  try simp only [Bool.and_eq_true, decide_eq_true_eq, Nat.beq_eq] at hc
  exact by obtain ⟨h1, h2⟩ := hc; have t := boDO (eI e 1) (fun i hi => bndB_ok h2 hi); simp only [bodyDoP, PC.pre, PC.cargs, textsIn, sentEnts, List.map, PA.inst, PT.inst, cst, h1, List.nil_append, List.append_nil]; exact t⟩
def bodyVP : PC := { args := [.v (.vi .i64 0), .agg (.tn 32 (.vi .u8 1))], heap := [], gs := [], G := 25, tp := 223, n := 80, n' := 180, cond := fun e => decide (251 ≤ eI e 0 [] ∧ eI e 0 [] ≤ 254 ∧ eI e 0 [] ≠ 253), v := fun e => .tup [(false, .vl 150 (fun _ => 0) 1 [] (fun _ => ([UInt8.ofNat (eI e 0 []).toNat, 2]).length)), (false, .ve0)], post := fun e => rE 150 [UInt8.ofNat (eI e 0 []).toNat, 2] }
theorem bodyVP_pc : PC.Runs Tryd.prog 39 Tryd.f39 (bodyOf Tryd.f39) bodyVP := ⟨Tryd.func39, by kernel_rfl, (fun g hg => by first | cases hg | (revert g; decide)), fun e H hc => by
  have hc : (decide (251 ≤ eI e 0 [] ∧ eI e 0 [] ≤ 254 ∧ eI e 0 [] ≠ 253)) = true := hc
  try simp only [Bool.and_eq_true, decide_eq_true_eq, Nat.beq_eq] at hc
  exact boV (eI e 0 []) (eI e 1) hc⟩
def parseOkP : PC := { args := [.v (.vl 60 1 0)], heap := [⟨60, false, 1, .ta 0 (.vi .u8 1)⟩], gs := [], G := 25, tp := 223, n := 80, n' := 180, cond := fun e => decide ((2 ≤ eN e 0 ∧ eN e 0 ≤ 34) ∧ (251 ≤ eI e 1 [0] ∧ eI e 1 [0] ≤ 254) ∧ eI e 1 [1] = 2 ∧ (eN e 0 = 2 ∨ eI e 1 [0] = 253)), v := fun e => .tup [(false, .vi .i64 fun _ => eI e 1 [0]), (true, arrT (parF (eN e 0) (eI e 1))), (false, .ve0)], post := fun e => [] }
theorem parseOkP_pc : PC.Runs Tryd.prog 40 Tryd.f40 (bodyOf Tryd.f40) parseOkP := ⟨Tryd.func40, by kernel_rfl, (fun g hg => by first | cases hg | (revert g; decide)), fun e H hc => by
  have hc : (decide ((2 ≤ eN e 0 ∧ eN e 0 ≤ 34) ∧ (251 ≤ eI e 1 [0] ∧ eI e 1 [0] ≤ 254) ∧ eI e 1 [1] = 2 ∧ (eN e 0 = 2 ∨ eI e 1 [0] = 253))) = true := hc
  try simp only [Bool.and_eq_true, decide_eq_true_eq, Nat.beq_eq] at hc
  exact paOk (eN e 0) (eI e 1) hc.1 hc.2.1 hc.2.2.1 hc.2.2.2⟩
end Go.Proofs.YtealbjkhjpmilaaDoor
