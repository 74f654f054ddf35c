/- BufferLast: the plain facts, and the loops. -/
import Derived.Test.YtdmkdmaofgjelaaDoorBbC
set_option linter.unusedSimpArgs false
set_option linter.unusedVariables false
set_option maxRecDepth 100000
namespace Go.Proofs.YtdmkdmaofgjelaaDoor
open Go.Sx

theorem u8_back (b : UInt8) : UInt8.ofNat ((b.toNat : Int)).toNat = b := by
  rw [Int.toNat_natCast]
  exact UInt8.ofNat_toNat

theorem bytes_str (tx : List UInt8) (st len : Nat) (h : st + len ≤ tx.length) :
    bytesOf (fun is => ((tx.getD (List.headD is 0) 0).toNat : Int)) [] st len = (tx.drop st).take len := by
  apply List.ext_getElem?
  intro j
  simp only [bytesOf, List.getElem?_map, List.getElem?_take, List.getElem?_drop, List.nil_append, List.headD_cons, u8_back]
  by_cases hj : j < len
  · rw [List.getElem?_range hj, if_pos hj, List.getElem?_eq_getElem (by omega)]
    simp only [Option.map_some, List.getD_eq_getElem?_getD]
    rw [List.getElem?_eq_getElem (by omega)]
    rfl
  · rw [List.getElem?_eq_none (by simpa using hj), if_neg hj]
    rfl

theorem bytes_one (f : Ix → Int) (st : Nat) : bytesOf f [] st 1 = [UInt8.ofNat (f [st]).toNat] := by simp [bytesOf, List.range_succ]

theorem lgR_no {bl : Ix → Nat} : ∀ {k i : Nat}, lgR bl k i = false → ∀ j, i ≤ j → j < i + k → bl [j] ≤ 100
  | 0, i, h, j, h1, h2 => by omega
  | k + 1, i, h, j, h1, h2 => by
    simp only [lgR, Bool.or_eq_false_iff, decide_eq_false_iff_not] at h
    rcases Nat.eq_or_lt_of_le h1 with rfl | h3
    · omega
    · exact lgR_no h.2 j (by omega) (by omega)

theorem longB_no {N : Nat} {bl : Ix → Nat} (h : longB N bl = false) : N ≤ 40 ∧ ∀ j, j < N → bl [j] ≤ 100 := by
  unfold longB at h
  split at h
  · cases h
  · exact ⟨by omega, fun j hj => lgR_no h j (by omega) (by omega)⟩

/-- What a buffer is, against all that came. -/
structure Inv (m base : Int) (tx all : List UInt8) : Prop where
  lo : 1 ≤ m
  hi : m ≤ 1000
  pos : 0 ≤ base
  sum : base + tx.length = all.length
  drop : tx = all.drop base.toNat
  fits : (tx.length : Int) ≤ m

abbrev YES : SV := .v (.vb fun _ => true)

abbrev OutRuns (t : List UInt8) (N : Nat) (K M : Ix → Int) (bl : Ix → Nat) (B : Ix → Int) (i : Nat) (m base lost : Int) (tx all : List UInt8) : Prop :=
  RunsTo Tryd.prog 4 (headOf Tryd.f4 0) (envAt 109 (outE N i all)) (Sx.look (X4 t N K M bl B ++ bufE m base lost tx)) 110 YES (Sx.look []) 200

abbrev InRuns (t : List UInt8) (N : Nat) (K M : Ix → Int) (bl : Ix → Nat) (B : Ix → Int) (i j : Nat) (m base lost before : Int) (tx all : List UInt8) : Prop :=
  RunsTo Tryd.prog 4 (headOf Tryd.f4 1) (envAt 109 (inE N i j bl before all)) (Sx.look (X4 t N K M bl B ++ bufE m base lost tx)) 110 YES (Sx.look []) 200

theorem shX (t : List UInt8) (N : Nat) (K M : Ix → Int) (bl : Ix → Nat) (B : Ix → Int) : sharedB 110 (X4 t N K M bl B) = true := by kernel_rfl
theorem wfOut (t : List UInt8) (N i : Nat) (K M : Ix → Int) (bl : Ix → Nat) (B : Ix → Int) (m base lost : Int) (tx all : List UInt8) : wfState 130 (envAt 109 (outE N i all)) (X4 t N K M bl B ++ bufE m base lost tx) = true := by kernel_rfl
theorem wfIn (t : List UInt8) (N i j : Nat) (K M : Ix → Int) (bl : Ix → Nat) (B : Ix → Int) (m base lost before : Int) (tx all : List UInt8) : wfState 130 (envAt 109 (inE N i j bl before all)) (X4 t N K M bl B ++ bufE m base lost tx) = true := by kernel_rfl
theorem g110 : gtop Tryd.prog ≤ 110 := gtopQ (by decide)

theorem ble {a b : Nat} (h : a ≤ b) : Nat.ble a b = true := by rw [Nat.ble_eq]; exact h

theorem inv_conds {m base : Int} {tx all : List UInt8} (I : Inv m base tx all) (hs : all.length ≤ 1000000) : (IntKind.i64.wrap (base + (tx.length : Int)) != (all.length : Int)) = false ∧ (!(tx == List.drop base.toNat (List.take all.length all))) = false := by
  have h1 := I.pos
  have h2 := I.sum
  refine ⟨?_, ?_⟩
  · rw [wr64 (by omega), h2]; simp
  · rw [List.take_of_length_le (Nat.le_refl _), ← I.drop]; simp

theorem bytes_all (tx : List UInt8) : bytesOf (fun is => ((tx.getD (List.headD is 0) 0).toNat : Int)) [] 0 tx.length = tx := by
  rw [bytes_str tx 0 tx.length (by omega)]
  simp

theorem in_loop (t : List UInt8) (N i : Nat) (K M : Ix → Int) (bl : Ix → Nat) (B : Ix → Int) (hi : i < N) (hB : ∀ j, j < bl [i] → 0 ≤ B [i, j] ∧ B [i, j] < 256) (m before : Int) (hN : N ≤ 40) (hbl : bl [i] ≤ 100) (T : Nat) (hT : T ≤ 10000)
    (next : ∀ base lost tx all, Inv m base tx all → all.length ≤ T → OutRuns t N K M bl B (i + 1) m base lost tx all) :
    ∀ k j base lost tx all, bl [i] = j + k → Inv m base tx all → before ≤ base → all.length + k ≤ T → InRuns t N K M bl B i j m base lost before tx all
  | 0, j, base, lost, tx, all, hk, I, hb, hl => by
    have hpos := I.pos
    have hsum := I.sum
    have hfit := I.fits
    obtain ⟨c2, c6⟩ := inv_conds I (by omega)
    refine runs_more base1 (More.of (in_exit t m base lost before tx all N i j K M bl B) ?_) (shX t N K M bl B) (wfIn t N i j K M bl B m base lost before tx all) rfl g110 (by decide) (next base lost tx all I (by omega))
    refine ⟨okc (no (by omega)) (okc (no (by omega)) (okc c2 (okc (no (by omega)) (okc (ble (by omega)) (okc (yes (by omega)) (okc ?_ (okc (ble (by omega)) (okc ?_ okn)))))))), rfl, ⟨rfl, rfl, ⟨rfl, rfl⟩, rfl, ?_⟩, ⟨rfl, rfl, rfl, rfl, rfl⟩, rfl, fun _ _ => rfl⟩
    · rw [bytes_all]; exact c6
    · rw [bytes_all]; exact no (by omega)
    · rw [wr64 (by omega)]; rfl
  | k + 1, j, base, lost, tx, all, hk, I, hb, hl => by
    have hpos := I.pos
    have hsum := I.sum
    have hfit := I.fits
    have hlo := I.lo
    have hhi := I.hi
    have hj : j < bl [i] := by omega
    obtain ⟨b0, b1⟩ := hB j hj
    obtain ⟨d, hd⟩ : ∃ d : Nat, d = tx.length + 1 - m.toNat := ⟨_, rfl⟩
    have hx : (if (0 : Int) > IntKind.i64.wrap (((tx.length + 1 : Nat) : Int) - m) then (0 : Int) else IntKind.i64.wrap (((tx.length + 1 : Nat) : Int) - m)) = (d : Int) := by
      rw [wr64 (by omega)]
      split <;> omega
    have hd1 : d ≤ 1 := by omega
    let c : UInt8 := UInt8.ofNat (B [i, j]).toNat
    have hc : (c.toNat : Int) = B [i, j] := by
      have : c.toNat = (B [i, j]).toNat % 256 := by simp [c]
      rw [this]; omega
    have I' : Inv m (base + d) ((tx ++ [c]).drop d) (all ++ [c]) := by
      refine ⟨I.lo, I.hi, by omega, by simp; omega, ?_, by simp; omega⟩
      have e : (base + (d : Int)).toNat = base.toNat + d := by omega
      rw [e, ← List.drop_drop]
      congr 1
      rw [List.drop_append_of_le_length (by omega), ← I.drop]
    have hone : bytesOf (fun is => B (i :: ((0 : Nat) + (j : Int).toNat) :: List.tail is)) [] 0 1 = [c] := by
      rw [bytes_one]
      simp [c]
    refine runs_more base1 (More.of (in_next t m base lost before tx all N i j K M bl B (base + d) (IntKind.i64.wrap (lost + d)) ((tx ++ [c]).drop d) (all ++ [c]) d) ?_) (shX t N K M bl B) (wfIn t N i j K M bl B m base lost before tx all) rfl g110 (by decide)
      (in_loop t N i K M bl B hi hB m before hN hbl T hT next k (j + 1) (base + d) (IntKind.i64.wrap (lost + d)) ((tx ++ [c]).drop d) (all ++ [c]) (by omega) I' (by omega) (by simp; omega))
    rw [hx, hone]
    refine ⟨okc (yes (by omega)) (okc (yes (by omega)) (okc (blt hi) (okc (blt (by omega)) (okc (blt hi) (okc (blt (by omega)) (okc (ble (by omega)) (okc (yes (by omega)) (okc (ble (by omega)) (okc (yes (by omega)) (okc (yes ?_) okn)))))))))), rfl, ⟨rfl, rfl, rfl, ⟨rfl, rfl⟩, rfl, rfl, ⟨rfl, rfl⟩, rfl, ?_⟩, ⟨rfl, ?_, rfl, ⟨rfl, rfl⟩, ?_⟩, ?_, fun q hq => ?_⟩
    · simp; omega
    · rw [wr64 (by omega)]; rfl
    · rw [wr64 (by omega)]
    · simp
    · simp [sum]; omega
    · simp only [List.length_drop, List.length_append, List.length_singleton] at hq
      simp only [sum, Nat.add_zero, appF, List.getD_eq_getElem?_getD, List.getElem?_drop, List.headD_cons, Nat.zero_add]
      by_cases hlt : d + q < tx.length
      · rw [if_pos hlt, List.getElem?_append_left hlt]
      · rw [if_neg hlt, List.getElem?_append_right (by omega)]
        have : d + q - tx.length = 0 := by omega
        rw [this]
        simpa using hc


theorem sum_one (a : Nat) : sum [a] = a := by simp [sum]

theorem bytes_drop (tx : List UInt8) (d : Nat) (h : d ≤ tx.length) : bytesOf (fun is => ((tx.getD (List.headD is 0) 0).toNat : Int)) [] d (tx.length - d) = tx.drop d := by
  rw [bytes_str tx d _ (by omega), List.take_of_length_le (by simp)]

theorem inv_drop {m m' base : Int} {tx all : List UInt8} (I : Inv m base tx all) (d : Nat) (hd : d ≤ tx.length) (h1 : 1 ≤ m') (h2 : m' ≤ 1000) (h3 : (tx.length : Int) - d ≤ m') : Inv m' (base + d) (tx.drop d) all := by
  have hpos := I.pos
  have hsum := I.sum
  refine ⟨h1, h2, by omega, by simp; omega, ?_, by simp; omega⟩
  have e : (base + (d : Int)).toNat = base.toNat + d := by omega
  rw [e, ← List.drop_drop, ← I.drop]

theorem eqb {a b : Int} (h : a = b) : (a == b) = true := by simp [h]
theorem neb {a b : Int} (h : a ≠ b) : (a == b) = false := by simp [h]

theorem out_loop (t : List UInt8) (N : Nat) (K M : Ix → Int) (bl : Ix → Nat) (B : Ix → Int) (hN : N ≤ 40) (hbl : ∀ j, j < N → bl [j] ≤ 100) (hB : ∀ i, i < N → ∀ j, j < bl [i] → 0 ≤ B [i, j] ∧ B [i, j] < 256)
    (hM : ∀ i, i < N → -9223372036854775808 ≤ M [i] ∧ M [i] < 9223372036854775808) :
    ∀ k i m base lost tx all, N = i + k → Inv m base tx all → all.length ≤ 100 * i → OutRuns t N K M bl B i m base lost tx all
  | 0, i, m, base, lost, tx, all, hk, I, hl => runs_last base1 (Ends.of (o_done t m base lost tx all N i K M bl B) ⟨okc (no (by omega)) okn, rfl, trivial⟩) (wfOut t N i K M bl B m base lost tx all) rfl g110 (by decide)
  | k + 1, i, m, base, lost, tx, all, hk, I, hl => by
    have hpos := I.pos
    have hsum := I.sum
    have hfit := I.fits
    have hlo := I.lo
    have hhi := I.hi
    have hiN : i < N := by omega
    have hi0 : (0 : Nat) + (i : Int).toNat = i := by omega
    have hi1 : ((i + 1 : Nat) : Int) = IntKind.i64.wrap ((i : Int) + 1) := by rw [wr64 (by omega)]; rfl
    obtain ⟨m0, m1⟩ := hM i hiN
    obtain ⟨c2, c6⟩ := inv_conds I (by omega)
    have c6' : (!bytesOf (fun is => ((tx.getD (List.headD is 0) 0).toNat : Int)) [] 0 tx.length == List.drop base.toNat (List.take all.length all)) = false := by rw [bytes_all]; exact c6
    have c8' : decide (((bytesOf (fun is => ((tx.getD (List.headD is 0) 0).toNat : Int)) [] 0 tx.length).length : Int) > m) = false := by rw [bytes_all]; exact no (by omega)
    have same : ∀ {lost' : Int}, OutRuns t N K M bl B (i + 1) m base lost' tx all := fun {lost'} => out_loop t N K M bl B hN hbl hB hM k (i + 1) m base lost' tx all (by omega) I (by omega)
    by_cases k0 : K [i] = 0
    · refine runs_more base1 (More.of (o_in t m base lost tx all N i K M bl B) ?_) (shX t N K M bl B) (wfOut t N i K M bl B m base lost tx all) rfl g110 (by decide)
        (in_loop t N i K M bl B hiN (hB i hiN) m base hN (hbl i hiN) (100 * i + 100) (by omega) (fun base' lost' tx' all' I' hl' => out_loop t N K M bl B hN hbl hB hM k (i + 1) m base' lost' tx' all' (by omega) I' (by omega))
          (bl [i]) 0 base lost tx all (by omega) I (by omega) (by have := hbl i hiN; omega))
      rw [hi0]
      exact ⟨okc (yes (by omega)) (okc (yes (by omega)) (okc (blt hiN) (okc (blt hiN) (okc (eqb k0) okn)))), rfl, ⟨rfl, rfl, rfl, ⟨rfl, rfl⟩, rfl, rfl, ⟨rfl, rfl⟩, rfl, rfl⟩, ⟨rfl, rfl, rfl, rfl, rfl⟩, rfl, fun _ _ => rfl⟩
    by_cases k1 : K [i] = 1
    · by_cases e0 : M [i] < base
      · refine runs_more base1 (More.of (eat_lo t m base lost tx all N i K M bl B) ?_) (shX t N K M bl B) (wfOut t N i K M bl B m base lost tx all) rfl g110 (by decide) same
        rw [hi0]
        exact ⟨okc (yes (by omega)) (okc (yes (by omega)) (okc (blt hiN) (okc (blt hiN) (okc (neb k0) (okc (eqb k1) (okc (yes e0) (okc (no (by omega)) (okc c2 (okc (no (by omega)) (okc (ble (by omega)) (okc (yes (by omega)) (okc c6' (okc (ble (by omega)) (okc c8' okn)))))))))))))), rfl,
          ⟨rfl, rfl, ⟨rfl, rfl⟩, rfl, hi1⟩, ⟨rfl, rfl, rfl, rfl, rfl⟩, rfl, fun _ _ => rfl⟩
      by_cases e1 : M [i] > base + tx.length
      · refine runs_more base1 (More.of (eat_hi t m base lost tx all N i K M bl B) ?_) (shX t N K M bl B) (wfOut t N i K M bl B m base lost tx all) rfl g110 (by decide) same
        rw [hi0, wr64 (x := base + (tx.length : Int)) (by omega)]
        rw [wr64 (x := base + (tx.length : Int)) (by omega)] at c2
        exact ⟨okc (yes (by omega)) (okc (yes (by omega)) (okc (blt hiN) (okc (blt hiN) (okc (neb k0) (okc (eqb k1) (okc (no e0) (okc (yes e1) (okc (no (by omega)) (okc c2 (okc (no (by omega)) (okc (ble (by omega)) (okc (yes (by omega)) (okc c6' (okc (ble (by omega)) (okc c8' okn))))))))))))))), rfl,
          ⟨rfl, rfl, ⟨rfl, rfl⟩, rfl, hi1⟩, ⟨rfl, rfl, rfl, rfl, rfl⟩, rfl, fun _ _ => rfl⟩
      · obtain ⟨d, hd⟩ : ∃ d : Nat, (d : Int) = M [i] - base := ⟨(M [i] - base).toNat, by omega⟩
        have hdl : d ≤ tx.length := by omega
        have I' := inv_drop I d hdl hlo hhi (by omega)
        obtain ⟨d2, d6⟩ := inv_conds I' (by omega)
        refine runs_more base1 (More.of (eat_ok t m base lost tx all N i K M bl B (base + d) (tx.drop d) d) ?_) (shX t N K M bl B) (wfOut t N i K M bl B m base lost tx all) rfl g110 (by decide)
          (out_loop t N K M bl B hN hbl hB hM k (i + 1) m (base + d) lost (tx.drop d) all (by omega) I' (by omega))
        rw [hi0, show IntKind.i64.wrap (M [i] - base) = (d : Int) by rw [wr64 (by omega)]; omega, show IntKind.i64.wrap (base + (d : Int)) = base + d from wr64 (by omega), Int.toNat_natCast, sum_one, bytes_drop tx d hdl]
        rw [List.length_drop] at d2
        exact ⟨okc (yes (by omega)) (okc (yes (by omega)) (okc (blt hiN) (okc (blt hiN) (okc (neb k0) (okc (eqb k1) (okc (no e0) (okc (no (by rw [wr64 (by omega)]; exact e1)) (okc (ble (by omega)) (okc (yes (by omega)) (okc (no (by omega)) (okc d2 (okc (no (by omega)) (okc (ble (by omega)) (okc (yes (by omega)) (okc d6 (okc (ble (by omega)) (okc (no (by simp; omega)) okn))))))))))))))))), rfl,
          ⟨rfl, rfl, ⟨rfl, rfl⟩, rfl, hi1⟩, ⟨rfl, rfl, rfl, ⟨rfl, rfl⟩, by simp⟩, by simp; omega, fun q _ => by simp [List.getD_eq_getElem?_getD]⟩
    by_cases k2 : K [i] = 2
    · by_cases r0 : M [i] ≥ 1
      · by_cases r1 : M [i] ≤ 1000
        · obtain ⟨d, hd⟩ : ∃ d : Nat, d = tx.length - (M [i]).toNat := ⟨_, rfl⟩
          have hdl : d ≤ tx.length := by omega
          have hx : (if (0 : Int) > IntKind.i64.wrap ((tx.length : Int) - M [i]) then (0 : Int) else IntKind.i64.wrap ((tx.length : Int) - M [i])) = (d : Int) := by
            rw [wr64 (by omega)]
            split <;> omega
          have I' := inv_drop I d hdl r0 r1 (by omega)
          obtain ⟨d2, d6⟩ := inv_conds I' (by omega)
          refine runs_more base1 (More.of (rs_ok t m base lost tx all N i K M bl B (M [i]) (base + d) (IntKind.i64.wrap (lost + d)) (tx.drop d) d) ?_) (shX t N K M bl B) (wfOut t N i K M bl B m base lost tx all) rfl g110 (by decide)
            (out_loop t N K M bl B hN hbl hB hM k (i + 1) (M [i]) (base + d) (IntKind.i64.wrap (lost + d)) (tx.drop d) all (by omega) I' (by omega))
          rw [hi0, hx, show IntKind.i64.wrap (base + (d : Int)) = base + d from wr64 (by omega), Int.toNat_natCast, sum_one, bytes_drop tx d hdl]
          rw [List.length_drop] at d2
          exact ⟨okc (yes (by omega)) (okc (yes (by omega)) (okc (blt hiN) (okc (blt hiN) (okc (neb k0) (okc (neb k1) (okc (eqb k2) (okc (yes r0) (okc (by simp [r1]) (okc (ble (by omega)) (okc (yes (by omega)) (okc (no (by omega)) (okc d2 (okc (no (by omega)) (okc (ble (by omega)) (okc (yes (by omega)) (okc d6 (okc (ble (by omega)) (okc (no (by simp; omega)) okn)))))))))))))))))), rfl,
            ⟨rfl, rfl, ⟨rfl, rfl⟩, rfl, hi1⟩, ⟨rfl, rfl, rfl, ⟨rfl, rfl⟩, by simp⟩, by simp; omega, fun q _ => by simp [List.getD_eq_getElem?_getD]⟩
        · refine runs_more base1 (More.of (rs_hi t m base lost tx all N i K M bl B) ?_) (shX t N K M bl B) (wfOut t N i K M bl B m base lost tx all) rfl g110 (by decide) same
          rw [hi0]
          exact ⟨okc (yes (by omega)) (okc (yes (by omega)) (okc (blt hiN) (okc (blt hiN) (okc (neb k0) (okc (neb k1) (okc (eqb k2) (okc (yes r0) (okc (by simp; omega) (okc (no (by omega)) (okc c2 (okc (no (by omega)) (okc (ble (by omega)) (okc (yes (by omega)) (okc c6' (okc (ble (by omega)) (okc c8' okn)))))))))))))))), rfl,
            ⟨rfl, rfl, ⟨rfl, rfl⟩, rfl, hi1⟩, ⟨rfl, rfl, rfl, rfl, rfl⟩, rfl, fun _ _ => rfl⟩
      · refine runs_more base1 (More.of (rs_lo t m base lost tx all N i K M bl B) ?_) (shX t N K M bl B) (wfOut t N i K M bl B m base lost tx all) rfl g110 (by decide) same
        rw [hi0]
        exact ⟨okc (yes (by omega)) (okc (yes (by omega)) (okc (blt hiN) (okc (blt hiN) (okc (neb k0) (okc (neb k1) (okc (eqb k2) (okc (no r0) (okc (no (by omega)) (okc c2 (okc (no (by omega)) (okc (ble (by omega)) (okc (yes (by omega)) (okc c6' (okc (ble (by omega)) (okc c8' okn))))))))))))))), rfl,
          ⟨rfl, rfl, ⟨rfl, rfl⟩, rfl, hi1⟩, ⟨rfl, rfl, rfl, rfl, rfl⟩, rfl, fun _ _ => rfl⟩
    · refine runs_more base1 (More.of (o_other t m base lost tx all N i K M bl B) ?_) (shX t N K M bl B) (wfOut t N i K M bl B m base lost tx all) rfl g110 (by decide) same
      rw [hi0]
      exact ⟨okc (yes (by omega)) (okc (yes (by omega)) (okc (blt hiN) (okc (blt hiN) (okc (neb k0) (okc (neb k1) (okc (neb k2) (okc (no (by omega)) (okc c2 (okc (no (by omega)) (okc (ble (by omega)) (okc (yes (by omega)) (okc c6' (okc (ble (by omega)) (okc c8' okn)))))))))))))), rfl,
        ⟨rfl, rfl, ⟨rfl, rfl⟩, rfl, hi1⟩, ⟨rfl, rfl, rfl, rfl, rfl⟩, rfl, fun _ _ => rfl⟩

theorem law_runs (t : List UInt8) (most : Int) (N : Nat) (K M : Ix → Int) (bl : Ix → Nat) (B : Ix → Int) (hB : ∀ i, i < N → ∀ j, j < bl [i] → 0 ≤ B [i, j] ∧ B [i, j] < 256)
    (hM : ∀ i, i < N → -9223372036854775808 ≤ M [i] ∧ M [i] < 9223372036854775808) :
    RunsTo Tryd.prog 4 [.code (bodyOf Tryd.f4)] (envOf [.v (.vi .i64 fun _ => most), actV N] 109) (Sx.look (X4 t N K M bl B ++ [])) 110 YES (Sx.look []) 200 := by
  have wf : wfState 110 (envOf [.v (.vi .i64 fun _ => most), actV N] 109) (X4 t N K M bl B ++ []) = true := by kernel_rfl
  cases hlong : longB N bl with
  | true => exact runs_last base1 (Ends.of (b_long t most N K M bl B) ⟨okc (beqT rfl) (okc hlong okn), rfl, trivial⟩) wf rfl g110 (by decide)
  | false =>
    obtain ⟨hN, hbl⟩ := longB_no hlong
    by_cases h1 : most ≥ 1
    · by_cases h2 : most ≤ 1000
      · exact runs_more base1 (More.of (b_start t most N K M bl B) ⟨okc (beqT rfl) (okc hlong (okc (yes h1) (okc (by simp [h2]) okn))), rfl, ⟨rfl, rfl, ⟨rfl, rfl⟩, rfl, rfl⟩, ⟨rfl, rfl, rfl, rfl⟩, rfl⟩) (shX t N K M bl B) wf rfl g110 (by decide)
          (out_loop t N K M bl B hN hbl hB hM N 0 most 0 0 [] [] (by omega) ⟨h1, h2, by omega, rfl, rfl, by simp; omega⟩ (by simp))
      · exact runs_last base1 (Ends.of (b_hi t most N K M bl B) ⟨okc (beqT rfl) (okc hlong (okc (yes h1) (okc (by simp; omega) okn))), rfl, trivial⟩) wf rfl g110 (by decide)
    · exact runs_last base1 (Ends.of (b_lo t most N K M bl B) ⟨okc (beqT rfl) (okc hlong (okc (no h1) okn)), rfl, trivial⟩) wf rfl g110 (by decide)

end Go.Proofs.YtdmkdmaofgjelaaDoor
