/- Cleaning: all tokens that stay. -/
import Derived.Test.YtcphocfnhekdaaaObC
set_option linter.unusedSimpArgs false
set_option linter.unusedVariables false
set_option maxRecDepth 100000
namespace Go.Proofs.Ytcphocfnhekdaaa
open Go.Sx CleanR

theorem u8eq {c k : UInt8} (h : c.toNat = k.toNat) : c = k := UInt8.toNat_inj.1 h
theorem u8ne {c k : UInt8} (h : c.toNat ≠ k.toNat) : c ≠ k := fun e => h (by rw [e])
theorem drop_at (bs : List UInt8) {i : Nat} (h : i < bs.length) : bs.drop i = bs.getD i 0 :: bs.drop (i + 1) := by
  rw [List.drop_eq_getElem_cons h]; simp [List.getD_eq_getElem?_getD, List.getElem?_eq_getElem h]
section
variable (mk rw : Nat → Bool) (cd op : Nat) (body : List UInt8) (df bh : Bool) (i : Nat) (c : UInt8) (r : List UInt8)
theorem m_n0 (h : c.toNat = 255) : cleanM mk rw ⟨0, cd, op, body⟩ df bh i (c :: r) = cleanM mk rw ⟨1, cd, op, body⟩ (df || mk i) bh (i + 1) r := by
  obtain rfl : c = 255 := u8eq h
  simp [cleanM, feed, tk, M0]
theorem m_n1s (h : c.toNat = 250) : cleanM mk rw ⟨1, cd, op, body⟩ df bh i (c :: r) = cleanM mk rw ⟨3, cd, op, body⟩ (df || mk i) bh (i + 1) r := by
  obtain rfl : c = 250 := u8eq h
  simp [cleanM, feed, tk, M0]
theorem m_n1v (h : 251 ≤ c.toNat ∧ c.toNat ≤ 254) : cleanM mk rw ⟨1, cd, op, body⟩ df bh i (c :: r) = cleanM mk rw ⟨2, c.toNat, 0, []⟩ (df || mk i) bh (i + 1) r := by
  have n1 : c ≠ 255 := u8ne (by show c.toNat ≠ 255; omega)
  have n2 : c ≠ 250 := u8ne (by show c.toNat ≠ 250; omega)
  simp [cleanM, feed, tk, M0, n1, n2, h.1, h.2]
theorem m_n3  : cleanM mk rw ⟨3, cd, op, body⟩ df bh i (c :: r) = cleanM mk rw ⟨4, 0, c.toNat, []⟩ (df || mk i) bh (i + 1) r := by
  simp [cleanM, feed, tk, M0]
theorem m_n4e (h : c.toNat = 255) : cleanM mk rw ⟨4, cd, op, body⟩ df bh i (c :: r) = cleanM mk rw ⟨5, cd, op, body⟩ (df || mk i) bh (i + 1) r := by
  obtain rfl : c = 255 := u8eq h
  simp [cleanM, feed, tk, M0]
theorem m_n4 (h : c.toNat ≠ 255) : cleanM mk rw ⟨4, cd, op, body⟩ df bh i (c :: r) = cleanM mk rw ⟨4, cd, op, body ++ [c]⟩ (df || mk i) bh (i + 1) r := by
  have n1 : c ≠ 255 := u8ne h
  simp [cleanM, feed, tk, M0, n1]
theorem m_n5e (h : c.toNat = 255) : cleanM mk rw ⟨5, cd, op, body⟩ df bh i (c :: r) = cleanM mk rw ⟨4, cd, op, body ++ [255]⟩ (df || mk i) bh (i + 1) r := by
  obtain rfl : c = 255 := u8eq h
  simp [cleanM, feed, tk, M0]
theorem m_cP (h : c.toNat < 250) (h2 : c.toNat ≠ 242) : cleanM mk rw ⟨1, cd, op, body⟩ df bh i (c :: r) = (tk 2 c.toNat 0 [], i) :: cleanM mk rw M0 (df || mk i) bh (i + 1) r := by
  have n1 : c ≠ 255 := u8ne (by show c.toNat ≠ 255; omega)
  have n2 : c ≠ 250 := u8ne (by show c.toNat ≠ 250; omega)
  have n3 : ¬ (251 ≤ c.toNat ∧ c.toNat ≤ 254) := by omega
  simp [cleanM, feed, tk, M0, n1, n2, n3, h2]
theorem m_cM (h : c.toNat = 242) : cleanM mk rw ⟨1, cd, op, body⟩ df bh i (c :: r) = (tk 2 242 0 [], i) :: cleanM mk rw M0 false bh (i + 1) r := by
  obtain rfl : c = 242 := u8eq h
  simp [cleanM, feed, tk, M0]
theorem m_cV  : cleanM mk rw ⟨2, cd, op, body⟩ df bh i (c :: r) = (tk 3 cd c.toNat [], i) :: cleanM mk rw M0 (df || mk i) bh (i + 1) r := by
  simp [cleanM, feed, tk, M0]
theorem m_cS (h : c.toNat = 240) : cleanM mk rw ⟨5, cd, op, body⟩ df bh i (c :: r) = (tk 4 cd op body, i) :: cleanM mk rw M0 (df || mk i) bh (i + 1) r := by
  obtain rfl : c = 240 := u8eq h
  simp [cleanM, feed, tk, M0]
theorem m_cB (h : c.toNat ≠ 255) (h2 : c.toNat ≠ 240) : cleanM mk rw ⟨5, cd, op, body⟩ df bh i (c :: r) = (tk 5 c.toNat op [], i) :: cleanM mk rw M0 (df || mk i) bh (i + 1) r := by
  have n1 : c ≠ 255 := u8ne h
  have n2 : c ≠ 240 := u8ne h2
  simp [cleanM, feed, tk, M0, n1, n2]
theorem m_d0d (h : c.toNat ≠ 255) (hd : (df || mk i) = true) : cleanM mk rw ⟨0, cd, op, body⟩ df bh i (c :: r) = cleanM mk rw M0 true bh (i + 1) r := by
  have n1 : c ≠ 255 := u8ne h
  simp [cleanM, feed, tk, M0, n1, hd]
theorem m_d0s (h : c.toNat ≠ 255) (hd : df = false) (hm : mk i = false) (hs : (rw i || (c.toNat != 0 || !bh)) = true) : cleanM mk rw ⟨0, cd, op, body⟩ df bh i (c :: r) = (tk 1 c.toNat 0 [], i) :: cleanM mk rw M0 false (!rw i && c.toNat == 13) (i + 1) r := by
  have n1 : c ≠ 255 := u8ne h
  simp [cleanM, feed, tk, M0, n1, hd, hm, hs]
theorem m_d0g (h : c.toNat = 0) (hr : rw i = false) (hbh : bh = true) (hd : df = false) (hm : mk i = false) : cleanM mk rw ⟨0, cd, op, body⟩ df bh i (c :: r) = cleanM mk rw M0 false false (i + 1) r := by
  obtain rfl : c = 0 := u8eq h
  simp [cleanM, feed, tk, M0, hr, hbh, hd, hm]
theorem m_d1d (h : c.toNat = 255) (hd : (df || mk i) = true) : cleanM mk rw ⟨1, cd, op, body⟩ df bh i (c :: r) = cleanM mk rw M0 true bh (i + 1) r := by
  obtain rfl : c = 255 := u8eq h
  simp [cleanM, feed, tk, M0, hd]
theorem m_d1s (h : c.toNat = 255) (hd : df = false) (hm : mk i = false) : cleanM mk rw ⟨1, cd, op, body⟩ df bh i (c :: r) = (tk 1 255 0 [], i) :: cleanM mk rw M0 false false (i + 1) r := by
  obtain rfl : c = 255 := u8eq h
  simp [cleanM, feed, tk, M0, hd, hm]
end
theorem alL (N M Q : Nat) (B U : Ix → Int) (raw : Bool) (bs : List UInt8) (hN : N ≤ 200) (hQ : Q ≤ 100) (hM : N ≤ M) (hlen : bs.length = N) (hB : ∀ i, i < N → B [i] = ((bs.getD i 0).toNat : Int)) :
    ∀ (k i : Nat) (T : List Tok) (m : CleanR.M) (df bh : Bool), i + k = N → T.length ≤ i → m.body.length ≤ i → m.code < 256 → m.opt < 256 → m.st ≤ 5 → RunsTo Try.prog 12 (headOf Try.f12 0) (envAt Try.f12.ntmps ([(1, vL 61 1 Q), (2, vB raw), (7, vP 101), (8, vL 102 5 (T).length), (15, vL 60 1 N), (16, vN N), (17, vN (i : Nat))])) (Sx.look ((rB 60 M B ++ rI 61 Q U) ++ (clE 101 104 m.st m.code m.opt m.body bh df ++ toE 102 103 T))) 80 (vL 102 5 ((T ++ (cleanM (fun j => hasM U Q (j : Nat)) (fun _ => raw) m df bh i (bs.drop i)).map Prod.fst)).length) (Sx.look (toE 102 103 (T ++ (cleanM (fun j => hasM U Q (j : Nat)) (fun _ => raw) m df bh i (bs.drop i)).map Prod.fst))) 420 := by
  intro k
  induction k with
  | zero =>
    intro i T m df bh hi hT hl hcd hop hst
    rw [show bs.drop i = [] from List.drop_eq_nil_of_le (by omega)]
    simp only [cleanM, List.map_nil, List.append_nil]
    exact alEnd N M Q B U raw T m.st m.code m.opt m.body bh df i (by omega) hN hT
  | succ k ih =>
    intro i T m df bh hi hT hl hcd hop hst
    have hi' : i < N := by omega
    have hd := drop_at bs (i := i) (by omega)
    have hb := hB i hi'
    generalize bs.getD i 0 = c at hd hb
    rw [hd]
    have hc := c.toNat_lt
    have hl2 : m.body.length ≤ 200 := by omega
    have hT2 : T.length ≤ 1000 := by omega
    obtain ⟨st, cd, op, body⟩ := m
    simp only at hl hl2 hcd hop hst
    rcases (by omega : st = 0 ∨ st = 1 ∨ st = 2 ∨ st = 3 ∨ st = 4 ∨ st = 5) with rfl | rfl | rfl | rfl | rfl | rfl
    · by_cases h : c.toNat = 255
      · rw [m_n0 _ _ _ _ _ _ _ _ _ _ h]
        exact n0 N M Q B U raw T cd op body bh df i c hi' hN hQ hT2 hl2 hb hc hcd hop hM h _ _ (ih (i + 1) T (⟨1, cd, op, body⟩ : CleanR.M) (df || hasM U Q (i : Nat)) bh (by omega) (by first | omega | (simp only [List.length_append, List.length_cons, List.length_nil]; omega)) (by first | omega | (simp only [M0, List.length_append, List.length_cons, List.length_nil]; omega)) (by first | omega | (simp only [M0]; omega)) (by first | omega | (simp only [M0]; omega)) (by first | omega | (simp only [M0]; omega)))
      · cases hdf : (df || hasM U Q (i : Nat)) with
        | true =>
          rw [m_d0d _ _ _ _ _ _ _ _ _ _ h hdf]
          exact d0d N M Q B U raw T cd op body bh df i c hi' hN hQ hT2 hl2 hb hc hcd hop hM h hdf _ _ (ih (i + 1) T (M0 : CleanR.M) true bh (by omega) (by first | omega | (simp only [List.length_append, List.length_cons, List.length_nil]; omega)) (by first | omega | (simp only [M0, List.length_append, List.length_cons, List.length_nil]; omega)) (by first | omega | (simp only [M0]; omega)) (by first | omega | (simp only [M0]; omega)) (by first | omega | (simp only [M0]; omega)))
        | false =>
          obtain ⟨hd1, hm1⟩ := Bool.or_eq_false_iff.1 hdf
          cases hs : (raw || (c.toNat != 0 || !bh)) with
          | true =>
            rw [m_d0s _ _ _ _ _ _ _ _ _ _ h hd1 hm1 hs, List.map_cons, List.append_cons]
            exact d0s N M Q B U raw T cd op body bh df i c hi' hN hQ hT2 hl2 hb hc hcd hop hM h hd1 hm1 hs _ _ (ih (i + 1) (T ++ [tk 1 c.toNat 0 []]) (M0 : CleanR.M) false (!raw && c.toNat == 13) (by omega) (by first | omega | (simp only [List.length_append, List.length_cons, List.length_nil]; omega)) (by first | omega | (simp only [M0, List.length_append, List.length_cons, List.length_nil]; omega)) (by first | omega | (simp only [M0]; omega)) (by first | omega | (simp only [M0]; omega)) (by first | omega | (simp only [M0]; omega)))
          | false =>
            simp only [Bool.or_eq_false_iff, bne_eq_false_iff_eq, Bool.not_eq_eq_eq_not, Bool.not_false] at hs
            rw [m_d0g _ _ _ _ _ _ _ _ _ _ hs.2.1 hs.1 hs.2.2 hd1 hm1]
            exact d0g N M Q B U raw T cd op body bh df i c hi' hN hQ hT2 hl2 hb hc hcd hop hM hs.2.1 hs.1 hs.2.2 hd1 hm1 _ _ (ih (i + 1) T (M0 : CleanR.M) false false (by omega) (by first | omega | (simp only [List.length_append, List.length_cons, List.length_nil]; omega)) (by first | omega | (simp only [M0, List.length_append, List.length_cons, List.length_nil]; omega)) (by first | omega | (simp only [M0]; omega)) (by first | omega | (simp only [M0]; omega)) (by first | omega | (simp only [M0]; omega)))
    · by_cases h : c.toNat = 255
      · cases hdf : (df || hasM U Q (i : Nat)) with
        | true =>
          rw [m_d1d _ _ _ _ _ _ _ _ _ _ h hdf]
          exact d1d N M Q B U raw T cd op body bh df i c hi' hN hQ hT2 hl2 hb hc hcd hop hM h hdf _ _ (ih (i + 1) T (M0 : CleanR.M) true bh (by omega) (by first | omega | (simp only [List.length_append, List.length_cons, List.length_nil]; omega)) (by first | omega | (simp only [M0, List.length_append, List.length_cons, List.length_nil]; omega)) (by first | omega | (simp only [M0]; omega)) (by first | omega | (simp only [M0]; omega)) (by first | omega | (simp only [M0]; omega)))
        | false =>
          obtain ⟨hd1, hm1⟩ := Bool.or_eq_false_iff.1 hdf
          rw [m_d1s _ _ _ _ _ _ _ _ _ _ h hd1 hm1, List.map_cons, List.append_cons]
          exact d1s N M Q B U raw T cd op body bh df i c hi' hN hQ hT2 hl2 hb hc hcd hop hM h hd1 hm1 _ _ (ih (i + 1) (T ++ [tk 1 255 0 []]) (M0 : CleanR.M) false false (by omega) (by first | omega | (simp only [List.length_append, List.length_cons, List.length_nil]; omega)) (by first | omega | (simp only [M0, List.length_append, List.length_cons, List.length_nil]; omega)) (by first | omega | (simp only [M0]; omega)) (by first | omega | (simp only [M0]; omega)) (by first | omega | (simp only [M0]; omega)))
      by_cases h2 : c.toNat = 250
      · rw [m_n1s _ _ _ _ _ _ _ _ _ _ h2]
        exact n1s N M Q B U raw T cd op body bh df i c hi' hN hQ hT2 hl2 hb hc hcd hop hM h2 _ _ (ih (i + 1) T (⟨3, cd, op, body⟩ : CleanR.M) (df || hasM U Q (i : Nat)) bh (by omega) (by first | omega | (simp only [List.length_append, List.length_cons, List.length_nil]; omega)) (by first | omega | (simp only [M0, List.length_append, List.length_cons, List.length_nil]; omega)) (by first | omega | (simp only [M0]; omega)) (by first | omega | (simp only [M0]; omega)) (by first | omega | (simp only [M0]; omega)))
      by_cases h3 : 251 ≤ c.toNat
      · have h4 : 251 ≤ c.toNat ∧ c.toNat ≤ 254 := by omega
        rw [m_n1v _ _ _ _ _ _ _ _ _ _ h4]
        exact n1v N M Q B U raw T cd op body bh df i c hi' hN hQ hT2 hl2 hb hc hcd hop hM h4 _ _ (ih (i + 1) T (⟨2, c.toNat, 0, []⟩ : CleanR.M) (df || hasM U Q (i : Nat)) bh (by omega) (by first | omega | (simp only [List.length_append, List.length_cons, List.length_nil]; omega)) (by first | omega | (simp only [M0, List.length_append, List.length_cons, List.length_nil]; omega)) (by first | omega | (simp only [M0]; omega)) (by first | omega | (simp only [M0]; omega)) (by first | omega | (simp only [M0]; omega)))
      by_cases h5 : c.toNat = 242
      · rw [m_cM _ _ _ _ _ _ _ _ _ _ h5, List.map_cons, List.append_cons]
        exact cM N M Q B U raw T cd op body bh df i c hi' hN hQ hT2 hl2 hb hc hcd hop hM h5 _ _ (ih (i + 1) (T ++ [tk 2 242 0 []]) (M0 : CleanR.M) false bh (by omega) (by first | omega | (simp only [List.length_append, List.length_cons, List.length_nil]; omega)) (by first | omega | (simp only [M0, List.length_append, List.length_cons, List.length_nil]; omega)) (by first | omega | (simp only [M0]; omega)) (by first | omega | (simp only [M0]; omega)) (by first | omega | (simp only [M0]; omega)))
      · have h6 : c.toNat < 250 := by omega
        rw [m_cP _ _ _ _ _ _ _ _ _ _ h6 h5, List.map_cons, List.append_cons]
        exact cP N M Q B U raw T cd op body bh df i c hi' hN hQ hT2 hl2 hb hc hcd hop hM h6 h5 _ _ (ih (i + 1) (T ++ [tk 2 c.toNat 0 []]) (M0 : CleanR.M) (df || hasM U Q (i : Nat)) bh (by omega) (by first | omega | (simp only [List.length_append, List.length_cons, List.length_nil]; omega)) (by first | omega | (simp only [M0, List.length_append, List.length_cons, List.length_nil]; omega)) (by first | omega | (simp only [M0]; omega)) (by first | omega | (simp only [M0]; omega)) (by first | omega | (simp only [M0]; omega)))
    · rw [m_cV _ _ _ _ _ _ _ _ _ _, List.map_cons, List.append_cons]
      exact cV N M Q B U raw T cd op body bh df i c hi' hN hQ hT2 hl2 hb hc hcd hop hM _ _ (ih (i + 1) (T ++ [tk 3 cd c.toNat []]) (M0 : CleanR.M) (df || hasM U Q (i : Nat)) bh (by omega) (by first | omega | (simp only [List.length_append, List.length_cons, List.length_nil]; omega)) (by first | omega | (simp only [M0, List.length_append, List.length_cons, List.length_nil]; omega)) (by first | omega | (simp only [M0]; omega)) (by first | omega | (simp only [M0]; omega)) (by first | omega | (simp only [M0]; omega)))
    · rw [m_n3 _ _ _ _ _ _ _ _ _ _]
      exact n3 N M Q B U raw T cd op body bh df i c hi' hN hQ hT2 hl2 hb hc hcd hop hM _ _ (ih (i + 1) T (⟨4, 0, c.toNat, []⟩ : CleanR.M) (df || hasM U Q (i : Nat)) bh (by omega) (by first | omega | (simp only [List.length_append, List.length_cons, List.length_nil]; omega)) (by first | omega | (simp only [M0, List.length_append, List.length_cons, List.length_nil]; omega)) (by first | omega | (simp only [M0]; omega)) (by first | omega | (simp only [M0]; omega)) (by first | omega | (simp only [M0]; omega)))
    · by_cases h : c.toNat = 255
      · rw [m_n4e _ _ _ _ _ _ _ _ _ _ h]
        exact n4e N M Q B U raw T cd op body bh df i c hi' hN hQ hT2 hl2 hb hc hcd hop hM h _ _ (ih (i + 1) T (⟨5, cd, op, body⟩ : CleanR.M) (df || hasM U Q (i : Nat)) bh (by omega) (by first | omega | (simp only [List.length_append, List.length_cons, List.length_nil]; omega)) (by first | omega | (simp only [M0, List.length_append, List.length_cons, List.length_nil]; omega)) (by first | omega | (simp only [M0]; omega)) (by first | omega | (simp only [M0]; omega)) (by first | omega | (simp only [M0]; omega)))
      · rw [m_n4 _ _ _ _ _ _ _ _ _ _ h]
        exact n4 N M Q B U raw T cd op body bh df i c hi' hN hQ hT2 hl2 hb hc hcd hop hM h _ _ (ih (i + 1) T (⟨4, cd, op, body ++ [c]⟩ : CleanR.M) (df || hasM U Q (i : Nat)) bh (by omega) (by first | omega | (simp only [List.length_append, List.length_cons, List.length_nil]; omega)) (by first | omega | (simp only [M0, List.length_append, List.length_cons, List.length_nil]; omega)) (by first | omega | (simp only [M0]; omega)) (by first | omega | (simp only [M0]; omega)) (by first | omega | (simp only [M0]; omega)))
    · by_cases h : c.toNat = 255
      · rw [m_n5e _ _ _ _ _ _ _ _ _ _ h]
        exact n5e N M Q B U raw T cd op body bh df i c hi' hN hQ hT2 hl2 hb hc hcd hop hM h _ _ (ih (i + 1) T (⟨4, cd, op, body ++ [255]⟩ : CleanR.M) (df || hasM U Q (i : Nat)) bh (by omega) (by first | omega | (simp only [List.length_append, List.length_cons, List.length_nil]; omega)) (by first | omega | (simp only [M0, List.length_append, List.length_cons, List.length_nil]; omega)) (by first | omega | (simp only [M0]; omega)) (by first | omega | (simp only [M0]; omega)) (by first | omega | (simp only [M0]; omega)))
      by_cases h2 : c.toNat = 240
      · rw [m_cS _ _ _ _ _ _ _ _ _ _ h2, List.map_cons, List.append_cons]
        exact cS N M Q B U raw T cd op body bh df i c hi' hN hQ hT2 hl2 hb hc hcd hop hM h2 _ _ (ih (i + 1) (T ++ [tk 4 cd op body]) (M0 : CleanR.M) (df || hasM U Q (i : Nat)) bh (by omega) (by first | omega | (simp only [List.length_append, List.length_cons, List.length_nil]; omega)) (by first | omega | (simp only [M0, List.length_append, List.length_cons, List.length_nil]; omega)) (by first | omega | (simp only [M0]; omega)) (by first | omega | (simp only [M0]; omega)) (by first | omega | (simp only [M0]; omega)))
      · rw [m_cB _ _ _ _ _ _ _ _ _ _ h h2, List.map_cons, List.append_cons]
        exact cB N M Q B U raw T cd op body bh df i c hi' hN hQ hT2 hl2 hb hc hcd hop hM h h2 _ _ (ih (i + 1) (T ++ [tk 5 c.toNat op []]) (M0 : CleanR.M) (df || hasM U Q (i : Nat)) bh (by omega) (by first | omega | (simp only [List.length_append, List.length_cons, List.length_nil]; omega)) (by first | omega | (simp only [M0, List.length_append, List.length_cons, List.length_nil]; omega)) (by first | omega | (simp only [M0]; omega)) (by first | omega | (simp only [M0]; omega)) (by first | omega | (simp only [M0]; omega)))
def alF (N Q : Nat) (B U : Ix → Int) (raw : Bool) : List Tok := ((cleanM (fun j => hasM U Q (j : Nat)) (fun _ => raw) M0 false false 0 (bytesOf B [] 0 N)).map Prod.fst)
theorem alI (N M Q : Nat) (B U : Ix → Int) (raw : Bool) (hN : N ≤ 200) (hQ : Q ≤ 100) (hM : N ≤ M) (hB : bndB B N = true) : RunsTo Try.prog 12 [.code (bodyOf Try.f12)] (envOf [vL 60 1 N, vL 61 1 Q, vB raw] Try.f12.ntmps) (Sx.look ((rB 60 M B ++ rI 61 Q U) ++ ([]))) 80 (vL 102 5 ((alF N Q B U raw)).length) (Sx.look (toE 102 103 (alF N Q B U raw))) 420 := by
  have q := alL N M Q B U raw (bytesOf B [] 0 N) hN hQ hM (bytesOf_len _ _ _ _) (fun i hi => by have h0 := bndB_ok hB hi; have := bytesOf_nat (B := B) (is := []) (st := 0) (n := N) hi (by simpa using h0); simpa using this.symm) N 0 [] M0 false false (by omega) (by simp) (by simp [M0]) (by simp [M0]) (by simp [M0]) (by simp [M0])
  rw [List.drop_zero, List.nil_append] at q
  show RunsTo Try.prog 12 [.code (bodyOf Try.f12)] (envOf [vL 60 1 N, vL 61 1 Q, vB raw] Try.f12.ntmps) (Sx.look ((rB 60 M B ++ rI 61 Q U) ++ ([]))) 80 (vL 102 5 (((cleanM (fun j => hasM U Q (j : Nat)) (fun _ => raw) M0 false false 0 (bytesOf B [] 0 N)).map Prod.fst)).length) (Sx.look (toE 102 103 ((cleanM (fun j => hasM U Q (j : Nat)) (fun _ => raw) M0 false false 0 (bytesOf B [] 0 N)).map Prod.fst))) 420
  exact alStart N M Q B U raw _ _ q
def alP : PC := { args := [.v (.vl 60 1 0), .v (.vl 61 1 2), .v (.vb 4)], heap := [⟨60, false, 1, .ta 9 (.vi .u8 1)⟩, ⟨61, false, 1, .ta 2 (.vi .i64 3)⟩], gs := [], G := 0, tp := 999, n := 80, n' := 420, cond := fun e => (decide (eN e 0 ≤ 200) && decide (eN e 2 ≤ 100)) && (decide (eN e 0 ≤ eN e 9) && bndB (eI e 1) (eN e 0)), v := fun e => vL 102 5 (alF (eN e 0) (eN e 2) (eI e 1) (eI e 3) (eB e 4 [])).length, post := fun e => toE 102 103 (alF (eN e 0) (eN e 2) (eI e 1) (eI e 3) (eB e 4 [])) }
theorem alP_pc : PC.Runs Try.prog 12 Try.f12 (bodyOf Try.f12) alP := ⟨Try.func12, by kernel_rfl, (fun g hg => by first | (cases hg; done) | (revert g; show ∀ g ∈ ([] : List Nat), g < 0; decide)), fun e H hc => by
  have hc : ((decide (eN e 0 ≤ 200) && decide (eN e 2 ≤ 100)) && (decide (eN e 0 ≤ eN e 9) && bndB (eI e 1) (eN e 0))) = true := hc
  try simp only [Bool.and_eq_true, decide_eq_true_eq, Nat.beq_eq] at hc
  exact alI (eN e 0) (eN e 9) (eN e 2) (eI e 1) (eI e 3) (eB e 4 []) hc.1.1 hc.1.2 hc.2.1 hc.2.2⟩
end Go.Proofs.Ytcphocfnhekdaaa
