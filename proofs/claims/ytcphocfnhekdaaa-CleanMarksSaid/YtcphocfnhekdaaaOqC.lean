/- Cleaning: the law CleanMarks, joined. -/
import Derived.Test.YtcphocfnhekdaaaOnC
set_option linter.unusedSimpArgs false
set_option linter.unusedVariables false
set_option maxRecDepth 100000
namespace Go.Proofs.Ytcphocfnhekdaaa
open Go.Sx CleanR
section
variable (mk : Nat → Bool) (cd op : Nat) (body : List UInt8) (df bh : Bool) (i : Nat) (c : UInt8)
theorem st_n0 (h : c.toNat = 255) : stepM mk (fun _ => false) (⟨0, cd, op, body⟩, df, bh) i c = (⟨1, cd, op, body⟩, (df || mk i), bh) := by
  obtain rfl : c = 255 := u8eq h
  simp [stepM, feed, M0]
theorem st_n1s (h : c.toNat = 250) : stepM mk (fun _ => false) (⟨1, cd, op, body⟩, df, bh) i c = (⟨3, cd, op, body⟩, (df || mk i), bh) := by
  obtain rfl : c = 250 := u8eq h
  simp [stepM, feed, M0]
theorem st_n1v (h : 251 ≤ c.toNat ∧ c.toNat ≤ 254) : stepM mk (fun _ => false) (⟨1, cd, op, body⟩, df, bh) i c = (⟨2, c.toNat, 0, []⟩, (df || mk i), bh) := by
  have n1 : c ≠ 255 := u8ne (by show c.toNat ≠ 255; omega)
  have n2 : c ≠ 250 := u8ne (by show c.toNat ≠ 250; omega)
  simp [stepM, feed, M0, n1, n2, h.1, h.2]
theorem st_n3  : stepM mk (fun _ => false) (⟨3, cd, op, body⟩, df, bh) i c = (⟨4, 0, c.toNat, []⟩, (df || mk i), bh) := by
  simp [stepM, feed, M0]
theorem st_n4e (h : c.toNat = 255) : stepM mk (fun _ => false) (⟨4, cd, op, body⟩, df, bh) i c = (⟨5, cd, op, body⟩, (df || mk i), bh) := by
  obtain rfl : c = 255 := u8eq h
  simp [stepM, feed, M0]
theorem st_n4 (h : c.toNat ≠ 255) : stepM mk (fun _ => false) (⟨4, cd, op, body⟩, df, bh) i c = (⟨4, cd, op, body ++ [c]⟩, (df || mk i), bh) := by
  have n1 : c ≠ 255 := u8ne h
  simp [stepM, feed, M0, n1]
theorem st_n5e (h : c.toNat = 255) : stepM mk (fun _ => false) (⟨5, cd, op, body⟩, df, bh) i c = (⟨4, cd, op, body ++ [255]⟩, (df || mk i), bh) := by
  obtain rfl : c = 255 := u8eq h
  simp [stepM, feed, M0]
theorem st_cP (h : c.toNat < 250) (h2 : c.toNat ≠ 242) : stepM mk (fun _ => false) (⟨1, cd, op, body⟩, df, bh) i c = (M0, (df || mk i), bh) := by
  have n1 : c ≠ 255 := u8ne (by show c.toNat ≠ 255; omega)
  have n2 : c ≠ 250 := u8ne (by show c.toNat ≠ 250; omega)
  have n3 : ¬ (251 ≤ c.toNat ∧ c.toNat ≤ 254) := by omega
  simp [stepM, feed, M0, n1, n2, n3, h2]
theorem st_cM (h : c.toNat = 242) : stepM mk (fun _ => false) (⟨1, cd, op, body⟩, df, bh) i c = (M0, false, bh) := by
  obtain rfl : c = 242 := u8eq h
  simp [stepM, feed, M0]
theorem st_cV  : stepM mk (fun _ => false) (⟨2, cd, op, body⟩, df, bh) i c = (M0, (df || mk i), bh) := by
  simp [stepM, feed, M0]
theorem st_cS (h : c.toNat = 240) : stepM mk (fun _ => false) (⟨5, cd, op, body⟩, df, bh) i c = (M0, (df || mk i), bh) := by
  obtain rfl : c = 240 := u8eq h
  simp [stepM, feed, M0]
theorem st_cB (h : c.toNat ≠ 255) (h2 : c.toNat ≠ 240) : stepM mk (fun _ => false) (⟨5, cd, op, body⟩, df, bh) i c = (M0, (df || mk i), bh) := by
  have n1 : c ≠ 255 := u8ne h
  have n2 : c ≠ 240 := u8ne h2
  simp [stepM, feed, M0, n1, n2]
theorem st_d0d (h : c.toNat ≠ 255) (hd : (df || mk i) = true) : stepM mk (fun _ => false) (⟨0, cd, op, body⟩, df, bh) i c = (M0, true, bh) := by
  have n1 : c ≠ 255 := u8ne h
  simp [stepM, feed, M0, n1, hd]
theorem st_d0s (h : c.toNat ≠ 255) (hd : df = false) (hm : mk i = false) : stepM mk (fun _ => false) (⟨0, cd, op, body⟩, df, bh) i c = (M0, false, (c.toNat == 13)) := by
  have n1 : c ≠ 255 := u8ne h
  simp [stepM, feed, M0, n1, hd, hm]
theorem st_d1d (h : c.toNat = 255) (hd : (df || mk i) = true) : stepM mk (fun _ => false) (⟨1, cd, op, body⟩, df, bh) i c = (M0, true, bh) := by
  obtain rfl : c = 255 := u8eq h
  simp [stepM, feed, M0, hd]
theorem st_d1s (h : c.toNat = 255) (hd : df = false) (hm : mk i = false) : stepM mk (fun _ => false) (⟨1, cd, op, body⟩, df, bh) i c = (M0, false, false) := by
  obtain rfl : c = 255 := u8eq h
  simp [stepM, feed, M0, hd, hm]
end
theorem rdL (N : Nat) (B : Ix → Int) (p q : Nat) (bs : List UInt8) (hN : N ≤ 200) (hp : p ≤ 200) (hq : q ≤ N) (hlen : bs.length = N) (hB : ∀ i, i < N → B [i] = ((bs.getD i 0).toNat : Int))
    (next : ∀ (m : CleanR.M) (df bh : Bool), (m, df, bh) = stM (fun j => j == p) (fun _ => false) (M0, false, false) 0 (bs.take q) → RunsTo Try.prog 4 (headOf Try.f4 0) (envAt Try.f4.ntmps ([(0, vL 100 1 N), (7, vN (p : Nat)), (8, vN (q : Nat)), (9, vP 121), (10, vB df), (46, vL 100 1 q), (47, vN (q : Nat)), (48, vN (q : Nat))])) (Sx.look (rB 100 N B ++ (clE 121 124 m.st m.code m.opt m.body bh df))) 110 YES (Sx.look []) 60000) :
    ∀ (k i : Nat) (m : CleanR.M) (df bh : Bool), i + k = q → m.body.length ≤ i → m.code < 256 → m.opt < 256 → m.st ≤ 5 → stM (fun j => j == p) (fun _ => false) (m, df, bh) i ((bs.drop i).take k) = stM (fun j => j == p) (fun _ => false) (M0, false, false) 0 (bs.take q) → RunsTo Try.prog 4 (headOf Try.f4 0) (envAt Try.f4.ntmps ([(0, vL 100 1 N), (7, vN (p : Nat)), (8, vN (q : Nat)), (9, vP 121), (10, vB df), (46, vL 100 1 q), (47, vN (q : Nat)), (48, vN (i : Nat))])) (Sx.look (rB 100 N B ++ (clE 121 124 m.st m.code m.opt m.body bh df))) 110 YES (Sx.look []) 60000 := by
  intro k
  induction k with
  | zero =>
    intro i m df bh hi hl hcd hop hst heq
    rw [show i = q by omega]
    exact next m df bh (by rw [← heq]; simp [CleanR.stM])
  | succ k ih =>
    intro i m df bh hi hl hcd hop hst heq
    have hi' : i < q := by omega
    have hd := drop_at bs (i := i) (by omega)
    have hb := hB i (by omega)
    generalize bs.getD i 0 = c at hd hb
    rw [hd, List.take_succ_cons] at heq
    simp only [CleanR.stM] at heq
    have hc := c.toNat_lt
    have hl2 : m.body.length ≤ 200 := by omega
    obtain ⟨st, cd, op, body⟩ := m
    simp only at hl hl2 hcd hop hst
    rcases (by omega : st = 0 ∨ st = 1 ∨ st = 2 ∨ st = 3 ∨ st = 4 ∨ st = 5) with rfl | rfl | rfl | rfl | rfl | rfl
    · by_cases h : c.toNat = 255
      · rw [st_n0 (fun j => j == p) cd op body df bh i c h] at heq
        exact rn0 N B p q cd op body bh df i c hi' hq hN hp hl2 hb hc hcd hop h (ih (i + 1) (⟨1, cd, op, body⟩ : CleanR.M) (df || (i == p)) bh (by omega) (by first | omega | (simp only [M0, List.length_append, List.length_cons, List.length_nil]; omega)) (by first | omega | (simp only [M0]; omega)) (by first | omega | (simp only [M0]; omega)) (by first | omega | (simp only [M0]; omega)) heq)
      · cases hdf : (df || (i == p)) with
        | true =>
          rw [st_d0d (fun j => j == p) cd op body df bh i c h hdf] at heq
          exact rd0d N B p q cd op body bh df i c hi' hq hN hp hl2 hb hc hcd hop h hdf (ih (i + 1) (M0 : CleanR.M) true bh (by omega) (by first | omega | (simp only [M0, List.length_append, List.length_cons, List.length_nil]; omega)) (by first | omega | (simp only [M0]; omega)) (by first | omega | (simp only [M0]; omega)) (by first | omega | (simp only [M0]; omega)) heq)
        | false =>
          obtain ⟨hd1, hm1⟩ := Bool.or_eq_false_iff.1 hdf
          rw [st_d0s (fun j => j == p) cd op body df bh i c h hd1 hm1] at heq
          exact rd0s N B p q cd op body bh df i c hi' hq hN hp hl2 hb hc hcd hop h hd1 hm1 (ih (i + 1) (M0 : CleanR.M) false (c.toNat == 13) (by omega) (by first | omega | (simp only [M0, List.length_append, List.length_cons, List.length_nil]; omega)) (by first | omega | (simp only [M0]; omega)) (by first | omega | (simp only [M0]; omega)) (by first | omega | (simp only [M0]; omega)) heq)
    · by_cases h : c.toNat = 255
      · cases hdf : (df || (i == p)) with
        | true =>
          rw [st_d1d (fun j => j == p) cd op body df bh i c h hdf] at heq
          exact rd1d N B p q cd op body bh df i c hi' hq hN hp hl2 hb hc hcd hop h hdf (ih (i + 1) (M0 : CleanR.M) true bh (by omega) (by first | omega | (simp only [M0, List.length_append, List.length_cons, List.length_nil]; omega)) (by first | omega | (simp only [M0]; omega)) (by first | omega | (simp only [M0]; omega)) (by first | omega | (simp only [M0]; omega)) heq)
        | false =>
          obtain ⟨hd1, hm1⟩ := Bool.or_eq_false_iff.1 hdf
          rw [st_d1s (fun j => j == p) cd op body df bh i c h hd1 hm1] at heq
          exact rd1s N B p q cd op body bh df i c hi' hq hN hp hl2 hb hc hcd hop h hd1 hm1 (ih (i + 1) (M0 : CleanR.M) false false (by omega) (by first | omega | (simp only [M0, List.length_append, List.length_cons, List.length_nil]; omega)) (by first | omega | (simp only [M0]; omega)) (by first | omega | (simp only [M0]; omega)) (by first | omega | (simp only [M0]; omega)) heq)
      by_cases h2 : c.toNat = 250
      · rw [st_n1s (fun j => j == p) cd op body df bh i c h2] at heq
        exact rn1s N B p q cd op body bh df i c hi' hq hN hp hl2 hb hc hcd hop h2 (ih (i + 1) (⟨3, cd, op, body⟩ : CleanR.M) (df || (i == p)) bh (by omega) (by first | omega | (simp only [M0, List.length_append, List.length_cons, List.length_nil]; omega)) (by first | omega | (simp only [M0]; omega)) (by first | omega | (simp only [M0]; omega)) (by first | omega | (simp only [M0]; omega)) heq)
      by_cases h3 : 251 ≤ c.toNat
      · have h4 : 251 ≤ c.toNat ∧ c.toNat ≤ 254 := by omega
        rw [st_n1v (fun j => j == p) cd op body df bh i c h4] at heq
        exact rn1v N B p q cd op body bh df i c hi' hq hN hp hl2 hb hc hcd hop h4 (ih (i + 1) (⟨2, c.toNat, 0, []⟩ : CleanR.M) (df || (i == p)) bh (by omega) (by first | omega | (simp only [M0, List.length_append, List.length_cons, List.length_nil]; omega)) (by first | omega | (simp only [M0]; omega)) (by first | omega | (simp only [M0]; omega)) (by first | omega | (simp only [M0]; omega)) heq)
      by_cases h5 : c.toNat = 242
      · rw [st_cM (fun j => j == p) cd op body df bh i c h5] at heq
        exact rcM N B p q cd op body bh df i c hi' hq hN hp hl2 hb hc hcd hop h5 (ih (i + 1) (M0 : CleanR.M) false bh (by omega) (by first | omega | (simp only [M0, List.length_append, List.length_cons, List.length_nil]; omega)) (by first | omega | (simp only [M0]; omega)) (by first | omega | (simp only [M0]; omega)) (by first | omega | (simp only [M0]; omega)) heq)
      · have h6 : c.toNat < 250 := by omega
        rw [st_cP (fun j => j == p) cd op body df bh i c h6 h5] at heq
        exact rcP N B p q cd op body bh df i c hi' hq hN hp hl2 hb hc hcd hop h6 h5 (ih (i + 1) (M0 : CleanR.M) (df || (i == p)) bh (by omega) (by first | omega | (simp only [M0, List.length_append, List.length_cons, List.length_nil]; omega)) (by first | omega | (simp only [M0]; omega)) (by first | omega | (simp only [M0]; omega)) (by first | omega | (simp only [M0]; omega)) heq)
    · rw [st_cV (fun j => j == p) cd op body df bh i c] at heq
      exact rcV N B p q cd op body bh df i c hi' hq hN hp hl2 hb hc hcd hop (ih (i + 1) (M0 : CleanR.M) (df || (i == p)) bh (by omega) (by first | omega | (simp only [M0, List.length_append, List.length_cons, List.length_nil]; omega)) (by first | omega | (simp only [M0]; omega)) (by first | omega | (simp only [M0]; omega)) (by first | omega | (simp only [M0]; omega)) heq)
    · rw [st_n3 (fun j => j == p) cd op body df bh i c] at heq
      exact rn3 N B p q cd op body bh df i c hi' hq hN hp hl2 hb hc hcd hop (ih (i + 1) (⟨4, 0, c.toNat, []⟩ : CleanR.M) (df || (i == p)) bh (by omega) (by first | omega | (simp only [M0, List.length_append, List.length_cons, List.length_nil]; omega)) (by first | omega | (simp only [M0]; omega)) (by first | omega | (simp only [M0]; omega)) (by first | omega | (simp only [M0]; omega)) heq)
    · by_cases h : c.toNat = 255
      · rw [st_n4e (fun j => j == p) cd op body df bh i c h] at heq
        exact rn4e N B p q cd op body bh df i c hi' hq hN hp hl2 hb hc hcd hop h (ih (i + 1) (⟨5, cd, op, body⟩ : CleanR.M) (df || (i == p)) bh (by omega) (by first | omega | (simp only [M0, List.length_append, List.length_cons, List.length_nil]; omega)) (by first | omega | (simp only [M0]; omega)) (by first | omega | (simp only [M0]; omega)) (by first | omega | (simp only [M0]; omega)) heq)
      · rw [st_n4 (fun j => j == p) cd op body df bh i c h] at heq
        exact rn4 N B p q cd op body bh df i c hi' hq hN hp hl2 hb hc hcd hop h (ih (i + 1) (⟨4, cd, op, body ++ [c]⟩ : CleanR.M) (df || (i == p)) bh (by omega) (by first | omega | (simp only [M0, List.length_append, List.length_cons, List.length_nil]; omega)) (by first | omega | (simp only [M0]; omega)) (by first | omega | (simp only [M0]; omega)) (by first | omega | (simp only [M0]; omega)) heq)
    · by_cases h : c.toNat = 255
      · rw [st_n5e (fun j => j == p) cd op body df bh i c h] at heq
        exact rn5e N B p q cd op body bh df i c hi' hq hN hp hl2 hb hc hcd hop h (ih (i + 1) (⟨4, cd, op, body ++ [255]⟩ : CleanR.M) (df || (i == p)) bh (by omega) (by first | omega | (simp only [M0, List.length_append, List.length_cons, List.length_nil]; omega)) (by first | omega | (simp only [M0]; omega)) (by first | omega | (simp only [M0]; omega)) (by first | omega | (simp only [M0]; omega)) heq)
      by_cases h2 : c.toNat = 240
      · rw [st_cS (fun j => j == p) cd op body df bh i c h2] at heq
        exact rcS N B p q cd op body bh df i c hi' hq hN hp hl2 hb hc hcd hop h2 (ih (i + 1) (M0 : CleanR.M) (df || (i == p)) bh (by omega) (by first | omega | (simp only [M0, List.length_append, List.length_cons, List.length_nil]; omega)) (by first | omega | (simp only [M0]; omega)) (by first | omega | (simp only [M0]; omega)) (by first | omega | (simp only [M0]; omega)) heq)
      · rw [st_cB (fun j => j == p) cd op body df bh i c h h2] at heq
        exact rcB N B p q cd op body bh df i c hi' hq hN hp hl2 hb hc hcd hop h h2 (ih (i + 1) (M0 : CleanR.M) (df || (i == p)) bh (by omega) (by first | omega | (simp only [M0, List.length_append, List.length_cons, List.length_nil]; omega)) (by first | omega | (simp only [M0]; omega)) (by first | omega | (simp only [M0]; omega)) (by first | omega | (simp only [M0]; omega)) heq)
theorem ot_snoc (T : List Tok) (x : Tok) : ∀ n, n ≤ T.length → otF (tK (T ++ [x])) n = otF (tK T) n
  | 0, _ => rfl
  | n + 1, h => by
    have e : tK (T ++ [x]) [n] = tK T [n] := by simp only [tK, List.headD_cons]; rw [getD_pre T x (by omega)]
    simp only [otF, e, ot_snoc T x n (by omega)]
theorem ot_eq (L : List (Tok × Nat)) : otF (tK (L.map Prod.fst)) (L.map Prod.fst).length = othersL L := by
  suffices h : ∀ n, ∀ L : List (Tok × Nat), L.length = n → otF (tK (L.map Prod.fst)) (L.map Prod.fst).length = othersL L from h _ L rfl
  intro n
  induction n with
  | zero => intro L hL; have : L = [] := List.length_eq_zero_iff.1 hL; subst this; rfl
  | succ n ih =>
    intro L hL
    have hne : L ≠ [] := fun e => by rw [e] at hL; simp at hL
    obtain ⟨A, x, rfl⟩ : ∃ A x, L = A ++ [x] := ⟨L.dropLast, L.getLast hne, (List.dropLast_concat_getLast hne).symm⟩
    have hA : A.length = n := by simpa using hL
    have q := ih A hA
    rw [others_app, ← q, List.map_append, List.map_cons, List.map_nil, List.length_append, List.length_cons, List.length_nil]
    simp only [Nat.zero_add, otF]
    have e : tK (A.map Prod.fst ++ [x.1]) [(A.map Prod.fst).length] = (x.1.kind : Int) := by simp only [tK, List.headD_cons]; rw [getD_last]
    rw [ot_snoc _ _ _ (Nat.le_refl _), e]
    by_cases hk : x.1.kind = 1
    · rw [if_pos (by omega)]; simp [othersL, hk]
    · rw [if_neg (by omega)]; simp [othersL, hk]
theorem has_one (p : Nat) (j : Nat) : hasM (oneU p) 1 (j : Int) = (j == p) := by
  rw [Bool.eq_iff_iff, has_iff]
  constructor
  · rintro ⟨k, hk, e⟩; simp only [oneU] at e; simp; omega
  · intro h; simp at h; exact ⟨0, by omega, by simp only [oneU]; omega⟩
theorem has_two (p q : Nat) (j : Nat) : hasM (twoU p q) 2 (j : Int) = (j == p || j == q) := by
  rw [Bool.eq_iff_iff, has_iff]
  constructor
  · rintro ⟨k, hk, e⟩
    simp only [twoU, upd, List.cons.injEq, and_true] at e
    simp
    split at e
    · right; omega
    · split at e
      · left; omega
      · omega
  · intro h; simp at h
    rcases h with h | h
    · exact ⟨0, by omega, by simp [twoU, upd]; omega⟩
    · exact ⟨1, by omega, by simp [twoU, upd]; omega⟩
section
variable (N : Nat) (B : Ix → Int) (f g : Int)
theorem cm_tail (p q : Nat) (cd op st : Nat) (body : List UInt8) (bh df : Bool) (hN : N ≤ 200) (hB : bndB B N = true) (m : CleanR.M) (hm : m.st = st ∧ m.code = cd ∧ m.opt = op ∧ m.body = body) (hs : (m, df, bh) = stM (fun j => j == p) (fun _ => false) (M0, false, false) 0 ((bytesOf B [] 0 N).take q)) : RunsTo Try.prog 4 (headOf Try.f4 0) (envAt Try.f4.ntmps ([(0, vL 100 1 N), (7, vN (p : Nat)), (8, vN (q : Nat)), (9, vP 121), (10, vB df), (46, vL 100 1 q), (47, vN (q : Nat)), (48, vN (q : Nat))])) (Sx.look (rB 100 N B ++ (clE 121 124 st cd op body bh df))) 110 YES (Sx.look []) 60000 := by
  have k1 : (fun j : Nat => hasM (oneU p) 1 (j : Int)) = fun j => j == p := funext fun j => has_one p j
  have k2 : (fun j : Nat => hasM (twoU p q) 2 (j : Int)) = fun j => (j == p || j == q) := funext fun j => has_two p q j
  have k3 : (fun j : Nat => hasM (fun _ => 0) 0 (j : Int)) = fun _ => false := funext fun j => by simp [hasM, idxF]
  have l1 := clean_len (fun j => j == p) (fun _ => false) (bytesOf B [] 0 N) M0 false false 0
  have l2 := clean_len (fun j => (j == p || j == q)) (fun _ => false) (bytesOf B [] 0 N) M0 false false 0
  have l3 := clean_len (fun _ => false) (fun _ => false) (bytesOf B [] 0 N) M0 false false 0
  rw [bytesOf_len] at l1 l2 l3
  have t1 : alF N 1 B (oneU p) false = (cleanM (fun j => j == p) (fun _ => false) M0 false false 0 (bytesOf B [] 0 N)).map Prod.fst := by unfold alF; rw [k1]
  have t2 : alF N 2 B (twoU p q) false = (cleanM (fun j => (j == p || j == q)) (fun _ => false) M0 false false 0 (bytesOf B [] 0 N)).map Prod.fst := by unfold alF; rw [k2]
  have t3 : alF N 0 B (fun _ => 0) false = (cleanM (fun _ => false) (fun _ => false) M0 false false 0 (bytesOf B [] 0 N)).map Prod.fst := by unfold alF; rw [k3]
  have o1 := others_same (fun j => j == p) (fun _ => false) (fun _ => false) (bytesOf B [] 0 N) (M0, false, false) (M0, false, false) 0 rfl
  have o2 := others_same (fun j => (j == p || j == q)) (fun _ => false) (fun _ => false) (bytesOf B [] 0 N) (M0, false, false) (M0, false, false) 0 rfl
  have hb := clean_body (fun j => j == p) (fun _ => false) (bytesOf B [] 0 N) M0 false false 0 200 (by simp [M0, bytesOf_len]; omega)
  simp only at o1 o2
  rw [← ot_eq, ← ot_eq, ← t1, ← t3] at o1
  rw [← ot_eq, ← ot_eq, ← t2, ← t3] at o2
  have hl1 : (alF N 1 B (oneU p) false).length ≤ 200 := by rw [t1, List.length_map]; omega
  have hl2 : (alF N 2 B (twoU p q) false).length ≤ 200 := by rw [t2, List.length_map]; omega
  have hl3 : (alF N 0 B (fun _ => 0) false).length ≤ 200 := by rw [t3, List.length_map]; omega
  have hbo : ∀ k, ((alF N 1 B (oneU p) false).getD k z0).body.length ≤ 1000 := fun k => by rw [t1]; exact Nat.le_trans (getD_body hb k) (by omega)
  by_cases hx : df = true ∨ p = q
  · have e12 : alF N 1 B (oneU p) false = alF N 2 B (twoU p q) false := by
      rw [t1, t2]
      congr 1
      by_cases hpq : p = q
      · subst hpq; congr 1; funext j; simp
      · have hdf : df = true := hx.resolve_right hpq
        have hs2 : (stM (fun j => j == p) (fun _ => false) (M0, false, false) 0 ((bytesOf B [] 0 N).take (q - 0))).2.1 = true := by rw [Nat.sub_zero, ← hs]; exact hdf
        have := mark_deaf (fun _ => false) (fun j => j == p) (fun j => (j == p || j == q)) q (bytesOf B [] 0 N) (M0, false, false) 0 (by omega) (fun x hx => by simp [hx]) hs2
        exact this
    refine cmX1 N B p q cd op st body bh df q _ _ [] rfl hN hB rfl rfl hl1 hl2 hx (by rw [e12]) ?_
    suffices h : ∀ (k n : Nat), n + k = (alF N 1 B (oneU p) false).length → RunsTo Try.prog 4 (headOf Try.f4 1) (envAt Try.f4.ntmps ([(0, vL 100 1 N), (13, vL 131 5 (alF N 1 B (oneU p) false).length), (14, vL 133 5 (alF N 2 B (twoU p q) false).length), (85, vL 131 5 (alF N 1 B (oneU p) false).length), (86, vN (alF N 1 B (oneU p) false).length), (87, vN (n : Nat))])) (Sx.look (rB 100 N B ++ (toE 131 132 (alF N 1 B (oneU p) false) ++ toE 133 134 (alF N 2 B (twoU p q) false)))) 110 YES (Sx.look []) 60000 from h (alF N 1 B (oneU p) false).length 0 (by omega)
    intro k
    induction k with
    | zero => intro n hn; exact cmE N B _ _ _ n (by omega) hN hB hl1 hl2 rfl hl3 o1 o2
    | succ k ih => intro n hn; exact cmR N B _ _ [] n (by omega) hl1 (by rw [e12]) (by rw [e12]) (hbo n) (ih (n + 1) (by omega))
  · exact cmX0 N B p q cd op st body bh df q _ _ _ rfl hN hB rfl rfl hl1 hl2 ⟨by cases df <;> simp_all, fun e => hx (.inr e)⟩ rfl hl3 o1 o2
theorem md_lt {f : Int} (hN : 0 < N ∧ N ≤ 200) : ∃ p : Nat, IntKind.i64.wrap ((IntKind.u64.wrap f).tmod (IntKind.u64.wrap (N : Int))) = (p : Int) ∧ p < N := by
  have hu : IntKind.u64.wrap (N : Int) = (N : Int) := by simp only [IntKind.wrap, IntKind.bits, IntKind.signed]; simp; omega
  have h0 : 0 ≤ IntKind.u64.wrap f := by
    simp only [IntKind.wrap, IntKind.bits, IntKind.signed]
    simp
    omega
  rw [hu]
  have h1 := Int.tmod_nonneg (N : Int) h0
  have h2 := Int.tmod_lt_of_pos (IntKind.u64.wrap f) (show (0 : Int) < (N : Int) by omega)
  rw [wr64 (by omega)]
  exact ⟨((IntKind.u64.wrap f).tmod (N : Int)).toNat, by omega, by omega⟩
theorem cleanMarks_law (hB : ∀ i, i < N → 0 ≤ B [i] ∧ B [i] < 256) : RunsTo Try.prog 4 [.code (bodyOf Try.f4)] (envOf [vL 100 1 N, vN f, vN g] Try.f4.ntmps) (Sx.look (rB 100 N B ++ ([]))) 110 YES (Sx.look []) 60000 := by
  by_cases h : N = 0 ∨ 200 < N
  · exact cmLong N B f g h
  · have hN : 0 < N ∧ N ≤ 200 := by omega
    obtain ⟨p, hp, hp2⟩ := md_lt N (f := f) hN
    obtain ⟨q, hq, hq2⟩ := md_lt N (f := g) hN
    refine cmStart N B f g p q hN hp hq (by omega) ?_
    have r := rdL N B p q (bytesOf B [] 0 N) (by omega) (by omega) (by omega) (bytesOf_len _ _ _ _) (fun i hi => by have := bytesOf_nat (B := B) (is := []) (st := 0) (n := N) hi (by simpa using hB i hi); simpa using this.symm)
      (fun m df bh hs => cm_tail N B p q m.code m.opt m.st m.body bh df (by omega) (bndB_of hB) m ⟨rfl, rfl, rfl, rfl⟩ hs) q 0 M0 false false (by omega) (by simp [M0]) (by simp [M0]) (by simp [M0]) (by simp [M0]) (by rw [List.drop_zero])
    exact r
end
end Go.Proofs.Ytcphocfnhekdaaa
