/- Cleaning: the document's cleaning, joined. -/
import Derived.Test.YtcphocfnhekdaaaOeC
set_option linter.unusedSimpArgs false
set_option linter.unusedVariables false
set_option maxRecDepth 100000
namespace Go.Proofs.Ytcphocfnhekdaaa
open Go.Sx CleanR

/-- The places behind each other, and codes of one byte. -/
abbrev mq (F : Ix → Bool) : Nat → Bool := fun j => F [j]
def okT (MM : Nat) : Nat → List (Tok × Nat) → Prop
  | _, [] => True
  | a, (t, e) :: r => a ≤ e ∧ e < MM ∧ t.code < 256 ∧ okT MM (e + 1) r
theorem sub_code (o : Nat) : ∀ (k : Nat) (r b : List UInt8) (i : Nat), r.length ≤ k → (subR o r b i).1.code < 256 := by
  intro k
  induction k with
  | zero =>
    intro r b i h
    have : r = [] := List.length_eq_zero_iff.1 (by omega)
    subst this
    simp [subR, z0]
  | succ k ih =>
    intro r b i h
    match r with
    | [] => simp [subR, z0]
    | c :: r =>
      by_cases hc : c = 255
      · subst hc
        match r with
        | [] => simp [subR, z0]
        | d :: r' =>
          obtain ⟨e1, e2, e3⟩ := sbL_x o b i d r'
          by_cases h1 : d = 255
          · rw [e1 h1]; exact ih _ _ _ (by simp at h; omega)
          · by_cases h2 : d = 240
            · rw [e2 h2]; simp [tk]
            · rw [e3 h1 h2]; exact d.toNat_lt
      · rw [sub_n _ _ _ _ hc]; exact ih _ _ _ (by simp at h; omega)
theorem next_code (s : List UInt8) : (nextR s).1.code < 256 := by
  match s with
  | [] => simp [nextR, z0]
  | [c] =>
    by_cases h : c = 255
    · subst h; simp [nextR, z0]
    · simp [nextR, h]; exact c.toNat_lt
  | c :: d :: r =>
    by_cases h : c = 255
    · subst h
      by_cases h1 : d = 255
      · subst h1; simp [nextR]
      · by_cases h2 : d.toNat < 250
        · simp [nextR, h1, h2]; exact d.toNat_lt
        · match r with
          | [] => simp [nextR, h1, h2, z0]
          | x :: r3 =>
            by_cases h3 : 250 < d.toNat
            · simp [nextR, h1, h2, h3]; exact d.toNat_lt
            · simp [nextR, h1, h2, h3]; exact sub_code _ _ _ _ _ (Nat.le_refl _)
    · rw [nextR.eq_def]; simp [h]; exact c.toNat_lt
theorem toks_ok : ∀ (k a : Nat) (s : List UInt8) (MM : Nat), a + s.length ≤ MM → okT MM a (toksR k a s)
  | 0, _, _, _, _ => trivial
  | k + 1, a, s, MM, h => by
    simp only [toksR]
    by_cases hz : (nextR s).2 = 0
    · rw [if_pos hz]; trivial
    · rw [if_neg hz]
      have hl := next_le s hz
      refine ⟨by omega, by omega, next_code s, ?_⟩
      rw [show a + (nextR s).2 - 1 + 1 = a + (nextR s).2 by omega]
      exact toks_ok k _ _ MM (by rw [List.length_drop]; omega)
theorem okT_at {MM : Nat} : ∀ (TT : List (Tok × Nat)) (a : Nat), okT MM a TT → ∀ i, i < TT.length → (if i = 0 then a else lastA TT i) ≤ enA TT i ∧ enA TT i < MM ∧ (tkA TT i).code < 256
  | [], _, _, i, hi => by simp at hi
  | (t, e) :: r, a, h, 0, hi => ⟨h.1, h.2.1, h.2.2.1⟩
  | (t, e) :: r, a, h, i + 1, hi => by
    have q := okT_at r (e + 1) h.2.2.2 i (by simpa using hi)
    have e1 : enA ((t, e) :: r) (i + 1) = enA r i := by simp [enA]
    have e2 : tkA ((t, e) :: r) (i + 1) = tkA r i := by simp [tkA]
    rw [e1, e2, if_neg (by omega)]
    refine ⟨?_, q.2⟩
    have q1 := q.1
    cases i with
    | zero => simpa [lastA, enA] using q1
    | succ i => rw [if_neg (by omega)] at q1; simpa [lastA, enA] using q1
theorem fst_get (TT : List (Tok × Nat)) (i : Nat) : (TT.map Prod.fst).getD i z0 = tkA TT i := by
  simp only [tkA, List.getD_eq_getElem?_getD, List.getElem?_map]; cases TT[i]? <;> rfl
theorem snd_get (TT : List (Tok × Nat)) (i : Nat) : lN (TT.map Prod.snd) [i] = (enA TT i : Int) := by
  simp only [lN, enA, List.headD_cons, List.getD_eq_getElem?_getD, List.getElem?_map]; cases TT[i]? <;> rfl
theorem dataA_len (mk rw : Nat → Bool) (TT : List (Tok × Nat)) : ∀ n, (dataA mk rw TT n).length ≤ n
  | 0 => by simp [dataA]
  | n + 1 => by
    have := dataA_len mk rw TT n
    simp only [dataA]; split <;> simp <;> omega
/-- What stays, ahead of layer 8: kind by kind. -/
def s1A (TT : List (Tok × Nat)) : Nat → Ix → Bool
  | 0 => fun _ => false
  | n + 1 => upd (s1A TT n) [n] (decide ((tkA TT n).kind ≠ 1))
/-- What stays behind j of the data. -/
def s2A (mk rw : Nat → Bool) (TT : List (Tok × Nat)) (N : Nat) : Nat → Ix → Bool
  | 0 => s1A TT N
  | j + 1 => upd (s2A mk rw TT N j) [((dataA mk rw TT N).map fun x => x.2.2).getD j 0] (!gnB ((dataA mk rw TT N).map fun x => UInt8.ofNat x.1) (fun is => ((dataA mk rw TT N).map fun x => x.2.1).getD (is.headD 0) false) j)
def out3 (TT : List (Tok × Nat)) (S : Ix → Bool) : Nat → List (Tok × Nat)
  | 0 => []
  | n + 1 => if S [n] = true then out3 TT S n ++ [(tkA TT n, enA TT n)] else out3 TT S n
theorem out3_len (TT : List (Tok × Nat)) (S : Ix → Bool) : ∀ n, (out3 TT S n).length ≤ n
  | 0 => by simp [out3]
  | n + 1 => by
    have := out3_len TT S n
    simp only [out3]; split <;> simp <;> omega
section
variable (NM NR : Nat) (MK RW : Ix → Bool) (TT : List (Tok × Nat)) (v : SV) (L' : HF)
theorem c1L (S : Ix → Bool) (d : List UInt8) (F : List Bool) (P : List Nat) (i : Nat) (hi : i < TT.length) (hT : TT.length ≤ 1000) (hd : d.length ≤ 1000) (hF : F.length ≤ 1000) (hP : P.length ≤ 1000) (he : enA TT i < NM) (he2 : enA TT i < 900) :
    ∀ (k last : Nat) (df : Bool), last + k = enA TT i + 1 → RunsTo Try.prog 8 (headOf Try.f8 1) (envAt Try.f8.ntmps ([(1, vL 61 1 NM), (2, vL 62 1 NR), (8, vL 102 5 (TT.map Prod.fst).length), (9, vL 103 1 (TT.map Prod.fst).length), (10, vL 104 1 (TT.map Prod.fst).length), (11, vS (d)), (12, vL 105 1 (F).length), (13, vL 106 1 (P).length), (14, vN ((enA TT i + 1) : Nat)), (15, vB (df || anyK (mq MK) k last)), (16, vN (i : Nat)), (17, vP 111), (33, vL 102 5 (TT.map Prod.fst).length), (34, vN (TT.map Prod.fst).length), (35, vN (i : Nat))])) (Sx.look ((rbE 61 NM MK ++ rbE 62 NR RW) ++ (oE 111 ((TT.map Prod.fst).getD i z0) ++ ((dE 102 (TT.map Prod.fst) ++ [⟨103, true, none, 1, .ta (TT.map Prod.fst).length (.vi .i64 (lN (TT.map Prod.snd)))⟩]) ++ (wbE 104 (TT.map Prod.fst).length (S) ++ (fE 105 (F) ++ nE 106 (P))))))) 80 v L' 400 → RunsTo Try.prog 8 (headOf Try.f8 1) (envAt Try.f8.ntmps ([(1, vL 61 1 NM), (2, vL 62 1 NR), (8, vL 102 5 (TT.map Prod.fst).length), (9, vL 103 1 (TT.map Prod.fst).length), (10, vL 104 1 (TT.map Prod.fst).length), (11, vS (d)), (12, vL 105 1 (F).length), (13, vL 106 1 (P).length), (14, vN (last : Nat)), (15, vB df), (16, vN (i : Nat)), (17, vP 111), (33, vL 102 5 (TT.map Prod.fst).length), (34, vN (TT.map Prod.fst).length), (35, vN (i : Nat))])) (Sx.look ((rbE 61 NM MK ++ rbE 62 NR RW) ++ (oE 111 ((TT.map Prod.fst).getD i z0) ++ ((dE 102 (TT.map Prod.fst) ++ [⟨103, true, none, 1, .ta (TT.map Prod.fst).length (.vi .i64 (lN (TT.map Prod.snd)))⟩]) ++ (wbE 104 (TT.map Prod.fst).length (S) ++ (fE 105 (F) ++ nE 106 (P))))))) 80 v L' 400 := by
  intro k
  induction k with
  | zero => intro last df hk next; simpa [anyK, show last = enA TT i + 1 by omega] using next
  | succ k ih =>
    intro last df hk next
    refine c1s NM NR MK RW (TT.map Prod.fst) (TT.map Prod.snd) S d F P i last df (by simpa using hi) (by simp) (by simpa using hT) hd hF hP (by omega) (by rw [snd_get]; omega) (by omega) v L' ?_
    exact ih (last + 1) _ (by omega) (by simpa [anyK, Bool.or_assoc] using next)
theorem c0S (MM : Nat) (hok : okT MM 0 TT) (hM1 : MM ≤ NM) (hM2 : MM ≤ NR) (hM3 : MM ≤ 900) (hT : TT.length ≤ 900) (i : Nat) (hi : i < TT.length) (next : RunsTo Try.prog 8 (headOf Try.f8 0) (envAt Try.f8.ntmps ([(1, vL 61 1 NM), (2, vL 62 1 NR), (8, vL 102 5 (TT.map Prod.fst).length), (9, vL 103 1 (TT.map Prod.fst).length), (10, vL 104 1 (TT.map Prod.fst).length), (11, vS (((dataA (mq MK) (mq RW) TT (i + 1)).map fun x => UInt8.ofNat x.1))), (12, vL 105 1 (((dataA (mq MK) (mq RW) TT (i + 1)).map fun x => x.2.1)).length), (13, vL 106 1 (((dataA (mq MK) (mq RW) TT (i + 1)).map fun x => x.2.2)).length), (14, vN ((lastA TT (i + 1)) : Nat)), (15, vB (dfA (mq MK) TT (i + 1))), (33, vL 102 5 (TT.map Prod.fst).length), (34, vN (TT.map Prod.fst).length), (35, vN ((i + 1) : Nat))])) (Sx.look ((rbE 61 NM MK ++ rbE 62 NR RW) ++ ((dE 102 (TT.map Prod.fst) ++ [⟨103, true, none, 1, .ta (TT.map Prod.fst).length (.vi .i64 (lN (TT.map Prod.snd)))⟩]) ++ (wbE 104 (TT.map Prod.fst).length (s1A TT (i + 1)) ++ (fE 105 (((dataA (mq MK) (mq RW) TT (i + 1)).map fun x => x.2.1)) ++ nE 106 (((dataA (mq MK) (mq RW) TT (i + 1)).map fun x => x.2.2))))))) 80 v L' 400) : RunsTo Try.prog 8 (headOf Try.f8 0) (envAt Try.f8.ntmps ([(1, vL 61 1 NM), (2, vL 62 1 NR), (8, vL 102 5 (TT.map Prod.fst).length), (9, vL 103 1 (TT.map Prod.fst).length), (10, vL 104 1 (TT.map Prod.fst).length), (11, vS (((dataA (mq MK) (mq RW) TT i).map fun x => UInt8.ofNat x.1))), (12, vL 105 1 (((dataA (mq MK) (mq RW) TT i).map fun x => x.2.1)).length), (13, vL 106 1 (((dataA (mq MK) (mq RW) TT i).map fun x => x.2.2)).length), (14, vN ((lastA TT i) : Nat)), (15, vB (dfA (mq MK) TT i)), (33, vL 102 5 (TT.map Prod.fst).length), (34, vN (TT.map Prod.fst).length), (35, vN (i : Nat))])) (Sx.look ((rbE 61 NM MK ++ rbE 62 NR RW) ++ ((dE 102 (TT.map Prod.fst) ++ [⟨103, true, none, 1, .ta (TT.map Prod.fst).length (.vi .i64 (lN (TT.map Prod.snd)))⟩]) ++ (wbE 104 (TT.map Prod.fst).length (s1A TT i) ++ (fE 105 (((dataA (mq MK) (mq RW) TT i).map fun x => x.2.1)) ++ nE 106 (((dataA (mq MK) (mq RW) TT i).map fun x => x.2.2))))))) 80 v L' 400 := by
  obtain ⟨q1, q2, q3⟩ := okT_at TT 0 hok i hi
  have ql : lastA TT i ≤ enA TT i := by
    cases i with
    | zero => simp [lastA]
    | succ i => rwa [if_neg (by omega)] at q1
  have dl := dataA_len (mq MK) (mq RW) TT i
  have d1 : ((dataA (mq MK) (mq RW) TT i).map fun x => UInt8.ofNat x.1).length ≤ 1000 := by rw [List.length_map]; omega
  have d2 : ((dataA (mq MK) (mq RW) TT i).map fun x => x.2.1).length ≤ 1000 := by rw [List.length_map]; omega
  have d3 : ((dataA (mq MK) (mq RW) TT i).map fun x => x.2.2).length ≤ 1000 := by rw [List.length_map]; omega
  have hi' : i < (TT.map Prod.fst).length := by simpa using hi
  have hE' : (TT.map Prod.snd).length = (TT.map Prod.fst).length := by simp
  have hT' : (TT.map Prod.fst).length ≤ 1000 := by rw [List.length_map]; omega
  have hgt : lN (TT.map Prod.snd) [i] < ((enA TT i + 1 : Nat) : Int) := by rw [snd_get]; omega
  have ht := fst_get TT i
  refine c1 NM NR _ _ _ _ _ _ _ _ i (lastA TT i) _ hi' hE' hT' d1 d2 d3 (by omega) v L' ?_
  refine c1L NM NR MK RW TT v L' _ _ _ _ i hi (by omega) d1 d2 d3 (by omega) (by omega) (enA TT i + 1 - lastA TT i) (lastA TT i) _ (by omega) ?_
  have eL : lastA TT (i + 1) = enA TT i + 1 := rfl
  rw [eL] at next
  by_cases hk : (tkA TT i).kind = 1
  · have hDM : isDM (tkA TT i) = false := by simp [isDM, hk]
    have eS : s1A TT (i + 1) = upd (s1A TT i) [i] false := by simp [s1A, hk]
    have eD : dfA (mq MK) TT (i + 1) = (dfA (mq MK) TT i || anyK (mq MK) (enA TT i + 1 - lastA TT i) (lastA TT i)) := by simp [dfA, hDM]
    rw [eS, eD] at next
    cases hdf : (dfA (mq MK) TT i || anyK (mq MK) (enA TT i + 1 - lastA TT i) (lastA TT i)) with
    | true =>
      have hh : heardA (mq MK) TT i = false := by simp only [heardA, hdf]; simp
      rw [show dataA (mq MK) (mq RW) TT (i + 1) = dataA (mq MK) (mq RW) TT i by simp only [dataA, hh]; rfl] at next
      rw [hdf] at next
      exact cDeaf NM NR _ _ _ _ _ _ _ _ i _ true _ hi' hE' hT' d1 d2 d3 (by omega) hgt ht hk rfl v L' next
    | false =>
      have hh : heardA (mq MK) TT i = true := by simp only [heardA, hdf, hk]; rfl
      rw [show dataA (mq MK) (mq RW) TT (i + 1) = dataA (mq MK) (mq RW) TT i ++ [((tkA TT i).code, mq RW (enA TT i), i)] by simp only [dataA, hh]; rfl] at next
      simp only [List.map_append, List.map_cons, List.map_nil] at next
      rw [hdf] at next
      exact cHear NM NR _ _ _ _ _ _ _ _ i _ false _ (enA TT i) hi' hE' hT' d1 d2 d3 (by omega) hgt ht (snd_get TT i) (by omega) q3 hk rfl v L' next
  · have hh : heardA (mq MK) TT i = false := by simp [heardA, hk]
    rw [show dataA (mq MK) (mq RW) TT (i + 1) = dataA (mq MK) (mq RW) TT i by simp only [dataA, hh]; rfl] at next
    rw [show s1A TT (i + 1) = upd (s1A TT i) [i] true by simp [s1A, hk]] at next
    by_cases hDM : (tkA TT i).kind = 2 ∧ (tkA TT i).code = 242
    · rw [show dfA (mq MK) TT (i + 1) = false by simp [dfA, isDM, hDM.1, hDM.2]] at next
      exact cDM NM NR _ _ _ _ _ _ _ _ i _ _ _ hi' hE' hT' d1 d2 d3 (by omega) hgt ht hDM.1 hDM.2 v L' next
    · have hd2 : isDM (tkA TT i) = false := by
        simp only [isDM, Bool.and_eq_false_iff, beq_eq_false_iff_ne]
        by_cases a : (tkA TT i).kind = 2
        · exact .inr (fun b => hDM ⟨a, b⟩)
        · exact .inl a
      rw [show dfA (mq MK) TT (i + 1) = (dfA (mq MK) TT i || anyK (mq MK) (enA TT i + 1 - lastA TT i) (lastA TT i)) by simp [dfA, hd2]] at next
      exact cOth NM NR _ _ _ _ _ _ _ _ i _ _ _ hi' hE' hT' d1 d2 d3 (by omega) hgt ht hk hDM v L' next
theorem c0L (MM : Nat) (hok : okT MM 0 TT) (hM1 : MM ≤ NM) (hM2 : MM ≤ NR) (hM3 : MM ≤ 900) (hT : TT.length ≤ 900) (next : RunsTo Try.prog 8 (headOf Try.f8 0) (envAt Try.f8.ntmps ([(1, vL 61 1 NM), (2, vL 62 1 NR), (8, vL 102 5 (TT.map Prod.fst).length), (9, vL 103 1 (TT.map Prod.fst).length), (10, vL 104 1 (TT.map Prod.fst).length), (11, vS (((dataA (mq MK) (mq RW) TT TT.length).map fun x => UInt8.ofNat x.1))), (12, vL 105 1 (((dataA (mq MK) (mq RW) TT TT.length).map fun x => x.2.1)).length), (13, vL 106 1 (((dataA (mq MK) (mq RW) TT TT.length).map fun x => x.2.2)).length), (14, vN ((lastA TT TT.length) : Nat)), (15, vB (dfA (mq MK) TT TT.length)), (33, vL 102 5 (TT.map Prod.fst).length), (34, vN (TT.map Prod.fst).length), (35, vN (TT.length : Nat))])) (Sx.look ((rbE 61 NM MK ++ rbE 62 NR RW) ++ ((dE 102 (TT.map Prod.fst) ++ [⟨103, true, none, 1, .ta (TT.map Prod.fst).length (.vi .i64 (lN (TT.map Prod.snd)))⟩]) ++ (wbE 104 (TT.map Prod.fst).length (s1A TT TT.length) ++ (fE 105 (((dataA (mq MK) (mq RW) TT TT.length).map fun x => x.2.1)) ++ nE 106 (((dataA (mq MK) (mq RW) TT TT.length).map fun x => x.2.2))))))) 80 v L' 400) : ∀ (k i : Nat), i + k = TT.length → RunsTo Try.prog 8 (headOf Try.f8 0) (envAt Try.f8.ntmps ([(1, vL 61 1 NM), (2, vL 62 1 NR), (8, vL 102 5 (TT.map Prod.fst).length), (9, vL 103 1 (TT.map Prod.fst).length), (10, vL 104 1 (TT.map Prod.fst).length), (11, vS (((dataA (mq MK) (mq RW) TT i).map fun x => UInt8.ofNat x.1))), (12, vL 105 1 (((dataA (mq MK) (mq RW) TT i).map fun x => x.2.1)).length), (13, vL 106 1 (((dataA (mq MK) (mq RW) TT i).map fun x => x.2.2)).length), (14, vN ((lastA TT i) : Nat)), (15, vB (dfA (mq MK) TT i)), (33, vL 102 5 (TT.map Prod.fst).length), (34, vN (TT.map Prod.fst).length), (35, vN (i : Nat))])) (Sx.look ((rbE 61 NM MK ++ rbE 62 NR RW) ++ ((dE 102 (TT.map Prod.fst) ++ [⟨103, true, none, 1, .ta (TT.map Prod.fst).length (.vi .i64 (lN (TT.map Prod.snd)))⟩]) ++ (wbE 104 (TT.map Prod.fst).length (s1A TT i) ++ (fE 105 (((dataA (mq MK) (mq RW) TT i).map fun x => x.2.1)) ++ nE 106 (((dataA (mq MK) (mq RW) TT i).map fun x => x.2.2))))))) 80 v L' 400 := by
  intro k
  induction k with
  | zero => intro i hi; rw [show i = TT.length by omega]; exact next
  | succ k ih => intro i hi; exact c0S NM NR MK RW TT v L' MM hok hM1 hM2 hM3 hT i (by omega) (ih (i + 1) (by omega))
theorem place_ok (mk rw : Nat → Bool) (TT : List (Tok × Nat)) : ∀ n, ∀ x ∈ dataA mk rw TT n, x.2.2 < n
  | 0, x, h => by simp [dataA] at h
  | n + 1, x, h => by
    simp only [dataA] at h
    split at h
    · rcases List.mem_append.1 h with h | h
      · have := place_ok mk rw TT n x h; omega
      · simp at h; subst h; simp
    · have := place_ok mk rw TT n x h; omega
theorem place_get (mk rw : Nat → Bool) (TT : List (Tok × Nat)) (n j : Nat) (h : j < (dataA mk rw TT n).length) : ((dataA mk rw TT n).map fun x => x.2.2).getD j 0 < n := by
  have : ((dataA mk rw TT n).map fun x => x.2.2).getD j 0 = ((dataA mk rw TT n)[j]).2.2 := by
    rw [List.getD_eq_getElem?_getD, List.getElem?_map, List.getElem?_eq_getElem h]; rfl
  rw [this]; exact place_ok mk rw TT n _ (List.getElem_mem h)
theorem c2L (hT : TT.length ≤ 900) (next : RunsTo Try.prog 8 (headOf Try.f8 2) (envAt Try.f8.ntmps ([(8, vL 102 5 (TT.map Prod.fst).length), (9, vL 103 1 (TT.map Prod.fst).length), (10, vL 104 1 (TT.map Prod.fst).length), (11, vS ((dataA (mq MK) (mq RW) TT TT.length).map fun x => UInt8.ofNat x.1)), (12, vL 105 1 ((dataA (mq MK) (mq RW) TT TT.length).map fun x => x.2.1).length), (13, vL 106 1 ((dataA (mq MK) (mq RW) TT TT.length).map fun x => x.2.2).length), (99, vN ((dataA (mq MK) (mq RW) TT TT.length).map fun x => x.2.2).length), (100, vN ((dataA (mq MK) (mq RW) TT TT.length).length : Nat))])) (Sx.look ((rbE 61 NM MK ++ rbE 62 NR RW) ++ ((dE 102 (TT.map Prod.fst) ++ [⟨103, true, none, 1, .ta (TT.map Prod.fst).length (.vi .i64 (lN (TT.map Prod.snd)))⟩]) ++ (wbE 104 (TT.map Prod.fst).length (s2A (mq MK) (mq RW) TT TT.length (dataA (mq MK) (mq RW) TT TT.length).length) ++ (fE 105 (((dataA (mq MK) (mq RW) TT TT.length).map fun x => x.2.1)) ++ nE 106 (((dataA (mq MK) (mq RW) TT TT.length).map fun x => x.2.2))))))) 80 v L' 400) : ∀ (k j : Nat), j + k = (dataA (mq MK) (mq RW) TT TT.length).length → RunsTo Try.prog 8 (headOf Try.f8 2) (envAt Try.f8.ntmps ([(8, vL 102 5 (TT.map Prod.fst).length), (9, vL 103 1 (TT.map Prod.fst).length), (10, vL 104 1 (TT.map Prod.fst).length), (11, vS ((dataA (mq MK) (mq RW) TT TT.length).map fun x => UInt8.ofNat x.1)), (12, vL 105 1 ((dataA (mq MK) (mq RW) TT TT.length).map fun x => x.2.1).length), (13, vL 106 1 ((dataA (mq MK) (mq RW) TT TT.length).map fun x => x.2.2).length), (99, vN ((dataA (mq MK) (mq RW) TT TT.length).map fun x => x.2.2).length), (100, vN (j : Nat))])) (Sx.look ((rbE 61 NM MK ++ rbE 62 NR RW) ++ ((dE 102 (TT.map Prod.fst) ++ [⟨103, true, none, 1, .ta (TT.map Prod.fst).length (.vi .i64 (lN (TT.map Prod.snd)))⟩]) ++ (wbE 104 (TT.map Prod.fst).length (s2A (mq MK) (mq RW) TT TT.length j) ++ (fE 105 (((dataA (mq MK) (mq RW) TT TT.length).map fun x => x.2.1)) ++ nE 106 (((dataA (mq MK) (mq RW) TT TT.length).map fun x => x.2.2))))))) 80 v L' 400 := by
  intro k
  have dl := dataA_len (mq MK) (mq RW) TT TT.length
  induction k with
  | zero => intro j hj; rw [show j = (dataA (mq MK) (mq RW) TT TT.length).length by omega]; exact next
  | succ k ih =>
    intro j hj
    exact c2s NM NR _ _ _ _ _ _ _ _ j _ (by rw [List.length_map]; omega) (by rw [List.length_map]; omega) rfl (by rw [List.length_map]; exact place_get (mq MK) (mq RW) TT _ j (by omega)) (by simp) (by simp) v L' (ih (j + 1) (by omega))
omit v L' in
theorem c3L (S : Ix → Bool) (hT : TT.length ≤ 900) : ∀ (k n : Nat), n + k = TT.length → RunsTo Try.prog 8 (headOf Try.f8 3) (envAt Try.f8.ntmps ([(9, vL 103 1 (TT.map Prod.fst).length), (10, vL 104 1 (TT.map Prod.fst).length), (19, vL 107 5 (((out3 TT S n).map Prod.fst)).length), (20, vL 108 1 (((out3 TT S n).map Prod.snd)).length), (117, vL 102 5 (TT.map Prod.fst).length), (118, vN (TT.map Prod.fst).length), (119, vN (n : Nat))])) (Sx.look ((rbE 61 NM MK ++ rbE 62 NR RW) ++ ((dE 102 (TT.map Prod.fst) ++ [⟨103, true, none, 1, .ta (TT.map Prod.fst).length (.vi .i64 (lN (TT.map Prod.snd)))⟩]) ++ (wbE 104 (TT.map Prod.fst).length S ++ (dE 107 (((out3 TT S n).map Prod.fst)) ++ nE 108 (((out3 TT S n).map Prod.snd))))))) 80 (.tup [(false, .vl 102 (fun _ => 0) 5 [] (fun _ => (((out3 TT S TT.length).map Prod.fst)).length)), (false, .vl 103 (fun _ => 0) 1 [] (fun _ => (((out3 TT S TT.length).map Prod.snd)).length))]) (Sx.look (dE 102 ((out3 TT S TT.length).map Prod.fst) ++ nE 103 ((out3 TT S TT.length).map Prod.snd))) 400 := by
  intro k
  induction k with
  | zero =>
    intro n hn
    have hn : n = TT.length := by omega
    subst hn
    exact c3e NM NR _ _ _ _ S _ _ _ (by simp) (by rw [List.length_map]; omega)
  | succ k ih =>
    intro n hn
    have ol := out3_len TT S n
    have q := ih (n + 1) (by omega)
    have hk : n < (TT.map Prod.fst).length := by rw [List.length_map]; omega
    have hT' : (TT.map Prod.fst).length ≤ 1000 := by rw [List.length_map]; omega
    have o1 : ((out3 TT S n).map Prod.fst).length ≤ 1000 := by rw [List.length_map]; omega
    have o2 : ((out3 TT S n).map Prod.snd).length ≤ 1000 := by rw [List.length_map]; omega
    cases hS : S [n] with
    | true =>
      rw [show out3 TT S (n + 1) = out3 TT S n ++ [(tkA TT n, enA TT n)] by simp only [out3, hS, if_true]] at q
      simp only [List.map_append, List.map_cons, List.map_nil] at q
      rw [← fst_get TT n] at q
      exact c3y NM NR _ _ _ _ S _ _ n (enA TT n) hk hT' o1 o2 (snd_get TT n) hS _ _ q
    | false =>
      rw [show out3 TT S (n + 1) = out3 TT S n by simp [out3, hS]] at q
      exact c3n NM NR _ _ _ _ S _ _ n hk hT' o1 o2 hS _ _ q
end
theorem s1_get (TT : List (Tok × Nat)) : ∀ n i, s1A TT n [i] = (decide (i < n) && decide ((tkA TT i).kind ≠ 1))
  | 0, i => by simp [s1A]
  | n + 1, i => by
    simp only [s1A, upd]
    by_cases h : i = n
    · subst h; simp
    · rw [if_neg (by simpa using h), s1_get TT n i]
      rw [show decide (i < n + 1) = decide (i < n) by rw [decide_eq_decide]; omega]
/-- A place stands once, behind those ahead of it. -/
theorem place_at (mk rw : Nat → Bool) (TT : List (Tok × Nat)) : ∀ n i, i < n → heardA mk TT i = true → ∃ r, dataA mk rw TT n = dataA mk rw TT i ++ ((tkA TT i).code, rw (enA TT i), i) :: r ∧ ∀ x ∈ r, i < x.2.2
  | 0, i, h, _ => by omega
  | n + 1, i, h, hh => by
    by_cases e : i = n
    · subst e
      exact ⟨[], by simp only [dataA, hh, if_true], by simp⟩
    · obtain ⟨r, h1, h2⟩ := place_at mk rw TT n i (by omega) hh
      simp only [dataA]
      split
      · refine ⟨r ++ [((tkA TT n).code, rw (enA TT n), n)], by rw [h1]; simp, fun x hx => ?_⟩
        rcases List.mem_append.1 hx with hx | hx
        · exact h2 x hx
        · simp at hx; subst hx; simp only; omega
      · exact ⟨r, h1, h2⟩
theorem heard_of (mk rw : Nat → Bool) (TT : List (Tok × Nat)) : ∀ n, ∀ x ∈ dataA mk rw TT n, heardA mk TT x.2.2 = true
  | 0, x, h => by simp [dataA] at h
  | n + 1, x, h => by
    simp only [dataA] at h
    split at h
    · rename_i hh
      rcases List.mem_append.1 h with h | h
      · exact heard_of mk rw TT n x h
      · simp at h; subst h; exact hh
    · exact heard_of mk rw TT n x h
/-- The j-th write of the second loop. -/
def wr2 (mk rw : Nat → Bool) (TT : List (Tok × Nat)) (N j : Nat) : Bool := !gnB ((dataA mk rw TT N).map fun x => UInt8.ofNat x.1) (fun is => ((dataA mk rw TT N).map fun x => x.2.1).getD (is.headD 0) false) j
theorem s2_no (mk rw : Nat → Bool) (TT : List (Tok × Nat)) (N i : Nat) : ∀ m, (∀ j, j < m → ((dataA mk rw TT N).map fun x => x.2.2).getD j 0 ≠ i) → s2A mk rw TT N m [i] = s1A TT N [i]
  | 0, _ => rfl
  | m + 1, h => by
    simp only [s2A, upd]
    rw [if_neg (fun e => h m (by omega) (by simpa using e.symm)), s2_no mk rw TT N i m (fun j hj => h j (by omega))]
theorem s2_yes (mk rw : Nat → Bool) (TT : List (Tok × Nat)) (N i q : Nat) (hq : ((dataA mk rw TT N).map fun x => x.2.2).getD q 0 = i) : ∀ k, (∀ j, q < j → j < q + 1 + k → ((dataA mk rw TT N).map fun x => x.2.2).getD j 0 ≠ i) → s2A mk rw TT N (q + 1 + k) [i] = wr2 mk rw TT N q
  | 0, _ => by
    simp only [Nat.add_zero, s2A, upd, hq, if_true]; rfl
  | k + 1, h => by
    rw [show q + 1 + (k + 1) = (q + 1 + k) + 1 by omega]
    simp only [s2A, upd]
    rw [if_neg (fun e => h (q + 1 + k) (by omega) (by omega) (by simpa using e.symm)), s2_yes mk rw TT N i q hq k (fun j h1 h2 => h j h1 (by omega))]
theorem bhL_last : ∀ (l : List (Nat × Bool × Nat)) (h : l ≠ []), bhL l = (!(l.getLast h).2.1 && (l.getLast h).1 == 13)
  | [x], _ => rfl
  | _ :: y :: r, _ => by
    rw [List.getLast_cons (by simp)]
    exact bhL_last (y :: r) (by simp)
theorem data_code (mk rw : Nat → Bool) (TT : List (Tok × Nat)) (hc : ∀ i, i < TT.length → (tkA TT i).code < 256) : ∀ n, n ≤ TT.length → ∀ x ∈ dataA mk rw TT n, x.1 < 256
  | 0, _, x, h => by simp [dataA] at h
  | n + 1, hn, x, h => by
    simp only [dataA] at h
    split at h
    · rcases List.mem_append.1 h with h | h
      · exact data_code mk rw TT hc n (by omega) x h
      · simp at h; subst h; exact hc n (by omega)
    · exact data_code mk rw TT hc n (by omega) x h
theorem stay2 (mk rw : Nat → Bool) (TT : List (Tok × Nat)) (hc : ∀ i, i < TT.length → (tkA TT i).code < 256) (i : Nat) (hi : i < TT.length) :
    s2A mk rw TT TT.length (dataA mk rw TT TT.length).length [i] = stayA mk rw TT i := by
  cases hh : heardA mk TT i with
  | false =>
    rw [s2_no, s1_get, decide_eq_true hi, Bool.true_and]
    · unfold stayA
      by_cases hk : (tkA TT i).kind = 1
      · simp [hk, hh]
      · simp [hk]
    · intro j hj e
      have hg : ((dataA mk rw TT TT.length).map fun x => x.2.2).getD j 0 = ((dataA mk rw TT TT.length)[j]).2.2 := by
        rw [List.getD_eq_getElem?_getD, List.getElem?_map, List.getElem?_eq_getElem hj]; rfl
      have := heard_of mk rw TT _ _ (List.getElem_mem hj)
      rw [← hg, e, hh] at this; cases this
  | true =>
    obtain ⟨r, h1, h2⟩ := place_at mk rw TT TT.length i hi hh
    have hk : (tkA TT i).kind = 1 := by simp only [heardA, Bool.and_eq_true, beq_iff_eq] at hh; exact hh.1
    have hlen : (dataA mk rw TT TT.length).length = (dataA mk rw TT i).length + 1 + r.length := by rw [h1]; simp; omega
    have hq : ((dataA mk rw TT TT.length).map fun x => x.2.2).getD (dataA mk rw TT i).length 0 = i := by
      rw [h1]; simp
    rw [hlen, s2_yes mk rw TT TT.length i (dataA mk rw TT i).length hq r.length (fun j a b e => by
      rw [h1, List.map_append, List.map_cons, List.getD_eq_getElem?_getD, List.getElem?_append_right (by rw [List.length_map]; omega), List.length_map] at e
      obtain ⟨w, hw⟩ : ∃ w, j - (dataA mk rw TT i).length = w + 1 := ⟨j - (dataA mk rw TT i).length - 1, by omega⟩
      rw [hw, List.getElem?_cons_succ, List.getElem?_map, List.getElem?_eq_getElem (show w < r.length by omega)] at e
      have := h2 _ (List.getElem_mem (show w < r.length by omega))
      simp at e
      omega)]
    have hci := hc i hi
    unfold stayA wr2 gnB
    rw [if_pos hk, hh, Bool.true_and]
    have sbq : sb ((dataA mk rw TT TT.length).map fun x => UInt8.ofNat x.1) (dataA mk rw TT i).length = (tkA TT i).code := by
      rw [h1]; simp [sb]; omega
    have fq : ((dataA mk rw TT TT.length).map fun x => x.2.1).getD (dataA mk rw TT i).length false = rw (enA TT i) := by
      rw [h1]; simp
    simp only [List.headD_cons, sbq, fq]
    by_cases hz : (dataA mk rw TT i).length = 0
    · have : dataA mk rw TT i = [] := List.length_eq_zero_iff.1 hz
      simp [this, bhL]
    · have hne : dataA mk rw TT i ≠ [] := fun e => hz (by rw [e]; rfl)
      have hlt : (dataA mk rw TT i).length - 1 < (dataA mk rw TT i).length := by omega
      rw [bhL_last _ hne, List.getLast_eq_getElem]
      have hmem : (dataA mk rw TT i)[(dataA mk rw TT i).length - 1].1 < 256 := data_code mk rw TT hc i (by omega) _ (List.getElem_mem hlt)
      have sbp : sb ((dataA mk rw TT TT.length).map fun x => UInt8.ofNat x.1) ((dataA mk rw TT i).length - 1) = (dataA mk rw TT i)[(dataA mk rw TT i).length - 1].1 := by
        rw [h1]; simp only [sb, List.map_append, List.getD_eq_getElem?_getD]
        rw [List.getElem?_append_left (by rw [List.length_map]; omega), List.getElem?_map, List.getElem?_eq_getElem hlt]
        simp; omega
      have fp : ((dataA mk rw TT TT.length).map fun x => x.2.1).getD ((dataA mk rw TT i).length - 1) false = (dataA mk rw TT i)[(dataA mk rw TT i).length - 1].2.1 := by
        rw [h1]; simp only [List.map_append, List.getD_eq_getElem?_getD]
        rw [List.getElem?_append_left (by rw [List.length_map]; omega), List.getElem?_map, List.getElem?_eq_getElem hlt]
        rfl
      rw [sbp, fp]
      generalize (dataA mk rw TT i)[(dataA mk rw TT i).length - 1].1 = c1
      generalize (dataA mk rw TT i)[(dataA mk rw TT i).length - 1].2.1 = b1
      generalize (tkA TT i).code = c0
      generalize rw (enA TT i) = b0
      rw [decide_eq_true (show 0 < (dataA mk rw TT i).length by omega)]
      cases b0 <;> cases b1 <;> by_cases x0 : c0 = 0 <;> by_cases x1 : c1 = 13 <;> simp [x0, x1]
theorem out3_out (mk rw : Nat → Bool) (TT : List (Tok × Nat)) (S : Ix → Bool) : ∀ n, (∀ i, i < n → S [i] = stayA mk rw TT i) → out3 TT S n = outA mk rw TT n
  | 0, _ => rfl
  | n + 1, h => by
    simp only [out3, outA]
    rw [out3_out mk rw TT S n (fun i hi => h i (by omega)), h n (by omega)]
    split <;> simp_all
def clT (s : List UInt8) (MK RW : Ix → Bool) : List Tok := (outA (mq MK) (mq RW) (toksR (s.length + 1) 0 s) (toksR (s.length + 1) 0 s).length).map Prod.fst
def clN (s : List UInt8) (MK RW : Ix → Bool) : List Nat := (outA (mq MK) (mq RW) (toksR (s.length + 1) 0 s) (toksR (s.length + 1) 0 s).length).map Prod.snd
theorem clI (s : List UInt8) (NM NR : Nat) (MK RW : Ix → Bool) (hs : s.length ≤ 200) (h1 : s.length ≤ NM) (h2 : s.length ≤ NR) : RunsTo Try.prog 8 [.code (bodyOf Try.f8)] (envOf [vS s, vL 61 1 NM, vL 62 1 NR] Try.f8.ntmps) (Sx.look ((rbE 61 NM MK ++ rbE 62 NR RW) ++ ([]))) 80 (.tup [(false, .vl 102 (fun _ => 0) 5 [] (fun _ => (((outA (mq MK) (mq RW) (toksR (s.length + 1) 0 s) (toksR (s.length + 1) 0 s).length).map Prod.fst)).length)), (false, .vl 103 (fun _ => 0) 1 [] (fun _ => (((outA (mq MK) (mq RW) (toksR (s.length + 1) 0 s) (toksR (s.length + 1) 0 s).length).map Prod.snd)).length))]) (Sx.look (dE 102 ((outA (mq MK) (mq RW) (toksR (s.length + 1) 0 s) (toksR (s.length + 1) 0 s).length).map Prod.fst) ++ nE 103 ((outA (mq MK) (mq RW) (toksR (s.length + 1) 0 s) (toksR (s.length + 1) 0 s).length).map Prod.snd))) 400 := by
  have hok := toks_ok (s.length + 1) 0 s s.length (by omega)
  have hT : (toksR (s.length + 1) 0 s).length ≤ 900 := Nat.le_trans (toks_len _ _ _) (by omega)
  have hc : ∀ i, i < (toksR (s.length + 1) 0 s).length → (tkA (toksR (s.length + 1) 0 s) i).code < 256 := fun i hi => (okT_at _ 0 hok i hi).2.2
  have he : outA (mq MK) (mq RW) (toksR (s.length + 1) 0 s) (toksR (s.length + 1) 0 s).length = out3 (toksR (s.length + 1) 0 s) (s2A (mq MK) (mq RW) (toksR (s.length + 1) 0 s) (toksR (s.length + 1) 0 s).length (dataA (mq MK) (mq RW) (toksR (s.length + 1) 0 s) (toksR (s.length + 1) 0 s).length).length) (toksR (s.length + 1) 0 s).length :=
    (out3_out (mq MK) (mq RW) _ _ _ (fun i hi => stay2 (mq MK) (mq RW) _ hc i hi)).symm
  rw [he]
  have dl := dataA_len (mq MK) (mq RW) (toksR (s.length + 1) 0 s) (toksR (s.length + 1) 0 s).length
  refine c0 NM NR _ _ s hs _ _ ?_
  refine c0L NM NR MK RW (toksR (s.length + 1) 0 s) _ _ s.length hok h1 h2 (by omega) hT ?_ (toksR (s.length + 1) 0 s).length 0 (by omega)
  refine c2 NM NR _ _ _ _ _ _ _ _ _ _ _ (by simp) (by rw [List.length_map]; omega) (by rw [List.length_map]; omega) _ _ ?_
  refine c2L NM NR MK RW (toksR (s.length + 1) 0 s) _ _ hT ?_ (dataA (mq MK) (mq RW) (toksR (s.length + 1) 0 s) (toksR (s.length + 1) 0 s).length).length 0 (by omega)
  refine c3 NM NR _ _ _ _ _ _ _ _ _ 0 (by simp) (by rw [List.length_map]; omega) (by rw [List.length_map]; omega) _ _ ?_
  exact c3L NM NR MK RW (toksR (s.length + 1) 0 s) _ hT (toksR (s.length + 1) 0 s).length 0 (by omega)
def clP : PC := { args := [.v (.vs 0), .v (.vl 61 1 1), .v (.vl 62 1 3)], heap := [⟨61, false, 1, .ta 1 (.vb 2)⟩, ⟨62, false, 1, .ta 3 (.vb 4)⟩], gs := [], G := 0, tp := 999, n := 80, n' := 400, cond := fun e => decide ((eS e 0 []).length ≤ 200 ∧ (eS e 0 []).length ≤ eN e 1 ∧ (eS e 0 []).length ≤ eN e 3), v := fun e => .tup [(false, .vl 102 (fun _ => 0) 5 [] (fun _ => ((clT (eS e 0 []) (eB e 2) (eB e 4))).length)), (false, .vl 103 (fun _ => 0) 1 [] (fun _ => ((clN (eS e 0 []) (eB e 2) (eB e 4))).length))], post := fun e => dE 102 (clT (eS e 0 []) (eB e 2) (eB e 4)) ++ nE 103 (clN (eS e 0 []) (eB e 2) (eB e 4)) }
theorem clP_pc : PC.Runs Try.prog 8 Try.f8 (bodyOf Try.f8) clP := ⟨Try.func8, by kernel_rfl, (fun g hg => by first | (cases hg; done) | (revert g; show ∀ g ∈ ([] : List Nat), g < 0; decide)), fun e H hc => by
  have hc : (decide ((eS e 0 []).length ≤ 200 ∧ (eS e 0 []).length ≤ eN e 1 ∧ (eS e 0 []).length ≤ eN e 3)) = true := hc
  try simp only [Bool.and_eq_true, decide_eq_true_eq, Nat.beq_eq] at hc
  exact clI (eS e 0 []) (eN e 1) (eN e 3) (eB e 2) (eB e 4) hc.1 hc.2.1 hc.2.2⟩
end Go.Proofs.Ytcphocfnhekdaaa
