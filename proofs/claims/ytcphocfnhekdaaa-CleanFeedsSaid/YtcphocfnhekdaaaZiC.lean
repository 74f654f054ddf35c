/- Cleaning: the law CleanFeeds, joined. -/
import Derived.Test.YtcphocfnhekdaaaZeC
import Derived.Test.YtcphocfnhekdaaaZfC
import Derived.Test.YtcphocfnhekdaaaZgC
import Derived.Test.YtcphocfnhekdaaaZhC
import Derived.Test.YtcphocfnhekdaaaSyPc
import Derived.Test.YtcphocfnhekdaaaSyY
import Derived.Test.YtcphocfnhekdaaaSyPl
set_option linter.unusedSimpArgs false
set_option linter.unusedVariables false
set_option maxRecDepth 100000
namespace Go.Proofs.Ytcphocfnhekdaaa
open Go.Sx CleanR

theorem clean_ge (mk rw : Nat → Bool) : ∀ (s : List UInt8) (m : CleanR.M) (df bh : Bool) (i : Nat), ∀ x ∈ cleanM mk rw m df bh i s, i ≤ x.2
  | [], _, _, _, _, x, hx => by simp [cleanM] at hx
  | c :: r, m, df, bh, i, x, hx => by
    rw [cleanM_cons] at hx
    rcases List.mem_append.1 hx with hx | hx
    · unfold tellM at hx
      cases hf : feed m c with
      | mk m' o =>
        rw [hf] at hx
        cases o with
        | none => simp at hx
        | some t =>
          simp only at hx
          (repeat' split at hx) <;> simp at hx <;> (subst hx; simp)
    · have := clean_ge mk rw r _ _ _ (i + 1) x hx; omega
theorem run_snoc (c : UInt8) : ∀ (l : List UInt8) (m : CleanR.M) (j : Nat), (runM m j (l ++ [c])).2 = (feed (runM m j l).2 c).1
  | [], m, j => by rw [List.nil_append, iaL_run]; rfl
  | a :: l, m, j => by
    rw [List.cons_append, iaL_run, iaL_run m j (a :: l)]
    exact run_snoc c l _ _
theorem take_at (s : List UInt8) {i : Nat} (h : i < s.length) : s.take (i + 1) = s.take i ++ [s.getD i 0] := by
  rw [List.take_add_one]; simp [List.getD_eq_getElem?_getD, List.getElem?_eq_getElem h]
theorem told_at (pre r : List (Tok × Nat)) (t : Tok) (i : Nat) : pre.length < ((pre ++ (t, i) :: r).map Prod.fst).length ∧ lN ((pre ++ (t, i) :: r).map Prod.snd) [pre.length] = (i : Int) ∧ ((pre ++ (t, i) :: r).map Prod.fst).getD pre.length z0 = t := by
  refine ⟨by simp, by simp [lN], by simp⟩
theorem not_at {pre r : List (Tok × Nat)} {i : Nat} (h : ∀ x ∈ r, i + 1 ≤ x.2) : pre.length < ((pre ++ r).map Prod.snd).length → lN ((pre ++ r).map Prod.snd) [pre.length] ≠ (i : Int) := by
  intro hn
  cases r with
  | nil => simp at hn
  | cons x r =>
    have := h x (by simp)
    simp [lN]
    omega
section
variable (N : Nat) (C : Ix → Int) (MK RW : Ix → Bool) (s : List UInt8) (mk rw : Nat → Bool) (L : List (Tok × Nat))
theorem cfL (hN : N ≤ 200) (hs : s.length = N) (hmk : ∀ i, i < N → mk i = MK [i]) (hrw : ∀ i, i < N → rw i = RW [i]) (hC : ∀ i, i < N → C [i] = ((s.getD i 0).toNat : Int)) (hL0 : L.length ≤ 200) :
    ∀ (k i nx : Nat) (m : CleanR.M) (df bh : Bool) (pre : List (Tok × Nat)), i + k = N → nx = pre.length → nx ≤ i → L = pre ++ cleanM mk rw m df bh i (s.drop i) → (runM M0 0 (s.take i)).2 = m → m.body.length ≤ i → m.code < 256 → m.opt < 256 → m.st ≤ 5 → RunsTo Try.prog 5 (headOf Try.f5 1) (envAt Try.f5.ntmps ([(3, vS s), (8, vL 131 5 (L.map Prod.fst).length), (9, vL 132 1 (L.map Prod.snd).length), (10, vP 121), (11, vN (nx : Nat)), (58, vL 100 3 N), (59, vN N), (60, vN (i : Nat))])) (Sx.look (lrE N C MK RW ++ (clE 121 124 m.st m.code m.opt m.body bh df ++ (dE 131 (L.map Prod.fst) ++ nE 132 (L.map Prod.snd))))) 110 YES (Sx.look []) 60000 := by
  intro k
  have hEl : (L.map Prod.snd).length = (L.map Prod.fst).length := by simp
  have hTl : (L.map Prod.fst).length ≤ 200 := by simpa using hL0
  induction k with
  | zero =>
    intro i nx m df bh pre hi hp hnx hL hr hl hcd hop hst
    rw [show s.drop i = [] from List.drop_eq_nil_of_le (by omega)] at hL
    simp only [cleanM, List.append_nil] at hL
    exact cfEnd N C MK RW s _ _ nx m.st m.code m.opt m.body bh df i (by omega) (by rw [List.length_map, hL, hp])
  | succ k ih =>
    intro i nx m df bh pre hi hp hnx hL hr hl hcd hop hst
    have hi' : i < N := by omega
    have hd := drop_at s (i := i) (by omega)
    have ht := take_at s (i := i) (by omega)
    have hb := hC i hi'
    have hmi := hmk i hi'
    have hri := hrw i hi'
    generalize s.getD i 0 = c at hd hb ht
    rw [hd] at hL
    have hrn : (runM M0 0 (s.take (i + 1))).2 = (feed m c).1 := by rw [ht, run_snoc, hr]
    have hia : iaL (s.take (i + 1)) = decide ((feed m c).1.st = 0) := by unfold iaL; rw [hrn]
    have hc := c.toNat_lt
    have hl2 : m.body.length ≤ 200 := by omega
    subst hp
    obtain ⟨st, cd, op, body⟩ := m
    simp only at hl hl2 hcd hop hst
    rcases (by omega : st = 0 ∨ st = 1 ∨ st = 2 ∨ st = 3 ∨ st = 4 ∨ st = 5) with rfl | rfl | rfl | rfl | rfl | rfl
    · by_cases h : c.toNat = 255
      · have e : c = 255 := u8eq h
        have hf : (feed ⟨0, cd, op, body⟩ c).1 = ⟨1, cd, op, body⟩ := by simp [feed, M0, e]
        rw [hf] at hrn hia
        rw [m_n0 mk rw cd op body df bh i c _ h, hmi] at hL
        have hno := not_at (pre := pre) (i := i) (clean_ge mk rw (s.drop (i + 1)) ⟨1, cd, op, body⟩ (df || MK [i]) bh (i + 1))
        rw [← hL] at hno
        exact fn0 N C MK RW s _ _ pre.length cd op body bh df i c hi' hN hs hEl hTl hnx hl2 hb hc hcd hop h (by rw [hia]; first | rfl | (simp [M0])) hno (ih (i + 1) pre.length (⟨1, cd, op, body⟩ : CleanR.M) (df || MK [i]) bh pre (by omega) rfl (by omega) hL hrn (by first | omega | (simp only [M0, List.length_append, List.length_cons, List.length_nil] at *; omega)) (by first | omega | (simp only [M0, List.length_append, List.length_cons, List.length_nil] at *; omega)) (by first | omega | (simp only [M0, List.length_append, List.length_cons, List.length_nil] at *; omega)) (by first | omega | (simp only [M0, List.length_append, List.length_cons, List.length_nil] at *; omega)))
      · have n1 : c ≠ 255 := u8ne h
        cases hm : MK [i] with
        | true =>
          have hdm : (df || mk i) = true := by rw [hmi, hm]; simp
          have hf : (feed ⟨0, cd, op, body⟩ c).1 = M0 := by simp [feed, M0, n1]
          rw [hf] at hrn hia
          rw [m_d0d mk rw cd op body df bh i c _ h hdm] at hL
          have hno := not_at (pre := pre) (i := i) (clean_ge mk rw (s.drop (i + 1)) M0 true bh (i + 1))
          rw [← hL] at hno
          exact fd0d N C MK RW s _ _ pre.length cd op body bh df i c hi' hN hs hEl hTl hnx hl2 hb hc hcd hop h hm (by rw [hia]; first | rfl | (simp [M0])) hno (ih (i + 1) pre.length (M0 : CleanR.M) true bh pre (by omega) rfl (by omega) hL hrn (by first | omega | (simp only [M0, List.length_append, List.length_cons, List.length_nil] at *; omega)) (by first | omega | (simp only [M0, List.length_append, List.length_cons, List.length_nil] at *; omega)) (by first | omega | (simp only [M0, List.length_append, List.length_cons, List.length_nil] at *; omega)) (by first | omega | (simp only [M0, List.length_append, List.length_cons, List.length_nil] at *; omega)))
        | false =>
          cases hdf : df with
          | true =>
            subst hdf
            have hdm : (true || mk i) = true := rfl
            have hf : (feed ⟨0, cd, op, body⟩ c).1 = M0 := by simp [feed, M0, n1]
            rw [hf] at hrn hia
            rw [m_d0d mk rw cd op body true bh i c _ h hdm] at hL
            have hno := not_at (pre := pre) (i := i) (clean_ge mk rw (s.drop (i + 1)) M0 true bh (i + 1))
            rw [← hL] at hno
            exact fd0e N C MK RW s _ _ pre.length cd op body bh true i c hi' hN hs hEl hTl hnx hl2 hb hc hcd hop h rfl hm (by rw [hia]; first | rfl | (simp [M0])) hno (ih (i + 1) pre.length (M0 : CleanR.M) true bh pre (by omega) rfl (by omega) hL hrn (by first | omega | (simp only [M0, List.length_append, List.length_cons, List.length_nil] at *; omega)) (by first | omega | (simp only [M0, List.length_append, List.length_cons, List.length_nil] at *; omega)) (by first | omega | (simp only [M0, List.length_append, List.length_cons, List.length_nil] at *; omega)) (by first | omega | (simp only [M0, List.length_append, List.length_cons, List.length_nil] at *; omega)))
          | false =>
            have hm0 : mk i = false := by rw [hmi, hm]
            subst hdf
            cases hz : (RW [i] || (c.toNat != 0 || !bh)) with
            | true =>
              have hz0 : (rw i || (c.toNat != 0 || !bh)) = true := by rw [hri]; exact hz
              have hf : (feed ⟨0, cd, op, body⟩ c).1 = M0 := by simp [feed, M0, n1]
              rw [hf] at hrn hia
              rw [m_d0s mk rw cd op body false bh i c _ h rfl hm0 hz0] at hL
              rw [hri] at hL
              obtain ⟨w1, w2, w3⟩ := told_at pre (cleanM mk rw M0 false (!RW [i] && c.toNat == 13) (i + 1) (s.drop (i + 1))) (tk 1 c.toNat 0 []) i
              rw [← hL] at w1 w2 w3
              rw [List.append_cons] at hL
              exact fd0s N C MK RW s _ _ pre.length cd op body bh false i c hi' hN hs hEl hTl hnx hl2 hb hc hcd hop h rfl hm hz (by rw [hia]; first | rfl | (simp [M0])) w1 w2 (by simp only [tK, List.headD_cons, w3]; rfl) (by simp only [tC, List.headD_cons, w3]; rfl) (by simp only [tO, List.headD_cons, w3]; rfl) (by simp only [tS, List.headD_cons, w3]; rfl) (ih (i + 1) (pre.length + 1) (M0 : CleanR.M) false (!RW [i] && c.toNat == 13) (pre ++ [(tk 1 c.toNat 0 [], i)]) (by omega) (by simp) (by omega) hL hrn (by first | omega | (simp only [M0, List.length_append, List.length_cons, List.length_nil] at *; omega)) (by first | omega | (simp only [M0, List.length_append, List.length_cons, List.length_nil] at *; omega)) (by first | omega | (simp only [M0, List.length_append, List.length_cons, List.length_nil] at *; omega)) (by first | omega | (simp only [M0, List.length_append, List.length_cons, List.length_nil] at *; omega)))
            | false =>
              simp only [Bool.or_eq_false_iff, bne_eq_false_iff_eq, Bool.not_eq_eq_eq_not, Bool.not_false] at hz
              have hr0 : rw i = false := by rw [hri]; exact hz.1
              have hf : (feed ⟨0, cd, op, body⟩ c).1 = M0 := by simp [feed, M0, n1]
              rw [hf] at hrn hia
              rw [m_d0g mk rw cd op body false bh i c _ hz.2.1 hr0 hz.2.2 rfl hm0] at hL
              have hno := not_at (pre := pre) (i := i) (clean_ge mk rw (s.drop (i + 1)) M0 false false (i + 1))
              rw [← hL] at hno
              exact fd0g N C MK RW s _ _ pre.length cd op body bh false i c hi' hN hs hEl hTl hnx hl2 hb hc hcd hop hz.2.1 hz.1 hz.2.2 rfl hm (by rw [hia]; first | rfl | (simp [M0])) hno (ih (i + 1) pre.length (M0 : CleanR.M) false false pre (by omega) rfl (by omega) hL hrn (by first | omega | (simp only [M0, List.length_append, List.length_cons, List.length_nil] at *; omega)) (by first | omega | (simp only [M0, List.length_append, List.length_cons, List.length_nil] at *; omega)) (by first | omega | (simp only [M0, List.length_append, List.length_cons, List.length_nil] at *; omega)) (by first | omega | (simp only [M0, List.length_append, List.length_cons, List.length_nil] at *; omega)))
    · by_cases h : c.toNat = 255
      · have e : c = 255 := u8eq h
        cases hm : MK [i] with
        | true =>
          have hdm : (df || mk i) = true := by rw [hmi, hm]; simp
          have hf : (feed ⟨1, cd, op, body⟩ c).1 = M0 := by simp [feed, M0, e]
          rw [hf] at hrn hia
          rw [m_d1d mk rw cd op body df bh i c _ h hdm] at hL
          have hno := not_at (pre := pre) (i := i) (clean_ge mk rw (s.drop (i + 1)) M0 true bh (i + 1))
          rw [← hL] at hno
          exact fd1d N C MK RW s _ _ pre.length cd op body bh df i c hi' hN hs hEl hTl hnx hl2 hb hc hcd hop h hm (by rw [hia]; first | rfl | (simp [M0])) hno (ih (i + 1) pre.length (M0 : CleanR.M) true bh pre (by omega) rfl (by omega) hL hrn (by first | omega | (simp only [M0, List.length_append, List.length_cons, List.length_nil] at *; omega)) (by first | omega | (simp only [M0, List.length_append, List.length_cons, List.length_nil] at *; omega)) (by first | omega | (simp only [M0, List.length_append, List.length_cons, List.length_nil] at *; omega)) (by first | omega | (simp only [M0, List.length_append, List.length_cons, List.length_nil] at *; omega)))
        | false =>
          cases hdf : df with
          | true =>
            subst hdf
            have hdm : (true || mk i) = true := rfl
            have hf : (feed ⟨1, cd, op, body⟩ c).1 = M0 := by simp [feed, M0, e]
            rw [hf] at hrn hia
            rw [m_d1d mk rw cd op body true bh i c _ h hdm] at hL
            have hno := not_at (pre := pre) (i := i) (clean_ge mk rw (s.drop (i + 1)) M0 true bh (i + 1))
            rw [← hL] at hno
            exact fd1e N C MK RW s _ _ pre.length cd op body bh true i c hi' hN hs hEl hTl hnx hl2 hb hc hcd hop h rfl hm (by rw [hia]; first | rfl | (simp [M0])) hno (ih (i + 1) pre.length (M0 : CleanR.M) true bh pre (by omega) rfl (by omega) hL hrn (by first | omega | (simp only [M0, List.length_append, List.length_cons, List.length_nil] at *; omega)) (by first | omega | (simp only [M0, List.length_append, List.length_cons, List.length_nil] at *; omega)) (by first | omega | (simp only [M0, List.length_append, List.length_cons, List.length_nil] at *; omega)) (by first | omega | (simp only [M0, List.length_append, List.length_cons, List.length_nil] at *; omega)))
          | false =>
            have hm0 : mk i = false := by rw [hmi, hm]
            subst hdf
            have hf : (feed ⟨1, cd, op, body⟩ c).1 = M0 := by simp [feed, M0, e]
            rw [hf] at hrn hia
            rw [m_d1s mk rw cd op body false bh i c _ h rfl hm0] at hL
            obtain ⟨w1, w2, w3⟩ := told_at pre (cleanM mk rw M0 false false (i + 1) (s.drop (i + 1))) (tk 1 255 0 []) i
            rw [← hL] at w1 w2 w3
            rw [List.append_cons] at hL
            exact fd1s N C MK RW s _ _ pre.length cd op body bh false i c hi' hN hs hEl hTl hnx hl2 hb hc hcd hop h rfl hm (by rw [hia]; first | rfl | (simp [M0])) w1 w2 (by simp only [tK, List.headD_cons, w3]; rfl) (by simp only [tC, List.headD_cons, w3]; rfl) (by simp only [tO, List.headD_cons, w3]; rfl) (by simp only [tS, List.headD_cons, w3]; rfl) (ih (i + 1) (pre.length + 1) (M0 : CleanR.M) false false (pre ++ [(tk 1 255 0 [], i)]) (by omega) (by simp) (by omega) hL hrn (by first | omega | (simp only [M0, List.length_append, List.length_cons, List.length_nil] at *; omega)) (by first | omega | (simp only [M0, List.length_append, List.length_cons, List.length_nil] at *; omega)) (by first | omega | (simp only [M0, List.length_append, List.length_cons, List.length_nil] at *; omega)) (by first | omega | (simp only [M0, List.length_append, List.length_cons, List.length_nil] at *; omega)))
      have n1 : c ≠ 255 := u8ne h
      by_cases h2 : c.toNat = 250
      · have e2 : c = 250 := u8eq h2
        have hf : (feed ⟨1, cd, op, body⟩ c).1 = ⟨3, cd, op, body⟩ := by simp [feed, M0, e2]
        rw [hf] at hrn hia
        rw [m_n1s mk rw cd op body df bh i c _ h2, hmi] at hL
        have hno := not_at (pre := pre) (i := i) (clean_ge mk rw (s.drop (i + 1)) ⟨3, cd, op, body⟩ (df || MK [i]) bh (i + 1))
        rw [← hL] at hno
        exact fn1s N C MK RW s _ _ pre.length cd op body bh df i c hi' hN hs hEl hTl hnx hl2 hb hc hcd hop h2 (by rw [hia]; first | rfl | (simp [M0])) hno (ih (i + 1) pre.length (⟨3, cd, op, body⟩ : CleanR.M) (df || MK [i]) bh pre (by omega) rfl (by omega) hL hrn (by first | omega | (simp only [M0, List.length_append, List.length_cons, List.length_nil] at *; omega)) (by first | omega | (simp only [M0, List.length_append, List.length_cons, List.length_nil] at *; omega)) (by first | omega | (simp only [M0, List.length_append, List.length_cons, List.length_nil] at *; omega)) (by first | omega | (simp only [M0, List.length_append, List.length_cons, List.length_nil] at *; omega)))
      have n2 : c ≠ 250 := u8ne h2
      by_cases h3 : 251 ≤ c.toNat
      · have h4 : 251 ≤ c.toNat ∧ c.toNat ≤ 254 := by omega
        have hf : (feed ⟨1, cd, op, body⟩ c).1 = ⟨2, c.toNat, 0, []⟩ := by simp [feed, M0, n1, n2, h4.1, h4.2]
        rw [hf] at hrn hia
        rw [m_n1v mk rw cd op body df bh i c _ h4, hmi] at hL
        have hno := not_at (pre := pre) (i := i) (clean_ge mk rw (s.drop (i + 1)) ⟨2, c.toNat, 0, []⟩ (df || MK [i]) bh (i + 1))
        rw [← hL] at hno
        exact fn1v N C MK RW s _ _ pre.length cd op body bh df i c hi' hN hs hEl hTl hnx hl2 hb hc hcd hop h4 (by rw [hia]; first | rfl | (simp [M0])) hno (ih (i + 1) pre.length (⟨2, c.toNat, 0, []⟩ : CleanR.M) (df || MK [i]) bh pre (by omega) rfl (by omega) hL hrn (by first | omega | (simp only [M0, List.length_append, List.length_cons, List.length_nil] at *; omega)) (by first | omega | (simp only [M0, List.length_append, List.length_cons, List.length_nil] at *; omega)) (by first | omega | (simp only [M0, List.length_append, List.length_cons, List.length_nil] at *; omega)) (by first | omega | (simp only [M0, List.length_append, List.length_cons, List.length_nil] at *; omega)))
      have n3 : ¬ (251 ≤ c.toNat ∧ c.toNat ≤ 254) := by omega
      by_cases h5 : c.toNat = 242
      · have e5 : c = 242 := u8eq h5
        have hf : (feed ⟨1, cd, op, body⟩ c).1 = M0 := by simp [feed, M0, e5]
        rw [hf] at hrn hia
        rw [m_cM mk rw cd op body df bh i c _ h5] at hL
        obtain ⟨w1, w2, w3⟩ := told_at pre (cleanM mk rw M0 false bh (i + 1) (s.drop (i + 1))) (tk 2 242 0 []) i
        rw [← hL] at w1 w2 w3
        rw [List.append_cons] at hL
        exact fcM N C MK RW s _ _ pre.length cd op body bh df i c hi' hN hs hEl hTl hnx hl2 hb hc hcd hop h5 (by rw [hia]; first | rfl | (simp [M0])) w1 w2 (by simp only [tK, List.headD_cons, w3]; rfl) (by simp only [tC, List.headD_cons, w3]; rfl) (by simp only [tO, List.headD_cons, w3]; rfl) (by simp only [tS, List.headD_cons, w3]; rfl) (ih (i + 1) (pre.length + 1) (M0 : CleanR.M) false bh (pre ++ [(tk 2 242 0 [], i)]) (by omega) (by simp) (by omega) hL hrn (by first | omega | (simp only [M0, List.length_append, List.length_cons, List.length_nil] at *; omega)) (by first | omega | (simp only [M0, List.length_append, List.length_cons, List.length_nil] at *; omega)) (by first | omega | (simp only [M0, List.length_append, List.length_cons, List.length_nil] at *; omega)) (by first | omega | (simp only [M0, List.length_append, List.length_cons, List.length_nil] at *; omega)))
      · have h6 : c.toNat < 250 := by omega
        have hf : (feed ⟨1, cd, op, body⟩ c).1 = M0 := by simp [feed, M0, n1, n2, n3]
        rw [hf] at hrn hia
        rw [m_cP mk rw cd op body df bh i c _ h6 h5, hmi] at hL
        obtain ⟨w1, w2, w3⟩ := told_at pre (cleanM mk rw M0 (df || MK [i]) bh (i + 1) (s.drop (i + 1))) (tk 2 c.toNat 0 []) i
        rw [← hL] at w1 w2 w3
        rw [List.append_cons] at hL
        exact fcP N C MK RW s _ _ pre.length cd op body bh df i c hi' hN hs hEl hTl hnx hl2 hb hc hcd hop h6 h5 (by rw [hia]; first | rfl | (simp [M0])) w1 w2 (by simp only [tK, List.headD_cons, w3]; rfl) (by simp only [tC, List.headD_cons, w3]; rfl) (by simp only [tO, List.headD_cons, w3]; rfl) (by simp only [tS, List.headD_cons, w3]; rfl) (ih (i + 1) (pre.length + 1) (M0 : CleanR.M) (df || MK [i]) bh (pre ++ [(tk 2 c.toNat 0 [], i)]) (by omega) (by simp) (by omega) hL hrn (by first | omega | (simp only [M0, List.length_append, List.length_cons, List.length_nil] at *; omega)) (by first | omega | (simp only [M0, List.length_append, List.length_cons, List.length_nil] at *; omega)) (by first | omega | (simp only [M0, List.length_append, List.length_cons, List.length_nil] at *; omega)) (by first | omega | (simp only [M0, List.length_append, List.length_cons, List.length_nil] at *; omega)))
    · have hf : (feed ⟨2, cd, op, body⟩ c).1 = M0 := by simp [feed, M0]
      rw [hf] at hrn hia
      rw [m_cV mk rw cd op body df bh i c _, hmi] at hL
      obtain ⟨w1, w2, w3⟩ := told_at pre (cleanM mk rw M0 (df || MK [i]) bh (i + 1) (s.drop (i + 1))) (tk 3 cd c.toNat []) i
      rw [← hL] at w1 w2 w3
      rw [List.append_cons] at hL
      exact fcV N C MK RW s _ _ pre.length cd op body bh df i c hi' hN hs hEl hTl hnx hl2 hb hc hcd hop (by rw [hia]; first | rfl | (simp [M0])) w1 w2 (by simp only [tK, List.headD_cons, w3]; rfl) (by simp only [tC, List.headD_cons, w3]; rfl) (by simp only [tO, List.headD_cons, w3]; rfl) (by simp only [tS, List.headD_cons, w3]; rfl) (ih (i + 1) (pre.length + 1) (M0 : CleanR.M) (df || MK [i]) bh (pre ++ [(tk 3 cd c.toNat [], i)]) (by omega) (by simp) (by omega) hL hrn (by first | omega | (simp only [M0, List.length_append, List.length_cons, List.length_nil] at *; omega)) (by first | omega | (simp only [M0, List.length_append, List.length_cons, List.length_nil] at *; omega)) (by first | omega | (simp only [M0, List.length_append, List.length_cons, List.length_nil] at *; omega)) (by first | omega | (simp only [M0, List.length_append, List.length_cons, List.length_nil] at *; omega)))
    · have hf : (feed ⟨3, cd, op, body⟩ c).1 = ⟨4, 0, c.toNat, []⟩ := by simp [feed, M0]
      rw [hf] at hrn hia
      rw [m_n3 mk rw cd op body df bh i c _, hmi] at hL
      have hno := not_at (pre := pre) (i := i) (clean_ge mk rw (s.drop (i + 1)) ⟨4, 0, c.toNat, []⟩ (df || MK [i]) bh (i + 1))
      rw [← hL] at hno
      exact fn3 N C MK RW s _ _ pre.length cd op body bh df i c hi' hN hs hEl hTl hnx hl2 hb hc hcd hop (by rw [hia]; first | rfl | (simp [M0])) hno (ih (i + 1) pre.length (⟨4, 0, c.toNat, []⟩ : CleanR.M) (df || MK [i]) bh pre (by omega) rfl (by omega) hL hrn (by first | omega | (simp only [M0, List.length_append, List.length_cons, List.length_nil] at *; omega)) (by first | omega | (simp only [M0, List.length_append, List.length_cons, List.length_nil] at *; omega)) (by first | omega | (simp only [M0, List.length_append, List.length_cons, List.length_nil] at *; omega)) (by first | omega | (simp only [M0, List.length_append, List.length_cons, List.length_nil] at *; omega)))
    · by_cases h : c.toNat = 255
      · have e : c = 255 := u8eq h
        have hf : (feed ⟨4, cd, op, body⟩ c).1 = ⟨5, cd, op, body⟩ := by simp [feed, M0, e]
        rw [hf] at hrn hia
        rw [m_n4e mk rw cd op body df bh i c _ h, hmi] at hL
        have hno := not_at (pre := pre) (i := i) (clean_ge mk rw (s.drop (i + 1)) ⟨5, cd, op, body⟩ (df || MK [i]) bh (i + 1))
        rw [← hL] at hno
        exact fn4e N C MK RW s _ _ pre.length cd op body bh df i c hi' hN hs hEl hTl hnx hl2 hb hc hcd hop h (by rw [hia]; first | rfl | (simp [M0])) hno (ih (i + 1) pre.length (⟨5, cd, op, body⟩ : CleanR.M) (df || MK [i]) bh pre (by omega) rfl (by omega) hL hrn (by first | omega | (simp only [M0, List.length_append, List.length_cons, List.length_nil] at *; omega)) (by first | omega | (simp only [M0, List.length_append, List.length_cons, List.length_nil] at *; omega)) (by first | omega | (simp only [M0, List.length_append, List.length_cons, List.length_nil] at *; omega)) (by first | omega | (simp only [M0, List.length_append, List.length_cons, List.length_nil] at *; omega)))
      · have n1 : c ≠ 255 := u8ne h
        have hf : (feed ⟨4, cd, op, body⟩ c).1 = ⟨4, cd, op, body ++ [c]⟩ := by simp [feed, M0, n1]
        rw [hf] at hrn hia
        rw [m_n4 mk rw cd op body df bh i c _ h, hmi] at hL
        have hno := not_at (pre := pre) (i := i) (clean_ge mk rw (s.drop (i + 1)) ⟨4, cd, op, body ++ [c]⟩ (df || MK [i]) bh (i + 1))
        rw [← hL] at hno
        exact fn4 N C MK RW s _ _ pre.length cd op body bh df i c hi' hN hs hEl hTl hnx hl2 hb hc hcd hop h (by rw [hia]; first | rfl | (simp [M0])) hno (ih (i + 1) pre.length (⟨4, cd, op, body ++ [c]⟩ : CleanR.M) (df || MK [i]) bh pre (by omega) rfl (by omega) hL hrn (by first | omega | (simp only [M0, List.length_append, List.length_cons, List.length_nil] at *; omega)) (by first | omega | (simp only [M0, List.length_append, List.length_cons, List.length_nil] at *; omega)) (by first | omega | (simp only [M0, List.length_append, List.length_cons, List.length_nil] at *; omega)) (by first | omega | (simp only [M0, List.length_append, List.length_cons, List.length_nil] at *; omega)))
    · by_cases h : c.toNat = 255
      · have e : c = 255 := u8eq h
        have hf : (feed ⟨5, cd, op, body⟩ c).1 = ⟨4, cd, op, body ++ [255]⟩ := by simp [feed, M0, e]
        rw [hf] at hrn hia
        rw [m_n5e mk rw cd op body df bh i c _ h, hmi] at hL
        have hno := not_at (pre := pre) (i := i) (clean_ge mk rw (s.drop (i + 1)) ⟨4, cd, op, body ++ [255]⟩ (df || MK [i]) bh (i + 1))
        rw [← hL] at hno
        exact fn5e N C MK RW s _ _ pre.length cd op body bh df i c hi' hN hs hEl hTl hnx hl2 hb hc hcd hop h (by rw [hia]; first | rfl | (simp [M0])) hno (ih (i + 1) pre.length (⟨4, cd, op, body ++ [255]⟩ : CleanR.M) (df || MK [i]) bh pre (by omega) rfl (by omega) hL hrn (by first | omega | (simp only [M0, List.length_append, List.length_cons, List.length_nil] at *; omega)) (by first | omega | (simp only [M0, List.length_append, List.length_cons, List.length_nil] at *; omega)) (by first | omega | (simp only [M0, List.length_append, List.length_cons, List.length_nil] at *; omega)) (by first | omega | (simp only [M0, List.length_append, List.length_cons, List.length_nil] at *; omega)))
      · have n1 : c ≠ 255 := u8ne h
        by_cases h2 : c.toNat = 240
        · have e2 : c = 240 := u8eq h2
          have hf : (feed ⟨5, cd, op, body⟩ c).1 = M0 := by simp [feed, M0, e2]
          rw [hf] at hrn hia
          rw [m_cS mk rw cd op body df bh i c _ h2, hmi] at hL
          obtain ⟨w1, w2, w3⟩ := told_at pre (cleanM mk rw M0 (df || MK [i]) bh (i + 1) (s.drop (i + 1))) (tk 4 cd op body) i
          rw [← hL] at w1 w2 w3
          rw [List.append_cons] at hL
          exact fcS N C MK RW s _ _ pre.length cd op body bh df i c hi' hN hs hEl hTl hnx hl2 hb hc hcd hop h2 (by rw [hia]; first | rfl | (simp [M0])) w1 w2 (by simp only [tK, List.headD_cons, w3]; rfl) (by simp only [tC, List.headD_cons, w3]; rfl) (by simp only [tO, List.headD_cons, w3]; rfl) (by simp only [tS, List.headD_cons, w3]; rfl) (ih (i + 1) (pre.length + 1) (M0 : CleanR.M) (df || MK [i]) bh (pre ++ [(tk 4 cd op body, i)]) (by omega) (by simp) (by omega) hL hrn (by first | omega | (simp only [M0, List.length_append, List.length_cons, List.length_nil] at *; omega)) (by first | omega | (simp only [M0, List.length_append, List.length_cons, List.length_nil] at *; omega)) (by first | omega | (simp only [M0, List.length_append, List.length_cons, List.length_nil] at *; omega)) (by first | omega | (simp only [M0, List.length_append, List.length_cons, List.length_nil] at *; omega)))
        · have n2 : c ≠ 240 := u8ne h2
          have hf : (feed ⟨5, cd, op, body⟩ c).1 = M0 := by simp [feed, M0, n1, n2]
          rw [hf] at hrn hia
          rw [m_cB mk rw cd op body df bh i c _ h h2, hmi] at hL
          obtain ⟨w1, w2, w3⟩ := told_at pre (cleanM mk rw M0 (df || MK [i]) bh (i + 1) (s.drop (i + 1))) (tk 5 c.toNat op []) i
          rw [← hL] at w1 w2 w3
          rw [List.append_cons] at hL
          exact fcB N C MK RW s _ _ pre.length cd op body bh df i c hi' hN hs hEl hTl hnx hl2 hb hc hcd hop h h2 (by rw [hia]; first | rfl | (simp [M0])) w1 w2 (by simp only [tK, List.headD_cons, w3]; rfl) (by simp only [tC, List.headD_cons, w3]; rfl) (by simp only [tO, List.headD_cons, w3]; rfl) (by simp only [tS, List.headD_cons, w3]; rfl) (ih (i + 1) (pre.length + 1) (M0 : CleanR.M) (df || MK [i]) bh (pre ++ [(tk 5 c.toNat op [], i)]) (by omega) (by simp) (by omega) hL hrn (by first | omega | (simp only [M0, List.length_append, List.length_cons, List.length_nil] at *; omega)) (by first | omega | (simp only [M0, List.length_append, List.length_cons, List.length_nil] at *; omega)) (by first | omega | (simp only [M0, List.length_append, List.length_cons, List.length_nil] at *; omega)) (by first | omega | (simp only [M0, List.length_append, List.length_cons, List.length_nil] at *; omega)))
end
def lsB (F : Ix → Bool) : Nat → List Bool
  | 0 => []
  | n + 1 => lsB F n ++ [F [n]]
theorem lsB_len (F : Ix → Bool) : ∀ n, (lsB F n).length = n
  | 0 => rfl
  | n + 1 => by simp [lsB, lsB_len F n]
theorem lsB_get (F : Ix → Bool) : ∀ n i, i < n → (lsB F n).getD i false = F [i]
  | 0, i, h => by omega
  | n + 1, i, h => by
    have hl := lsB_len F n
    simp only [lsB]
    by_cases e : i < n
    · rw [getD_left (by omega), lsB_get F n i e]
    · have e : i = n + 0 := by omega
      rw [e, getD_right hl]; rfl
def lsC (C : Ix → Int) : Nat → List UInt8
  | 0 => []
  | n + 1 => lsC C n ++ [UInt8.ofNat (C [n]).toNat]
theorem lsC_len (C : Ix → Int) : ∀ n, (lsC C n).length = n
  | 0 => rfl
  | n + 1 => by simp [lsC, lsC_len C n]
theorem lsC_get (C : Ix → Int) : ∀ n i, i < n → (lsC C n).getD i 0 = UInt8.ofNat (C [i]).toNat
  | 0, i, h => by omega
  | n + 1, i, h => by
    have hl := lsC_len C n
    simp only [lsC]
    by_cases e : i < n
    · rw [getD_left (by omega), lsC_get C n i e]
    · have e : i = n + 0 := by omega
      rw [e, getD_right hl]; rfl
section
variable (N : Nat) (C : Ix → Int) (MK RW : Ix → Bool)
theorem cleanFeeds_law (hC : ∀ i, i < N → 0 ≤ C [i] ∧ C [i] < 256) : RunsTo Try.prog 5 [.code (bodyOf Try.f5)] (envOf [vL 100 3 N] Try.f5.ntmps) (Sx.look (lrE N C MK RW ++ ([]))) 110 YES (Sx.look []) 60000 := by
  by_cases hN : N ≤ 200
  · refine cfStart N C MK RW hN ?_
    have hk : ∀ (k i : Nat), i + k = N → RunsTo Try.prog 5 (headOf Try.f5 0) (envAt Try.f5.ntmps ([(0, vL 100 3 N), (3, vS (lsC C i)), (4, vL 121 1 (lsB MK i).length), (5, vL 122 1 (lsB RW i).length), (26, vL 100 3 N), (27, vN N), (28, vN (i : Nat))])) (Sx.look (lrE N C MK RW ++ (fE 121 (lsB MK i) ++ fE 122 (lsB RW i)))) 110 YES (Sx.look []) 60000 := by
      intro k
      induction k with
      | zero =>
        intro i hi
        have e : i = N := by omega
        subst e
        have hlen := lsC_len C i
        have hmq : ∀ j, j < i → mq (bF (lsB MK i)) j = MK [j] := fun j hj => lsB_get MK i j hj
        have hrq : ∀ j, j < i → mq (bF (lsB RW i)) j = RW [j] := fun j hj => lsB_get RW i j hj
        have hok := clean_ok (mq (bF (lsB MK i))) (mq (bF (lsB RW i))) (lsC C i)
        have hll := clean_len (mq (bF (lsB MK i))) (mq (bF (lsB RW i))) (lsC C i) M0 false false 0
        have hT : clT (lsC C i) (bF (lsB MK i)) (bF (lsB RW i)) = (cleanM (mq (bF (lsB MK i))) (mq (bF (lsB RW i))) M0 false false 0 (lsC C i)).map Prod.fst := by unfold clT; rw [hok]
        have hE : clN (lsC C i) (bF (lsB MK i)) (bF (lsB RW i)) = (cleanM (mq (bF (lsB MK i))) (mq (bF (lsB RW i))) M0 false false 0 (lsC C i)).map Prod.snd := by unfold clN; rw [hok]
        refine cfX i C MK RW (lsC C i) (lsB MK i) (lsB RW i) i _ _ rfl hN hlen (lsB_len MK i) (lsB_len RW i) hT hE (by rw [List.length_map]; omega) (by simp) ?_
        exact cfL i C MK RW (lsC C i) (mq (bF (lsB MK i))) (mq (bF (lsB RW i))) _ hN hlen hmq hrq (fun j hj => by rw [lsC_get C i j hj, u8of (hC j hj)]) (by omega) i 0 0 M0 false false [] (by omega) rfl (by omega) (by rw [List.drop_zero, List.nil_append]) (by simp [runM]) (by simp [M0]) (by simp [M0]) (by simp [M0]) (by simp [M0])
      | succ k ih =>
        intro i hi
        have q := ih (i + 1) (by omega)
        simp only [lsC, lsB] at q
        have hlen := lsC_len C i
        have hl1 := lsB_len MK i
        have hl2 := lsB_len RW i
        exact cfA N C MK RW _ _ _ i _ (by omega) hN (by omega) (by omega) (by omega) (u8of (hC i (by omega))).symm q
    exact hk N 0 (by omega)
  · exact cfLong N C MK RW (by omega)
end
end Go.Proofs.Ytcphocfnhekdaaa

set_option linter.unusedSimpArgs false
set_option linter.unusedVariables false
namespace Go.Proofs.Ytcphocfnhekdaaa
open Go.Sx
theorem sl_ubb {W : World} {v : Value} (h : (Sh.sl (.tc (.ki .u8) (.tc .kb (.tc .kb .t0)))).Is W [v]) {g : Rd} {o : Nat} (hg : g [] o = v) : ∀ i, i < lenOf v → 0 ≤ Sx.intOf (rdOf W 3 g o [i] 0) ∧ Sx.intOf (rdOf W 3 g o [i] 0) < 256 := by
  obtain ⟨v', hv', _, _, _, _, hrows⟩ := h
  have hv' : v = v' := by simpa using hv'
  subst hv'
  intro i hi
  obtain ⟨c1, c2, e, l1, ⟨a, rfl, hwf⟩, _⟩ := hrows i hi
  have e2 : rdOf W 3 g o [i] 0 = .int .u8 a := by
    have : rdOf W 3 g o [i] 0 = (rowsOf W 3 (g [] o) i).getD 0 undef := rfl
    rw [this, hg]
    have e1 : (Sh.tc (.ki .u8) (.tc .kb (.tc .kb .t0))).size = 3 := rfl
    rw [e1] at e
    rw [e]; rfl
  rw [e2]
  exact bnd_u8 hwf
end Go.Proofs.Ytcphocfnhekdaaa

set_option maxRecDepth 100000
set_option linter.unusedSimpArgs false
set_option linter.unusedVariables false
namespace Go.Proofs.Ytcphocfnhekdaaa
open Go.ChangeShapes Go.WideShapes Go.ChangeAt Go.RowKit
open Go.Sx

theorem cleanFeeds_sh : shsOf Try.prog Try.f5.params.toList = some [.sl (.tc (.ki .u8) (.tc .kb (.tc .kb .t0)))] := by kernel_rfl
theorem cleanFeeds_own : ownKnob Try.prog.godebug = none := by kernel_rfl
theorem cleanFeeds_readable : ∀ t ∈ Try.f5.params.toList, Try.prog.readableRec t = true ∧ t < Try.prog.types.size := by
  have h : (Try.f5.params.toList.all fun t => Try.prog.readableRec t && decide (t < Try.prog.types.size)) = true := by kernel_rfl
  intro t ht
  have := List.all_eq_true.1 h t ht
  simpa using this
theorem cleanFeeds_gt {n : Nat} : gtop Try.prog ≤ n := by rw [show gtop Try.prog = 0 from of_decide_eq_true (by kernel_rfl)]; exact Nat.zero_le _

theorem cleanFeeds_lifted (os : Os) (started : os.Started) (H : Type) (enc : TypeId × Value → H) :
    ReturnsInHanded {} Try.checked os 5 .any (Rows.cleanFeedsSpec.pre6 enc Try.prog Try.f5 [] false) (Rows.cleanFeedsSpec.post enc Try.prog Try.f5 false true false false) := by
  refine returnsInHanded_of_change (C := Try.checked) cleanFeeds_own started (by kernel_rfl) Try.func5
    (ChangeSpec.witness6 (C := Try.checked) (os := os) false ⟨#[], #[.slice none 0 0], []⟩ 8 (by kernel_rfl) (by kernel_rfl) (by kernel_rfl) (by kernel_rfl)) ?_
  intro W base args ds gs before hval hW _ _
  have hW' := hW
  obtain ⟨p, q, hA, hV, rfl, hfz, hnd⟩ := hW
  obtain ⟨rfl, rfl⟩ := trodVars_none hV
  have g3 : ds.length = 1 := (args_open cleanFeeds_sh hA (fun j t v h1 h2 => hval j t v (by rw [← Array.getElem?_toList]; exact h1) (by rw [← Array.getElem?_toList]; exact h2))).2.2.1
  match ds, g3 with
  | [d1], _ =>
    refine (law_calls Try.func5 (body := bodyOf Try.f5) (by kernel_rfl) cleanFeeds_sh hA hval (lab := 100) (n := 110) (n' := 60000) (L' := Sx.look []) (gl := []) (ρ0 := conG) cleanFeeds_gt (globG _) (hold0 _ _) (fun e he => by cases he) (fun cs hcs hIs => ?_)).mono fun e W' ⟨he, hB⟩ => ⟨_, he, law_post (bt := 4) (by kernel_rfl) cleanFeeds_readable rfl (by kernel_rfl) (by kernel_rfl) hW' rfl hB⟩
    clear hcs
    have hX : ∀ i, i < lenOf (rd0 cs [] 0) → 0 ≤ Sx.intOf (rdOf W 3 (rd0 cs) 0 [i] 0) ∧ Sx.intOf (rdOf W 3 (rd0 cs) 0 [i] 0) < 256 := by
      obtain ⟨a1, r1, e1, l1, he, hrest⟩ := hIs
      have he2 := he
      obtain ⟨v, e4, _⟩ := he2
      rw [e4] at he
      have e5 : rd0 cs [] 0 = v := by
        show cs.getD 0 undef = v
        rw [e1, e4]
        rfl
      intro i hi
      rw [e5] at hi
      exact sl_ubb he e5 i hi
    refine RunsTo.start (cargs := [.v (.vl 100 (fun _ => 0) 3 [] (fun _ => lenOf (rd0 cs [] 0)))]) ?_ ⟨⟨rfl, rfl⟩, trivial⟩
    exact cleanFeeds_law (lenOf (rd0 cs [] 0)) (fun is => Sx.intOf (rdOf W 3 (rd0 cs) 0 is 0)) (fun is => Sx.boolOf (rdOf W 3 (rd0 cs) 0 is 1)) (fun is => Sx.boolOf (rdOf W 3 (rd0 cs) 0 is 2)) hX

theorem cleanFeeds_holds : Rows.CleanFeedsSaid :=
  OpenClaim.holds_of_wide 5 Try.f5 rfl rfl rfl rfl rfl rfl rfl ⟨rfl, rfl, rfl, rfl, rfl⟩ rfl rfl rfl rfl rfl (by kernel_rfl) Try.func5 (by kernel_rfl)
    (of_decide_eq_true (by kernel_rfl)) (by unfold Func.isWrapper; first | (rw [if_pos (by decide +kernel)]; kernel_rfl) | (rw [if_neg (by decide +kernel)]; exact ⟨rfl, rfl⟩))
    (fun os started H enc _ => cleanFeeds_lifted os started H enc)
end Go.Proofs.Ytcphocfnhekdaaa

