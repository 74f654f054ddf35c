/- Special characters: bodies: the law. -/
import Derived.Test.YtdmkdmaofgjelaaDoorEeC
set_option linter.unusedSimpArgs false
set_option linter.unusedVariables false
set_option maxRecDepth 100000
namespace Go.Proofs.YtdmkdmaofgjelaaDoor
open Go.Sx

theorem b2_mod {l : Int} (h : 0 ≤ l ∧ l ≤ 3) (a : Bool) : b2 l a % 4 = l ∧ decide (128 ≤ b2 l a) = a := by
  cases a with
  | false =>
    simp only [b2, Bool.false_eq_true, if_false]
    exact ⟨by omega, decide_eq_false (by omega)⟩
  | true =>
    simp only [b2, if_true]
    exact ⟨by omega, decide_eq_true (by omega)⟩

theorem trG_body {F L V : Ix → Int} {A : Ix → Bool} {m : Nat} (h : rightT (F [m]) (L [m]) (V [m]) = true) : trG (gB (bodyB F L V A)) m = (F [m], L [m], V [m], A [m]) := by
  obtain ⟨_, _, h1, h2, _, _⟩ := rightT_ok' h
  obtain ⟨e1, e2⟩ := b2_mod ⟨h1, h2⟩ (A [m])
  simp only [trG, gB, bodyB, show (3 * m) % 3 = 0 by omega, show (3 * m + 1) % 3 = 1 by omega, show (3 * m + 2) % 3 = 2 by omega, show (3 * m) / 3 = m by omega, show (3 * m + 1) / 3 = m by omega, show (3 * m + 2) / 3 = m by omega]
  simp [e1, e2]

theorem rts_body {F L V : Ix → Int} {A : Ix → Bool} {N : Nat} (h : allR F L V N = true) : rts (gB (bodyB F L V A)) N = (List.range N).map fun m => (F [m], L [m], V [m], A [m]) := by
  have e : (List.range N).map (trG (gB (bodyB F L V A))) = (List.range N).map fun m => (F [m], L [m], V [m], A [m]) :=
    List.map_congr_left fun m hm => trG_body (allR_ok h (List.mem_range.1 hm))
  unfold rts
  rw [e, List.filter_eq_self]
  intro t ht
  obtain ⟨m, hm, rfl⟩ := List.mem_map.1 ht
  exact allR_ok h (List.mem_range.1 hm)

theorem body_get {F L V : Ix → Int} {A : Ix → Bool} {N i : Nat} (h : allR F L V N = true) (hi : i < N) : (rts (gB (bodyB F L V A)) N).getD i d0 = (F [i], L [i], V [i], A [i]) := by
  rw [rts_body h, List.getD_eq_getElem?_getD, List.getElem?_map, List.getElem?_range hi]
  rfl

theorem body_bytes {F L V : Ix → Int} {A : Ix → Bool} {N : Nat} (h : allR F L V N = true) : allB (bodyB F L V A) (3 * N) = true := by
  refine List.all_eq_true.2 fun p hp => ?_
  rw [List.mem_range] at hp
  obtain ⟨h1, h2, h3, h4, h5, h6⟩ := rightT_ok' (allR_ok h (show p / 3 < N by omega))
  have hb : 0 ≤ b2 (L [p / 3]) (A [p / 3]) ∧ b2 (L [p / 3]) (A [p / 3]) < 256 := by
    unfold b2
    split <;> omega
  have e : bodyB F L V A [p] = if p % 3 = 0 then F [p / 3] else if p % 3 = 1 then b2 (L [p / 3]) (A [p / 3]) else V [p / 3] := rfl
  rw [e]
  simp only [Bool.and_eq_true, decide_eq_true_eq]
  by_cases q0 : p % 3 = 0
  · rw [if_pos q0]; omega
  · rw [if_neg q0]
    by_cases q1 : p % 3 = 1
    · rw [if_pos q1]; exact hb
    · rw [if_neg q1]; omega

theorem gS_bytes {B : Ix → Int} {n p : Nat} (hB : ∀ i, i < n → 0 ≤ B [i] ∧ B [i] < 256) (hp : p < n) : gS (bytesOf B [] 0 n) p = gB B p := by
  have := hB p hp
  simp only [gS, gB, bytesOf, List.getD_eq_getElem?_getD, List.getElem?_map, List.getElem?_range hp, Option.map_some, Option.getD_some, List.nil_append, Nat.zero_add, UInt8.toNat_ofNat']
  omega

theorem lstR_ok {B : Ix → Int} {n : Nat} (hB : ∀ i, i < n → 0 ≤ B [i] ∧ B [i] < 256) (h3 : n % 3 = 0) : lstR (bytesOf B [] 0 n) = rts (gB B) (n / 3) := by
  unfold lstR
  rw [bl_len, if_pos h3]
  unfold rts
  congr 1
  apply List.map_congr_left
  intro m hm
  rw [List.mem_range] at hm
  simp only [trG]
  rw [gS_bytes hB (p := 3 * m) (by omega), gS_bytes hB (p := 3 * m + 1) (by omega), gS_bytes hB (p := 3 * m + 2) (by omega)]
theorem lstR_no {B : Ix → Int} {n : Nat} (h3 : n % 3 ≠ 0) : lstR (bytesOf B [] 0 n) = [] := by
  unfold lstR
  rw [bl_len, if_neg h3]
theorem allB_of {B : Ix → Int} {n : Nat} (hB : ∀ i, i < n → 0 ≤ B [i] ∧ B [i] < 256) : allB B n = true := by
  refine List.all_eq_true.2 fun p hp => ?_
  have := hB p (List.mem_range.1 hp)
  simp [this]

section
variable (t0 t1 t2 t3 t4 t5 t6 t7 t8 t9 t10 t11 t12 t13 t14 t15 : List UInt8) (N n : Nat) (F L V : Ix → Int) (A : Ix → Bool) (B : Ix → Int)

theorem qL (p : List Tri) (hp : p.length ≤ 100) : ∀ (k i : Nat), i + k = p.length → RunsTo Tryd.prog 9 (headOf Tryd.f9 2) (envAt Tryd.f9.ntmps (w2E i p p)) (Sx.look (X9 t0 t1 t2 t3 t4 t5 t6 t7 t8 t9 t10 t11 t12 t13 t14 t15 N n F L V A B ++ pq p p)) 110 YES (Sx.look []) 900 := by
  intro k
  induction k with
  | zero =>
    intro i hi
    obtain rfl : i = p.length := by omega
    exact qE t0 t1 t2 t3 t4 t5 t6 t7 t8 t9 t10 t11 t12 t13 t14 t15 N n F L V A B p
  | succ k ih => intro i hi; exact qN t0 t1 t2 t3 t4 t5 t6 t7 t8 t9 t10 t11 t12 t13 t14 t15 N n F L V A B i p (by omega) hp (ih (i + 1) (by omega))

theorem bL (hn : n ≤ 300) (hB : ∀ i, i < n → 0 ≤ B [i] ∧ B [i] < 256) (hN : N ≤ 85) (hr : allR F L V N = true) : ∀ (k i : Nat), i + k = N → RunsTo Tryd.prog 9 (headOf Tryd.f9 1) (envAt Tryd.f9.ntmps (w1E N n i (rts (gB (bodyB F L V A)) N))) (Sx.look (X9 t0 t1 t2 t3 t4 t5 t6 t7 t8 t9 t10 t11 t12 t13 t14 t15 N n F L V A B ++ rowT 123 (rts (gB (bodyB F L V A)) N))) 110 YES (Sx.look []) 900 := by
  have hl : (rts (gB (bodyB F L V A)) N).length = N := by rw [rts_body hr]; simp
  intro k
  induction k with
  | zero =>
    intro i hi
    obtain rfl : i = (rts (gB (bodyB F L V A)) N).length := by omega
    by_cases h3 : n % 3 = 0
    · have e := lstR_ok hB h3
      have hle := rts_len (gB B) (n / 3)
      refine bEo t0 t1 t2 t3 t4 t5 t6 t7 t8 t9 t10 t11 t12 t13 t14 t15 N n F L V A B _ h3 (allB_of hB) (by unfold numR; rw [bl_len, if_pos h3]) hn (by rw [e]) (bl_len B 0 n) ?_
      rw [e]
      exact qL t0 t1 t2 t3 t4 t5 t6 t7 t8 t9 t10 t11 t12 t13 t14 t15 N n F L V A B _ (by omega) _ 0 (Nat.zero_add _)
    · have e := lstR_no (B := B) h3
      refine bEb t0 t1 t2 t3 t4 t5 t6 t7 t8 t9 t10 t11 t12 t13 t14 t15 N n F L V A B _ h3 (by unfold numR; rw [bl_len, if_neg h3]) hn (by rw [e]) (bl_len B 0 n) ?_
      rw [e]
      exact qL t0 t1 t2 t3 t4 t5 t6 t7 t8 t9 t10 t11 t12 t13 t14 t15 N n F L V A B [] (by simp) 0 0 rfl
  | succ k ih =>
    intro i hi
    have hg := body_get (A := A) hr (show i < N by omega)
    exact bN t0 t1 t2 t3 t4 t5 t6 t7 t8 t9 t10 t11 t12 t13 t14 t15 N n F L V A B i _ (by omega) (by omega) hl (by simp only [cF, List.headD_cons, hg]) (by simp only [cL, List.headD_cons, hg]) (by simp only [cV, List.headD_cons, hg]) (by simp only [cA, List.headD_cons, hg]) (ih (i + 1) (by omega))

theorem wL (hn : n ≤ 300) (hB : ∀ i, i < n → 0 ≤ B [i] ∧ B [i] < 256) (hN : N ≤ 100) : ∀ (k i : Nat), i + k = N → RunsTo Tryd.prog 9 (headOf Tryd.f9 0) (envAt Tryd.f9.ntmps (w0E N n i)) (Sx.look (X9 t0 t1 t2 t3 t4 t5 t6 t7 t8 t9 t10 t11 t12 t13 t14 t15 N n F L V A B ++ triW 121 i F L V A)) 110 YES (Sx.look []) 900 := by
  intro k
  induction k with
  | succ k ih => intro i hi; exact wN t0 t1 t2 t3 t4 t5 t6 t7 t8 t9 t10 t11 t12 t13 t14 t15 N n F L V A B i (by omega) hN (ih (i + 1) (by omega))
  | zero =>
    intro i hi
    obtain rfl : i = N := by omega
    have e3 : 3 * i / 3 = i := by omega
    have last1 : n % 3 = 0 → RunsTo Tryd.prog 9 (headOf Tryd.f9 2) (envAt Tryd.f9.ntmps (w2E 0 (rts (gB B) (n / 3)) (lstR (bytesOf B [] 0 n)))) (Sx.look (X9 t0 t1 t2 t3 t4 t5 t6 t7 t8 t9 t10 t11 t12 t13 t14 t15 i n F L V A B ++ pq (rts (gB B) (n / 3)) (lstR (bytesOf B [] 0 n)))) 110 YES (Sx.look []) 900 := fun h3 => by
      have hle := rts_len (gB B) (n / 3)
      rw [lstR_ok hB h3]
      exact qL t0 t1 t2 t3 t4 t5 t6 t7 t8 t9 t10 t11 t12 t13 t14 t15 i n F L V A B _ (by omega) _ 0 (Nat.zero_add _)
    have last2 : n % 3 ≠ 0 → RunsTo Tryd.prog 9 (headOf Tryd.f9 2) (envAt Tryd.f9.ntmps (w2E 0 [] (lstR (bytesOf B [] 0 n)))) (Sx.look (X9 t0 t1 t2 t3 t4 t5 t6 t7 t8 t9 t10 t11 t12 t13 t14 t15 i n F L V A B ++ pq [] (lstR (bytesOf B [] 0 n)))) 110 YES (Sx.look []) 900 := fun h3 => by
      rw [lstR_no h3]
      exact qL t0 t1 t2 t3 t4 t5 t6 t7 t8 t9 t10 t11 t12 t13 t14 t15 i n F L V A B [] (by simp) 0 0 rfl
    cases hr : allR F L V i with
    | true =>
      by_cases h85 : i ≤ 85
      · refine wOk t0 t1 t2 t3 t4 t5 t6 t7 t8 t9 t10 t11 t12 t13 t14 t15 i n F L V A B h85 hr (by simp [txtB, hr, h85, bytes_flat]) (by simp [numB, hr, h85]) (body_bytes hr) (by rw [e3, rts_body hr]; simp) ?_
        rw [e3]
        exact bL t0 t1 t2 t3 t4 t5 t6 t7 t8 t9 t10 t11 t12 t13 t14 t15 i n F L V A B hn hB h85 hr i 0 (by omega)
      · by_cases h3 : n % 3 = 0
        · exact wLo t0 t1 t2 t3 t4 t5 t6 t7 t8 t9 t10 t11 t12 t13 t14 t15 i n F L V A B hr ⟨by omega, hN⟩ h3 (allB_of hB) (by unfold numR; rw [bl_len, if_pos h3]) hn (by simp [txtB, hr, h85]) (by simp [numB, hr, h85]) (by rw [lstR_ok hB h3]) (bl_len B 0 n) (last1 h3)
        · exact wLb t0 t1 t2 t3 t4 t5 t6 t7 t8 t9 t10 t11 t12 t13 t14 t15 i n F L V A B hr ⟨by omega, hN⟩ h3 (by unfold numR; rw [bl_len, if_neg h3]) hn (by simp [txtB, hr, h85]) (by simp [numB, hr, h85]) (by rw [lstR_no h3]) (bl_len B 0 n) (last2 h3)
    | false =>
      by_cases h3 : n % 3 = 0
      · exact wFo t0 t1 t2 t3 t4 t5 t6 t7 t8 t9 t10 t11 t12 t13 t14 t15 i n F L V A B hr hN h3 (allB_of hB) (by unfold numR; rw [bl_len, if_pos h3]) hn (by simp [txtB, hr]) (by simp [numB, hr]) (by rw [lstR_ok hB h3]) (bl_len B 0 n) (last1 h3)
      · exact wFb t0 t1 t2 t3 t4 t5 t6 t7 t8 t9 t10 t11 t12 t13 t14 t15 i n F L V A B hr hN h3 (by unfold numR; rw [bl_len, if_neg h3]) hn (by simp [txtB, hr]) (by simp [numB, hr]) (by rw [lstR_no h3]) (bl_len B 0 n) (last2 h3)

theorem bodies_law (hB : ∀ i, i < n → 0 ≤ B [i] ∧ B [i] < 256) :
    RunsTo Tryd.prog 9 [.code (bodyOf Tryd.f9)] (envOf [triV 100 N, byV 101 n] Tryd.f9.ntmps) (Sx.look (X9 t0 t1 t2 t3 t4 t5 t6 t7 t8 t9 t10 t11 t12 t13 t14 t15 N n F L V A B ++ [])) 110 YES (Sx.look []) 900 := by
  by_cases h : 100 < N ∨ 300 < n
  · exact wlong t0 t1 t2 t3 t4 t5 t6 t7 t8 t9 t10 t11 t12 t13 t14 t15 N n F L V A B h
  · exact w0 t0 t1 t2 t3 t4 t5 t6 t7 t8 t9 t10 t11 t12 t13 t14 t15 N n F L V A B (by omega) (by omega) (wL t0 t1 t2 t3 t4 t5 t6 t7 t8 t9 t10 t11 t12 t13 t14 t15 N n F L V A B (by omega) hB (by omega) N 0 (by omega))
end
end Go.Proofs.YtdmkdmaofgjelaaDoor
