/- Buffer: the act-by-act law's loops. -/
import Derived.Test.YtdmkdmaofgjelaaDoorCbC
set_option linter.unusedSimpArgs false
set_option linter.unusedVariables false
set_option maxRecDepth 100000
namespace Go.Proofs.YtdmkdmaofgjelaaDoor
open Go.Sx

theorem lgR_no {bl : Ix → Nat} : ∀ {k i : Nat}, lgR bl k i = false → ∀ j, i ≤ j → j < i + k → bl [j] ≤ 100
  | 0, i, h, j, h1, h2 => by omega
  | k + 1, i, h, j, h1, h2 => by
    simp only [lgR, Bool.or_eq_false_iff, decide_eq_false_iff_not] at h
    rcases Nat.eq_or_lt_of_le h1 with rfl | h3
    · omega
    · exact lgR_no h.2 j (by omega) (by omega)

theorem longB_no {N : Nat} {bl : Ix → Nat} (h : longB N bl = false) : N ≤ 40 ∧ ∀ j, j < N → bl [j] ≤ 100 := by
  unfold longB at h
  split at h
  · cases h
  · exact ⟨by omega, fun j hj => lgR_no h j (by omega) (by omega)⟩

/-- What a buffer is, against all that came. -/
structure Inv (m base lost : Int) (n : Nat) (Q : Ix → Int) (all : List UInt8) : Prop where
  pos : 0 ≤ base
  sum : base + n = all.length
  most : 1 ≤ m ∧ m ≤ 1000
  fits : (n : Int) ≤ m
  los : 0 ≤ lost ∧ lost ≤ base
  text : bytesOf Q [] 0 n = all.drop base.toNat

theorem Inv.eat {m base lost : Int} {n : Nat} {Q : Ix → Int} {all : List UInt8} (I : Inv m base lost n Q all) {to : Int} (h1 : base ≤ to) (h2 : to ≤ base + n) : Inv m to lost (n - (to - base).toNat) (fun is => Q (shIx (to - base).toNat is)) all := by
  have p := I.pos
  have s := I.sum
  have f := I.fits
  have l := I.los
  refine ⟨by omega, by omega, I.most, by omega, by omega, ?_⟩
  rw [sh_bytes, cutT I.text p h1 h2]

theorem Inv.size {m base lost : Int} {n : Nat} {Q : Ix → Int} {all : List UInt8} (I : Inv m base lost n Q all) {m' : Int} (hm : 1 ≤ m' ∧ m' ≤ 1000) : Inv m' (base + trimD all.length base m') (lost + trimD all.length base m') (n - (trimD all.length base m').toNat) (fun is => Q (shIx (trimD all.length base m').toNat is)) all := by
  have p := I.pos
  have s := I.sum
  have f := I.fits
  have l := I.los
  obtain ⟨d1, d2, d3⟩ := trimD_le (m := m') s hm.1
  refine ⟨by omega, by omega, hm, by omega, by omega, ?_⟩
  rw [sh_bytes, cutD I.text p d1 d2]

theorem Inv.add {m base lost : Int} {n : Nat} {Q : Ix → Int} {all : List UInt8} (I : Inv m base lost n Q all) (c : Int) : Inv m (base + addD m n) (lost + addD m n) (n + 1 - addD m n) (addB Q n c (addD m n)) (all ++ [UInt8.ofNat c.toNat]) := by
  have p := I.pos
  have s := I.sum
  have f := I.fits
  have l := I.los
  obtain ⟨d1, d2⟩ := addD_le m n f I.most.1
  refine ⟨by omega, ?_, I.most, d2, by omega, add_bytes I.text p s d1⟩
  simp only [List.length_append, List.length_cons, List.length_nil]
  omega

section
variable (t0 t1 t2 t3 t4 t5 t6 t7 t8 t9 t10 t11 t12 t13 t14 t15 : List UInt8) (N : Nat) (K M : Ix → Int) (bl : Ix → Nat) (B : Ix → Int)

abbrev OutR (i : Nat) (m base lost : Int) (n : Nat) (Q : Ix → Int) (all : List UInt8) : Prop :=
  RunsTo Tryd.prog 7 (headOf Tryd.f7 0) (envAt Tryd.f7.ntmps (otE N i)) (Sx.look (X7 t0 t1 t2 t3 t4 t5 t6 t7 t8 t9 t10 t11 t12 t13 t14 t15 N K M bl B ++ two 121 m base lost n Q all)) 110 YES (Sx.look []) 400
abbrev InR (i j : Nat) (m base lost : Int) (n : Nat) (Q : Ix → Int) (all : List UInt8) : Prop :=
  RunsTo Tryd.prog 7 (headOf Tryd.f7 1) (envAt Tryd.f7.ntmps (inE N i j bl)) (Sx.look (X7 t0 t1 t2 t3 t4 t5 t6 t7 t8 t9 t10 t11 t12 t13 t14 t15 N K M bl B ++ two 121 m base lost n Q all)) 110 YES (Sx.look []) 400

theorem in_loop (i : Nat) (hi : i < N) (hN : N ≤ 40) (hbl : bl [i] ≤ 100) (hB : ∀ j, j < bl [i] → 0 ≤ B [i, j] ∧ B [i, j] < 256)
    (next : ∀ m base lost n Q all, Inv m base lost n Q all → all.length ≤ (i + 1) * 100 → OutR t0 t1 t2 t3 t4 t5 t6 t7 t8 t9 t10 t11 t12 t13 t14 t15 N K M bl B (i + 1) m base lost n Q all) :
    ∀ k j m base lost n Q all, j + k = bl [i] → Inv m base lost n Q all → all.length ≤ i * 100 + j → InR t0 t1 t2 t3 t4 t5 t6 t7 t8 t9 t10 t11 t12 t13 t14 t15 N K M bl B i j m base lost n Q all := by
  intro k
  induction k with
  | zero =>
    intro j m base lost n Q all hj I ha
    have l := I.los
    have p := I.pos
    have s := I.sum
    exact iout t0 t1 t2 t3 t4 t5 t6 t7 t8 t9 t10 t11 t12 t13 t14 t15 N K M bl B i j m base lost n Q all hi hN p s (by omega) I.most I.fits ⟨l.1, by omega⟩ I.text (by omega) (next m base lost n Q all I (by omega))
  | succ k ih =>
    intro j m base lost n Q all hj I ha
    have l := I.los
    have p := I.pos
    have s := I.sum
    exact inext t0 t1 t2 t3 t4 t5 t6 t7 t8 t9 t10 t11 t12 t13 t14 t15 N K M bl B i j m base lost n Q all hi hN p s (by omega) I.most I.fits ⟨l.1, by omega⟩ I.text (by omega) hbl (hB j (by omega))
      (ih (j + 1) _ _ _ _ _ _ (by omega) (I.add _) (by simp only [List.length_append, List.length_cons, List.length_nil]; omega))

theorem out_loop (hN : N ≤ 40) (hbl : ∀ j, j < N → bl [j] ≤ 100) (hB : ∀ i, i < N → ∀ j, j < bl [i] → 0 ≤ B [i, j] ∧ B [i, j] < 256) :
    ∀ k i m base lost n Q all, i + k = N → Inv m base lost n Q all → all.length ≤ i * 100 → OutR t0 t1 t2 t3 t4 t5 t6 t7 t8 t9 t10 t11 t12 t13 t14 t15 N K M bl B i m base lost n Q all := by
  intro k
  induction k with
  | zero =>
    intro i m base lost n Q all hi I ha
    exact odone t0 t1 t2 t3 t4 t5 t6 t7 t8 t9 t10 t11 t12 t13 t14 t15 N K M bl B i m base lost n Q all (by omega)
  | succ k ih =>
    intro i m base lost n Q all hi I ha
    have l := I.los
    have p := I.pos
    have s := I.sum
    have hi' : i < N := by omega
    have l' : 0 ≤ lost ∧ lost ≤ 100000 := ⟨l.1, by omega⟩
    have ha' : (all.length : Int) ≤ 100000 := by omega
    have same := ih (i + 1) m base lost n Q all (by omega) I (by omega)
    by_cases h0 : K [i] = 0
    · exact oin t0 t1 t2 t3 t4 t5 t6 t7 t8 t9 t10 t11 t12 t13 t14 t15 N K M bl B i m base lost n Q all hi' hN h0
        (in_loop t0 t1 t2 t3 t4 t5 t6 t7 t8 t9 t10 t11 t12 t13 t14 t15 N K M bl B i hi' hN (hbl i hi') (hB i hi') (fun m base lost n Q all I h => ih (i + 1) m base lost n Q all (by omega) I h) (bl [i]) 0 m base lost n Q all (by omega) I (by omega))
    by_cases h1 : K [i] = 1
    · by_cases hr : M [i] < base ∨ base + n < M [i]
      · exact oeatbad t0 t1 t2 t3 t4 t5 t6 t7 t8 t9 t10 t11 t12 t13 t14 t15 N K M bl B i m base lost n Q all hi' hN p s ha' I.most I.fits l' I.text h1 hr same
      · have hr' : base ≤ M [i] ∧ M [i] ≤ base + n := by omega
        exact oeat t0 t1 t2 t3 t4 t5 t6 t7 t8 t9 t10 t11 t12 t13 t14 t15 N K M bl B i m base lost n Q all hi' hN p s ha' I.most I.fits l' I.text h1 hr' (ih (i + 1) _ _ _ _ _ _ (by omega) (I.eat hr'.1 hr'.2) (by omega))
    by_cases h2 : K [i] = 2
    · by_cases hr : M [i] < 1 ∨ 1000 < M [i]
      · exact orsbad t0 t1 t2 t3 t4 t5 t6 t7 t8 t9 t10 t11 t12 t13 t14 t15 N K M bl B i m base lost n Q all hi' hN p s ha' I.most I.fits l' I.text h2 hr same
      · have hr' : 1 ≤ M [i] ∧ M [i] ≤ 1000 := by omega
        exact ors t0 t1 t2 t3 t4 t5 t6 t7 t8 t9 t10 t11 t12 t13 t14 t15 N K M bl B i m base lost n Q all hi' hN p s ha' I.most I.fits l' I.text h2 hr' (ih (i + 1) _ _ _ _ _ _ (by omega) (I.size hr') (by omega))
    exact oother t0 t1 t2 t3 t4 t5 t6 t7 t8 t9 t10 t11 t12 t13 t14 t15 N K M bl B i m base lost n Q all hi' hN p s ha' I.most I.fits l' I.text ⟨h0, h1, h2⟩ same

theorem acts_law (most : Int) (hB : ∀ i, i < N → ∀ j, j < bl [i] → 0 ≤ B [i, j] ∧ B [i, j] < 256) :
    RunsTo Tryd.prog 7 [.code (bodyOf Tryd.f7)] (envOf [vN most, actV N] Tryd.f7.ntmps) (Sx.look (X7 t0 t1 t2 t3 t4 t5 t6 t7 t8 t9 t10 t11 t12 t13 t14 t15 N K M bl B ++ [])) 110 YES (Sx.look []) 400 := by
  cases hlong : longB N bl with
  | true => exact golong t0 t1 t2 t3 t4 t5 t6 t7 t8 t9 t10 t11 t12 t13 t14 t15 most N K M bl B hlong
  | false =>
    obtain ⟨hN, hbl⟩ := longB_no hlong
    by_cases hr : most < 1 ∨ 1000 < most
    · exact gobad t0 t1 t2 t3 t4 t5 t6 t7 t8 t9 t10 t11 t12 t13 t14 t15 most N K M bl B hlong hr
    · have hr' : 1 ≤ most ∧ most ≤ 1000 := by omega
      exact go t0 t1 t2 t3 t4 t5 t6 t7 t8 t9 t10 t11 t12 t13 t14 t15 most N K M bl B hlong hr'
        (out_loop t0 t1 t2 t3 t4 t5 t6 t7 t8 t9 t10 t11 t12 t13 t14 t15 N K M bl B hN hbl hB N 0 most 0 0 0 zQ [] (by omega) ⟨by omega, rfl, hr', by simp; omega, by omega, rfl⟩ (by simp))
end
end Go.Proofs.YtdmkdmaofgjelaaDoor
