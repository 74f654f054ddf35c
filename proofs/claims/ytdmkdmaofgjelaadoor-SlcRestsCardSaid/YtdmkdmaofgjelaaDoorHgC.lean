/- Special characters: two sides come to rest: what the steps keep, and the law. -/
import Derived.Test.YtdmkdmaofgjelaaDoorHfC
import Derived.Test.YtdmkdmaofgjelaaDoorHpC
set_option linter.unusedSimpArgs false
set_option linter.unusedVariables false
set_option maxRecDepth 100000
namespace Go.Proofs.YtdmkdmaofgjelaaDoor
open Go.Sx
open SlcR (Stg Msg Inv fine ans told nil0)

def msgOf (m : Tri) : Msg := ((m.2.1, m.2.2.1), m.2.2.2)
def proj (f : Nat) (T : List Tri) : List Msg := (T.filter fun m => m.1 == (f : Int)).map msgOf
def at2 (x y : Ix → Int) (f : Nat) : Stg := (x [f], y [f])
def rgt (m : Tri) : Bool := rightT m.1 m.2.1 m.2.2.1
def phi (T : List Tri) : Nat := (T.map fun m => SlcR.wt (msgOf m)).sum

theorem fineB_fine {l v : Int} (h : fineB l v = true) : fine (l, v) := by
  simp only [fineB, Bool.and_eq_true, decide_eq_true_eq, Bool.or_eq_true, Bool.not_eq_true', Bool.or_eq_false_iff, decide_eq_false_iff_not] at h
  refine ⟨by simp only; omega, fun h0 => ?_⟩
  simp only at h0 ⊢
  omega
theorem fineB_of {l v : Int} (h : fineB l v = true) : 0 ≤ l ∧ l ≤ 3 ∧ 0 ≤ v ∧ v ≤ 255 := by
  simp only [fineB, Bool.and_eq_true, decide_eq_true_eq] at h
  omega

theorem proj_nil (f : Nat) : proj f [] = [] := rfl
theorem proj_app (f : Nat) (T : List Tri) (m : Tri) : proj f (T ++ [m]) = if m.1 = (f : Int) then proj f T ++ [msgOf m] else proj f T := by
  unfold proj
  rw [List.filter_append, List.map_append]
  by_cases h : m.1 = (f : Int)
  · simp [h]
  · simp [h]
theorem proj_cons (f : Nat) (T : List Tri) (m : Tri) : proj f (m :: T) = if m.1 = (f : Int) then msgOf m :: proj f T else proj f T := by
  unfold proj
  by_cases h : m.1 = (f : Int)
  · simp [h]
  · simp [h]
theorem phi_app (T : List Tri) (m : Tri) : phi (T ++ [m]) = phi T + SlcR.wt (msgOf m) := by simp [phi]
theorem phi_cons (T : List Tri) (m : Tri) : phi (m :: T) = SlcR.wt (msgOf m) + phi T := by simp [phi]
theorem phi_len (T : List Tri) : T.length ≤ phi T := by
  induction T with
  | nil => simp [phi]
  | cons m T ih => rw [phi_cons, List.length_cons]; have := SlcR.wt_pos (msgOf m); omega

theorem cnd_at {α : Type} (b : Bool) (F : Ix → α) (k f : Nat) (a : α) : (cndF b (upd F [k] a) F) [f] = if b = true ∧ f = k then a else F [f] := by
  simp only [cndF, upd, List.cons.injEq, and_true]
  by_cases hb : b = true
  · by_cases hf : f = k <;> simp [hb, hf]
  · simp [hb]

theorem tell_ans (m : Tri) (oL oV : Ix → Int) (f : Nat) (hf : m.1 = (f : Int)) : msgOf (tellS m oL oV) = ans (at2 oL oV f) (m.2.1, m.2.2.1) := by
  have ht : m.1.toNat = f := by omega
  unfold msgOf tellS ans at2 nil0
  simp only [ht]
  unfold ansOf ansK
  by_cases a : m.2.1 = 0
  · simp [a]
  · by_cases b : m.2.1 = 3
    · simp [b]
    · by_cases c : oL [f] = 2
      · simp [a, b, c]
      · by_cases d : m.2.1 = 2
        · simp [d, c]
        · simp [a, b, c, d]
theorem tol_told (m : Tri) (hL hV : Ix → Int) (f : Nat) (hf : m.1 = (f : Int)) (hr : rgt m = true) : tol m hL hV = told (at2 hL hV f) (msgOf m) := by
  have ht : m.1.toNat = f := by omega
  unfold tol toldS told msgOf at2
  unfold rgt at hr
  rw [hr, ht, Bool.true_and]
  congr 2
  rw [Bool.eq_iff_iff]
  simp [Prod.ext_iff]
theorem rgt_fine {m : Tri} (h : rgt m = true) : ∃ f : Nat, m.1 = (f : Int) ∧ 1 ≤ f ∧ f ≤ 18 ∧ fine (m.2.1, m.2.2.1) ∧ fineB m.2.1 m.2.2.1 = true := by
  simp only [rgt, rightT, Bool.and_eq_true, decide_eq_true_eq] at h
  exact ⟨m.1.toNat, by omega, by omega, by omega, fineB_fine h.2, h.2⟩

structure J (hL hV oL oV : Ix → Int) (wt : Ix → Bool) (gL gV pL pV : Ix → Int) (wu : Ix → Bool) (T B : List Tri) : Prop where
  inv : ∀ f : Nat, 1 ≤ f → f ≤ 18 → Inv (at2 oL oV f) (at2 pL pV f) (at2 hL hV f) (wt [f]) (at2 gL gV f) (proj f T) (proj f B)
  rT : ∀ m ∈ T, rgt m = true
  rB : ∀ m ∈ B, rgt m = true
  w0 : wt [0] = false
  wu : ∀ f : Nat, wu [f] = false
  oo : ∀ f : Nat, 1 ≤ f → f ≤ 18 → fineB (oL [f]) (oV [f]) = true
  pp : ∀ f : Nat, 1 ≤ f → f ≤ 18 → fineB (pL [f]) (pV [f]) = true

theorem upd_at {α : Type} (F : Ix → α) (k f : Nat) (a : α) : upd F [k] a [f] = if f = k then a else F [f] := by simp [upd]

section
variable {hL hV oL oV : Ix → Int} {wt : Ix → Bool} {gL gV pL pV : Ix → Int} {wu : Ix → Bool} {T B : List Tri}

theorem j_ask (h : J hL hV oL oV wt gL gV pL pV wu T B) {g l v : Int} (hc : askC g l v hL hV wt = true) :
    J (if l = 3 then hL else upd hL [g.toNat] l) (if l = 3 then hV else upd hV [g.toNat] v) oL oV (upd wt [g.toNat] true) gL gV pL pV wu (T ++ [(g, l, v, false)]) B := by
  obtain ⟨a1, a2, a3, a4, a5, a6⟩ := askC_yes hc
  refine ⟨fun f h1 h2 => ?_, fun m hm => ?_, h.rB, ?_, h.wu, h.oo, h.pp⟩
  · have hI := h.inv f h1 h2
    rw [proj_app]
    by_cases hf : g = (f : Int)
    · have hk : g.toNat = f := by omega
      rw [hk] at a5 a6
      rw [a5] at hI
      have := SlcR.inv_ask hI (x := (l, v)) (fineB_fine a3) a4 (fun e => a6 (by simpa [at2, Prod.ext_iff] using e))
      simp only [hf, if_true, msgOf, upd_at, Int.toNat_natCast]
      have e1 : at2 (if l = 3 then hL else upd hL [f] l) (if l = 3 then hV else upd hV [f] v) f = (if l = 3 then at2 hL hV f else (l, v)) := by
        unfold at2
        by_cases h3 : l = 3 <;> simp [h3, upd_at]
      rw [e1]
      exact this
    · have hk : ¬ f = g.toNat := by omega
      simp only [hf, if_false]
      have e1 : at2 (if l = 3 then hL else upd hL [g.toNat] l) (if l = 3 then hV else upd hV [g.toNat] v) f = at2 hL hV f := by
        unfold at2
        by_cases h3 : l = 3 <;> simp [h3, upd_at, hk]
      rw [e1, upd_at, if_neg hk]
      exact hI
  · rcases List.mem_append.1 hm with hm | hm
    · exact h.rT m hm
    · simp only [List.mem_singleton] at hm; subst hm; simp [rgt, rightT, a1, a2, a3]
  · rw [upd_at, if_neg (by omega)]; exact h.w0

theorem rgt_tell {m : Tri} (hr : rgt m = true) (oo : ∀ f : Nat, 1 ≤ f → f ≤ 18 → fineB (oL [f]) (oV [f]) = true) : rgt (tellS m oL oV) = true := by
  obtain ⟨f, hf, h1, h2, _, h4⟩ := rgt_fine hr
  have ho := oo f h1 h2
  have ht : m.1.toNat = f := by omega
  simp only [rgt, rightT, tellS, ht]
  have h0 : fineB 0 0 = true := rfl
  have hm1 : decide (1 ≤ m.1) = true := decide_eq_true (by omega)
  have hm2 : decide (m.1 ≤ 18) = true := decide_eq_true (by omega)
  rw [hm1, hm2]
  simp only [Bool.true_and]
  unfold ansOf
  by_cases a : ansK m.2.1 (oL [f]) = 0
  · simp [a, h4]
  · by_cases b : ansK m.2.1 (oL [f]) = 1
    · simp [b, ho]
    · simp [a, b, h0]

theorem hear_at {m : Tri} {f : Nat} (hf : m.1 = (f : Int)) (k : Nat) : at2 (hearL m hL hV oL) (hearV m hL hV oL oV) k = if tol m hL hV = true ∧ k = f then ((msgOf (tellS m oL oV)).1) else at2 hL hV k := by
  have ht : m.1.toNat = f := by omega
  unfold at2 hearL hearV
  rw [cnd_at, cnd_at, ht]
  show _ = if tol m hL hV = true ∧ k = f then _ else _
  unfold tol
  by_cases h : toldS m.1 m.2.1 m.2.2.1 m.2.2.2 hL hV = true ∧ k = f
  · simp only [if_pos h, msgOf, tellS, ht]
  · simp only [if_neg h]
theorem hearW_at {m : Tri} {f : Nat} (hf : m.1 = (f : Int)) (hr : rgt m = true) (w : Ix → Bool) (k : Nat) : (hearW m w) [k] = if k = f then false else w [k] := by
  have ht : m.1.toNat = f := by omega
  unfold hearW
  rw [cnd_at, ht]
  unfold rgt at hr
  simp [hr]

theorem j_hearS {m : Tri} (h : J hL hV oL oV wt gL gV pL pV wu (m :: T) B) :
    J hL hV oL oV wt (hearL m gL gV pL) (hearV m gL gV pL pV) pL pV (hearW m wu) T (if tol m gL gV = true then B ++ [tellS m pL pV] else B) := by
  have hr := h.rT m (by simp)
  obtain ⟨f0, hf, h1, h2, _, _⟩ := rgt_fine hr
  refine ⟨fun f g1 g2 => ?_, fun k hk => h.rT k (by simp [hk]), fun k hk => ?_, h.w0, fun f => ?_, h.oo, h.pp⟩
  · have hI := h.inv f g1 g2
    rw [proj_cons] at hI
    by_cases he : f = f0
    · subst he
      rw [if_pos hf] at hI
      have := SlcR.inv_hearS hI
      rw [← tol_told m gL gV f hf hr] at this
      rw [hear_at hf]
      have e1 : (msgOf m).1 = (m.2.1, m.2.2.1) := rfl
      rw [e1, ← tell_ans m pL pV f hf] at this
      cases ht : tol m gL gV with
      | true =>
        rw [ht] at this
        simp only [if_true, true_and] at this ⊢
        rw [proj_app, if_pos (show (tellS m pL pV).1 = (f : Int) from hf)]
        exact this
      | false =>
        rw [ht] at this
        simp only [Bool.false_eq_true, if_false, false_and] at this ⊢
        exact this
    · have hne : ¬ m.1 = (f : Int) := by omega
      rw [if_neg hne] at hI
      rw [hear_at hf, if_neg (fun e => he e.2)]
      have : proj f (if tol m gL gV = true then B ++ [tellS m pL pV] else B) = proj f B := by
        split
        · rw [proj_app, if_neg (show ¬ (tellS m pL pV).1 = (f : Int) from hne)]
        · rfl
      rw [this]
      exact hI
  · split at hk
    · rcases List.mem_append.1 hk with hk | hk
      · exact h.rB k hk
      · simp only [List.mem_singleton] at hk; subst hk; exact rgt_tell hr h.pp
    · exact h.rB k hk
  · rw [hearW_at hf hr]
    split
    · rfl
    · exact h.wu f

theorem j_hearC {m : Tri} (h : J hL hV oL oV wt gL gV pL pV wu T (m :: B)) :
    J (hearL m hL hV oL) (hearV m hL hV oL oV) oL oV (hearW m wt) gL gV pL pV wu (if tol m hL hV = true then T ++ [tellS m oL oV] else T) B := by
  have hr := h.rB m (by simp)
  obtain ⟨f0, hf, h1, h2, _, _⟩ := rgt_fine hr
  refine ⟨fun f g1 g2 => ?_, fun k hk => ?_, fun k hk => h.rB k (by simp [hk]), ?_, h.wu, h.oo, h.pp⟩
  · have hI := h.inv f g1 g2
    rw [proj_cons] at hI
    by_cases he : f = f0
    · subst he
      rw [if_pos hf] at hI
      have := SlcR.inv_hearC hI
      rw [← tol_told m hL hV f hf hr] at this
      rw [hear_at hf, hearW_at hf hr, if_pos rfl]
      have e1 : (msgOf m).1 = (m.2.1, m.2.2.1) := rfl
      rw [e1, ← tell_ans m oL oV f hf] at this
      cases ht : tol m hL hV with
      | true =>
        rw [ht] at this
        simp only [if_true, true_and] at this ⊢
        rw [proj_app, if_pos (show (tellS m oL oV).1 = (f : Int) from hf)]
        exact this
      | false =>
        rw [ht] at this
        simp only [Bool.false_eq_true, if_false, false_and] at this ⊢
        exact this
    · have hne : ¬ m.1 = (f : Int) := by omega
      rw [if_neg hne] at hI
      rw [hear_at hf, if_neg (fun e => he e.2), hearW_at hf hr, if_neg he]
      have : proj f (if tol m hL hV = true then T ++ [tellS m oL oV] else T) = proj f T := by
        split
        · rw [proj_app, if_neg (show ¬ (tellS m oL oV).1 = (f : Int) from hne)]
        · rfl
      rw [this]
      exact hI
  · split at hk
    · rcases List.mem_append.1 hk with hk | hk
      · exact h.rT k hk
      · simp only [List.mem_singleton] at hk; subst hk; exact rgt_tell hr h.oo
    · exact h.rT k hk
  · rw [hearW_at hf hr, if_neg (by omega)]; exact h.w0

theorem tell_wt {m : Tri} (hr : rgt m = true) (ht : tol m hL hV = true) (oo : ∀ f : Nat, 1 ≤ f → f ≤ 18 → fineB (oL [f]) (oV [f]) = true) (o3 : ∀ f : Nat, 1 ≤ f → f ≤ 18 → oL [f] ≠ 3) : SlcR.wt (msgOf (tellS m oL oV)) < SlcR.wt (msgOf m) := by
  obtain ⟨f, hf, h1, h2, _, _⟩ := rgt_fine hr
  rw [tol_told m hL hV f hf hr] at ht
  obtain ⟨t1, _⟩ := SlcR.told_t ht
  rw [tell_ans m oL oV f hf]
  have : msgOf m = ((m.2.1, m.2.2.1), false) := by rw [← t1]; rfl
  rw [this]
  exact SlcR.wt_ans ⟨fineB_fine (oo f h1 h2), o3 f h1 h2⟩
end

theorem cntF_no {wt : Ix → Bool} : ∀ k i, (∀ f, i ≤ f → f < i + k → wt [f] = false) → cntF wt k i = 0
  | 0, _, _ => rfl
  | k + 1, i, h => by
    simp only [cntF]
    rw [h i (by omega) (by omega), cntF_no k (i + 1) (fun f h1 h2 => h f (by omega) (by omega))]
    rfl

end Go.Proofs.YtdmkdmaofgjelaaDoor
