/- Words: quoted right pieces are read as these, in plain Lean. -/
import Derived.Test.YtaleenklamognaaDoorPaC
import Derived.Test.YtaleenklamognaaDoorPcC
import Derived.Test.YtaleenklamognaaDoorPdC
set_option linter.unusedSimpArgs false
set_option linter.unusedVariables false

namespace WordR
def hexW : List UInt8 := [48, 49, 50, 51, 52, 53, 54, 55, 56, 57, 97, 98, 99, 100, 101, 102]
def toldW (x : Int) (p : Bool) : List UInt8 :=
  if x = 10 then [92, 110] else if x = 13 then [92, 114] else if x = 9 then [92, 116] else if x = 34 ∨ x = 36 ∨ x = 92 then [92, UInt8.ofNat x.toNat]
  else if p = true ∧ 32 ≤ x ∧ x ≤ 126 then [UInt8.ofNat x.toNat] else [92, 120, hexW.getD (x / 16).toNat 0, hexW.getD (x % 16).toNat 0]
/-- A told byte is read as it was, whatever follows. -/
def oneOK (c : UInt8) (p : Bool) : Bool := (match toldW (nat c) p with
  | [a] => decide (a ≠ 34 ∧ a ≠ 36 ∧ a ≠ 10 ∧ a ≠ 92 ∧ a = c)
  | [92, d] => decide ((d = 110 ∧ c = 10) ∨ (d = 114 ∧ c = 13) ∨ (d = 116 ∧ c = 9) ∨ ((d = 92 ∨ d = 34 ∨ d = 36) ∧ d = c))
  | [92, 120, u, v] => decide (0 ≤ hexI (nat u) ∧ 0 ≤ hexI (nat v) ∧ UInt8.ofNat (16 * hexI (nat u) + hexI (nat v)).toNat = c)
  | _ => false)
theorem one_all : ((List.range 256).all fun n => oneOK (UInt8.ofNat n) true && oneOK (UInt8.ofNat n) false) = true := by decide +kernel
theorem one_at (c : UInt8) (p : Bool) : oneOK c p = true := by
  have h := List.all_eq_true.1 one_all c.toNat (List.mem_range.2 c.toNat_lt)
  simp only [Bool.and_eq_true, UInt8.ofNat_toNat] at h
  cases p
  · exact h.2
  · exact h.1
theorem told_read (c : UInt8) (p : Bool) (r : List UInt8) : toldW (nat c) p ≠ [] ∧ oneR (toldW (nat c) p ++ r) = .byte c (toldW (nat c) p).length ∧ (toldW (nat c) p ++ r).headD 0 ≠ 34 := by
  have h := one_at c p
  unfold oneOK at h
  revert h
  generalize toldW (nat c) p = t
  intro h
  split at h
  · replace h := of_decide_eq_true h
    obtain ⟨h1, h2, h3, h4, rfl⟩ := h
    refine ⟨by simp, ?_, by simpa using h1⟩
    simp [oneR, h2, h3, h4]
  · rename_i d
    replace h := of_decide_eq_true h
    refine ⟨by simp, ?_, by simp⟩
    rcases h with ⟨rfl, rfl⟩ | ⟨rfl, rfl⟩ | ⟨rfl, rfl⟩ | ⟨h, rfl⟩
    · rfl
    · rfl
    · rfl
    · rcases h with rfl | rfl | rfl <;> rfl
  · rename_i u v
    replace h := of_decide_eq_true h
    refine ⟨by simp, ?_, by simp⟩
    obtain ⟨h1, h2, h3⟩ := h
    have e : oneR (92 :: 120 :: u :: v :: r) = hexR (u :: v :: r) := rfl
    show oneR (92 :: 120 :: u :: v :: r) = _
    rw [e, hexR, if_neg (by omega), if_neg (by omega), h3]; rfl
  · simp at h
end WordR

namespace WordR
def toldL (op : Bool) : List UInt8 → List UInt8
  | [] => []
  | c :: r => toldW (nat c) (!op || !goI (nat c)) ++ r.flatMap fun c => toldW (nat c) true
def bodyL : Bool → List Pc → List UInt8
  | _, [] => []
  | op, p :: r => if p.var ≠ [] then (36 :: p.var) ++ bodyL (ltrI (nat (p.var.headD 0))) r else toldL op p.lit ++ bodyL false r
def namL (s : List UInt8) : Bool := (decide (s.length = 1) && figI (nat (s.headD 0))) || (decide (spanR goI s = s.length) && decide (s.length ≤ 24) && ltrI (nat (s.headD 0)) && decide (s ≠ []))
/-- Right pieces behind a literal (pl) or not. -/
def okL' : Bool → List Pc → Bool
  | _, [] => true
  | pl, p :: r => if p.var ≠ [] then decide (p.lit = []) && namL p.var && okL' false r else decide (p.lit ≠ []) && !pl && okL' true r
def headOK (c : UInt8) : Bool := !goI (nat ((toldW (nat c) (!goI (nat c))).headD 0))
theorem head_all : ((List.range 256).all fun n => headOK (UInt8.ofNat n)) = true := by decide +kernel
theorem head_at (c : UInt8) : headOK c = true := by
  have h := List.all_eq_true.1 head_all c.toNat (List.mem_range.2 c.toNat_lt)
  simpa only [UInt8.ofNat_toNat] using h
theorem textR_told (c : UInt8) (p : Bool) (r : List UInt8) (f : Nat) (P : List Pc) (n : Nat) (hf : fitsP (litP P c) = true) :
    textR (f + 1) (toldW (nat c) p ++ r) P n = textR f r (litP P c) (n + (toldW (nat c) p).length) := by
  obtain ⟨h1, h2, h3⟩ := told_read c p r
  cases ht : toldW (nat c) p ++ r with
  | nil => exact absurd (List.append_eq_nil_iff.1 ht).1 h1
  | cons d q =>
    rw [ht] at h2 h3
    rw [textR, if_neg (by simpa using h3), h2]
    simp only [hf, if_true]
    rw [← ht, List.drop_left']
    rfl
theorem litP_new : ∀ (Q : List Pc) (c : UInt8), (Q = [] ∨ (Q.getLast?.map (·.var)) ≠ some []) → litP Q c = Q ++ [⟨[], [c]⟩]
  | [], c, _ => rfl
  | [p], c, h => by
    have h : p.var ≠ [] := by
      rcases h with h | h
      · cases h
      · simpa using h
    rw [litP, if_neg h]; rfl
  | p :: q :: r, c, h => by
    rw [litP, litP_new (q :: r) c (.inr (h.elim (fun h => by cases h) (fun h => by simpa using h)))]; rfl
theorem litP_more : ∀ (Q : List Pc) (b : List UInt8) (c : UInt8), litP (Q ++ [⟨[], b⟩]) c = Q ++ [⟨[], b ++ [c]⟩]
  | [], b, c => rfl
  | [p], b, c => rfl
  | p :: q :: r, b, c => by
    show litP (p :: q :: (r ++ [⟨[], b⟩])) c = _
    rw [litP]
    have := litP_more (q :: r) b c
    rw [List.cons_append] at this
    rw [this]; rfl
theorem fits_app {Q : List Pc} {b : List UInt8} (h : fitsP (Q ++ [⟨[], b⟩]) = true) {b' : List UInt8} (hb : b'.length ≤ b.length) : fitsP (Q ++ [⟨[], b'⟩]) = true := by
  unfold fitsP at *
  simp only [Bool.and_eq_true, decide_eq_true_eq, List.length_append, List.length_singleton, List.all_append, List.all_cons, List.all_nil, Bool.and_true] at *
  exact ⟨h.1, h.2.1, by omega⟩
/-- The further bytes of a literal. -/
theorem text_more (Q : List Pc) : ∀ (r b : List UInt8) (z : List UInt8) (f n : Nat), fitsP (Q ++ [⟨[], b ++ r⟩]) = true →
    textR (f + r.length) ((r.flatMap fun c => toldW (nat c) true) ++ z) (Q ++ [⟨[], b⟩]) n = textR f z (Q ++ [⟨[], b ++ r⟩]) (n + (r.flatMap fun c => toldW (nat c) true).length)
  | [], b, z, f, n, _ => by simp
  | c :: r, b, z, f, n, hf => by
    have hf1 : fitsP (Q ++ [⟨[], b ++ [c]⟩]) = true := fits_app hf (by simp)
    rw [List.flatMap_cons, List.append_assoc, List.length_cons, ← Nat.add_assoc, textR_told c true _ _ _ _ (by rw [litP_more]; exact hf1), litP_more]
    have := text_more Q r (b ++ [c]) z f (n + (toldW (nat c) true).length) (by simpa using hf)
    rw [this]
    simp [Nat.add_assoc]
theorem text_lit (Q : List Pc) (op : Bool) (b : List UInt8) (hb : b ≠ []) (z : List UInt8) (f n : Nat) (hq : Q = [] ∨ (Q.getLast?.map (·.var)) ≠ some []) (hf : fitsP (Q ++ [⟨[], b⟩]) = true) :
    textR (f + b.length) (toldL op b ++ z) Q n = textR f z (Q ++ [⟨[], b⟩]) (n + (toldL op b).length) := by
  cases b with
  | nil => exact absurd rfl hb
  | cons c r =>
    rw [toldL, List.append_assoc, List.length_cons, ← Nat.add_assoc, textR_told c _ _ _ _ _ (by rw [litP_new Q c hq]; exact fits_app hf (by simp)), litP_new Q c hq]
    have := text_more Q r [c] z f (n + (toldW (nat c) (!op || !goI (nat c))).length) (by simpa using hf)
    rw [this]
    simp [Nat.add_assoc]
theorem span_app {p : Int → Bool} : ∀ (s z : List UInt8), spanR p s = s.length → (z = [] ∨ p (nat (z.headD 0)) = false) → spanR p (s ++ z) = s.length
  | [], z, _, h => by
    cases z with
    | nil => rfl
    | cons a b =>
      have : p (nat a) = false := h.elim (fun h => by cases h) (fun h => by simpa using h)
      simp [spanR, this]
  | c :: s, z, hs, h => by
    rw [spanR] at hs
    by_cases hc : p (nat c) = true
    · rw [if_pos hc] at hs
      rw [List.cons_append, spanR, if_pos hc, span_app s z (by simpa using hs) h]; rfl
    · rw [if_neg hc] at hs; cases hs
theorem body_head (r : List Pc) (pl : Bool) (h : okL' pl r = true) (z : List UInt8) : goI (nat ((bodyL true r ++ 34 :: z).headD 0)) = false := by
  cases r with
  | nil => show goI (nat 34) = false; decide
  | cons p r =>
    rw [bodyL]
    by_cases hv : p.var ≠ []
    · rw [if_pos hv]; show goI (nat 36) = false; decide
    · rw [if_neg hv]
      rw [okL', if_neg hv] at h
      simp only [Bool.and_eq_true, decide_eq_true_eq] at h
      cases hl : p.lit with
      | nil => exact absurd hl h.1.1
      | cons c q =>
        have hk := head_at c
        unfold headOK at hk
        simp only [Bool.not_eq_true'] at hk
        rw [toldL]
        have hne := (told_read c (!true || !goI (nat c)) []).1
        cases ht : toldW (nat c) (!true || !goI (nat c)) with
        | nil => exact absurd ht hne
        | cons a b =>
          have e : (!true || !goI (nat c)) = !goI (nat c) := by simp
          rw [e] at ht
          rw [ht] at hk
          simpa using hk
theorem text_var (Q : List Pc) (v z : List UInt8) (f n : Nat) (hv : namL v = true) (hz : ltrI (nat (v.headD 0)) = true → goI (nat (z.headD 0)) = false ∨ z = []) (hf : fitsP (Q ++ [⟨v, []⟩]) = true) :
    textR (f + 1) (36 :: v ++ z) Q n = textR f z (Q ++ [⟨v, []⟩]) (n + (36 :: v).length) := by
  have key : oneR (36 :: (v ++ z)) = .var v (v.length + 1) := by
    show varR (v ++ z) = _
    unfold namL at hv
    simp only [Bool.or_eq_true, Bool.and_eq_true, decide_eq_true_eq] at hv
    cases v with
    | nil => exact hv.elim (fun h => by simp at h) (fun h => absurd rfl h.2)
    | cons d w =>
      rcases hv with ⟨h1, h2⟩ | ⟨⟨⟨h1, h2⟩, h3⟩, _⟩
      · have : w = [] := by simpa using h1
        subst this
        have h2 : figI (nat d) = true := by simpa using h2
        show varR (d :: ([] ++ z)) = _
        rw [varR, if_pos h2]; rfl
      · have h3' : ltrI (nat d) = true := by simpa using h3
        have hs := span_app (p := goI) (d :: w) z h1 ((hz h3).elim .inr .inl)
        have hnf : figI (nat d) = false := by
          cases hq : figI (nat d) with
          | false => rfl
          | true => unfold figI at hq; unfold ltrI at h3'; simp at hq h3'; omega
        have hs' : spanR goI (d :: (w ++ z)) = (d :: w).length := hs
        show varR (d :: (w ++ z)) = _
        rw [varR, if_neg (by rw [hnf]; decide), if_neg (by rw [h3']; decide), if_neg (by rw [hs']; omega), hs']
        have : (d :: (w ++ z)).take (d :: w).length = d :: w := by
          show ((d :: w) ++ z).take (d :: w).length = _
          rw [List.take_left']; rfl
        rw [this]
  show textR (f + 1) (36 :: (v ++ z)) Q n = _
  rw [textR, if_neg (by decide), key]
  simp only [hf, if_true]
  rw [show (36 :: (v ++ z)).drop (v.length + 1) = z by simp]
  rfl
theorem fits_pre {Q R : List Pc} (h : fitsP (Q ++ R) = true) : fitsP Q = true := by
  unfold fitsP at *
  simp only [Bool.and_eq_true, decide_eq_true_eq, List.length_append, List.all_append] at *
  exact ⟨by omega, h.2.1⟩
/-- Quoted pieces are read as these. -/
theorem text_all : ∀ (R Q : List Pc) (op pl : Bool) (z : List UInt8) (f n : Nat), okL' pl R = true → fitsP (Q ++ R) = true → (pl = false → Q = [] ∨ (Q.getLast?.map (·.var)) ≠ some []) → (bodyL op R).length ≤ f →
    textR (f + 1) (bodyL op R ++ 34 :: z) Q n = .ok ⟨3, [], 0, Q ++ R, 0⟩ (n + (bodyL op R).length + 1)
  | [], Q, op, pl, z, f, n, _, _, _, _ => by simp [bodyL, textR]
  | p :: R, Q, op, pl, z, f, n, hok, hf, hq, hfu => by
    rw [bodyL] at hfu ⊢
    rw [okL'] at hok
    by_cases hv : p.var ≠ []
    · rw [if_pos hv] at hfu hok ⊢
      simp only [Bool.and_eq_true, decide_eq_true_eq] at hok
      have hp : p = ⟨p.var, []⟩ := by cases p; simp_all
      have hf' : fitsP ((Q ++ [p]) ++ R) = true := by simpa using hf
      have hl : (36 :: p.var ++ bodyL (ltrI (nat (p.var.headD 0))) R).length = 1 + p.var.length + (bodyL (ltrI (nat (p.var.headD 0))) R).length := by simp only [List.length_append, List.length_cons]; omega
      obtain ⟨f', rfl⟩ : ∃ f', f = f' + 1 := ⟨f - 1, by omega⟩
      rw [List.append_assoc, text_var Q p.var _ (f' + 1) n hok.1.2 (fun hlt => .inl (by rw [hlt]; exact body_head R false hok.2 z)) (by rw [← hp]; exact fits_pre hf'), ← hp]
      have := text_all R (Q ++ [p]) (ltrI (nat (p.var.headD 0))) false z f' (n + (36 :: p.var).length) hok.2 hf' (fun _ => .inr (by simpa using hv)) (by omega)
      rw [this]
      simp [Nat.add_assoc, Nat.add_comm, Nat.add_left_comm]
    · rw [if_neg hv] at hfu hok ⊢
      simp only [Bool.and_eq_true, decide_eq_true_eq, Bool.not_eq_true'] at hok
      have hv' : p.var = [] := by simpa using hv
      have hp : p = ⟨[], p.lit⟩ := by cases p; simp_all
      have hf' : fitsP ((Q ++ [p]) ++ R) = true := by simpa using hf
      have hll : ∀ (l : List UInt8) (o : Bool), l.length ≤ (toldL o l).length := by
        intro l o
        cases l with
        | nil => simp
        | cons c r =>
          have h1 : ∀ q : List UInt8, q.length ≤ (q.flatMap fun c => toldW (nat c) true).length := by
            intro q
            induction q with
            | nil => simp
            | cons a b ih =>
              have := List.length_pos_iff.2 (told_read a true []).1
              simp only [List.flatMap_cons, List.length_append, List.length_cons]; omega
          have := h1 r
          have h2 := List.length_pos_iff.2 (told_read c (!o || !goI (nat c)) []).1
          simp only [toldL, List.length_append, List.length_cons]; omega
      have hl0 := hll p.lit op
      have hl : (toldL op p.lit ++ bodyL false R).length = (toldL op p.lit).length + (bodyL false R).length := by simp
      obtain ⟨f', rfl⟩ : ∃ f', f = f' + p.lit.length := ⟨f - p.lit.length, by omega⟩
      rw [List.append_assoc, show f' + p.lit.length + 1 = (f' + 1) + p.lit.length by omega, text_lit Q op p.lit hok.1.1 _ (f' + 1) n (hq hok.1.2) (by rw [← hp]; exact fits_pre hf'), ← hp]
      have := text_all R (Q ++ [p]) false true z f' (n + (toldL op p.lit).length) hok.2 hf' (fun h => by cases h) (by omega)
      rw [this]
      simp [Nat.add_assoc]
def blanks (b : List UInt8) : Bool := b.all fun c => blI (nat c)
theorem gap_bl : ∀ (b z : List UInt8), blanks b = true → gapR false (b ++ 34 :: z) = b.length
  | [], z, _ => by simp [gapR]; decide
  | c :: b, z, h => by
    simp only [blanks, List.all_cons, Bool.and_eq_true] at h
    rw [List.cons_append, gapR, if_pos h.1, gap_bl b z h.2]; rfl
/-- Quoted right pieces between gaps are one token of these. -/
theorem split_quoted (b : List UInt8) (R : List Pc) (hb : blanks b = true) (hok : okL' false R = true) (hf : fitsP R = true) (z : List UInt8) (hz : gapR false z = z.length)
    (hl : (b ++ (34 :: (bodyL false R ++ 34 :: z))).length ≤ 4000) :
    splitS (b ++ (34 :: (bodyL false R ++ 34 :: z))) = ([⟨3, [], 0, R, b.length⟩], 0, 0) := by
  unfold splitS
  rw [if_neg (by omega)]
  have hlen : (b ++ (34 :: (bodyL false R ++ 34 :: z))).length = b.length + (bodyL false R).length + z.length + 2 := by simp; omega
  rw [splitR, gap_bl b _ hb, List.drop_left']
  · show (match tokR (34 :: (bodyL false R ++ 34 :: z)) with | .err e => _ | .ok t n => _) = _
    have ht : tokR (34 :: (bodyL false R ++ 34 :: z)) = .ok ⟨3, [], 0, R, 0⟩ (1 + (bodyL false R).length + 1) := by
      rw [tokR, if_neg (by decide), if_neg (by decide), if_neg (by decide), if_pos rfl]
      have := text_all R [] false false z ((bodyL false R ++ 34 :: z).length) 1 hok hf (fun _ => .inl rfl) (by simp)
      simpa using this
    rw [ht]
    simp only
    have hd : (34 :: (bodyL false R ++ 34 :: z)).drop (1 + (bodyL false R).length + 1) = z := by
      rw [show 1 + (bodyL false R).length + 1 = ((bodyL false R).length + 1) + 1 by omega, List.drop_succ_cons, List.drop_append, List.drop_of_length_le (by omega)]
      simp
    rw [hd]
    obtain ⟨m, hm⟩ : ∃ m, (b ++ (34 :: (bodyL false R ++ 34 :: z))).length = m + 1 := ⟨b.length + (bodyL false R).length + z.length + 1, by omega⟩
    rw [hm, splitR, hz, List.drop_length]
    simp
  · rfl
end WordR

set_option linter.unusedSimpArgs false
set_option linter.unusedVariables false
set_option maxRecDepth 100000
namespace Go.Proofs.YtaleenklamognaaDoor
open Go.Sx WordR

theorem told_w (x : Int) (p : Bool) : toldI x p = toldW x p := rfl
theorem tolds_flat (op : Bool) (b : List UInt8) : ∀ k, tolds op b k = (List.range k).flatMap fun j => toldW ((b.getD j 0).toNat : Int) (plA op b j)
  | 0 => rfl
  | k + 1 => by rw [tolds, tolds_flat op b k, List.range_succ, List.flatMap_append]; simp [told_w]
theorem flat_true : ∀ r : List UInt8, ((List.range r.length).flatMap fun j => toldW ((r.getD j 0).toNat : Int) true) = r.flatMap fun c => toldW (nat c) true
  | [] => rfl
  | c :: r => by
    rw [List.length_cons, List.range_succ_eq_map, List.flatMap_cons, List.flatMap_map, List.flatMap_cons, ← flat_true r]
    rfl
theorem tolds_l (op : Bool) (b : List UInt8) : tolds op b b.length = toldL op b := by
  rw [tolds_flat]
  cases b with
  | nil => rfl
  | cons c r =>
    rw [List.length_cons, List.range_succ_eq_map, List.flatMap_cons, List.flatMap_map, toldL, ← flat_true r]
    congr 1
    · simp [plA, nat]
    · refine congrArg (fun f => (List.range r.length).flatMap f) (funext fun j => ?_)
      have : plA op (c :: r) (j + 1) = true := by simp [plA]
      show toldW ((((c :: r).getD (j + 1) 0).toNat : Nat) : Int) (plA op (c :: r) (j + 1)) = _
      rw [this]; rfl
theorem pcs_drop {n : Nat} {V L : Ix → List UInt8} {i : Nat} (hi : i < n) : (pcsOf n V L).drop i = ⟨V [i], L [i]⟩ :: (pcsOf n V L).drop (i + 1) := by
  rw [List.drop_eq_getElem_cons (by rw [pcsOf_len]; exact hi)]
  simp [pcsOf]
theorem head_getD (l : List UInt8) : nat (l.headD 0) = ((l.getD 0 0).toNat : Int) := by cases l <;> rfl
theorem quoA_body (n : Nat) (V L : Ix → List UInt8) : ∀ i, i ≤ n → (quoA V L i).1 ++ bodyL (quoA V L i).2 ((pcsOf n V L).drop i) = 34 :: bodyL false (pcsOf n V L)
  | 0, _ => by simp [quoA]
  | i + 1, hi => by
    rw [← quoA_body n V L i (by omega), pcs_drop (show i < n by omega), quoA, bodyL]
    by_cases hv : V [i] ≠ []
    · rw [if_pos hv, if_pos hv, head_getD]; simp
    · rw [if_neg hv, if_neg hv, tolds_l]; simp
theorem quo_body (n : Nat) (V L : Ix → List UInt8) : quoI n V L = 34 :: (bodyL false (pcsOf n V L) ++ [34]) := by
  have := quoA_body n V L n (Nat.le_refl _)
  rw [List.drop_of_length_le (by rw [pcsOf_len]; exact Nat.le_refl _), bodyL, List.append_nil] at this
  rw [quoI, this]; rfl
theorem nam_l {s : List UInt8} (h : namI s = true) : namL s = true := by
  unfold namI at h
  unfold namL
  rw [head_getD]
  split at h
  · rename_i q
    rw [decide_eq_true q.1, q.2]; rfl
  · split at h
    · cases h
    · rename_i q
      have := span_le goI s
      simp only [Bool.and_eq_true, decide_eq_true_eq] at h
      rw [decide_eq_true (show spanR goI s = s.length by omega), decide_eq_true h.1.2, h.2, decide_eq_true h.1.1]
      cases (decide (s.length = 1) && figI ((s.getD 0 0).toNat : Int)) <;> rfl
theorem rgt_ok {n : Nat} {V L : Ix → List UInt8} (h : ∀ i, i < n → rgtAt V L i = true) : ∀ (k i : Nat), i + k = n → okL' (decide (0 < i) && decide (V [i - 1] = [])) ((pcsOf n V L).drop i) = true
  | 0, i, hi => by
    rw [List.drop_of_length_le (by rw [pcsOf_len]; omega)]; rfl
  | k + 1, i, hi => by
    have ih := rgt_ok h k (i + 1) (by omega)
    have a := h i (by omega)
    rw [pcs_drop (show i < n by omega), okL']
    simp only [Nat.add_sub_cancel, Nat.zero_lt_succ, decide_true, Bool.true_and] at ih
    unfold rgtAt at a
    by_cases hv : V [i] = []
    · rw [if_neg (by simpa using hv)] at a ⊢
      rw [decide_eq_true hv] at ih
      rw [ih]
      simpa using a
    · rw [if_pos hv] at a ⊢
      rw [decide_eq_false hv] at ih
      rw [ih]
      simp only [Bool.and_eq_true, decide_eq_true_eq] at a
      simp [a.1, nam_l a.2]
theorem rgt_plain {n : Nat} {V L : Ix → List UInt8} (h : rgtI n V L = true) : okL' false (pcsOf n V L) = true ∧ fitsP (pcsOf n V L) = true := by
  unfold rgtI at h
  simp only [Bool.and_eq_true, List.all_eq_true, List.mem_range] at h
  have := rgt_ok (fun i hi => h.1 i hi) n 0 (by omega)
  exact ⟨by simpa using this, h.2⟩

end Go.Proofs.YtaleenklamognaaDoor

set_option linter.unusedSimpArgs false
set_option linter.unusedVariables false
set_option maxRecDepth 100000
namespace Go.Proofs.YtaleenklamognaaDoor
open Go.Sx

open WordR
def bch (i : Nat) : UInt8 := if i % 3 = 0 then 32 else if i % 3 = 1 then 9 else 13
def blkB : Nat → List UInt8
  | 0 => []
  | i + 1 => bch i :: blkB i
def behB : List UInt8 := [32, 35, 32, 98, 101, 104, 105, 110, 100]
theorem bch_all : ((List.range 9).all fun i => decide ((([32, 9, 13] : List UInt8).take (i % 3 + 1)).drop (i % 3) = [bch i])) = true := by decide
theorem bch_at {i : Nat} (h : i < 9) : (([32, 9, 13] : List UInt8).take (i % 3 + 1)).drop (i % 3) = [bch i] := of_decide_eq_true (List.all_eq_true.1 bch_all i (List.mem_range.2 h))
def wsPm : PC := { args := [.agg (.tc (.vi .i64 0) (.tc (.vs 1) (.tc (.vi .i64 2) (.tc (.vm 61 2 3) (.tc (.vi .i64 4) .t0))))), .agg (.tc (.vi .i64 5) (.tc (.vs 6) (.tc (.vi .i64 7) (.tc (.vl 62 2 8) (.tc (.vi .i64 9) .t0)))))], heap := [⟨61, false, 2, .ta 10 (.tc (.vs 11) (.tc (.vs 12) .t0))⟩, ⟨62, false, 2, .ta 13 (.tc (.vs 14) (.tc (.vs 15) .t0))⟩], gs := [], G := 23, tp := 213, n := 80, n' := 190, cond := fun e => decide (eN e 3 ≤ eN e 10) && (decide (eN e 8 ≤ eN e 13) && (decide (eN e 3 ≤ 1000) && decide (eN e 8 ≤ 1000))), v := fun e => vB (decide (eI e 0 [] = eI e 5 []) && (decide (eS e 1 [] = eS e 6 []) && (decide (eI e 2 [] = eI e 7 []) && (decide (eN e 3 = eN e 8) && eqQs (eN e 3) (eS e 11) (eS e 12) (eS e 14) (eS e 15))))), post := fun e => [] }
theorem wsPm_pc : PC.Runs Tryd.prog 19 Tryd.f19 (bodyOf Tryd.f19) wsPm := ⟨Tryd.func19, by kernel_rfl, (fun g hg => by first | (cases hg; done) | (revert g; show ∀ g ∈ ([] : List Nat), g < 23; decide)), fun e H hc => by
  have hc : (decide (eN e 3 ≤ eN e 10) && (decide (eN e 8 ≤ eN e 13) && (decide (eN e 3 ≤ 1000) && decide (eN e 8 ≤ 1000)))) = true := hc
  try simp only [Bool.and_eq_true, decide_eq_true_eq, Nat.beq_eq] at hc
  exact wsT (eI e 0 []) (eI e 5 []) (eS e 1 []) (eS e 6 []) (eI e 2 []) (eI e 7 []) (eI e 4 []) (eI e 9 []) (eN e 3) (eN e 8) (eN e 10) (eN e 13) (eS e 11) (eS e 12) (eS e 14) (eS e 15) hc.1 hc.2.1 hc.2.2.1 hc.2.2.2⟩
def wbS (t0 t1 t2 : List UInt8) : List Ent := sentEnts 23 213 [(5, t0), (0, t1), (6, t2)]
def sumsLB : List (FuncId × Summ) := [(13, wapP.summ 46), (20, lgP.summ 46), (24, qgP.summ 46), (25, qtP.summ 46), (14, spOkP.summ 46), (19, wsPm.summ 46)]
theorem baseLB : Base0 Tryd.prog sumsLB := ((((((baseO.cons Tryd.func19 (by kernel_rfl) (PC.summ_ok wsPm_pc gtopG)).cons Tryd.func14 (by kernel_rfl) (PC.summ_ok spOkP_pc gtopG)).cons Tryd.func25 (by kernel_rfl) (PC.summ_ok qtP_pc gtopG)).cons Tryd.func24 (by kernel_rfl) (PC.summ_ok qgP_pc gtopG)).cons Tryd.func20 (by kernel_rfl) (PC.summ_ok lgP_pc gtopG)).cons Tryd.func13 (by kernel_rfl) (PC.summ_ok wapP_pc gtopG))
theorem wbk1_p0 (t0 t1 t2 : List UInt8) (n : Nat) (V L : Ix → List UInt8) (bl : Int) :
    isEnd (evTill Tryd.prog sumsLB 700 (99) 900 6 [.code (bodyOf Tryd.f6)] (envOf [vL 100 2 n, vN bl] Tryd.f6.ntmps) (wbS t0 t1 t2 ++ prX 100 n V L ++ ([])) ⟨[.t, .f, .s true, .s true], 110⟩) (endP ([]) (YES) ([]) 30000) =
    (OkL [(decide (n ≤ n), true), (lgI n V L, true)] ∧ true = true ∧ True) := by kernel_rfl

set_option maxHeartbeats 4000000 in
theorem wbk1 (t0 t1 t2 : List UInt8) (n : Nat) (V L : Ix → List UInt8) (bl : Int) (h : lgI n V L = true)  :
    RunsTo Tryd.prog 6 [.code (bodyOf Tryd.f6)] (envOf [vL 100 2 n, vN bl] Tryd.f6.ntmps) (Sx.look (wbS t0 t1 t2 ++ prX 100 n V L ++ ([]))) 110 (YES) (Sx.look ([])) 30000 := by
  refine runs_last baseLB (Sx.Ends.of (wbk1_p0 t0 t1 t2 n V L bl) ⟨?oo, ?rr⟩) (by kernel_rfl) rfl (gtL (by decide)) (by decide)
  case oo =>
    refine (okc ?_ (okc ?_ okn))
    all_goals (first | omega | (simp (disch := omega) only [SS, List.length_append, List.length_cons, List.length_nil]; first | done | omega | assumption) | (simp (disch := omega) only [SS] at *; first | done | omega | assumption) | (simp_all; done) | (simp_all; omega))
  case rr =>
    try simp (disch := omega) only [SS]
    repeat' apply And.intro
    all_goals first | exact True.intro | with_reducible rfl | omega | (intros; first | exact True.intro | with_reducible rfl | omega | (simp_all; done)) | (simp_all; done) | rfl

theorem wbk2_p0 (t0 t1 t2 : List UInt8) (n : Nat) (V L : Ix → List UInt8) (bl : Int) :
    isEnd (evTill Tryd.prog sumsLB 700 (99) 900 6 [.code (bodyOf Tryd.f6)] (envOf [vL 100 2 n, vN bl] Tryd.f6.ntmps) (wbS t0 t1 t2 ++ prX 100 n V L ++ ([])) ⟨[.t, .f, .s true, .s false, .s true, .s true], 110⟩) (endP ([]) (YES) ([]) 30000) =
    (OkL [(decide (n ≤ n), true), (lgI n V L, false), (decide (n ≤ n) && (decide (n ≤ (1000 : Nat)) && lnB V L n), true), (!rgtI n V L, true)] ∧ true = true ∧ True) := by kernel_rfl

set_option maxHeartbeats 4000000 in
theorem wbk2 (t0 t1 t2 : List UInt8) (n : Nat) (V L : Ix → List UInt8) (bl : Int) (h1 : lgI n V L = false) (hn : n ≤ 60) (hl : lnB V L n = true) (h2 : rgtI n V L = false)  :
    RunsTo Tryd.prog 6 [.code (bodyOf Tryd.f6)] (envOf [vL 100 2 n, vN bl] Tryd.f6.ntmps) (Sx.look (wbS t0 t1 t2 ++ prX 100 n V L ++ ([]))) 110 (YES) (Sx.look ([])) 30000 := by
  refine runs_last baseLB (Sx.Ends.of (wbk2_p0 t0 t1 t2 n V L bl) ⟨?oo, ?rr⟩) (by kernel_rfl) rfl (gtL (by decide)) (by decide)
  case oo =>
    refine (okc ?_ (okc ?_ (okc ?_ (okc ?_ okn))))
    all_goals first | omega | rfl | assumption | (simp (disch := omega) only [SS, h1, h2]; first | done | omega | assumption | rfl) | (simp (disch := omega) only [SS, h1, h2] at *; first | done | omega | assumption | rfl | (simp_all; done)) | (simp_all; done) | (simp_all; omega)
  case rr =>
    try simp (disch := omega) only [SS]
    repeat' apply And.intro
    all_goals first | exact True.intro | with_reducible rfl | omega | (intros; first | exact True.intro | with_reducible rfl | omega | (simp_all; done)) | (simp_all; done) | rfl

theorem wbk0_p0 (t0 t1 t2 : List UInt8) (n : Nat) (V L : Ix → List UInt8) (bl : Int) (q : Nat) :
    isMore (evTill Tryd.prog sumsLB 700 (behind Tryd.f6 0) 900 6 [.code (bodyOf Tryd.f6)] (envOf [vL 100 2 n, vN bl] Tryd.f6.ntmps) (wbS t0 t1 t2 ++ prX 100 n V L ++ ([])) ⟨[.t, .f, .s true, .s false, .s true, .s false, .s true, .t], 110⟩) (moreP (headOf Tryd.f6 0) ([]) Tryd.f6.ntmps ([(0, vL 100 2 n), (5, vS (quoI n V L)), (6, vN (q : Nat)), (26, vN (q : Nat)), (27, vN (0 : Nat))]) ([]) 30000) =
    (OkL [(decide (n ≤ n), true), (lgI n V L, false), (decide (n ≤ n) && (decide (n ≤ (1000 : Nat)) && lnB V L n), true), (!rgtI n V L, false), (decide (n ≤ n) && (decide (n ≤ (100 : Nat)) && lnB V L n), true)] ∧ headOf Tryd.f6 (0 : Nat) = headOf Tryd.f6 (0 : Nat) ∧ (((0 : Nat) = (0 : Nat) ∧ n = n) ∧ (quoI n V L = if rgtI n V L = true then quoI n V L else []) ∧ (↑q : Int) = IntKind.i64.wrap ((IntKind.u64.wrap bl).tmod (9 : Int)) ∧ (↑q : Int) = IntKind.i64.wrap ((IntKind.u64.wrap bl).tmod (9 : Int)) ∧ (↑(0 : Nat) : Int) = (0 : Int)) ∧ True) := by kernel_rfl

set_option maxHeartbeats 4000000 in
theorem wbk0 (t0 t1 t2 : List UInt8) (n : Nat) (V L : Ix → List UInt8) (bl : Int) (q : Nat) (h1 : lgI n V L = false) (hn : n ≤ 60) (hl : lnB V L n = true) (h2 : rgtI n V L = true) (hq : IntKind.i64.wrap ((IntKind.u64.wrap bl).tmod 9) = (q : Int)) (hq9 : q < 9)  (next : RunsTo Tryd.prog 6 (headOf Tryd.f6 0) (envAt Tryd.f6.ntmps ([(0, vL 100 2 n), (5, vS (quoI n V L)), (6, vN (q : Nat)), (26, vN (q : Nat)), (27, vN (0 : Nat))])) (Sx.look (wbS t0 t1 t2 ++ prX 100 n V L ++ ([]))) 110 (YES) (Sx.look []) 30000) :
    RunsTo Tryd.prog 6 [.code (bodyOf Tryd.f6)] (envOf [vL 100 2 n, vN bl] Tryd.f6.ntmps) (Sx.look (wbS t0 t1 t2 ++ prX 100 n V L ++ ([]))) 110 (YES) (Sx.look []) 30000 := by
  refine runs_more baseLB (More.of (wbk0_p0 t0 t1 t2 n V L bl q) ⟨?oo, rfl, ?rr⟩) (by kernel_rfl) (by kernel_rfl) rfl (gtL (by decide)) (by decide) next
  case oo =>
    clear next
    refine (okc ?_ (okc ?_ (okc ?_ (okc ?_ (okc ?_ okn)))))
    all_goals first | omega | rfl | assumption | (simp (disch := omega) only [SS, h1, h2, hq]; first | done | omega | assumption | rfl) | (simp (disch := omega) only [SS, h1, h2, hq] at *; first | done | omega | assumption | rfl | (simp_all; done)) | (simp_all; done) | (simp_all; omega)
  case rr =>
    clear next
    try simp (disch := omega) only [SS, h1, h2, hq]
    repeat' apply And.intro
    all_goals first | exact True.intro | with_reducible rfl | omega | (intros; first | exact True.intro | with_reducible rfl | omega | (simp_all; done)) | (simp_all; done) | rfl

theorem wbk3_p0 (t0 t1 t2 : List UInt8) (n : Nat) (V L : Ix → List UInt8) (bl : Int) (q i : Nat) (w : List UInt8) :
    isMore (evTill Tryd.prog sumsLB 700 (behind Tryd.f6 0) 900 6 (headOf Tryd.f6 0) (envAt Tryd.f6.ntmps ([(0, vL 100 2 n), (5, vS (w)), (6, vN (q : Nat)), (26, vN (q : Nat)), (27, vN (i : Nat))])) (wbS t0 t1 t2 ++ prX 100 n V L ++ ([])) ⟨[.s true, .t, .t, .s true, .s true, .s true], 160⟩) (moreP (headOf Tryd.f6 0) ([]) Tryd.f6.ntmps ([(0, vL 100 2 n), (5, vS (bch i :: w)), (6, vN (q : Nat)), (26, vN (q : Nat)), (27, vN (i + 1 : Nat))]) ([]) 30000) =
    (OkL [(decide ((↑i : Int) < (↑q : Int)), true), (decide ((0 : Int) ≤ IntKind.i64.wrap ((↑i : Int).tmod (3 : Int) + (1 : Int)) ∧ IntKind.i64.wrap ((↑i : Int).tmod (3 : Int) + (1 : Int)) ≤ (↑(3 : Nat) : Int)), true), (decide ((0 : Int) ≤ (↑i : Int).tmod (3 : Int) ∧ (↑i : Int).tmod (3 : Int) ≤ IntKind.i64.wrap ((↑i : Int).tmod (3 : Int) + (1 : Int))), true), (decide ((List.drop ((↑i : Int).tmod (3 : Int)).toNat (List.take (IntKind.i64.wrap ((↑i : Int).tmod (3 : Int) + (1 : Int))).toNat [(32 : UInt8), (9 : UInt8), (13 : UInt8)])).length + w.length ≤ (9223372036854775807 : Nat)), true)] ∧ headOf Tryd.f6 (0 : Nat) = headOf Tryd.f6 (0 : Nat) ∧ (((0 : Nat) = (0 : Nat) ∧ n = n) ∧ bch i :: w = List.drop ((↑i : Int).tmod (3 : Int)).toNat (List.take (IntKind.i64.wrap ((↑i : Int).tmod (3 : Int) + (1 : Int))).toNat [(32 : UInt8), (9 : UInt8), (13 : UInt8)]) ++ w ∧ (↑q : Int) = (↑q : Int) ∧ (↑q : Int) = (↑q : Int) ∧ (↑(i + (1 : Nat)) : Int) = IntKind.i64.wrap ((↑i : Int) + (1 : Int))) ∧ True) := by kernel_rfl

set_option maxHeartbeats 4000000 in
theorem wbk3 (t0 t1 t2 : List UInt8) (n : Nat) (V L : Ix → List UInt8) (bl : Int) (q i : Nat) (w : List UInt8) (hi : i < q) (hq9 : q < 9) (hw0 : w.length ≤ 900000)  (next : RunsTo Tryd.prog 6 (headOf Tryd.f6 0) (envAt Tryd.f6.ntmps ([(0, vL 100 2 n), (5, vS (bch i :: w)), (6, vN (q : Nat)), (26, vN (q : Nat)), (27, vN (i + 1 : Nat))])) (Sx.look (wbS t0 t1 t2 ++ prX 100 n V L ++ ([]))) 110 (YES) (Sx.look []) 30000) :
    RunsTo Tryd.prog 6 (headOf Tryd.f6 0) (envAt Tryd.f6.ntmps ([(0, vL 100 2 n), (5, vS (w)), (6, vN (q : Nat)), (26, vN (q : Nat)), (27, vN (i : Nat))])) (Sx.look (wbS t0 t1 t2 ++ prX 100 n V L ++ ([]))) 110 (YES) (Sx.look []) 30000 := by
  have hw : IntKind.i64.wrap ((i : Int) + 1) = ((i + 1 : Nat) : Int) := by rw [wr64 (by omega)]; rfl
  have hm : (i : Int).tmod 3 = ((i % 3 : Nat) : Int) := by rw [Int.tmod_eq_emod_of_nonneg (by omega)]; rfl
  have hm1 : IntKind.i64.wrap (((i % 3 : Nat) : Int) + 1) = ((i % 3 + 1 : Nat) : Int) := by rw [wr64 (by omega)]; rfl
  have hm0 : IntKind.i64.wrap ((i % 3 : Nat) : Int) = ((i % 3 : Nat) : Int) := wr64 (by omega)
  have hb := bch_at (i := i) (by omega)
  refine runs_more baseLB (More.of (wbk3_p0 t0 t1 t2 n V L bl q i w) ⟨?oo, rfl, ?rr⟩) (by kernel_rfl) (by kernel_rfl) rfl (gtL (by decide)) (by decide) next
  case oo =>
    clear next
    refine (okc ?_ (okc ?_ (okc ?_ (okc ?_ okn))))
    all_goals first | omega | rfl | assumption | (simp (disch := omega) only [SS, hw, hm, hm0, hm1, hb, List.length_append, List.length_cons, List.length_nil]; first | done | omega | assumption | rfl) | (simp (disch := omega) only [SS, hw, hm, hm0, hm1, hb, List.length_append, List.length_cons, List.length_nil] at *; first | done | omega | assumption | rfl | (simp_all; done)) | (simp_all; done) | (simp_all; omega)
  case rr =>
    clear next
    try simp (disch := omega) only [SS, hw, hm, hm0, hm1, hb, List.singleton_append, List.cons_append, List.nil_append]
    repeat' apply And.intro
    all_goals first | exact True.intro | with_reducible rfl | omega | (intros; first | exact True.intro | with_reducible rfl | omega | (simp_all; done)) | (simp_all; done) | rfl

theorem wbk4_p0 (t0 t1 t2 : List UInt8) (n : Nat) (V L : Ix → List UInt8) (bl : Int) (q i : Nat) (w : List UInt8) :
    isEnd (evTill Tryd.prog sumsLB 700 (99) 900 6 (headOf Tryd.f6 0) (envAt Tryd.f6.ntmps ([(0, vL 100 2 n), (5, vS (w)), (6, vN (q : Nat)), (26, vN (q : Nat)), (27, vN (i : Nat))])) (wbS t0 t1 t2 ++ prX 100 n V L ++ ([])) ⟨[.s false, .s true], 160⟩) (endP ([]) (YES) ([]) 30000) =
    (OkL [(decide ((↑i : Int) < (↑q : Int)), false), (decide ((↑w.length : Int) > (3900 : Int)), true)] ∧ true = true ∧ True) := by kernel_rfl

set_option maxHeartbeats 4000000 in
theorem wbk4 (t0 t1 t2 : List UInt8) (n : Nat) (V L : Ix → List UInt8) (bl : Int) (q i : Nat) (w : List UInt8) (hi : i = q) (h : 3900 < w.length)  :
    RunsTo Tryd.prog 6 (headOf Tryd.f6 0) (envAt Tryd.f6.ntmps ([(0, vL 100 2 n), (5, vS (w)), (6, vN (q : Nat)), (26, vN (q : Nat)), (27, vN (i : Nat))])) (Sx.look (wbS t0 t1 t2 ++ prX 100 n V L ++ ([]))) 110 (YES) (Sx.look ([])) 30000 := by
  refine runs_last baseLB (Sx.Ends.of (wbk4_p0 t0 t1 t2 n V L bl q i w) ⟨?oo, ?rr⟩) (by kernel_rfl) rfl (gtL (by decide)) (by decide)
  case oo =>
    refine (okc ?_ (okc ?_ okn))
    all_goals (first | omega | (simp (disch := omega) only [SS, List.length_append, List.length_cons, List.length_nil]; first | done | omega | assumption) | (simp (disch := omega) only [SS] at *; first | done | omega | assumption) | (simp_all; done) | (simp_all; omega))
  case rr =>
    try simp (disch := omega) only [SS]
    repeat' apply And.intro
    all_goals first | exact True.intro | with_reducible rfl | omega | (intros; first | exact True.intro | with_reducible rfl | omega | (simp_all; done)) | (simp_all; done) | rfl

theorem wbk5_p0 (t0 t1 t2 : List UInt8) (n : Nat) (V L : Ix → List UInt8) (bl : Int) (q i : Nat) (w : List UInt8) (T : List Wt) :
    isEnd (evTill Tryd.prog sumsLB 700 (99) 900 6 (headOf Tryd.f6 0) (envAt Tryd.f6.ntmps ([(0, vL 100 2 n), (5, vS (w)), (6, vN (q : Nat)), (26, vN (q : Nat)), (27, vN (i : Nat))])) (wbS t0 t1 t2 ++ prX 100 n V L ++ ([])) ⟨[.s false, .s false, .s true, .s true, .t, .s true, .s true, .s true, .s true, .s true, .s true, .s true, .s true, .s true, .s true], 160⟩) (endP ([]) (YES) ([]) 30000) =
    (OkL [(decide ((↑i : Int) < (↑q : Int)), false), (decide ((↑w.length : Int) > (3900 : Int)), false), (decide (w.length + (9 : Nat) ≤ (9223372036854775807 : Nat)), true), (decide ((splitS (w ++ [(32 : UInt8), (35 : UInt8), (32 : UInt8), (98 : UInt8), (101 : UInt8), (104 : UInt8), (105 : UInt8), (110 : UInt8), (100 : UInt8)])).2.2 = (0 : Nat)), true), ((↑(splitS (w ++ [(32 : UInt8), (35 : UInt8), (32 : UInt8), (98 : UInt8), (101 : UInt8), (104 : UInt8), (105 : UInt8), (110 : UInt8), (100 : UInt8)])).1.length : Int) == (1 : Int), true), (decide ((0 : Int) ≤ (0 : Int) ∧ (0 : Int) < (↑(splitS (w ++ [(32 : UInt8), (35 : UInt8), (32 : UInt8), (98 : UInt8), (101 : UInt8), (104 : UInt8), (105 : UInt8), (110 : UInt8), (100 : UInt8)])).1.length : Int)), true), (Nat.blt (0 : Nat) (splitS (w ++ [(32 : UInt8), (35 : UInt8), (32 : UInt8), (98 : UInt8), (101 : UInt8), (104 : UInt8), (105 : UInt8), (110 : UInt8), (100 : UInt8)])).1.length, true), (Nat.blt (0 : Nat) (splitS (w ++ [(32 : UInt8), (35 : UInt8), (32 : UInt8), (98 : UInt8), (101 : UInt8), (104 : UInt8), (105 : UInt8), (110 : UInt8), (100 : UInt8)])).1.length, true), (wP (splitS (w ++ [(32 : UInt8), (35 : UInt8), (32 : UInt8), (98 : UInt8), (101 : UInt8), (104 : UInt8), (105 : UInt8), (110 : UInt8), (100 : UInt8)])).1 [(0 : Nat)] == (↑q : Int), true), (decide ((0 : Int) ≤ (0 : Int) ∧ (0 : Int) < (↑(splitS (w ++ [(32 : UInt8), (35 : UInt8), (32 : UInt8), (98 : UInt8), (101 : UInt8), (104 : UInt8), (105 : UInt8), (110 : UInt8), (100 : UInt8)])).1.length : Int)), true), (Nat.blt (0 : Nat) (splitS (w ++ [(32 : UInt8), (35 : UInt8), (32 : UInt8), (98 : UInt8), (101 : UInt8), (104 : UInt8), (105 : UInt8), (110 : UInt8), (100 : UInt8)])).1.length, true), (Nat.blt (0 : Nat) (splitS (w ++ [(32 : UInt8), (35 : UInt8), (32 : UInt8), (98 : UInt8), (101 : UInt8), (104 : UInt8), (105 : UInt8), (110 : UInt8), (100 : UInt8)])).1.length, true), ((wM (splitS (w ++ [(32 : UInt8), (35 : UInt8), (32 : UInt8), (98 : UInt8), (101 : UInt8), (104 : UInt8), (105 : UInt8), (110 : UInt8), (100 : UInt8)])).1 [(0 : Nat)] + (1 : Nat) + ((splitS (w ++ [(32 : UInt8), (35 : UInt8), (32 : UInt8), (98 : UInt8), (101 : UInt8), (104 : UInt8), (105 : UInt8), (110 : UInt8), (100 : UInt8)])).1.length - (wM (splitS (w ++ [(32 : UInt8), (35 : UInt8), (32 : UInt8), (98 : UInt8), (101 : UInt8), (104 : UInt8), (105 : UInt8), (110 : UInt8), (100 : UInt8)])).1 [(0 : Nat)] + (1 : Nat)))).beq (splitS (w ++ [(32 : UInt8), (35 : UInt8), (32 : UInt8), (98 : UInt8), (101 : UInt8), (104 : UInt8), (105 : UInt8), (110 : UInt8), (100 : UInt8)])).1.length, true), (decide (wL (splitS (w ++ [(32 : UInt8), (35 : UInt8), (32 : UInt8), (98 : UInt8), (101 : UInt8), (104 : UInt8), (105 : UInt8), (110 : UInt8), (100 : UInt8)])).1 [(0 : Nat)] ≤ gpL (splitS (w ++ [(32 : UInt8), (35 : UInt8), (32 : UInt8), (98 : UInt8), (101 : UInt8), (104 : UInt8), (105 : UInt8), (110 : UInt8), (100 : UInt8)])).1 (wM (splitS (w ++ [(32 : UInt8), (35 : UInt8), (32 : UInt8), (98 : UInt8), (101 : UInt8), (104 : UInt8), (105 : UInt8), (110 : UInt8), (100 : UInt8)])).1 [(0 : Nat)])) && (decide (n ≤ n) && (decide (wL (splitS (w ++ [(32 : UInt8), (35 : UInt8), (32 : UInt8), (98 : UInt8), (101 : UInt8), (104 : UInt8), (105 : UInt8), (110 : UInt8), (100 : UInt8)])).1 [(0 : Nat)] ≤ (1000 : Nat)) && decide (n ≤ (1000 : Nat)))), true)] ∧ true = (decide (wK (splitS (w ++ [(32 : UInt8), (35 : UInt8), (32 : UInt8), (98 : UInt8), (101 : UInt8), (104 : UInt8), (105 : UInt8), (110 : UInt8), (100 : UInt8)])).1 [(0 : Nat)] = (3 : Int)) && (decide (wX (splitS (w ++ [(32 : UInt8), (35 : UInt8), (32 : UInt8), (98 : UInt8), (101 : UInt8), (104 : UInt8), (105 : UInt8), (110 : UInt8), (100 : UInt8)])).1 [(0 : Nat)] = []) && (decide (wN (splitS (w ++ [(32 : UInt8), (35 : UInt8), (32 : UInt8), (98 : UInt8), (101 : UInt8), (104 : UInt8), (105 : UInt8), (110 : UInt8), (100 : UInt8)])).1 [(0 : Nat)] = (0 : Int)) && (decide (wL (splitS (w ++ [(32 : UInt8), (35 : UInt8), (32 : UInt8), (98 : UInt8), (101 : UInt8), (104 : UInt8), (105 : UInt8), (110 : UInt8), (100 : UInt8)])).1 [(0 : Nat)] = n) && eqQs (wL (splitS (w ++ [(32 : UInt8), (35 : UInt8), (32 : UInt8), (98 : UInt8), (101 : UInt8), (104 : UInt8), (105 : UInt8), (110 : UInt8), (100 : UInt8)])).1 [(0 : Nat)]) (fun js => gpV (splitS (w ++ [(32 : UInt8), (35 : UInt8), (32 : UInt8), (98 : UInt8), (101 : UInt8), (104 : UInt8), (105 : UInt8), (110 : UInt8), (100 : UInt8)])).1 (wM (splitS (w ++ [(32 : UInt8), (35 : UInt8), (32 : UInt8), (98 : UInt8), (101 : UInt8), (104 : UInt8), (105 : UInt8), (110 : UInt8), (100 : UInt8)])).1 [(0 : Nat)] :: js)) (fun js => gpT (splitS (w ++ [(32 : UInt8), (35 : UInt8), (32 : UInt8), (98 : UInt8), (101 : UInt8), (104 : UInt8), (105 : UInt8), (110 : UInt8), (100 : UInt8)])).1 (wM (splitS (w ++ [(32 : UInt8), (35 : UInt8), (32 : UInt8), (98 : UInt8), (101 : UInt8), (104 : UInt8), (105 : UInt8), (110 : UInt8), (100 : UInt8)])).1 [(0 : Nat)] :: js)) V L)))) ∧ True) := by kernel_rfl

set_option maxHeartbeats 4000000 in
theorem wbk5 (t0 t1 t2 : List UInt8) (n : Nat) (V L : Ix → List UInt8) (bl : Int) (q i : Nat) (w : List UInt8) (T : List Wt) (hi : i = q) (hq9 : q < 9) (hn : n ≤ 60) (h : w.length ≤ 3900) (he : (splitS (w ++ behB)).2.2 = 0) (hT : (splitS (w ++ behB)).1 = T) (hTl : T.length = 1) (hk : wK T [0] = 3) (hx : wX T [0] = []) (hnn : wN T [0] = 0) (hp : wP T [0] = (q : Int)) (hL : wL T [0] = n) (hq2 : eqQs n (fun js => gpV T (wM T [0] :: js)) (fun js => gpT T (wM T [0] :: js)) V L = true)  :
    RunsTo Tryd.prog 6 (headOf Tryd.f6 0) (envAt Tryd.f6.ntmps ([(0, vL 100 2 n), (5, vS (w)), (6, vN (q : Nat)), (26, vN (q : Nat)), (27, vN (i : Nat))])) (Sx.look (wbS t0 t1 t2 ++ prX 100 n V L ++ ([]))) 110 (YES) (Sx.look ([])) 30000 := by
  have hmk : wM T [0] < T.length := by simp only [wM, List.headD]; omega
  have hgl : gpL T (wM T [0]) = n := by rw [← hL]; simp only [wL, gpL, wM, List.headD]; rw [show T.length - 1 - (T.length - 1 - 0) = 0 by omega]
  have hT0 : 0 < T.length := by omega
  unfold behB at he hT
  refine runs_last baseLB (Sx.Ends.of (wbk5_p0 t0 t1 t2 n V L bl q i w T) ⟨?oo, ?rr⟩) (by kernel_rfl) rfl (gtL (by decide)) (by decide)
  case oo =>
    refine (okc ?_ (okc ?_ (okc ?_ (okc ?_ (okc ?_ (okc ?_ (okc ?_ (okc ?_ (okc ?_ (okc ?_ (okc ?_ (okc ?_ (okc ?_ (okc ?_ okn))))))))))))))
    all_goals first | omega | rfl | assumption | (simp (disch := omega) only [SS, he, hT, hTl, hk, hx, hnn, hp, hL, hgl, hq2]; first | done | omega | assumption | rfl) | (simp (disch := omega) only [SS, he, hT, hTl, hk, hx, hnn, hp, hL, hgl, hq2] at *; first | done | omega | assumption | rfl | (simp_all; done)) | (simp_all; done) | (simp_all; omega)
  case rr =>
    try simp (disch := omega) only [SS, he, hT, hTl, hk, hx, hnn, hp, hL, hgl, hq2]
    repeat' apply And.intro
    all_goals first | exact True.intro | with_reducible rfl | omega | (intros; first | exact True.intro | with_reducible rfl | omega | (simp_all; done)) | (simp_all; done) | rfl

end Go.Proofs.YtaleenklamognaaDoor

