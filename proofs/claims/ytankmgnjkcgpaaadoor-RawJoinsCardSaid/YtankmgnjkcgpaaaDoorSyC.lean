/- The engine, part 12: reslicing. -/
import Derived.Test.YtankmgnjkcgpaaaDoorSyB
set_option linter.unusedSimpArgs false
set_option linter.unusedVariables false
namespace Go.Sx

theorem sum_append : ∀ (a b : List Nat), sum (a ++ b) = sum a + sum b
  | [], b => by simp [sum]
  | x :: r, b => by simp [sum, sum_append r b, Nat.add_assoc]

theorem rsOf_append (room : Nat) : ∀ (a : List Nat) (l st : Nat), rsOf room (a ++ [l]) st = rsOf room a st + (if room - (st + sum a) = l then 0 else l)
  | [], l, st => by
    simp only [List.nil_append, rsOf, sum, Nat.add_zero, Nat.zero_add]
    by_cases h : room - st = l <;> simp [h]
  | x :: r, l, st => by
    simp only [List.cons_append, rsOf, rsOf_append room r, sum, Nat.add_assoc]
    by_cases h : room - (st + (x + sum r)) = l <;> simp [h]

theorem optI_ok {lo : Option SV} {l : Option Int} (h : optI lo = some l) : (lo = none ∧ l = none) ∨ ∃ k f, lo = some (.v (.vi k f)) ∧ l = some (f []) := by
  unfold optI at h
  split at h
  · simp at h; exact .inl ⟨rfl, h.symm⟩
  · simp at h; exact .inr ⟨_, _, rfl, h.symm⟩
  · simp at h

theorem run_sliceBound {P : Program} {k : IntKind} {i : Int} {y : Nat} {c : BoundsCode} {w : World} (h : 0 ≤ i ∧ i ≤ y) : (Instr.sliceBound (.int k i) y c).run P w = .ok i.toNat w := by
  simp [Instr.sliceBound, asIntOf, h]

theorem run_sliceBounds {P : Program} {isS : Bool} {len cap : Nat} {lo hi : Option SV} {l h : Option Int} {ρ : Con} {w : World} (hlo : optI lo = some l) (hhi : optI hi = some h)
    (h1 : ∀ q, h = some q → 0 ≤ q ∧ q ≤ cap) (h2 : ∀ q, l = some q → 0 ≤ q ∧ q ≤ toZ h len) :
    (Instr.sliceBounds isS len cap (lo.map (SV.val ρ)) (hi.map (SV.val ρ)) none).run P w = .ok (toN l 0, toN h len, cap) w := by
  unfold Instr.sliceBounds
  rcases optI_ok hhi with ⟨rfl, rfl⟩ | ⟨k, f, rfl, rfl⟩
  · rcases optI_ok hlo with ⟨rfl, rfl⟩ | ⟨k', g, rfl, rfl⟩
    · simp [toN]
    · have := h2 _ rfl
      simp only [toZ] at this
      simp [SV.val, Tr.val, run_sliceBound this, toN]
  · have hq := h1 _ rfl
    rcases optI_ok hlo with ⟨rfl, rfl⟩ | ⟨k', g, rfl, rfl⟩
    · simp [SV.val, Tr.val, run_sliceBound hq, toN]
    · have := h2 _ rfl
      simp only [toZ] at this
      have h3 : 0 ≤ g [] ∧ g [] ≤ ((f []).toNat : Int) := by omega
      simp [SV.val, Tr.val, run_sliceBound hq, run_sliceBound h3, toN]

theorem needO_ok {o : Option Int} {c : Int → Bool} {x y : Aux} {u : Unit} {d : Conds} (h : needO o c x = .ok u d y) :
    y.nl = x.nl ∧ (OkL d → ∀ q, o = some q → c q = true) := by
  cases o with
  | none => obtain ⟨_, _, rfl⟩ := pure_ok h; exact ⟨rfl, fun _ q hq => by cases hq⟩
  | some q => obtain ⟨h1, h2⟩ := need_ok h; exact ⟨h2, fun hd q' hq => by cases hq; exact h1 hd⟩

theorem ba_extract (s : List UInt8) (l h : Nat) (hh : h ≤ s.length) : (⟨s.toArray⟩ : ByteArray).extract l h = ⟨((s.take h).drop l).toArray⟩ := by
  apply ba_ext
  simp [ByteArray.data_extract, List.extract_eq_take_drop, List.drop_take]

theorem toN_le {o : Option Int} {n m : Nat} (h : ∀ q, o = some q → 0 ≤ q ∧ q ≤ m) (hn : n ≤ m) : toN o n ≤ m := by
  cases o with
  | none => exact hn
  | some q => have := h q rfl; simp only [toN]; omega

set_option maxHeartbeats 1000000 in
theorem opSlice_ok {P : Program} {H : List Ent} {t : TypeId} {x : SV} {lo hi mx : Option SV} {z z' : Aux} {e : Eff} {d : Conds} (h : opSlice P H t x lo hi mx z = .ok e d z') (hd : OkL d) :
    z'.nl = z.nl ∧ x.isJ = false ∧ mx = none ∧ (∀ s, lo = some s → s.isJ = false) ∧ (∀ s, hi = some s → s.isJ = false) ∧ e.upd = [] ∧ e.drop = [] ∧ e.v.isJ = false ∧
      ∀ (ρ : Con) (w : World), Hp ρ H e.rd w → (Instr.sliceAt t (x.val ρ) (lo.map (SV.val ρ)) (hi.map (SV.val ρ)) none).run P w = .ok (e.v.val ρ) w := by
  unfold opSlice at h
  obtain ⟨_, c1, y1, c2, h1, h2, rfl⟩ := bind_ok h
  obtain ⟨hmx, rfl, rfl⟩ := chk_ok h1
  have hmx : mx = none := by simpa using hmx
  obtain ⟨l, c1, y1, c3, h1, h3, rfl⟩ := bind_ok h2
  obtain ⟨hlo, rfl, rfl⟩ := opt_ok h1
  obtain ⟨hq, c1, y1, c4, h1, h4, rfl⟩ := bind_ok h3
  obtain ⟨hhi, rfl, rfl⟩ := opt_ok h1
  obtain ⟨u, c1, y1, c5, h1, h5, rfl⟩ := bind_ok h4
  obtain ⟨hu, rfl, rfl⟩ := und_ok h1
  have jlo : ∀ s, lo = some s → s.isJ = false := by
    intro s hs; subst hs
    rcases optI_ok hlo with ⟨h, _⟩ | ⟨_, _, h, _⟩ <;> cases h; rfl
  have jhi : ∀ s, hi = some s → s.isJ = false := by
    intro s hs; subst hs
    rcases optI_ok hhi with ⟨h, _⟩ | ⟨_, _, h, _⟩ <;> cases h; rfl
  simp only [OkL_append] at hd
  have hd5 := hd.2.2.2.2
  clear hd
  split at h5
  · rename_i s
    obtain ⟨_, c6, y6, c7, h6, h7, rfl⟩ := bind_ok h5
    obtain ⟨hn1, hh1⟩ := needO_ok h6
    obtain ⟨_, c8, y8, c9, h8, h9, rfl⟩ := bind_ok h7
    obtain ⟨hn2, hh2⟩ := needO_ok h8
    obtain ⟨rfl, rfl, rfl⟩ := pure_ok h9
    simp only [OkL_append] at hd5
    have hh1 : ∀ q, hq = some q → 0 ≤ q ∧ q ≤ (s []).length := fun q e => by simpa using hh1 hd5.1 q e
    have hh2 : ∀ q, l = some q → 0 ≤ q ∧ q ≤ toZ hq (s []).length := fun q e => by simpa using hh2 hd5.2.1 q e
    refine ⟨hn2.trans hn1, rfl, hmx, jlo, jhi, rfl, rfl, rfl, fun ρ w _ => ?_⟩
    have hb := run_sliceBounds (P := P) (isS := false) (len := (s []).length) (cap := (s []).length) (ρ := ρ) (w := w) hlo hhi hh1 hh2
    have hval : SV.val ρ (.v (.vs s)) = .string ⟨(s []).toArray⟩ := rfl
    simp only [Instr.sliceAt, Instr.slice, Sem.run_bind, run_underlying hu, Result.andThen_ok, hval, ba_size, Option.isSome_none, Bool.false_eq_true, if_false, hb, Sem.run_pure]
    rw [ba_extract _ _ _ (toN_le hh1 (Nat.le_refl _))]
    rfl
  · rename_i el _
    obtain ⟨sz', c10, y10, c11, h10, h11, rfl⟩ := bind_ok h5
    obtain ⟨⟨i, hi', hsz⟩, rfl, rfl⟩ := szOf_ok h10
    obtain ⟨_, c6, y6, c7, h6, h7, rfl⟩ := bind_ok h11
    obtain ⟨hn1, hh1⟩ := needO_ok h6
    obtain ⟨_, c8, y8, c9, h8, h9, rfl⟩ := bind_ok h7
    obtain ⟨hn2, hh2⟩ := needO_ok h8
    obtain ⟨rfl, rfl, rfl⟩ := pure_ok h9
    simp only [OkL_append] at hd5
    have hh1 : ∀ q, hq = some q → q = 0 := fun q e => by simpa using hh1 hd5.2.1 q e
    have hh2 : ∀ q, l = some q → q = 0 := fun q e => by simpa using hh2 hd5.2.2.1 q e
    refine ⟨hn2.trans hn1, rfl, hmx, jlo, jhi, rfl, rfl, rfl, fun ρ w _ => ?_⟩
    have e2 : toN hq 0 = 0 := by
      cases hq with
      | none => rfl
      | some q => have := hh1 q rfl; simp only [toN]; omega
    have e1 : toN l 0 = 0 := by
      cases l with
      | none => rfl
      | some q => have := hh2 q rfl; simp only [toN]; omega
    have hb := run_sliceBounds (P := P) (isS := true) (len := 0) (cap := 0) (ρ := ρ) (w := w) hlo hhi (fun q e => by have := hh1 q e; omega) (fun q e => by
      have := hh2 q e
      cases hq with
      | none => simp only [toZ]; omega
      | some r => have := hh1 r rfl; simp only [toZ]; omega)
    have hval : SV.val ρ (.v .vl0) = .slice none 0 0 := rfl
    simp only [Instr.sliceAt, Instr.slice, Sem.run_bind, run_underlying hu, Result.andThen_ok, hval, hb, run_sz hi', Sem.run_pure, e1, e2]
    rfl
  · rename_i el lab mem sz cuts len
    obtain ⟨sz', c6, y6, c7, h6, h7, rfl⟩ := bind_ok h5
    obtain ⟨⟨i, hi', hsz⟩, rfl, rfl⟩ := szOf_ok h6
    obtain ⟨_, c6, y6, c8, h6, h8, rfl⟩ := bind_ok h7
    obtain ⟨hs, rfl, rfl⟩ := chk_ok h6
    have hs := Nat.eq_of_beq_eq_true hs
    obtain ⟨⟨m, t', is⟩, c9, y9, c10, h9, h10, rfl⟩ := bind_ok h8
    obtain ⟨hn0, en, hl, hw, ht, hts, hz, hlies, _⟩ := rowOf_ok h9
    simp only at h10
    obtain ⟨_, c11, y11, c12, h11, h12, rfl⟩ := bind_ok h10
    obtain ⟨hle, hn1⟩ := need_ok h11
    obtain ⟨_, c13, y13, c14, h13, h14, rfl⟩ := bind_ok h12
    obtain ⟨hn2, hh1⟩ := needO_ok h13
    obtain ⟨_, c15, y15, c16, h15, h16, rfl⟩ := bind_ok h14
    obtain ⟨hn3, hh2⟩ := needO_ok h15
    simp only [OkL_append] at hd5
    have hle := hle hd5.2.2.2.1
    rw [Nat.ble_eq] at hle
    have hh1 : ∀ q, hq = some q → 0 ≤ q ∧ q + (sum cuts : Int) ≤ m := fun q e => by simpa using hh1 hd5.2.2.2.2.1 q e
    have hh2 : ∀ q, l = some q → 0 ≤ q ∧ q ≤ toZ hq (len []) := fun q e => by simpa using hh2 hd5.2.2.2.2.2.1 q e
    have hnl : y15.nl = z.nl := hn3.trans (hn2.trans (hn1.trans hn0))
    have main : ∀ (ρ : Con) (w : World), Lies (ρ lab (mem [])) en.own sz ((Tr.ta m t').cells ρ is) w →
        (Instr.sliceAt t (SV.val ρ (.v (.vl lab mem sz cuts len))) (lo.map (SV.val ρ)) (hi.map (SV.val ρ)) none).run P w =
          .ok (SV.val ρ (match l with | some q => .v (.vl lab mem sz (cuts ++ [q.toNat]) (fun _ => toN hq (len []) - q.toNat)) | none => .v (.vl lab mem sz cuts (fun _ => toN hq (len []))))) w := by
      intro ρ w hL
      have hmlen : ((Tr.ta m t').cells ρ is).length = m * sz := by rw [Tr.cells_length]; simp [Tr.size, hts]
      cases hnil : (ρ lab (mem [])).isNil with
      | true =>
        have h0 := hL.2.1 hnil
        have hm0 : m = 0 := by
          rw [h0] at hmlen
          rcases Nat.eq_zero_or_pos m with h | h
          · exact h
          · have := Nat.mul_pos h hz; simp at hmlen; omega
        have hlen0 : len [] = 0 := by omega
        have hval : SV.val ρ (.v (.vl lab mem sz cuts len)) = .slice (ρ lab (mem [])).adr 0 0 := by simp [SV.val, Tr.val, hnil, hlen0]
        rw [hlen0] at hh2
        have hb := run_sliceBounds (P := P) (isS := true) (len := 0) (cap := 0) (ρ := ρ) (w := w) hlo hhi (fun q e => by have := hh1 q e; omega) hh2
        rw [hval]
        simp only [Instr.sliceAt, Instr.slice, Sem.run_bind, run_underlying hu, Result.andThen_ok, hb, run_sz hi', Sem.run_pure]
        have e2 : toN hq 0 = 0 := by
          cases hq with
          | none => rfl
          | some q => have := hh1 q rfl; simp only [toN]; omega
        have e3 : ∀ q, l = some q → q = 0 := fun q e => by
          have := hh2 q e
          cases hq with
          | none => simp only [toZ] at this; omega
          | some r => have := hh1 r rfl; simp only [toZ] at *; omega
        cases l with
        | none =>
          simp only [SV.val, Tr.val, hnil, if_true, toN, e2, hlen0]
          cases (ρ lab (mem [])).adr <;> simp [Addr.add]
        | some q =>
          have := e3 q rfl
          subst this
          simp only [SV.val, Tr.val, hnil, if_true, toN, e2, hlen0]
          cases (ρ lab (mem [])).adr <;> simp [Addr.add]
      | false =>
        have hcap : len [] ≤ (ρ lab (mem [])).room - sum cuts ∧ ∀ q, hq = some q → q ≤ ((ρ lab (mem [])).room - sum cuts : Nat) := by
          rcases Nat.eq_zero_or_pos m with h | h
          · exact ⟨by omega, fun q e => by have := hh1 q e; omega⟩
          · obtain ⟨_, _, g3⟩ := hL.row hts hz (show 0 < m from h)
            exact ⟨by omega, fun q e => by have := hh1 q e; omega⟩
        have hval : SV.val ρ (.v (.vl lab mem sz cuts len)) = .slice (some ⟨(ρ lab (mem [])).blk, (ρ lab (mem [])).base + rsOf (ρ lab (mem [])).room cuts 0 * sz, none⟩) (len []) ((ρ lab (mem [])).room - sum cuts) := by
          simp [SV.val, Tr.val, hnil]
        have hb := run_sliceBounds (P := P) (isS := true) (len := len []) (cap := (ρ lab (mem [])).room - sum cuts) (ρ := ρ) (w := w) hlo hhi (fun q e => by have := hh1 q e; have := hcap.2 q e; omega) hh2
        rw [hval]
        simp only [Instr.sliceAt, Instr.slice, Sem.run_bind, run_underlying hu, Result.andThen_ok, hb, run_sz hi', Sem.run_pure, hsz, ← hs]
        cases l with
        | none =>
          simp only [toN, Nat.sub_zero, Nat.zero_mul, Option.map_some, addr_add, Nat.add_zero, ite_self, SV.val, Tr.val, hnil, Bool.false_eq_true, if_false]
        | some q =>
          simp only [toN, SV.val, Tr.val, hnil, Bool.false_eq_true, if_false, rsOf_append, sum_append, sum, Nat.add_zero, Nat.zero_add, Option.map_some, addr_add]
          by_cases hc : (ρ lab (mem [])).room - sum cuts = q.toNat
          · simp [hc, Nat.sub_add_eq]
          · simp [hc, Nat.sub_add_eq, Nat.add_mul, Nat.add_assoc]
    cases l with
    | none =>
      obtain ⟨rfl, rfl, rfl⟩ := pure_ok h16
      exact ⟨hnl, rfl, hmx, jlo, jhi, rfl, rfl, rfl, fun ρ w hH => main ρ w (hlies hd5.2.2.1 ρ w (hH lab (by simp) en hl))⟩
    | some q =>
      obtain ⟨rfl, rfl, rfl⟩ := pure_ok h16
      exact ⟨hnl, rfl, hmx, jlo, jhi, rfl, rfl, rfl, fun ρ w hH => main ρ w (hlies hd5.2.2.1 ρ w (hH lab (by simp) en hl))⟩
  · rename_i el lab path sz st len cap
    obtain ⟨sz', c6, y6, c7, h6, h7, rfl⟩ := bind_ok h5
    obtain ⟨⟨i, hi', hsz⟩, rfl, rfl⟩ := szOf_ok h6
    obtain ⟨_, c6, y6, c8, h6, h8, rfl⟩ := bind_ok h7
    obtain ⟨hs, rfl, rfl⟩ := chk_ok h6
    have hs := Nat.eq_of_beq_eq_true hs
    obtain ⟨_, c11, y11, c12, h11, h12, rfl⟩ := bind_ok h8
    obtain ⟨hle, hn1⟩ := need_ok h11
    obtain ⟨_, c13, y13, c14, h13, h14, rfl⟩ := bind_ok h12
    obtain ⟨hn2, hh1⟩ := needO_ok h13
    simp only [OkL_append] at hd5
    have hle := hle hd5.2.2.1
    rw [Nat.ble_eq] at hle
    have hh1 : ∀ q, hq = some q → 0 ≤ q ∧ q ≤ len := fun q e => by simpa using hh1 hd5.2.2.2.1 q e
    have hval : ∀ ρ : Con, SV.val ρ (.v (.va lab path sz st len cap)) = .slice (some ⟨(ρ lab 0).blk, (ρ lab 0).base + offs path + st * sz, none⟩) len cap := fun _ => rfl
    cases l with
    | none =>
      obtain ⟨rfl, rfl, rfl⟩ := pure_ok h14
      refine ⟨hn2.trans hn1, rfl, hmx, jlo, jhi, rfl, rfl, rfl, fun ρ w _ => ?_⟩
      have hb := run_sliceBounds (P := P) (isS := true) (len := len) (cap := cap) (ρ := ρ) (w := w) hlo hhi (fun q e => by have := hh1 q e; omega) (fun q e => by cases e)
      rw [hval]
      simp only [Instr.sliceAt, Instr.slice, Sem.run_bind, run_underlying hu, Result.andThen_ok, hb, run_sz hi', Sem.run_pure, hsz, ← hs]
      simp only [toN, Nat.sub_zero, Nat.zero_mul, Option.map_some, addr_add, Nat.add_zero, ite_self, SV.val, Tr.val, Eff.val]
    | some q =>
      obtain ⟨_, c15, y15, c16, h15, h16, rfl⟩ := bind_ok h14
      obtain ⟨hq2, hn3⟩ := need_ok h15
      obtain ⟨rfl, rfl, rfl⟩ := pure_ok h16
      simp only [OkL_append] at hd5
      have hq2 : 0 ≤ q ∧ q ≤ toZ hq len ∧ q < cap := by simpa using hq2 hd5.2.2.2.2.1
      refine ⟨hn3.trans (hn2.trans hn1), rfl, hmx, jlo, jhi, rfl, rfl, rfl, fun ρ w _ => ?_⟩
      have hb := run_sliceBounds (P := P) (isS := true) (len := len) (cap := cap) (ρ := ρ) (w := w) hlo hhi (fun q e => by have := hh1 q e; omega) (fun r e => by cases e; exact ⟨hq2.1, hq2.2.1⟩)
      have hne : ¬ cap = q.toNat := by omega
      rw [hval]
      simp only [Instr.sliceAt, Instr.slice, Sem.run_bind, run_underlying hu, Result.andThen_ok, hb, run_sz hi', Sem.run_pure, hsz, ← hs]
      simp only [toN, Option.map_some, addr_add, SV.val, Tr.val, Eff.val]
      simp [hne, Nat.add_mul, Nat.add_assoc]
  · rename_i n el lab mem path
    obtain ⟨sz, c6, y6, c7, h6, h7, rfl⟩ := bind_ok h5
    obtain ⟨⟨i, hi', hsz⟩, rfl, rfl⟩ := szOf_ok h6
    obtain ⟨_, c6, y6, c8, h6, h8, rfl⟩ := bind_ok h7
    obtain ⟨hm, rfl, rfl⟩ := chk_ok h6
    have hm := Nat.eq_of_beq_eq_true hm
    obtain ⟨_, c10, y10, c11, h10, h11, rfl⟩ := bind_ok h8
    obtain ⟨hn1, hh1⟩ := needO_ok h10
    simp only [OkL_append] at hd5
    have hh1 : ∀ q, hq = some q → 0 ≤ q ∧ q ≤ n := fun q e => by simpa using hh1 hd5.2.2.1 q e
    cases l with
    | none =>
      obtain ⟨rfl, rfl, rfl⟩ := pure_ok h11
      refine ⟨hn1, rfl, hmx, jlo, jhi, rfl, rfl, rfl, fun ρ w _ => ?_⟩
      have hb := run_sliceBounds (P := P) (isS := false) (len := n) (cap := n) (ρ := ρ) (w := w) hlo hhi hh1 (fun q e => by cases e)
      simp only [Instr.sliceAt, Sem.run_bind, run_underlying hu, Result.andThen_ok, SV.val, Tr.val, Instr.sureAddr, Sem.run_pure, hb, run_sz hi', hm, Nat.zero_mul, addr_add, Nat.add_zero, ite_self, Nat.sub_zero, hsz, Eff.val, show toN (none : Option Int) 0 = 0 from rfl]
    | some q =>
      obtain ⟨_, c15, y15, c16, h15, h16, rfl⟩ := bind_ok h11
      obtain ⟨hq2, hn3⟩ := need_ok h15
      obtain ⟨rfl, rfl, rfl⟩ := pure_ok h16
      simp only [OkL_append] at hd5
      have hq2 : 0 ≤ q ∧ q ≤ toZ hq n ∧ q < n := by simpa using hq2 hd5.2.2.2.1
      refine ⟨hn3.trans hn1, rfl, hmx, jlo, jhi, rfl, rfl, rfl, fun ρ w _ => ?_⟩
      have hb := run_sliceBounds (P := P) (isS := false) (len := n) (cap := n) (ρ := ρ) (w := w) hlo hhi hh1 (fun r e => by cases e; exact ⟨hq2.1, hq2.2.1⟩)
      have hne : ¬ n = q.toNat := by omega
      simp only [Instr.sliceAt, Sem.run_bind, run_underlying hu, Result.andThen_ok, SV.val, Tr.val, Instr.sureAddr, Sem.run_pure, hb, run_sz hi', hm, addr_add, hsz, Eff.val, show toN (some q) 0 = q.toNat from rfl]
      simp [hne]
  · exact (fail_ok h5).elim

end Go.Sx
