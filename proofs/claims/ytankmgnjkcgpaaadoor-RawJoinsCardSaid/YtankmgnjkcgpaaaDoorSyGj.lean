/- The engine, part 16b: effects one behind the other; a new element's own row goes into the family of the others'. -/
import Derived.Test.YtankmgnjkcgpaaaDoorSyG
import Derived.Test.YtankmgnjkcgpaaaDoorSy4
import Derived.Lib.BytesEntry
import Derived.Laws.Externs
set_option linter.unusedSimpArgs false
set_option linter.unusedVariables false
namespace Go.Sx

/-! ### Functions that have no text: counting a byte, looking for one -/

theorem run_bytesX {P : Program} {L : Loc} {own : Bool} {wid : Nat} {f : Ix → Int} {js : Ix} {n st len cap : Nat} {ρ : Con} {w : World}
    (h : Lies L own wid ((Tr.ta n (.vi .u8 f)).cells ρ js) w) (hn : L.isNil = false) (hlen : st + len ≤ n) (a : Addr) (ha : 0 < len → a = ⟨L.blk, L.base + st, none⟩) :
    (Extern.Bytes.bytesOf (.slice (some a) len cap)).run P w = .ok ⟨(bytesOf f js st len).toArray⟩ w := by
  have hl := Lib.run_loadBytesX (P := P) w ((List.range len).map fun j => f (js ++ [st + j])) a .empty (fun j x hj => by
    have hjl : j < len := by have := (List.getElem?_eq_some_iff.1 hj).1; simpa using this
    have hx : x = f (js ++ [st + j]) := by
      rw [List.getElem?_map, List.getElem?_range hjl] at hj
      simpa using hj.symm
    subst hx
    rw [ha (by omega), addr_add]
    have := (h.2.2 hn).1 (st + j) (Value.int .u8 (f (js ++ [st + j]))) (by
      rw [bytes_cells]
      simp [List.getElem?_range (show st + j < n by omega)])
    rw [show L.base + st + j = L.base + (st + j) by omega]; exact this)
  simp only [List.length_map, List.length_range] at hl
  simp only [Extern.Bytes.bytesOf]
  rw [hl]
  congr 1
  apply ByteArray.ext
  simp [Lib.bytesOf, bytesOf, Function.comp_def]

theorem rdBytes_ok {P : Program} {H : List Ent} {x : SV} {z z' : Aux} {l : List UInt8} {rd : List Nat} {d : Conds} (h : rdBytes H x z = .ok (l, rd) d z') (hd : OkL d) :
    z'.nl = z.nl ∧ x.isJ = false ∧ ∀ (ρ : Con) (w : World), Hp ρ H rd w → (Extern.Bytes.bytesOf (x.val ρ)).run P w = .ok ⟨l.toArray⟩ w := by
  unfold rdBytes at h
  split at h
  · rename_i f
    obtain ⟨h1, rfl, rfl⟩ := pure_ok h
    simp only [Prod.mk.injEq] at h1
    obtain ⟨rfl, rfl⟩ := h1
    exact ⟨rfl, rfl, fun ρ w _ => rfl⟩
  · obtain ⟨h1, rfl, rfl⟩ := pure_ok h
    simp only [Prod.mk.injEq] at h1
    obtain ⟨rfl, rfl⟩ := h1
    exact ⟨rfl, rfl, fun ρ w _ => rfl⟩
  · rename_i lab mem sz cuts len
    obtain ⟨_, c1, y1, c5, h1, h5, rfl⟩ := bind_ok h
    obtain ⟨hsz, rfl, rfl⟩ := chk_ok h1
    have hsz := Nat.eq_of_beq_eq_true hsz
    obtain ⟨⟨n, t, is⟩, c1, y1, c6, h1, h6, rfl⟩ := bind_ok h5
    obtain ⟨hn1, en, hl, hw, ht, hts, hz, hlies, _⟩ := rowOf_ok h1
    simp only at h6
    obtain ⟨_, c7, y7, c8, h7, h8, rfl⟩ := bind_ok h6
    obtain ⟨hle, hn2⟩ := need_ok h7
    split at h8
    · rename_i f
      obtain ⟨h9, rfl, rfl⟩ := pure_ok h8
      simp only [Prod.mk.injEq] at h9
      obtain ⟨rfl, rfl⟩ := h9
      simp only [OkL_append] at hd
      have hle := hle hd.2.2.1
      rw [Nat.ble_eq] at hle
      refine ⟨hn2.trans hn1, rfl, fun ρ w hH => ?_⟩
      have hL := hlies hd.2.1 ρ w (hH lab (by simp) en hl)
      cases hnil : (ρ lab (mem [])).isNil with
      | true =>
        have h0 := hL.2.1 hnil
        have : ((Tr.ta n (Tr.vi .u8 f)).cells ρ is).length = n := by rw [Tr.cells_length]; simp [Tr.size]
        rw [h0] at this
        have hlen : len [] = 0 := by simp at this; omega
        simp only [SV.val, Tr.val, hnil, if_true]
        rw [hlen]
        cases (ρ lab (mem [])).adr <;> rfl
      | false =>
        have hval : SV.val ρ (.v (.vl lab mem sz cuts len)) = .slice (some ⟨(ρ lab (mem [])).blk, (ρ lab (mem [])).base + rsOf (ρ lab (mem [])).room cuts 0 * sz, none⟩) (len []) ((ρ lab (mem [])).room - sum cuts) := by
          simp [SV.val, Tr.val, hnil]
        rw [hval]
        exact run_bytesX (n := n) (f := f) (js := is) (ρ := ρ) hL hnil hle _ (fun hpos => by
          obtain ⟨_, g2, _⟩ := hL.row hts hz (show sum cuts < n by omega)
          rw [rsOf_sum _ cuts 0 (by omega), hsz]; simp)
    · exact (fail_ok h8).elim
  · exact (fail_ok h).elim

theorem run_countX {P : Program} {b : Value} {l : List UInt8} {c : Int} {w : World} (h : (Extern.Bytes.bytesOf b).run P w = .ok ⟨l.toArray⟩ w) : (Extern.BytealgCount.count #[b, .int .u8 c]).run P w = .ok (.int .i64 (cntB l c)) w := by
  have hs := Lib.run_countString (P := P) ⟨l.toArray⟩ c w
  change Sem.run P (do
    let b ← Extern.Bytes.bytesOf b
    let c' ← Extern.Bytes.asByte (.int .u8 c)
    pure (goInt (b.foldl (fun n x => if x == c' then n + 1 else n) (0 : Nat)))) w = _
  change Sem.run P (do
    let b ← Extern.Bytes.bytesOf (.string ⟨l.toArray⟩)
    let c' ← Extern.Bytes.asByte (.int .u8 c)
    pure (goInt (b.foldl (fun n x => if x == c' then n + 1 else n) (0 : Nat)))) w = _ at hs
  have h2 : (Extern.Bytes.bytesOf (.string ⟨l.toArray⟩)).run P w = .ok ⟨l.toArray⟩ w := rfl
  rw [Sem.run_bind, h2] at hs
  rw [Sem.run_bind, h]
  exact hs

theorem run_indexX {P : Program} {b : Value} {l : List UInt8} {c : Int} {w : World} (h : (Extern.Bytes.bytesOf b).run P w = .ok ⟨l.toArray⟩ w) : (Extern.BytealgIndexByte.indexByte #[b, .int .u8 c]).run P w = .ok (.int .i64 (idxB l c)) w := by
  have hs := Lib.run_indexByteString (P := P) ⟨l.toArray⟩ c w
  change Sem.run P (do
    let b ← Extern.Bytes.bytesOf b
    let c ← Extern.Bytes.asByte (.int .u8 c)
    match (List.range b.size).find? fun i => b[i]! == c with
    | some i => pure (goInt i)
    | none => pure (goInt (-1))) w = _
  change Sem.run P (do
    let b ← Extern.Bytes.bytesOf (.string ⟨l.toArray⟩)
    let c ← Extern.Bytes.asByte (.int .u8 c)
    match (List.range b.size).find? fun i => b[i]! == c with
    | some i => pure (goInt i)
    | none => pure (goInt (-1))) w = _ at hs
  have h2 : (Extern.Bytes.bytesOf (.string ⟨l.toArray⟩)).run P w = .ok ⟨l.toArray⟩ w := rfl
  rw [Sem.run_bind, h2] at hs
  rw [Sem.run_bind, h]
  exact hs

def Ext.entry : Ext → Array Value → Sem Value
  | .count => Extern.BytealgCount.count
  | .index => Extern.BytealgIndexByte.indexByte

theorem ext_found (nm : String) (e : Array Value → Sem Value) (h1 : Extern.allGenericRows.lookup nm = none) (h2 : Extern.allTypedRows.lookup nm = none) (h3 : Extern.allRows.lookup nm = some e)
    (h4 : Extern.allNextRows.lookup nm = none) (h5 : Extern.allNextRows.lookup "" = none) {fn : Func} (hn : fn.name = nm) (ho : fn.origin = "") : Extern.findNext fn = none ∧ Extern.find fn = some e := by
  unfold Extern.findNext Extern.find
  rw [hn, ho]
  simp only [h1, h2, h3, h4, h5]
  exact ⟨rfl, rfl⟩

theorem extOf_ok {P : Program} {f : FuncId} {k : Ext} (h : extOf P f = some k) : ∃ fn : Func, P.funcs[f]? = some fn ∧ fn.body = none ∧ Extern.findNext fn = none ∧ Extern.find fn = some k.entry := by
  unfold extOf at h
  cases hf : P.funcs[f]? with
  | none => rw [hf] at h; cases h
  | some fn =>
    rw [hf] at h
    simp only at h
    cases hb : fn.body with
    | some _ => rw [hb] at h; cases h
    | none =>
      rw [hb] at h
      simp only at h
      split at h
      · rename_i ho
        have ho : fn.origin = "" := by simpa using ho
        split at h
        · rename_i hn
          simp only [Option.some.injEq] at h; subst h
          exact ⟨fn, rfl, hb, ext_found "internal/bytealg.Count" _ (by kernel_rfl) (by kernel_rfl) (by kernel_rfl) (by kernel_rfl) (by kernel_rfl) (by simpa using hn) ho⟩
        · split at h
          · rename_i hn
            simp only [Option.some.injEq] at h; subst h
            exact ⟨fn, rfl, hb, ext_found "internal/bytealg.CountString" _ (by kernel_rfl) (by kernel_rfl) (by kernel_rfl) (by kernel_rfl) (by kernel_rfl) (by simpa using hn) ho⟩
          · split at h
            · rename_i hn
              simp only [Option.some.injEq] at h; subst h
              exact ⟨fn, rfl, hb, ext_found "internal/bytealg.IndexByte" _ (by kernel_rfl) (by kernel_rfl) (by kernel_rfl) (by kernel_rfl) (by kernel_rfl) (by simpa using hn) ho⟩
            · split at h
              · rename_i hn
                simp only [Option.some.injEq] at h; subst h
                exact ⟨fn, rfl, hb, ext_found "internal/bytealg.IndexByteString" _ (by kernel_rfl) (by kernel_rfl) (by kernel_rfl) (by kernel_rfl) (by kernel_rfl) (by simpa using hn) ho⟩
              · cases h
      · cases h

theorem evExt_ok {P : Program} {k : Ext} {H : List Ent} {args : List SV} {z z' : Aux} {e : Eff} {d : Conds} (h : evExt k H args z = .ok e d z') (hd : OkL d) :
    z'.nl = z.nl ∧ e.upd = [] ∧ e.drop = [] ∧ (∀ a ∈ args, a.un.isJ = false) ∧ ∀ (ρ : Con) (w : World), Hp ρ H e.rd w → (k.entry (args.map fun a => a.un.val ρ).toArray).run P w = .ok (e.v.val ρ) w := by
  unfold evExt at h
  split at h
  · rename_i b c
    generalize hc : c.un = u at h
    split at h
    · rename_i g
      obtain ⟨⟨l, rd⟩, c1, y1, c2, h1, h2, rfl⟩ := bind_ok h
      simp only [OkL_append] at hd
      obtain ⟨n1, j1, r1⟩ := rdBytes_ok (P := P) h1 hd.1
      have jb : b.un.isJ = false := by rw [(SV.un_val con0 b).2]; exact j1
      simp only at h2
      have hargs : ∀ a ∈ [b, c], a.un.isJ = false := fun a ha => by
        rcases List.mem_cons.1 ha with rfl | ha
        · exact jb
        · obtain rfl := List.mem_singleton.1 ha; rw [hc]; rfl
      cases k with
      | count =>
        obtain ⟨rfl, rfl, rfl⟩ := pure_ok h2
        refine ⟨n1, rfl, rfl, hargs, fun ρ w hH => ?_⟩
        have := run_countX (c := g []) (r1 ρ w hH)
        rw [← (SV.un_val ρ b).1] at this
        simpa [Ext.entry, hc, SV.val, Tr.val] using this
      | index =>
        obtain ⟨rfl, rfl, rfl⟩ := pure_ok h2
        refine ⟨n1, rfl, rfl, hargs, fun ρ w hH => ?_⟩
        have := run_indexX (c := g []) (r1 ρ w hH)
        rw [← (SV.un_val ρ b).1] at this
        simpa [Ext.entry, hc, SV.val, Tr.val] using this
    · exact (fail_ok h).elim
  · exact (fail_ok h).elim


def WFr (H : List Ent) (n : Nat) : Prop := ∀ l x, look H l = some x → l < n ∧ ∀ k ∈ x.t.labs, k < n

def restr (H : List Ent) (rd : List Nat) : HF := fun l => if l ∈ rd then look H l else none

theorem restr_hold {ρ : Con} {H : List Ent} {rd : List Nat} {w : World} (h : HpS ρ H rd w) : HoldF ρ (restr H rd) w := by
  have hin : ∀ l z, restr H rd l = some z → l ∈ rd ∧ look H l = some z := by
    intro l z hz
    unfold restr at hz
    split at hz
    · rename_i hl; exact ⟨hl, hz⟩
    · cases hz
  exact ⟨fun l z hz => look_lab (hin l z hz).2, fun l z hz => h.hp l (hin l z hz).1 z (hin l z hz).2,
    fun l l' z z' hz hz' => h.sep l (hin l z hz).1 l' (hin l' z' hz').1 z z' (hin l z hz).2 (hin l' z' hz').2⟩

theorem seq_hold {ρ ρ1 : Con} {n n1 : Nat} {H : List Ent} {a : Eff} {rb : List Nat} {w w1 : World} (hwf : WFr H n)
    (hp : HpS ρ H (a.rd ++ rb) w) (ha : EffOK ρ ρ1 n n1 H a w w1) (hna : (a.upd.map (·.lab)).Nodup) :
    HoldF ρ1 (applyF (restr H (a.rd ++ rb)) a) w1 ∧ ∀ l ∈ rb, applyF (restr H (a.rd ++ rb)) a l = look (applyE H a) l := by
  refine ⟨(eff_apply (restr_hold hp) (fun l hl => ?_) ha hna (fun l x hx _ _ => ?_)).1, fun l hl => ?_⟩
  · exact if_pos (List.mem_append_left _ hl)
  · unfold restr at hx
    split at hx
    · obtain ⟨h1, h2⟩ := hwf l x hx
      exact ⟨.inl h1, fun k hk => .inl (h2 k hk)⟩
    · cases hx
  · have e : restr H (a.rd ++ rb) l = look H l := if_pos (List.mem_append_right _ hl)
    rw [look_applyE H a hna]
    unfold applyF
    rw [e]

theorem seq_in {a b : Eff} {l : Nat} (h : l ∈ a.upd.map (·.lab)) : l ∈ (seqE a b).upd.map (·.lab) ∨ l ∈ (seqE a b).drop := by
  by_cases h1 : l ∈ b.upd.map (·.lab)
  · left; simp only [seqE, List.map_append]; exact List.mem_append_left _ h1
  by_cases h2 : l ∈ b.drop
  · right; simp only [seqE]; exact List.mem_append_right _ h2
  obtain ⟨x, hx, rfl⟩ := List.mem_map.1 h
  left; simp only [seqE, List.map_append]; refine List.mem_append_right _ (List.mem_map.2 ⟨x, List.mem_filter.2 ⟨hx, ?_⟩, rfl⟩)
  have m1 : memN x.lab (b.upd.map (·.lab)) = false := by
    cases hq : memN x.lab (b.upd.map (·.lab)) with
    | false => rfl
    | true => exact absurd (memN_iff.1 hq) h1
  have m2 : memN x.lab b.drop = false := by
    cases hq : memN x.lab b.drop with
    | false => rfl
    | true => exact absurd (memN_iff.1 hq) h2
  simp [m1, m2]

theorem EffOK.seq {ρ ρ1 ρ2 : Con} {n n1 n2 : Nat} {H : List Ent} {a b : Eff} {w w1 w2 : World} (hnn : n ≤ n1) (hn2 : n1 ≤ n2) (hwf : WFr H n)
    (hp : HpS ρ H (a.rd ++ b.rd) w) (ha : EffOK ρ ρ1 n n1 H a w w1) (hna : (a.upd.map (·.lab)).Nodup) (hba : ∀ x ∈ a.upd, x.lab < n1 ∧ ∀ k ∈ x.t.labs, k < n1)
    (hnb : (b.upd.map (·.lab)).Nodup) (hb : EffOK ρ1 ρ2 n1 n2 (applyE H a) b w1 w2) : EffOK ρ ρ2 n n2 H (seqE a b) w w2 := by
  obtain ⟨h1, hrd⟩ := seq_hold hwf hp ha hna
  have hin1 : ∀ l x, applyF (restr H (a.rd ++ b.rd)) a l = some x → l < n1 ∧ ∀ k ∈ x.t.labs, k < n1 := by
    intro l x hx
    unfold applyF at hx
    split at hx
    · rename_i y hy
      simp only [Option.some.injEq] at hx
      subst hx
      have := hba _ (look_mem hy)
      rw [look_lab hy] at this
      exact this
    · split at hx
      · cases hx
      · unfold restr at hx
        split at hx
        · obtain ⟨g1, g2⟩ := hwf l x hx
          exact ⟨by omega, fun k hk => by have := g2 k hk; omega⟩
        · cases hx
  obtain ⟨h2, -⟩ := eff_apply h1 hrd hb hnb (fun l x hx _ _ => ⟨.inl (hin1 l x hx).1, fun k hk => .inl ((hin1 l x hx).2 k hk)⟩)
  have inU : ∀ x ∈ (seqE a b).upd, applyF (applyF (restr H (a.rd ++ b.rd)) a) b x.lab = some x := by
    intro x hx
    simp only [seqE, List.mem_append, List.mem_filter, Bool.and_eq_true, Bool.not_eq_true'] at hx
    rcases hx with hx | ⟨hx, m1, m2⟩
    · unfold applyF; rw [look_of_mem hnb hx]
    · have g1 : look b.upd x.lab = none := look_none (fun h => by rw [memN_iff.2 h] at m1; cases m1)
      have g2 : x.lab ∉ b.drop := fun h => by rw [memN_iff.2 h] at m2; cases m2
      unfold applyF
      rw [g1]
      simp only [g2, if_false]
      rw [look_of_mem hna hx]
  have ta : ∀ k, Touch ρ H a k → Touch ρ H (seqE a b) k := by
    rintro k ⟨l, x, q1, q2, q3, q4, q5⟩
    refine ⟨l, x, q1, q2, by simp only [seqE]; exact List.mem_append_left _ q3, ?_, q5⟩
    rcases q4 with q4 | q4
    · exact seq_in q4
    · right; simp only [seqE]; exact List.mem_append_left _ q4
  have tb : ∀ k, Touch ρ1 (applyE H a) b k → Touch ρ H (seqE a b) k ∨ w.heap.size ≤ k := by
    rintro k ⟨l, x, q1, q2, q3, q4, q5⟩
    rw [look_applyE H a hna] at q1
    unfold applyF at q1
    split at q1
    · rename_i y hy
      simp only [Option.some.injEq] at q1
      subst q1
      rcases ha.fresh _ (look_mem hy) k q5 with h | h
      · exact .inl (ta k h)
      · exact .inr h
    · split at q1
      · cases q1
      · left
        refine ⟨l, x, q1, q2, by simp only [seqE]; exact List.mem_append_right _ q3, ?_, ?_⟩
        · rcases q4 with q4 | q4
          · left; simp only [seqE, List.map_append]; exact List.mem_append_left _ q4
          · right; simp only [seqE]; exact List.mem_append_right _ q4
        · refine (Ent.occ_agree (ha.agree x.lab (.inl ?_))).1 q5
          rw [look_lab q1]; exact (hwf l x q1).1
  refine ⟨fun l hl => ?_, fun x hx => h2.all x.lab x (inU x hx), ?_, fun x hx k hk => ?_, fun x hx y hy hne ho k hk => h2.sep x.lab y.lab x y (inU x hx) (inU y hy) hne ho k hk⟩
  · rw [hb.agree l (by omega), ha.agree l (by omega)]
  · exact (ha.frame.mono (fun k hk => .inl (ta k hk))).trans hb.frame tb
  · have hx' := hx
    simp only [seqE, List.mem_append, List.mem_filter] at hx
    rcases hx with hx | ⟨hx, -⟩
    · rcases hb.fresh x hx k hk with h | h
      · exact tb k h
      · have := ha.frame.size; right; omega
    · have e1 : ρ2 x.lab = ρ1 x.lab := hb.agree _ (.inl (hba x hx).1)
      rcases ha.fresh x hx k ((Ent.occ_agree e1).1 hk) with h | h
      · exact .inl (ta k h)
      · exact .inr h

/-! ### Trees -/

theorem Tr.onF_size (F G : Nat) : ∀ t : Tr, (t.onF F G).size = t.size := by
  intro t
  induction t with
  | tc a b ih1 ih2 => simp only [Tr.onF, Tr.size, ih1, ih2]
  | ta n t ih => simp only [Tr.onF, Tr.size, ih]
  | vl lab mem sz cuts len => simp only [Tr.onF]; split <;> rfl
  | _ => rfl

theorem Tr.onF_cells {ρ ρ1 : Con} {F G : Nat} (h1 : ∀ m, ρ1 G (m + 1) = ρ F m) (h2 : ∀ l, l ≠ G → ρ1 l = ρ l) : ∀ (t : Tr) (is : Ix), G ∉ t.labs → (t.onF F G).cells ρ1 is = t.cells ρ is := by
  intro t
  induction t with
  | tc a b ih1 ih2 =>
    intro is h
    simp only [Tr.labs, List.mem_append, not_or] at h
    simp only [Tr.onF, Tr.cells, ih1 is h.1, ih2 is h.2]
  | ta n t ih =>
    intro is h
    simp only [Tr.onF, Tr.cells]
    exact flatMap_congr fun i _ => ih _ h
  | vl lab mem sz cuts len =>
    intro is h
    simp only [Tr.labs, List.mem_singleton] at h
    simp only [Tr.onF]
    by_cases hb : lab = F
    · subst hb
      rw [beqT rfl]
      simp only [if_true, Tr.cells, Tr.val, h1]
    · rw [beqF hb]
      simp only [Bool.false_eq_true, if_false, Tr.cells, Tr.val, h2 lab (fun e => h e.symm)]
  | _ =>
    intro is h
    simp only [Tr.onF]
    exact Tr.cells_agree _ is (fun l hl => h2 l (fun e => h (by rw [← e]; exact hl)))

theorem tear_ok {ρ1 : Con} {G F : Nat} {L : Option Nat} (hL : (∀ l, L = some l → ρ1 G 0 = ρ1 l 0) ∧ (L = none → (ρ1 G 0).isNil = true ∧ (ρ1 G 0).adr = none)) :
    ∀ (u g : Tr), tornOf u g = some (F, L) → (tear G u g).size = g.size ∧ (tear G u g).cells ρ1 [0] = g.cells ρ1 [0] := by
  intro u
  induction u with
  | vl lab mem sz cuts len =>
    intro g h
    cases g <;> simp only [tornOf] at h <;> try (cases h)
    · rename_i lab' mem' sz' cuts' len'
      split at h
      · cases h
      · rename_i hb
        split at h
        · rename_i hc
          simp only [Option.some.injEq, Prod.mk.injEq] at h
          obtain ⟨rfl, rfl⟩ := h
          have hc' := hc
          simp only [Bool.and_eq_true] at hc'
          obtain ⟨⟨⟨c1, c2⟩, c3⟩, c4⟩ := hc'
          have c3 : cuts' = [] := List.isEmpty_iff.1 c3
          have c4 := Nat.eq_of_beq_eq_true c4
          subst c3
          have hb : Nat.beq lab lab' = false := by cases hq : Nat.beq lab lab' with | false => rfl | true => exact absurd hq hb
          have et : tear G (.vl lab mem sz cuts len) (.vl lab' mem' sz' [] len') = .vl G (fun _ => 0) sz' [] len' := by
            simp only [tear]; rw [hb, if_neg (by simp), if_pos hc]
          rw [et]
          simp only [Tr.size, Tr.cells, Tr.val, c4, hL.1 lab' rfl, true_and]
        · cases h
    · split at h
      · rename_i hc
        simp only [Option.some.injEq, Prod.mk.injEq] at h
        obtain ⟨rfl, rfl⟩ := h
        obtain ⟨g1, g2⟩ := hL.2 rfl
        simp only [tear, hc, if_true, Tr.size, Tr.cells, Tr.val, g1, g2, true_and]
      · cases h
  | tc a b ih1 ih2 =>
    intro g h
    cases g <;> simp only [tornOf] at h <;> try (cases h)
    rename_i c d
    split at h
    · rename_i r hr
      simp only [Option.some.injEq] at h
      subst h
      obtain ⟨g1, g2⟩ := ih1 c hr
      simp only [tear, hr, Tr.size, Tr.cells, g1, g2, and_self]
    · rename_i hr
      obtain ⟨g1, g2⟩ := ih2 d h
      simp only [tear, hr, Tr.size, Tr.cells, g1, g2, and_self]
  | _ => intro g h; simp only [tornOf] at h; cases h

theorem consT_ok (ρ : Con) : ∀ (v t r : Tr), consT v t = some r → r.labs = [] ∧ r.size = v.size ∧ r.size = t.size ∧ (∀ js, r.cells ρ (0 :: js) = v.cells ρ js) ∧ (∀ m js, r.cells ρ ((m + 1) :: js) = t.cells ρ (m :: js)) := by
  intro v
  induction v with
  | vb f => intro t r h; cases t <;> simp only [consT] at h <;> cases h; exact ⟨rfl, rfl, rfl, fun _ => rfl, fun _ _ => rfl⟩
  | vi k f =>
    intro t r h; cases t <;> simp only [consT] at h <;> try (cases h)
    split at h
    · rename_i hk
      have hk := sameK_eq hk
      subst hk
      cases h
      exact ⟨rfl, rfl, rfl, fun _ => rfl, fun _ _ => rfl⟩
    · cases h
  | vs f => intro t r h; cases t <;> simp only [consT] at h <;> cases h; exact ⟨rfl, rfl, rfl, fun _ => rfl, fun _ _ => rfl⟩
  | t0 => intro t r h; cases t <;> simp only [consT] at h <;> cases h; exact ⟨rfl, rfl, rfl, fun _ => rfl, fun _ _ => rfl⟩
  | tc a b iha ihb =>
    intro t r h; cases t <;> simp only [consT] at h <;> try (cases h)
    split at h
    · rename_i x y hx hy
      cases h
      obtain ⟨a0, a1, a2, a3, a4⟩ := iha _ _ hx
      obtain ⟨b0, b1, b2, b3, b4⟩ := ihb _ _ hy
      exact ⟨by simp [Tr.labs, a0, b0], by simp [Tr.size, a1, b1], by simp only [Tr.size]; omega, fun js => by simp only [Tr.cells, a3, b3], fun m js => by simp only [Tr.cells, a4, b4]⟩
    · cases h
  | _ => intro t r h; simp only [consT] at h; cases h

/-! ### The joining -/

theorem isTorn_ok {o : Option (Nat × Option Nat)} {F : Nat} {L : Option Nat} (h : isTorn o F L = true) : o = some (F, L) := by
  unfold isTorn at h
  split at h
  · rw [Nat.eq_of_beq_eq_true h]
  · simp only [Bool.and_eq_true] at h
    rw [Nat.eq_of_beq_eq_true h.1, Nat.eq_of_beq_eq_true h.2]
  · cases h

theorem join_core {ρ : Con} {w : World} {H : List Ent} {R X F nl n c k : Nat} {r q f : Ent} {u g g' t : Tr} {ls : Nat → Nat} {L0 : Loc} {drop rd : List Nat} (hwf : WFr H nl) (hp : HpS ρ H rd w)
    (hR : look H R = some r) (hX : look H X = some q) (hF : look H F = some f) (rt : r.t = .ta n u) (qt : q.t = .ta 1 g) (ro : r.own = true) (qo : q.own = true) (rf : r.fam = none) (qf : q.fam = none)
    (fo : f.own = true) (ff : f.fam = some (c, ls)) (hRX : R ≠ X) (hFR : F ≠ R) (hFX : F ≠ X) (mR : R ∈ rd) (mX : X ∈ rd) (mF : F ∈ rd) (dF : F ∈ drop)
    (gsz : g'.size = g.size) (hg' : g'.cells (fun l => if l = nl then (fun m => match m with | 0 => L0 | m + 1 => ρ F m) else ρ l) [0] = g.cells ρ [0])
    (h0 : Lies L0 true (wd f.wid) ((List.range k).flatMap fun i => t.cells ρ [0, i]) w)
    (hocc0 : L0.isNil = false → ∃ l e, look H l = some e ∧ e.own = true ∧ l ∈ rd ∧ l ∈ drop ∧ l ≠ R ∧ l ≠ X ∧ e.occ ρ L0.blk)
    (tl : t.labs = []) (ht1 : ∀ m js, t.cells ρ ((m + 1) :: js) = f.t.cells ρ (m :: js)) :
    EffOK ρ (fun l => if l = nl then (fun m => match m with | 0 => L0 | m + 1 => ρ F m) else ρ l) nl (nl + 1) H
      ⟨.junk, [joinF nl f c ls k t, { r with t := .ta n (u.onF F nl) }, { q with t := .ta 1 g' }], drop, rd⟩ w w := by
  generalize hρ1 : (fun l => if l = nl then (fun m => match m with | 0 => L0 | m + 1 => ρ F m) else ρ l : Con) = ρ1 at hg' ⊢
  have e0 : ρ1 nl 0 = L0 := by rw [← hρ1]; simp
  have eS : ∀ m, ρ1 nl (m + 1) = ρ F m := fun m => by rw [← hρ1]; simp
  have eN : ∀ l, l ≠ nl → ρ1 l = ρ l := fun l hl => by rw [← hρ1]; simp [hl]
  have lR := look_lab hR
  have lX := look_lab hX
  have lF := look_lab hF
  obtain ⟨wR, wRl⟩ := hwf R r hR
  obtain ⟨wX, wXl⟩ := hwf X q hX
  obtain ⟨wF, wFl⟩ := hwf F f hF
  have holdR := hp.hp R mR r hR
  have holdX := hp.hp X mX q hX
  have holdF := hp.hp F mF f hF
  unfold Ent.holds at holdR holdX holdF
  simp only [rf, rt, ro] at holdR
  simp only [qf, qt, qo] at holdX
  simp only [ff, fo] at holdF
  have tag : ∀ is, t.cells ρ1 is = t.cells ρ is := fun is => Tr.cells_agree t is (fun l hl => by rw [tl] at hl; cases hl)
  have cR : (Tr.ta n (u.onF F nl)).cells ρ1 [] = (Tr.ta n u).cells ρ [] := by
    simp only [Tr.cells]
    refine flatMap_congr fun i _ => Tr.onF_cells eS eN u _ (fun h => ?_)
    have := wRl nl (by rw [rt]; exact h)
    omega
  have cX : (Tr.ta 1 g').cells ρ1 [] = (Tr.ta 1 g).cells ρ [] := by
    simp only [Tr.cells, List.range_succ, List.range_zero, List.nil_append, List.flatMap_cons, List.flatMap_nil, List.append_nil]
    exact hg'
  -- where each of the three lies, as it was told before
  have src : ∀ x ∈ [joinF nl f c ls k t, { r with t := .ta n (u.onF F nl) }, { q with t := .ta 1 g' }], ∀ b, x.occ ρ1 b →
      ∃ l e, look H l = some e ∧ e.own = true ∧ l ∈ rd ∧ (x.lab = nl → l ∈ drop ∧ l ≠ R ∧ l ≠ X) ∧ (x.lab ≠ nl → l = x.lab) ∧ e.occ ρ b := by
    intro x hx b hb
    simp only [List.mem_cons, List.not_mem_nil, or_false] at hx
    rcases hx with rfl | rfl | rfl
    · obtain ⟨m, hm, h1, h2, h3⟩ := hb
      simp only [joinF] at hm h1 h2 h3
      cases m with
      | zero =>
        rw [e0] at h1 h3
        obtain ⟨l, e, q1, q2, q3, q4, q5, q6, q7⟩ := hocc0 h1
        exact ⟨l, e, q1, q2, q3, fun _ => ⟨q4, q5, q6⟩, fun h => absurd rfl h, by rw [← h3]; exact q7⟩
      | succ m =>
        rw [eS] at h1 h3
        refine ⟨F, f, hF, fo, mF, fun _ => ⟨dF, hFR, hFX⟩, fun h => absurd rfl h, ⟨m, by simp only [ff]; omega, by rw [lF]; exact h1, .inl fo, by rw [lF]; exact h3⟩⟩
    · obtain ⟨m, hm, h1, h2, h3⟩ := hb
      simp only [rf] at hm
      subst hm
      simp only [lR, eN R (by omega)] at h1 h3
      refine ⟨R, r, hR, ro, mR, fun h => ?_, fun _ => lR.symm, ⟨0, by simp only [rf], by rw [lR]; exact h1, .inl ro, by rw [lR]; exact h3⟩⟩
      simp only [lR] at h; omega
    · obtain ⟨m, hm, h1, h2, h3⟩ := hb
      simp only [qf] at hm
      subst hm
      simp only [lX, eN X (by omega)] at h1 h3
      refine ⟨X, q, hX, qo, mX, fun h => ?_, fun _ => lX.symm, ⟨0, by simp only [qf], by rw [lX]; exact h1, .inl qo, by rw [lX]; exact h3⟩⟩
      simp only [lX] at h; omega
  have labs : ∀ x ∈ [joinF nl f c ls k t, { r with t := .ta n (u.onF F nl) }, { q with t := .ta 1 g' }], x.lab = nl ∨ x.lab = R ∨ x.lab = X := by
    intro x hx
    simp only [List.mem_cons, List.not_mem_nil, or_false] at hx
    rcases hx with rfl | rfl | rfl
    · exact .inl rfl
    · exact .inr (.inl lR)
    · exact .inr (.inr lX)
  refine ⟨fun l hl => eN l (by omega), fun x hx => ?_, Fr.refl _ _, fun x hx b hb => ?_, fun x hx y hy hne ho b hb hb' => ?_⟩
  · simp only [List.mem_cons, List.not_mem_nil, or_false] at hx
    rcases hx with rfl | rfl | rfl
    · unfold Ent.holds
      simp only [joinF]
      intro m hm
      cases m with
      | zero =>
        rw [e0]
        have e : (Tr.ta (consN k ls 0) t).cells ρ1 [0] = (List.range k).flatMap fun i => t.cells ρ [0, i] := by
          simp only [Tr.cells, consN]
          exact flatMap_congr fun i _ => tag _
        rw [e]; exact h0
      | succ m =>
        rw [eS]
        have e : (Tr.ta (consN k ls (m + 1)) t).cells ρ1 [m + 1] = (Tr.ta (ls m) f.t).cells ρ [m] := by
          simp only [Tr.cells, consN]
          exact flatMap_congr fun i _ => (tag _).trans (ht1 m [i])
        rw [e]
        have := holdF m (by omega)
        rw [lF] at this
        exact this.plain
    · unfold Ent.holds
      simp only [rf, ro]
      rw [cR, lR, eN R (by omega)]
      rw [lR] at holdR
      exact holdR
    · unfold Ent.holds
      simp only [qf, qo]
      rw [cX, lX, eN X (by omega)]
      rw [lX] at holdX
      exact holdX
  · obtain ⟨l, e, q1, q2, q3, q4, q5, q6⟩ := src x hx b hb
    left
    refine ⟨l, e, q1, q2, q3, ?_, q6⟩
    by_cases hxl : x.lab = nl
    · exact .inr (q4 hxl).1
    · left; rw [q5 hxl]; exact List.mem_map.2 ⟨x, hx, rfl⟩
  · obtain ⟨l, e, q1, q2, q3, q4, q5, q6⟩ := src x hx b hb
    obtain ⟨l', e', p1, p2, p3, p4, p5, p6⟩ := src y hy b hb'
    have hll : l ≠ l' := by
      intro h
      subst h
      by_cases hxl : x.lab = nl
      · have hyl : y.lab ≠ nl := fun h => hne (hxl.trans h.symm)
        have := p5 hyl
        obtain ⟨_, a1, a2⟩ := q4 hxl
        rcases labs y hy with h | h | h
        · exact hyl h
        · exact a1 (this.trans h)
        · exact a2 (this.trans h)
      · have hx2 := q5 hxl
        by_cases hyl : y.lab = nl
        · obtain ⟨_, a1, a2⟩ := p4 hyl
          rcases labs x hx with h | h | h
          · exact hxl h
          · exact a1 (hx2.trans h)
          · exact a2 (hx2.trans h)
        · exact hne (hx2.symm.trans (p5 hyl))
    exact hp.sep l q3 l' p3 e e' q1 p1 hll q2 b q6 p6

theorem joinOf_ok {H : List Ent} {s x : SV} {nl : Nat} {a : Eff} (h : joinOf H s x nl = some a) (hwf : WFr H nl) {ρ : Con} {w : World} (hp : HpS ρ H a.rd w) :
    ∃ ρ1 : Con, EffOK ρ ρ1 nl (nl + 1) H a w w := by
  unfold joinOf at h
  split at h
  · rename_i R _ _ _ _ X _ _ _ _
    split at h
    · rename_i r q hR hX
      split at h
      · rename_i n u m g rt qt
        split at h
        · rename_i hc
          simp only [Bool.and_eq_true, Bool.not_eq_true'] at hc
          obtain ⟨⟨⟨⟨⟨⟨ro, qo⟩, rf⟩, qf⟩, _⟩, m1⟩, hRX⟩ := hc
          have rf : r.fam = none := by simpa using rf
          have qf : q.fam = none := by simpa using qf
          have m1 := Nat.eq_of_beq_eq_true m1
          subst m1
          have hRX : R ≠ X := fun e => by rw [beqT e] at hRX; cases hRX
          split at h
          · rename_i F L hT
            split at h
            · rename_i f hF
              split at h
              · rename_i c ls ff
                split at h
                · rename_i hc2
                  simp only [Bool.and_eq_true, Bool.not_eq_true'] at hc2
                  obtain ⟨⟨⟨fo, hFR⟩, hFX⟩, fl⟩ := hc2
                  have hFR : F ≠ R := fun e => by rw [beqT e] at hFR; cases hFR
                  have hFX : F ≠ X := fun e => by rw [beqT e] at hFX; cases hFX
                  obtain ⟨wX, wXl⟩ := hwf X q hX
                  have hgl : nl ∉ g.labs := fun hh => by have := wXl nl (by rw [qt]; exact hh); omega
                  split at h
                  · split at h
                    · rename_i t ht
                      split at h
                      · rename_i hT2
                        simp only [Option.some.injEq] at h
                        subst h
                        obtain ⟨tl, _, _, _, ht1⟩ := consT_ok ρ _ _ _ ht
                        have hT2 : tornOf u (g.onF F nl) = some (F, none) := isTorn_ok hT2
                        have key : ∀ ρ1 : Con, (ρ1 nl 0 = ⟨0, 0, 0, f.wid, true, none, false⟩) → (∀ m, ρ1 nl (m + 1) = ρ F m) → (∀ l, l ≠ nl → ρ1 l = ρ l) → (tear nl u (g.onF F nl)).cells ρ1 [0] = g.cells ρ [0] := by
                          intro ρ1 e0 eS eN
                          rw [(tear_ok (ρ1 := ρ1) (G := nl) ⟨fun l h => (by cases h), fun _ => by rw [e0]; exact ⟨rfl, rfl⟩⟩ _ _ hT2).2]
                          exact Tr.onF_cells eS eN g _ hgl
                        exact ⟨_, join_core (L0 := ⟨0, 0, 0, f.wid, true, none, false⟩) hwf hp hR hX hF rt qt ro qo rf qf fo ff hRX hFR hFX (by simp) (by simp) (by simp) (by simp)
                          (by rw [(tear_ok (ρ1 := fun l => if l = nl then (fun _ => ⟨0, 0, 0, f.wid, true, none, false⟩) else ρ l) (G := nl) ⟨fun l h => (by cases h), fun _ => by simp⟩ _ _ hT2).1, Tr.onF_size])
                          (key _ (by simp) (fun m => by simp) (fun l hl => by simp [hl])) ⟨WidOK.wd_le _, fun _ => by simp, fun h => by cases h⟩ (fun h => by cases h) tl ht1⟩
                      · cases h
                    · cases h
                  · rename_i l
                    split at h
                    · rename_i e he
                      split at h
                      · rename_i k v et
                        split at h
                        · rename_i hc3
                          simp only [Bool.and_eq_true, Bool.not_eq_true'] at hc3
                          obtain ⟨⟨⟨⟨⟨⟨eo, ef⟩, ew⟩, vl⟩, hlR⟩, hlX⟩, hlF⟩ := hc3
                          have ef : e.fam = none := by simpa using ef
                          have ew := Nat.eq_of_beq_eq_true ew
                          have hlR : l ≠ R := fun e => by rw [beqT e] at hlR; cases hlR
                          have hlX : l ≠ X := fun e => by rw [beqT e] at hlX; cases hlX
                          split at h
                          · rename_i t ht
                            split at h
                            · rename_i hT2
                              simp only [Option.some.injEq] at h
                              subst h
                              obtain ⟨tl, _, _, ht0, ht1⟩ := consT_ok ρ _ _ _ ht
                              have hT2 : tornOf u (g.onF F nl) = some (F, some l) := isTorn_ok hT2
                              have wl := (hwf l e he).1
                              have le := look_lab he
                              have hold := hp.hp l (by simp) e he
                              unfold Ent.holds at hold
                              simp only [ef, et, eo] at hold
                              have hold := hold.plain
                              rw [le, ew] at hold
                              have key : ∀ ρ1 : Con, (ρ1 nl 0 = ρ l 0) → (∀ m, ρ1 nl (m + 1) = ρ F m) → (∀ l, l ≠ nl → ρ1 l = ρ l) → (tear nl u (g.onF F nl)).cells ρ1 [0] = g.cells ρ [0] := by
                                intro ρ1 e0 eS eN
                                rw [(tear_ok (ρ1 := ρ1) (G := nl) ⟨fun l' h => by cases h; rw [e0, eN l (by omega)], fun h => by cases h⟩ _ _ hT2).2]
                                exact Tr.onF_cells eS eN g _ hgl
                              have hcell : ((List.range k).flatMap fun i => t.cells ρ [0, i]) = (Tr.ta k v).cells ρ [] := by
                                simp only [Tr.cells, List.nil_append]
                                exact flatMap_congr fun i _ => ht0 [i]
                              exact ⟨_, join_core (L0 := ρ l 0) hwf hp hR hX hF rt qt ro qo rf qf fo ff hRX hFR hFX (by simp) (by simp) (by simp) (by simp)
                                (by rw [(tear_ok (ρ1 := fun l' => if l' = nl then (fun _ => ρ l 0) else ρ l') (G := nl) ⟨fun l' h => by cases h; simp [show l ≠ nl by omega], fun h => by cases h⟩ _ _ hT2).1, Tr.onF_size])
                                (key _ (by simp) (fun m => by simp) (fun l hl => by simp [hl])) (by rw [hcell]; exact hold)
                                (fun hn => ⟨l, e, he, eo, by simp, by simp, hlR, hlX, ⟨0, by simp only [ef], by rw [le]; exact hn, .inl eo, by rw [le]⟩⟩) tl ht1⟩
                            · cases h
                          · cases h
                        · cases h
                      · cases h
                    · cases h
                · cases h
              · cases h
            · cases h
          · cases h
        · cases h
      · cases h
    · cases h
  · cases h

theorem WFr.of {H : List Ent} {n : Nat} (h : ∀ l x, look H l = some x → l < n ∧ ∀ k ∈ x.t.labs, k < n) : WFr H n := h

theorem ents_below {n : Nat} : ∀ {H : List Ent}, entsBelow n H = true → ∀ x ∈ H, x.lab < n ∧ ∀ k ∈ x.t.labs, k < n
  | e :: r, h, x, hx => by
    simp only [entsBelow] at h
    split at h
    · rename_i h1
      split at h
      · rename_i h2
        rcases List.mem_cons.1 hx with rfl | hx
        · exact ⟨by simpa [Nat.blt_eq] using h1, below_ok h2⟩
        · exact ents_below h x hx
      · cases h
    · cases h

theorem val_same {ρ ρ' : Con} (s : SV) (h : ∀ k ∈ s.labs, ρ' k = ρ k) : s.val ρ' = s.val ρ := by
  have hl : ∀ l : List (Bool × Tr), (∀ k ∈ labsL l, ρ' k = ρ k) → l.map (bval ρ') = l.map (bval ρ) := by
    intro l
    induction l with
    | nil => intro _; rfl
    | cons p r ih =>
      intro h
      obtain ⟨b, t⟩ := p
      simp only [List.map_cons]
      rw [ih (fun k hk => h k (by simp [labsL, hk]))]
      cases b
      · simp only [bval, Tr.val_agree t [] (fun k hk => h k (by simp [labsL, hk]))]
      · simp only [bval, Tr.cells_agree t [] (fun k hk => h k (by simp [labsL, hk]))]
  cases s with
  | v t => exact Tr.val_agree t [] h
  | agg t => simp only [SV.val]; rw [Tr.cells_agree t [] h]
  | tup l => simp only [SV.val]; rw [hl l h]
  | _ => rfl

theorem evJoin_ok {P : Program} {env : List SV} {s x : SV} {o : Oper} : ∀ (n : Nat) {H : List Ent} {a y : Aux} {e : Eff} {d : Conds}, evJoin P env s x o.op n H a = .ok e d y → OkL d →
    (∀ z ∈ o.op.operands.toList, ∀ l ∈ (opd P env z).labs, l < a.nl) → WFr H a.nl →
    a.nl ≤ y.nl ∧ ∀ (ev : Operand → Value) (ρ : Con) (w : World), (∀ z ∈ o.op.operands.toList, OpdOK P ρ env ev z) → HpS ρ H e.rd w → Does P ρ a.nl y.nl H e w ((execOp ev o).run P w)
  | 0, H, a, y, e, d, h, hd, _, _ => by
    simp only [evJoin] at h
    obtain ⟨h1, h2⟩ := evOp_ok h hd
    exact ⟨h1, fun ev ρ w hz hp => h2 ev ρ w hz hp.hp⟩
  | n + 1, H, a, y, e, d, h, hd, hl, hwf => by
    simp only [evJoin] at h
    obtain ⟨nl, c1, y1, c2, h1, h2, rfl⟩ := bind_ok h
    simp only [nlOf, R.ok.injEq] at h1
    obtain ⟨rfl, rfl, rfl⟩ := h1
    cases hj : joinOf H s x a.nl with
    | none =>
      simp only [hj] at h2
      obtain ⟨h1, h3⟩ := evOp_ok h2 (by simpa using hd)
      exact ⟨h1, fun ev ρ w hz hp => h3 ev ρ w hz hp.hp⟩
    | some j =>
      simp only [hj] at h2
      obtain ⟨l, c1, y1, c3, h1, h3, rfl⟩ := bind_ok h2
      obtain ⟨rfl, rfl, rfl⟩ := newLab_ok h1
      obtain ⟨_, c1, y1, c4, h1, h4, rfl⟩ := bind_ok h3
      obtain ⟨hna, rfl, rfl⟩ := chk_ok h1
      obtain ⟨_, c1, y1, c5, h1, h5, rfl⟩ := bind_ok h4
      obtain ⟨heb, rfl, rfl⟩ := chk_ok h1
      obtain ⟨b, c6, y6, c7, h6, h7, rfl⟩ := bind_ok h5
      obtain ⟨_, c1, y1, c8, h1, h8, rfl⟩ := bind_ok h7
      obtain ⟨hnb, rfl, rfl⟩ := chk_ok h1
      obtain ⟨rfl, rfl, rfl⟩ := pure_ok h8
      simp only [OkL_append] at hd
      have hna := nodupB_ok hna
      have hnb := nodupB_ok hnb
      have heb := ents_below heb
      have hwf1 : WFr (applyE H j) (a.nl + 1) := by
        intro l q hq
        rw [look_applyE H j hna] at hq
        unfold applyF at hq
        split at hq
        · rename_i z hz
          simp only [Option.some.injEq] at hq
          subst hq
          have := heb _ (look_mem hz)
          rw [look_lab hz] at this
          exact this
        · split at hq
          · cases hq
          · obtain ⟨g1, g2⟩ := hwf l q hq
            exact ⟨by omega, fun k hk => by have := g2 k hk; omega⟩
      obtain ⟨i1, i2⟩ := evJoin_ok n h6 (by simp_all) (fun z hz l hl' => by have := hl z hz l hl'; simp only; omega) hwf1
      simp only at i1 i2
      refine ⟨by omega, fun ev ρ w hz hp => ?_⟩
      have hpj : HpS ρ H (j.rd ++ b.rd) w := hp
      have hpa : HpS ρ H j.rd w := ⟨fun l hl => hpj.hp l (by simp [hl]), fun l hl l' hl' => hpj.sep l (by simp [hl]) l' (by simp [hl'])⟩
      obtain ⟨ρ1, he1⟩ := joinOf_ok hj hwf hpa
      obtain ⟨g1, g2⟩ := seq_hold hwf hpj he1 hna
      have hpb : HpS ρ1 (applyE H j) b.rd w := g1.hps g2
      obtain ⟨ρ2, w2, v, hy, hv, he2⟩ := i2 ev ρ1 w (fun z hz' hjz => by
        rw [hz z hz' hjz]
        exact (val_same _ (fun k hk => he1.agree k (.inl (hl z hz' k hk)))).symm) hpb
      exact ⟨ρ2, w2, v, hy, hv, EffOK.seq (by omega) i1 hwf hpj he1 hna heb hnb he2⟩

end Go.Sx
