/- The engine, part 29: the arguments of a law, opened. -/
import Derived.Test.YtankmgnjkcgpaaaDoorSyS
import Derived.Deep.Slices
import Derived.ChangeShapes
import Derived.WideShapes
import Derived.OpenShut
set_option linter.unusedSimpArgs false
set_option linter.unusedVariables false
namespace Go.Sx

inductive Sh where
  | kb
  | ki (k : IntKind)
  | ks
  | sl (e : Sh)
  | t0
  | tc (h t : Sh)
  | ta (n : Nat) (e : Sh)

def Sh.size : Sh → Nat
  | .t0 => 0
  | .tc h t => h.size + t.size
  | .ta n e => n * e.size
  | _ => 1

def Sh.flat : Sh → Bool
  | .sl _ => false
  | .tc h t => if h.flat then t.flat else false
  | .ta _ e => e.flat
  | _ => true

def Sh.slots : Sh → Nat
  | .sl e => e.slots + 1
  | .tc h t => h.slots + t.slots
  | _ => 0

def shFs (P : Program) (g : TypeId → Option Sh) : Nat → List Field → Option Sh
  | _, [] => some .t0
  | o, f :: r => match g f.type with
    | some h => if Nat.beq f.offset o then (if Nat.beq (P.cellsOf f.type) h.size then (match shFs P g (o + h.size) r with | some t => some (.tc h t) | none => none) else none) else none
    | none => none

def smallB (n : Nat) : Bool := if Nat.blt 0 n then Nat.blt n 1000000 else false
theorem smallB_ok {n : Nat} (h : smallB n = true) : 0 < n ∧ n < 1000000 := by
  unfold smallB at h
  split at h
  · rename_i h1; exact ⟨by simpa [Nat.blt_eq] using h1, by simpa [Nat.blt_eq] using h⟩
  · cases h

def shOf (P : Program) : Nat → TypeId → Option Sh
  | 0, _ => none
  | n + 1, t => match P.underlying t with
    | some .bool => some .kb
    | some (.int k) => some (.ki k)
    | some .string => some .ks
    | some (.slice e) => match shOf P n e with
      | some sh => if smallB sh.size then (if Nat.beq (P.cellsOf e) sh.size then some (.sl sh) else none) else none
      | none => none
    | some (.struct fs) => match shFs P (shOf P n) 0 fs.toList with
      | some sh => if Nat.beq (P.cellsOf t) sh.size then some sh else none
      | none => none
    | some (.array k e) => match shOf P n e with
      | some sh => if sh.flat then (if Nat.beq (P.cellsOf e) sh.size then (if Nat.beq (P.cellsOf t) (k * sh.size) then some (.ta k sh) else none) else none) else none
      | none => none
    | _ => none

def locOf (sz : Nat) : Value → Loc
  | .slice (some a) _ cap => if cap = 0 then ⟨0, 0, 0, sz, true, some a, false⟩ else ⟨a.block, a.off, cap, sz, false, none, false⟩
  | _ => ⟨0, 0, 0, sz, true, none, false⟩
def lenOf : Value → Nat
  | .slice _ len _ => len
  | _ => 0
def intOf : Value → Int
  | .int _ n => n
  | _ => 0
def boolOf : Value → Bool
  | .bool b => b
  | _ => false
def strOf : Value → List UInt8
  | .string s => s.data.toList
  | _ => []
def rowsOf (w : World) (sz : Nat) (v : Value) (i : Nat) : List Value :=
  (List.range sz).map fun j => (w.cell? ⟨(locOf sz v).blk, (locOf sz v).base + (i * sz + j), none⟩).getD undef

def slVal (L : Loc) (len : Nat) : Value := if L.isNil then .slice L.adr len 0 else .slice (some ⟨L.blk, L.base, none⟩) len L.room

def Sh.Is (w : World) : Sh → List Value → Prop
  | .kb, cs => ∃ b, cs = [.bool b]
  | .ki k, cs => ∃ n, cs = [.int k n] ∧ (Lit.int k n).wf = true
  | .ks, cs => ∃ s, cs = [.string s] ∧ s.size ≤ maxLen
  | .sl e, cs => ∃ v, cs = [v] ∧ v = slVal (locOf e.size v) (lenOf v) ∧ lenOf v ≤ maxLen ∧ 0 < e.size ∧ Lies (locOf e.size v) false e.size ((List.range (lenOf v)).flatMap (rowsOf w e.size v)) w ∧ ∀ i, i < lenOf v → e.Is w (rowsOf w e.size v i)
  | .t0, cs => cs = []
  | .tc h t, cs => ∃ a b, cs = a ++ b ∧ a.length = h.size ∧ h.Is w a ∧ t.Is w b
  | .ta n e, cs => ∃ f : Nat → List Value, cs = (List.range n).flatMap f ∧ ∀ i, i < n → (f i).length = e.size ∧ e.Is w (f i)

theorem rowsOf_len (w : World) (sz : Nat) (v : Value) (i : Nat) : (rowsOf w sz v i).length = sz := by simp [rowsOf]

theorem is_len {w : World} : ∀ {sh : Sh} {cs : List Value}, sh.Is w cs → cs.length = sh.size := by
  intro sh
  induction sh with
  | kb => intro cs h; obtain ⟨_, h⟩ := h; rw [h]; rfl
  | ki k => intro cs h; obtain ⟨_, h, _⟩ := h; rw [h]; rfl
  | ks => intro cs h; obtain ⟨_, h, _⟩ := h; rw [h]; rfl
  | sl e _ => intro cs h; obtain ⟨_, h, _⟩ := h; rw [h]; rfl
  | t0 => intro cs h; simp only [Sh.Is] at h; rw [h]; rfl
  | tc h t iha ihb => intro cs hh; obtain ⟨x, y, e, hl, _, hb⟩ := hh; rw [e, List.length_append, hl, ihb hb]; rfl
  | ta n e ih =>
    intro cs h
    obtain ⟨f, hc, hf⟩ := h
    rw [hc]
    have : ∀ m, m ≤ n → ((List.range m).flatMap f).length = m * e.size := by
      intro m
      induction m with
      | zero => simp
      | succ m ih =>
        intro hm
        rw [List.range_succ, List.flatMap_append, List.length_append, ih (by omega)]
        simp only [List.flatMap_cons, List.flatMap_nil, List.append_nil, (hf m (by omega)).1, Nat.succ_mul]
    exact this n (Nat.le_refl _)

theorem rows_split (sz : Nat) : ∀ (k : Nat) (cs : List Value), cs.length = k * sz → cs = (List.range k).flatMap fun i => (cs.drop (i * sz)).take sz
  | 0, cs, h => by simp at h; simp [h]
  | k + 1, cs, h => by
    rw [List.range_succ_eq_map, List.flatMap_cons, List.flatMap_map]
    have h2 : (cs.drop sz).length = k * sz := by rw [List.length_drop, h, Nat.succ_mul]; omega
    have := rows_split sz k (cs.drop sz) h2
    have e : ((List.range k).flatMap fun i => (cs.drop ((i + 1) * sz)).take sz) = (List.range k).flatMap fun i => ((cs.drop sz).drop (i * sz)).take sz := by
      apply flatMap_congr
      intro i _
      rw [List.drop_drop, Nat.succ_mul, Nat.add_comm]
    rw [show (fun a => List.take sz (List.drop (Nat.succ a * sz) cs)) = fun i => (cs.drop ((i + 1) * sz)).take sz from rfl, e, ← this]
    simp

section
variable {H : Type} {enc : TypeId × Value → H} {P : Program} {w : World} {held : Bool}

theorem shFs_is {g : TypeId → Option Sh} {m : Nat} (hg : ∀ t sh cs x, g t = some sh → DataW.trod enc P w 0 (fun _ => true) held m t cs = some x → sh.Is w cs) :
    ∀ (fs : List Field) (o : Nat) (sh : Sh) (cs : List Value), shFs P g o fs = some sh → cs.length = o + sh.size →
      (∀ (i : Nat) (f : Field), fs[i]? = some f → ∃ x, DataW.trod enc P w 0 (fun _ => true) held m f.type ((cs.drop f.offset).take (P.cellsOf f.type)) = some x) → sh.Is w (cs.drop o) := by
  intro fs
  induction fs with
  | nil =>
    intro o sh cs h hl _
    simp only [shFs, Option.some.injEq] at h
    subst h
    simp only [Sh.size] at hl
    simp only [Sh.Is]
    exact List.drop_eq_nil_of_le (by omega)
  | cons f r ih =>
    intro o sh cs h hl hf
    simp only [shFs] at h
    split at h
    · rename_i hd hh
      split at h
      · rename_i h1
        split at h
        · rename_i h2
          split at h
          · rename_i tl ht
            simp only [Option.some.injEq] at h
            subst h
            have h1 := Nat.eq_of_beq_eq_true h1
            have h2 := Nat.eq_of_beq_eq_true h2
            obtain ⟨x, hx⟩ := hf 0 f rfl
            rw [h1, h2] at hx
            simp only [Sh.size] at hl
            have hrest := ih (o + hd.size) tl cs ht (by omega) (fun i f' hf' => hf (i + 1) f' (by simpa using hf'))
            refine ⟨(cs.drop o).take hd.size, cs.drop (o + hd.size), ?_, by simp; omega, hg _ _ _ _ hh hx, hrest⟩
            rw [← List.drop_drop, List.take_append_drop]
          · cases h
        · cases h
      · cases h
    · cases h

theorem trod_is : ∀ (n : Nat) (t : TypeId) (sh : Sh) (fuel : Nat) (cs : List Value) (x : DataW H × List MemPlace), shOf P n t = some sh → DataW.trod enc P w 0 (fun _ => true) held fuel t cs = some x → sh.Is w cs := by
  intro n
  induction n with
  | zero => intro t sh fuel cs x h; cases h
  | succ n ih =>
    intro t sh fuel cs x h hd
    simp only [shOf] at h
    split at h
    · rename_i hu
      cases h
      obtain ⟨b, rfl, _⟩ := DataW.trod_bool hu hd
      exact ⟨b, rfl⟩
    · rename_i k hu
      cases h
      obtain ⟨b, rfl, _, hw⟩ := DataW.trod_int hu hd
      exact ⟨b, rfl, hw⟩
    · rename_i hu
      cases h
      obtain ⟨b, rfl, _, hw⟩ := DataW.trod_string hu hd
      exact ⟨b, rfl, hw⟩
    · rename_i e hu
      split at h
      · rename_i sh' hs
        split at h
        · rename_i h1
          split at h
          · rename_i h2
            cases h
            obtain ⟨h1, hsm⟩ := smallB_ok h1
            have h2 := Nat.eq_of_beq_eq_true h2
            rcases Go.Deep.open_slice hu hd with ⟨rfl, _⟩ | ⟨a, len, cap, m, nn, D, Pl, rfl, hb, hl, hm, hmm, rfl, hx⟩
            · refine ⟨_, rfl, rfl, by simp [lenOf], h1, ⟨WidOK.refl _, fun _ => rfl, fun h => by cases h⟩, fun i hi => ?_⟩
              simp only [lenOf] at hi; omega
            · simp only [if_true] at hmm
              subst hmm
              rcases Nat.eq_zero_or_pos m with h0 | h0
              · subst h0
                have hl0 : len = 0 := by omega
                subst hl0
                refine ⟨_, rfl, rfl, by simp [lenOf], h1, ⟨by simp [locOf, WidOK.refl], fun _ => rfl, fun h => by simp [locOf] at h⟩, fun i hi => ?_⟩
                simp only [lenOf] at hi; omega
              · have hspot : a.spot = none := by
                  obtain ⟨cs', g1, g2⟩ := hx 0 h0
                  obtain ⟨_, hlen, hc⟩ := World.cells?_some g1
                  have := hc 0 (by omega)
                  rw [List.getElem?_eq_getElem (by omega)] at this
                  have := World.cell?_spot this
                  simpa [Addr.add] using this
                obtain ⟨blk, off, spot⟩ := a
                simp only at hspot
                subst hspot
                have hloc : ∀ ln, locOf sh'.size (.slice (some ⟨blk, off, none⟩) ln m) = ⟨blk, off, m, sh'.size, false, none, false⟩ := fun ln => by
                  simp only [locOf]; rw [if_neg (by omega)]
                have hrow : ∀ i, i < m → ∃ cs', rowsOf w sh'.size (.slice (some ⟨blk, off, none⟩) len m) i = cs' ∧ (∀ j, j < sh'.size → w.cell? ⟨blk, off + (i * sh'.size + j), none⟩ = cs'[j]?) ∧ sh'.Is w cs' := by
                  intro i hi
                  obtain ⟨cs', g1, g2⟩ := hx i hi
                  rw [h2] at g1
                  obtain ⟨_, hlen, hc⟩ := World.cells?_some g1
                  have hcell : ∀ j, j < sh'.size → w.cell? ⟨blk, off + (i * sh'.size + j), none⟩ = cs'[j]? := fun j hj => by
                    have := hc j hj
                    rw [addr_add, addr_add, Nat.add_assoc] at this
                    exact this
                  refine ⟨cs', ?_, hcell, ih e sh' nn cs' _ hs g2⟩
                  simp only [rowsOf, hloc]
                  apply List.ext_getElem?
                  intro j
                  rw [List.getElem?_map]
                  by_cases hj : j < sh'.size
                  · rw [List.getElem?_range hj, Option.map_some, hcell j hj, List.getElem?_eq_getElem (by omega)]; rfl
                  · rw [List.getElem?_eq_none (by simpa using hj), List.getElem?_eq_none (by omega)]; rfl
                refine ⟨_, rfl, ?_, ?_, h1, ?_, fun i hi => ?_⟩
                · rw [hloc]; simp [slVal, lenOf]
                · simp only [lenOf]; omega
                · rw [hloc]
                  refine ⟨WidOK.refl _, fun h => (by cases h), fun _ => ⟨fun j v hj => ?_, ?_, fun h => (by cases h), fun h => by cases h⟩⟩
                  · simp only [lenOf] at hj
                    have hlen : ∀ k, ((List.range k).flatMap (rowsOf w sh'.size (.slice (some ⟨blk, off, none⟩) len m))).length = k * sh'.size := fun k => by
                      rw [flatMap_length _ _ sh'.size (fun i _ => rowsOf_len _ _ _ _)]; simp
                    have hjl : j < len * sh'.size := by
                      rcases Nat.lt_or_ge j (len * sh'.size) with h | h
                      · exact h
                      · rw [List.getElem?_eq_none (by rw [hlen]; exact h)] at hj; cases hj
                    have hdiv : j / sh'.size < len := Nat.div_lt_of_lt_mul (by rw [Nat.mul_comm]; exact hjl)
                    obtain ⟨pre, post, e1, e2, _⟩ := flatMap_range_split len (j / sh'.size) hdiv (rowsOf w sh'.size (.slice (some ⟨blk, off, none⟩) len m)) sh'.size (fun _ => rowsOf_len _ _ _ _)
                    rw [e1] at hj
                    have hmod : j = j / sh'.size * sh'.size + j % sh'.size := by rw [Nat.mul_comm]; exact (Nat.div_add_mod j sh'.size).symm
                    have hml := Nat.mod_lt j h1
                    rw [List.append_assoc, List.getElem?_append_right (by omega), List.getElem?_append_left (by rw [rowsOf_len]; omega)] at hj
                    obtain ⟨cs', g1, g2, _⟩ := hrow (j / sh'.size) (by omega)
                    rw [g1] at hj
                    have e3 : j - pre.length = j % sh'.size := by omega
                    rw [e3] at hj
                    have := g2 (j % sh'.size) hml
                    rw [← hmod] at this
                    rw [this, hj]
                  · rw [flatMap_length _ _ sh'.size (fun i _ => rowsOf_len _ _ _ _)]
                    simp only [List.length_range, lenOf, wd_small hsm]
                    exact Nat.mul_le_mul_right _ hl
                · simp only [lenOf] at hi
                  obtain ⟨cs', g1, _, g3⟩ := hrow i (by omega)
                  rw [g1]; exact g3
          · cases h
        · cases h
      · cases h
    · rename_i fs hu
      split at h
      · rename_i sh' hs
        split at h
        · rename_i h1
          simp only [Option.some.injEq] at h
          subst h
          have h1 := Nat.eq_of_beq_eq_true h1
          obtain ⟨xs, m, rfl, _, hl, hn, hf⟩ := DataW.trod_struct hu hd
          have := shFs_is (P := P) (w := w) (enc := enc) (held := held) (m := m) (fun t sh cs x h1 h2 => ih t sh m cs x h1 h2) fs.toList 0 sh' cs hs (by omega) (fun i f hfi => by
            have hfi : fs[i]? = some f := by rw [← Array.getElem?_toList]; exact hfi
            have hi : i < fs.size := by
              rcases Nat.lt_or_ge i fs.size with h | h
              · exact h
              · rw [Array.getElem?_eq_none h] at hfi; cases hfi
            have := hf i f hfi
            rw [List.getElem?_eq_getElem (by omega)] at this
            exact ⟨_, this⟩)
          simpa using this
        · cases h
      · cases h
    · rename_i k e hu
      split at h
      · rename_i sh' hs
        split at h
        · split at h
          · rename_i h1
            split at h
            · rename_i h2
              cases h
              have h1 := Nat.eq_of_beq_eq_true h1
              have h2 := Nat.eq_of_beq_eq_true h2
              obtain ⟨xs, m, rfl, _, hl, hn, hf⟩ := DataW.trod_array hu hd
              have hrow : ∀ i, i < k → sh'.Is w ((cs.drop (i * sh'.size)).take sh'.size) := fun i hi => by
                have := hf i hi
                rw [h1, List.getElem?_eq_getElem (by omega)] at this
                exact ih e sh' m _ _ hs this
              refine ⟨fun i => (cs.drop (i * sh'.size)).take sh'.size, ?_, fun i hi => ⟨is_len (hrow i hi), hrow i hi⟩⟩
              exact rows_split sh'.size k cs (by omega)
            · cases h
          · cases h
        · cases h
      · cases h
    · cases h
end

end Go.Sx
