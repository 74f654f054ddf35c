/- The engine, part 11: conversions, reslicing. -/
import Derived.Test.YtankmgnjkcgpaaaDoorSyA
set_option linter.unusedSimpArgs false
set_option linter.unusedVariables false
namespace Go.Sx

theorem fold_push (ns : List Int) : ∀ l : List UInt8, ns.foldl (fun r n => r.push (UInt8.ofNat n.toNat)) (⟨l.toArray⟩ : ByteArray) = ⟨(l ++ ns.map fun n => UInt8.ofNat n.toNat).toArray⟩ := by
  induction ns with
  | nil => intro l; simp
  | cons n r ih =>
    intro l
    have : (⟨l.toArray⟩ : ByteArray).push (UInt8.ofNat n.toNat) = ⟨(l ++ [UInt8.ofNat n.toNat]).toArray⟩ := by
      simp [ByteArray.push]
    rw [List.foldl_cons, this, ih]; simp

theorem bytes_cells (ρ : Con) (n : Nat) (f : Ix → Int) (is : Ix) : (Tr.ta n (.vi .u8 f)).cells ρ is = (List.range n).map fun i => Value.int .u8 (f (is ++ [i])) := by
  simp only [Tr.cells, Tr.val]
  induction (List.range n) with
  | nil => rfl
  | cons a r ih => simp [ih]

theorem run_bytes {P : Program} {L : Loc} {own : Bool} {wid : Nat} {pre post : List Value} {f : Ix → Int} {js : Ix} {n o st len cap : Nat} {ρ : Con} {w : World}
    (h : Lies L own wid (pre ++ (Tr.ta n (.vi .u8 f)).cells ρ js ++ post) w) (hn : L.isNil = false) (ho : pre.length = o) (hlen : st + len ≤ n) (a : Addr) (ha : 0 < len → a = ⟨L.blk, L.base + o + st, none⟩) :
    (Conv.bytesToString (.slice (some a) len cap)).run P w = .ok (.string ⟨(bytesOf f js st len).toArray⟩) w := by
  have hload : (loadCells a len).run P w = .ok (((List.range len).map fun j => f (js ++ [st + j])).map (Value.int .u8)).toArray w := by
    rw [run_loadCells (P := P) w a len (fun j => Value.int .u8 (f (js ++ [st + j]))) (fun j hj => ?_)]
    · simp [Function.comp_def]
    · rw [ha (by omega), addr_add]
      have := (h.2.2 hn).1 (o + (st + j)) (Value.int .u8 (f (js ++ [st + j]))) (by
        rw [bytes_cells, List.append_assoc, List.getElem?_append_right (by omega), List.getElem?_append_left (by simp; omega)]
        have e : o + (st + j) - pre.length = st + j := by omega
        rw [e]
        simp [List.getElem?_range (show st + j < n by omega)])
      rw [show L.base + o + st + j = L.base + (o + (st + j)) by omega]; exact this
  rw [run_bytesToString w a len cap _ hload]
  have := fold_push ((List.range len).map fun j => f (js ++ [st + j])) []
  congr 2
  refine Eq.trans this ?_
  simp [bytesOf, Function.comp_def]

theorem run_bytes_nil {P : Program} {w : World} {l c : Nat} : (Conv.bytesToString (.slice none l c)).run P w = .ok (.string ⟨#[]⟩) w := by
  rfl

theorem opConvert_ok {P : Program} {H : List Ent} {src dst : TypeId} {x : SV} {z z' : Aux} {e : Eff} {d : Conds} (h : opConvert P H src dst x z = .ok e d z') (hd : OkL d) :
    z'.nl = z.nl ∧ x.isJ = false ∧ e.upd = [] ∧ e.drop = [] ∧ e.v.isJ = false ∧ ∀ (ρ : Con) (w : World), Hp ρ H e.rd w → (convert src dst (x.val ρ)).run P w = .ok (e.v.val ρ) w := by
  unfold opConvert at h
  obtain ⟨us, c1, y1, c2, h1, h2, rfl⟩ := bind_ok h
  obtain ⟨hs, rfl, rfl⟩ := und_ok h1
  obtain ⟨ud, c1, y1, c3, h1, h3, rfl⟩ := bind_ok h2
  obtain ⟨hdt, rfl, rfl⟩ := und_ok h1
  split at h3
  · rename_i k k' f
    obtain ⟨rfl, rfl, rfl⟩ := pure_ok h3
    refine ⟨rfl, rfl, rfl, rfl, rfl, fun ρ w _ => ?_⟩
    simp [convert, run_underlying hs, run_underlying hdt, SV.val, Tr.val, Conv.intToInt, Eff.val]
  · rename_i f
    obtain ⟨rfl, rfl, rfl⟩ := pure_ok h3
    refine ⟨rfl, rfl, rfl, rfl, rfl, fun ρ w _ => ?_⟩
    simp [convert, run_underlying hs, run_underlying hdt, SV.val, Tr.val, Eff.val]
  · rename_i el _
    obtain ⟨ue, c1, y1, c4, h1, h4, rfl⟩ := bind_ok h3
    obtain ⟨he, rfl, rfl⟩ := und_ok h1
    split at h4
    · obtain ⟨rfl, rfl, rfl⟩ := pure_ok h4
      refine ⟨rfl, rfl, rfl, rfl, rfl, fun ρ w _ => ?_⟩
      simp only [SV.val, Tr.val]
      rw [run_convert_bytes_string w src dst el none 0 0 hs he hdt, run_bytes_nil]
      simp [SV.val, Tr.val, Eff.val]
    · exact (fail_ok h4).elim
  · rename_i el lab mem sz cuts len _
    obtain ⟨ue, c1, y1, c4, h1, h4, rfl⟩ := bind_ok h3
    obtain ⟨he, rfl, rfl⟩ := und_ok h1
    split at h4
    · obtain ⟨_, c1, y1, c5, h1, h5, rfl⟩ := bind_ok h4
      obtain ⟨hsz, rfl, rfl⟩ := chk_ok h1
      have hsz := Nat.eq_of_beq_eq_true hsz
      obtain ⟨⟨n, t, is⟩, c1, y1, c6, h1, h6, rfl⟩ := bind_ok h5
      obtain ⟨hn1, en, hl, hw, ht, hts, hz, hlies, _⟩ := rowOf_ok h1
      simp only at h6
      obtain ⟨_, c7, y7, c8, h7, h8, rfl⟩ := bind_ok h6
      obtain ⟨hle, hn2⟩ := need_ok h7
      split at h8
      · rename_i f
        obtain ⟨rfl, rfl, rfl⟩ := pure_ok h8
        simp only [OkL_append] at hd
        have hle := hle hd.2.2.2.2.2.1
        rw [Nat.ble_eq] at hle
        refine ⟨hn2.trans hn1, rfl, rfl, rfl, rfl, fun ρ w hH => ?_⟩
        have hL := hlies hd.2.2.2.2.1 ρ w (hH lab (by simp) en hl)
        cases hnil : (ρ lab (mem [])).isNil with
        | true =>
          have h0 := hL.2.1 hnil
          have : ((Tr.ta n (Tr.vi .u8 f)).cells ρ is).length = n := by rw [Tr.cells_length]; simp [Tr.size]
          rw [h0] at this
          have hlen : len [] = 0 := by simp at this; omega
          simp only [SV.val, Tr.val, hnil, if_true]
          rw [run_convert_bytes_string w src dst el _ _ _ hs he hdt, hlen]
          cases (ρ lab (mem [])).adr <;> rfl
        | false =>
          have hval : SV.val ρ (.v (.vl lab mem sz cuts len)) = .slice (some ⟨(ρ lab (mem [])).blk, (ρ lab (mem [])).base + rsOf (ρ lab (mem [])).room cuts 0 * sz, none⟩) (len []) ((ρ lab (mem [])).room - sum cuts) := by
            simp [SV.val, Tr.val, hnil]
          rw [hval, run_convert_bytes_string w src dst el _ _ _ hs he hdt]
          exact run_bytes (pre := []) (post := []) (n := n) (f := f) (js := is) (ρ := ρ) (by simpa using hL) hnil rfl hle _ (fun hpos => by
            obtain ⟨_, g2, _⟩ := hL.row hts hz (show sum cuts < n by omega)
            rw [rsOf_sum _ cuts 0 (by omega), hsz]; simp)
      · exact (fail_ok h8).elim
    · exact (fail_ok h4).elim
  · rename_i el lab path sz st len cap _
    obtain ⟨ue, c1, y1, c4, h1, h4, rfl⟩ := bind_ok h3
    obtain ⟨he, rfl, rfl⟩ := und_ok h1
    split at h4
    · obtain ⟨_, c1, y1, c5, h1, h5, rfl⟩ := bind_ok h4
      obtain ⟨hsz, rfl, rfl⟩ := chk_ok h1
      have hsz := Nat.eq_of_beq_eq_true hsz
      obtain ⟨en, c1, y1, c6, h1, h6, rfl⟩ := bind_ok h5
      obtain ⟨hl, rfl, rfl⟩ := opt_ok h1
      obtain ⟨⟨tt, is⟩, c1, y1, c7, h1, h7, rfl⟩ := bind_ok h6
      obtain ⟨hn1, hroot, _, _⟩ := root_ok h1
      simp only at h7
      obtain ⟨⟨u, js, cs⟩, c8, y8, c9, h8, h9, rfl⟩ := bind_ok h7
      obtain ⟨hg, rfl, rfl⟩ := opt_ok h8
      simp only at h9
      obtain ⟨_, c10, y10, c11, h10, h11, rfl⟩ := bind_ok h9
      obtain ⟨hcs, hn2⟩ := askAll_ok h10
      split at h11
      · rename_i n f
        obtain ⟨_, c12, y12, c13, h12, h13, rfl⟩ := bind_ok h11
        obtain ⟨hle, hn3⟩ := need_ok h12
        obtain ⟨rfl, rfl, rfl⟩ := pure_ok h13
        simp only [OkL_append] at hd
        have hle := hle hd.2.2.2.2.2.2.2.2.1
        rw [Nat.ble_eq] at hle
        refine ⟨hn3.trans (hn2.trans hn1), rfl, rfl, rfl, rfl, fun ρ w hH => ?_⟩
        have hL := hroot hd.2.2.2.2.2.1 ρ w (hH lab (by simp) en hl)
        rw [look_lab hl] at hL
        obtain ⟨pre, post, hc, hp⟩ := Tr.get_cells ρ path tt is _ js cs hg (hcs hd.2.2.2.2.2.2.2.1)
        rw [hc] at hL
        simp only [SV.val, Tr.val]
        rw [run_convert_bytes_string w src dst el _ _ _ hs he hdt]
        cases hnil : (ρ lab 0).isNil with
        | false =>
          exact run_bytes (n := n) (f := f) (js := js) (ρ := ρ) hL hnil hp hle _ (fun _ => by rw [hsz]; simp)
        | true =>
          have h0 := hL.2.1 hnil
          simp only [List.append_eq_nil_iff] at h0
          have : ((Tr.ta n (Tr.vi .u8 f)).cells ρ js).length = n := by rw [Tr.cells_length]; simp [Tr.size]
          rw [h0.1.2] at this
          have hlen : len = 0 := by simp at this; omega
          subst hlen
          rfl
      · exact (fail_ok h11).elim
    · exact (fail_ok h4).elim
  · exact (fail_ok h3).elim

end Go.Sx
