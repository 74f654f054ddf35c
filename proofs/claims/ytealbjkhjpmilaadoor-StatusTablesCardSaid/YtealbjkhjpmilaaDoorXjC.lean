/-
  DERIVED: THE SHELF's CONTRACTS AT THIS DUMP, IN PLAIN WORDS (tools/lay-plain.mjs out of 'TrydShelf.lean', which tools/lay-shelf.mjs wrote): THE SAME DECLARATIONS UNDER THE SAME NAMES: 'import', 'namespace', 'open', 'def', 'theorem' AND NOTHING ELSE: no command of the shelf's: FOR A HAND-IN. Each laying: the table of numbers ('.._ren') and one theorem, a field a fact of the dump's own or the kernel's comparison; each contract: ONE APPLICATION.
-/
import Derived.Shelf.Strings.Builder1
import Derived.Shelf.Strings.Builder2
import Derived.Shelf.Strings.OnBuilder
import Derived.Shelf.Small.Utf8
import Derived.Test.YtealbjkhjpmilaaDoorProg
import Derived.Test.YtealbjkhjpmilaaDoorSyPc
namespace Go.Proofs
open Go.Shelf
def Tryd.lays169_ren : Go.Shelf.Ren := ⟨fun | 169 => 108 | n => n, fun | 70 => 172 | 9 => 9 | 0 => 0 | 72 => 174 | 37 => 29 | 127 => 198 | 3 => 3 | 5 => 5 | n => n, fun | n => n⟩
theorem Tryd.lays169 : Go.Proofs.Lays.n169 Tryd.prog Tryd.lays169_ren := {
  mixed := by kernel_rfl
  f169 := Tryd.func108.trans (congrArg some (by kernel_rfl))
  t0 := Tryd.underlying0
  a0 := Tryd.isAgg0
  z0 := Tryd.sizeOf0
  v0 := Tryd.zeroValue0
  t3 := Tryd.underlying3
  a3 := Tryd.isAgg3
  z3 := Tryd.sizeOf3
  v3 := Tryd.zeroValue3
  t9 := Tryd.underlying9
  a9 := Tryd.isAgg9
  z9 := Tryd.sizeOf9
  v9 := Tryd.zeroValue9
  t37 := Tryd.underlying29
  a37 := Tryd.isAgg29
  z37 := Tryd.sizeOf29
  v37 := Tryd.zeroValue29
  t70 := Tryd.underlying172
  a70 := Tryd.isAgg172
  z70 := Tryd.sizeOf172
  v70 := Tryd.zeroValue172
  t72 := Tryd.underlying174
  a72 := Tryd.isAgg174
  z72 := Tryd.sizeOf174
  v72 := Tryd.zeroValue174
  t127 := Tryd.underlying198
  a127 := Tryd.isAgg198
  z127 := Tryd.sizeOf198
  v127 := Tryd.zeroValue198 }
theorem Tryd.Builder_Extra_169 : Builder.Extra Tryd.prog Tryd.lays169_ren := {
  sizeBuilder := by kernel_rfl
  liesBuilder := by kernel_rfl
  t5 := Tryd.underlying5
  a5 := Tryd.isAgg5
  z5 := Tryd.sizeOf5
  v5 := Tryd.zeroValue5
  infoByte := by kernel_rfl
  cellsByte := by kernel_rfl
  sizeByte := by kernel_rfl
  neB5 := by decide }
open Go.RowKit in
/-- (*strings.Builder).String: "String returns the accumulated string.": OF A BUILDER THAT HOLDS AT LEAST ONE BYTE. ✋ THE MODEL FREEZES THOSE BYTES IN THE BUFFER (unsafe.String): a later write INTO them ends the model's run without an answer; a later append BEHIND them goes on. The statement's order of evaluation is drawn: one draw. (LAID: no walk: one application.) -/
theorem Tryd.Builder_String (B b : Nat) (l : List UInt8) (w : World) (h : Lib.IsBuilder 174 5 B b (Lib.byteCells l) w) (h0 : l ≠ []) :
    Calls Tryd.prog 108 #[.pointer (some ⟨b, 0, none⟩)] w fun e w' => e = .returned (.string ⟨l.toArray⟩) ∧ Below B w w' := Any.Builder_String Tryd.lays169 Tryd.Builder_Extra_169 B b l w h h0
open Go.RowKit in
/-- (*strings.Builder).String OF A BUILDER THAT HOLDS NO BYTE: the empty string. (Its buffer is nil, or a row of which it has taken nothing yet; where that row has NO capacity the model lays one new block for unsafe.SliceData's 'some address'.) One draw. (LAID: no walk: one application.) -/
theorem Tryd.Builder_String_empty (B b : Nat) (w : World) (h : Lib.IsBuilder 174 5 B b [] w) (hBw : B ≤ w.heap.size) :
    Calls Tryd.prog 108 #[.pointer (some ⟨b, 0, none⟩)] w fun e w' => e = .returned (.string ⟨#[]⟩) ∧ Below B w w' := Any.Builder_String_empty Tryd.lays169 Tryd.Builder_Extra_169 B b w h hBw
open Go.RowKit in
/-- (*strings.Builder).String: "String returns the accumulated string.": WHATEVER THE BUILDER HOLDS. (LAID: no walk: one application.) -/
theorem Tryd.Builder_String_any (B b : Nat) (l : List UInt8) (w : World) (h : Lib.IsBuilder 174 5 B b (Lib.byteCells l) w) (hBw : B ≤ w.heap.size) :
    Calls Tryd.prog 108 #[.pointer (some ⟨b, 0, none⟩)] w fun e w' => e = .returned (.string ⟨l.toArray⟩) ∧ Below B w w' := Any.Builder_String_any Tryd.lays169 Tryd.Builder_Extra_169 B b l w h hBw
def Tryd.lays241_ren : Go.Shelf.Ren := ⟨fun | 241 => 123 | 277 => 134 | n => n, fun | 70 => 172 | 3 => 3 | 0 => 0 | 72 => 174 | 37 => 29 | 5 => 5 | n => n, fun | n => n⟩
theorem Tryd.lays241 : Go.Proofs.Lays.n241 Tryd.prog Tryd.lays241_ren := {
  mixed := by kernel_rfl
  f241 := Tryd.func123.trans (congrArg some (by kernel_rfl))
  f277 := Tryd.func134.trans (congrArg some (by kernel_rfl))
  t0 := Tryd.underlying0
  a0 := Tryd.isAgg0
  z0 := Tryd.sizeOf0
  v0 := Tryd.zeroValue0
  t3 := Tryd.underlying3
  a3 := Tryd.isAgg3
  z3 := Tryd.sizeOf3
  v3 := Tryd.zeroValue3
  t37 := Tryd.underlying29
  a37 := Tryd.isAgg29
  z37 := Tryd.sizeOf29
  v37 := Tryd.zeroValue29
  t70 := Tryd.underlying172
  a70 := Tryd.isAgg172
  z70 := Tryd.sizeOf172
  v70 := Tryd.zeroValue172
  t72 := Tryd.underlying174
  a72 := Tryd.isAgg174
  z72 := Tryd.sizeOf174
  v72 := Tryd.zeroValue174 }
theorem Tryd.Builder_Extra_241 : Builder.Extra Tryd.prog Tryd.lays241_ren := {
  sizeBuilder := by kernel_rfl
  liesBuilder := by kernel_rfl
  t5 := Tryd.underlying5
  a5 := Tryd.isAgg5
  z5 := Tryd.sizeOf5
  v5 := Tryd.zeroValue5
  infoByte := by kernel_rfl
  cellsByte := by kernel_rfl
  sizeByte := by kernel_rfl
  neB5 := by decide }
open Go.RowKit in
/-- (*strings.Builder).grow (no doc but "grow copies the buffer to a new, larger buffer so that there are at least n bytes of capacity beyond len(b.buf)."): AT A BUILDER WITHOUT A BUFFER: a new row of whatever bytes for its buffer, none of them its own yet. Three draws. (LAID: no walk: one application.) -/
theorem Tryd.Builder_grow_fresh (B b n : Nat) (w : World) (hB : B ≤ b) (hbk : w.heap[b]? = some (.cells #[.pointer (some ⟨b, 0, none⟩), .slice none 0 0] 174 (0, 0))) (hBw : B ≤ w.heap.size) (hn : n ≤ 281474976710656) :
    Calls Tryd.prog 123 #[.pointer (some ⟨b, 0, none⟩), .int .i64 n] w fun e w' => e = .returned (.tuple #[]) ∧ (Lib.BuilderAt 174 5 B b (.pointer (some ⟨b, 0, none⟩)) [] w' ∧ Below B w w') := Any.Builder_grow_fresh Tryd.lays241 Tryd.Builder_Extra_241 B b n w hB hbk hBw hn
def Tryd.lays165_ren : Go.Shelf.Ren := ⟨fun | 165 => 106 | 240 => 122 | 241 => 123 | 276 => 133 | 277 => 134 | n => n, fun | 70 => 172 | 3 => 3 | 0 => 0 | 4 => 4 | 9 => 9 | 20 => 20 | 72 => 174 | 37 => 29 | 164 => 208 | 5 => 5 | n => n, fun | n => n⟩
theorem Tryd.lays165 : Go.Proofs.Lays.n165 Tryd.prog Tryd.lays165_ren := {
  mixed := by kernel_rfl
  f165 := Tryd.func106.trans (congrArg some (by kernel_rfl))
  f240 := Tryd.func122.trans (congrArg some (by kernel_rfl))
  f241 := Tryd.func123.trans (congrArg some (by kernel_rfl))
  f276 := Tryd.func133.trans (congrArg some (by kernel_rfl))
  f277 := Tryd.func134.trans (congrArg some (by kernel_rfl))
  t0 := Tryd.underlying0
  a0 := Tryd.isAgg0
  z0 := Tryd.sizeOf0
  v0 := Tryd.zeroValue0
  t3 := Tryd.underlying3
  a3 := Tryd.isAgg3
  z3 := Tryd.sizeOf3
  v3 := Tryd.zeroValue3
  t4 := Tryd.underlying4
  a4 := Tryd.isAgg4
  z4 := Tryd.sizeOf4
  v4 := Tryd.zeroValue4
  t9 := Tryd.underlying9
  a9 := Tryd.isAgg9
  z9 := Tryd.sizeOf9
  v9 := Tryd.zeroValue9
  t20 := Tryd.underlying20
  a20 := Tryd.isAgg20
  z20 := Tryd.sizeOf20
  v20 := Tryd.zeroValue20
  t37 := Tryd.underlying29
  a37 := Tryd.isAgg29
  z37 := Tryd.sizeOf29
  v37 := Tryd.zeroValue29
  t70 := Tryd.underlying172
  a70 := Tryd.isAgg172
  z70 := Tryd.sizeOf172
  v70 := Tryd.zeroValue172
  t72 := Tryd.underlying174
  a72 := Tryd.isAgg174
  z72 := Tryd.sizeOf174
  v72 := Tryd.zeroValue174
  t164 := Tryd.underlying208
  a164 := Tryd.isAgg208
  z164 := Tryd.sizeOf208
  v164 := Tryd.zeroValue208 }
theorem Tryd.Builder_Extra_165 : Builder.Extra Tryd.prog Tryd.lays165_ren := {
  sizeBuilder := by kernel_rfl
  liesBuilder := by kernel_rfl
  t5 := Tryd.underlying5
  a5 := Tryd.isAgg5
  z5 := Tryd.sizeOf5
  v5 := Tryd.zeroValue5
  infoByte := by kernel_rfl
  cellsByte := by kernel_rfl
  sizeByte := by kernel_rfl
  neB5 := by decide }
open Go.RowKit in
/-- (*strings.Builder).Grow AT A BUILDER THAT HAS NOT BEEN WRITTEN ('var b strings.Builder; b.Grow(n)'): "Grow grows b's capacity, if necessary, to guarantee space for another n bytes.": it holds no byte behind it as before it. (LAID: no walk: one application.) -/
theorem Tryd.Builder_Grow_fresh (B b n : Nat) (w : World) (hB : B ≤ b) (hbk : w.heap[b]? = some (.cells #[.pointer none, .slice none 0 0] 174 (0, 0))) (hBw : B ≤ w.heap.size) (hn : n ≤ 281474976710656) :
    Calls Tryd.prog 106 #[.pointer (some ⟨b, 0, none⟩), .int .i64 n] w fun e w' => e = .returned (.tuple #[]) ∧ (Lib.BuilderAt 174 5 B b (.pointer (some ⟨b, 0, none⟩)) [] w' ∧ Below B w w') := Any.Builder_Grow_fresh Tryd.lays165 Tryd.Builder_Extra_165 B b n w hB hbk hBw hn
def Tryd.lays156_ren : Go.Shelf.Ren := ⟨fun | 156 => 79 | 165 => 106 | 166 => 107 | 169 => 108 | 240 => 122 | 241 => 123 | 276 => 133 | 277 => 134 | n => n, fun | 31 => 69 | 9 => 9 | 3 => 3 | 4 => 4 | 0 => 0 | 20 => 20 | 72 => 174 | 76 => 104 | 70 => 172 | 37 => 29 | 75 => 31 | 127 => 198 | 164 => 208 | 5 => 5 | 80 => 176 | n => n, fun | n => n⟩
theorem Tryd.lays156 : Go.Proofs.Lays.n156 Tryd.prog Tryd.lays156_ren := {
  mixed := by kernel_rfl
  f156 := Tryd.func79.trans (congrArg some (by kernel_rfl))
  f165 := Tryd.func106.trans (congrArg some (by kernel_rfl))
  f166 := Tryd.func107.trans (congrArg some (by kernel_rfl))
  f169 := Tryd.func108.trans (congrArg some (by kernel_rfl))
  f240 := Tryd.func122.trans (congrArg some (by kernel_rfl))
  f241 := Tryd.func123.trans (congrArg some (by kernel_rfl))
  f276 := Tryd.func133.trans (congrArg some (by kernel_rfl))
  f277 := Tryd.func134.trans (congrArg some (by kernel_rfl))
  t0 := Tryd.underlying0
  a0 := Tryd.isAgg0
  z0 := Tryd.sizeOf0
  v0 := Tryd.zeroValue0
  t3 := Tryd.underlying3
  a3 := Tryd.isAgg3
  z3 := Tryd.sizeOf3
  v3 := Tryd.zeroValue3
  t4 := Tryd.underlying4
  a4 := Tryd.isAgg4
  z4 := Tryd.sizeOf4
  v4 := Tryd.zeroValue4
  t9 := Tryd.underlying9
  a9 := Tryd.isAgg9
  z9 := Tryd.sizeOf9
  v9 := Tryd.zeroValue9
  t20 := Tryd.underlying20
  a20 := Tryd.isAgg20
  z20 := Tryd.sizeOf20
  v20 := Tryd.zeroValue20
  t31 := Tryd.underlying69
  a31 := Tryd.isAgg69
  z31 := Tryd.sizeOf69
  v31 := Tryd.zeroValue69
  t37 := Tryd.underlying29
  a37 := Tryd.isAgg29
  z37 := Tryd.sizeOf29
  v37 := Tryd.zeroValue29
  t70 := Tryd.underlying172
  a70 := Tryd.isAgg172
  z70 := Tryd.sizeOf172
  v70 := Tryd.zeroValue172
  t72 := Tryd.underlying174
  a72 := Tryd.isAgg174
  z72 := Tryd.sizeOf174
  v72 := Tryd.zeroValue174
  t75 := Tryd.underlying31
  a75 := Tryd.isAgg31
  z75 := Tryd.sizeOf31
  v75 := Tryd.zeroValue31
  t76 := Tryd.underlying104
  a76 := Tryd.isAgg104
  z76 := Tryd.sizeOf104
  v76 := Tryd.zeroValue104
  t127 := Tryd.underlying198
  a127 := Tryd.isAgg198
  z127 := Tryd.sizeOf198
  v127 := Tryd.zeroValue198
  t164 := Tryd.underlying208
  a164 := Tryd.isAgg208
  z164 := Tryd.sizeOf208
  v164 := Tryd.zeroValue208 }
theorem Tryd.Builder_Extra_156 : Builder.Extra Tryd.prog Tryd.lays156_ren := {
  sizeBuilder := by kernel_rfl
  liesBuilder := by kernel_rfl
  t5 := Tryd.underlying5
  a5 := Tryd.isAgg5
  z5 := Tryd.sizeOf5
  v5 := Tryd.zeroValue5
  infoByte := by kernel_rfl
  cellsByte := by kernel_rfl
  sizeByte := by kernel_rfl
  neB5 := by decide }
open Go.RowKit in
/-- No element: the empty string; the world is as it was. (Whatever the slice's address and capacity: a nil slice too.) (LAID: no walk: one application.) -/
theorem Tryd.strings_Join_none (a : Option Addr) (c : Nat) (sep : ByteArray) (w : World) :
    Calls Tryd.prog 79 #[.slice a 0 c, .string sep] w fun e w' => e = .returned (.string ⟨#[]⟩) ∧ w' = w := Any.strings_Join_none Tryd.lays156 Tryd.Builder_Extra_156 a c sep w
open Go.RowKit in
/-- strings.Join: "Join concatenates the elements of its first argument to create a single string. The separator string sep is placed between elements in the resulting string.": HOWEVER MANY ELEMENTS. Below the heap's end the world is as it was. (LAID: no walk: one application.) -/
theorem Tryd.strings_Join (bk o c : Nat) (xs : List ByteArray) (sep : ByteArray) (w : World) (hcells : ∀ (j : Nat) x, xs[j]? = some x → w.cell? ⟨bk, o + j, none⟩ = some (.string x)) (hbk : bk < w.heap.size) (hN : xs.length ≤ 140737488355328) (hcap : xs.length ≤ c) (hlen : (Lib.join (xs.map (·.data.toList)) sep.data.toList).length ≤ 140737488355328) :
    Calls Tryd.prog 79 #[.slice (some ⟨bk, o, none⟩) xs.length c, .string sep] w fun e w' => e = .returned (.string ⟨(Lib.join (xs.map (·.data.toList)) sep.data.toList).toArray⟩) ∧ Below w.heap.size w w' := Any.strings_Join Tryd.lays156 Tryd.Builder_Extra_156 bk o c xs sep w hcells hbk hN hcap hlen
def Tryd.lays120_ren : Go.Shelf.Ren := ⟨fun | 120 => 131 | n => n, fun | 5 => 5 | 4 => 4 | n => n, fun | n => n⟩
theorem Tryd.lays120 : Go.Proofs.Lays.n120 Tryd.prog Tryd.lays120_ren := {
  mixed := by kernel_rfl
  f120 := Tryd.func131.trans (congrArg some (by kernel_rfl))
  t4 := Tryd.underlying4
  a4 := Tryd.isAgg4
  z4 := Tryd.sizeOf4
  v4 := Tryd.zeroValue4
  t5 := Tryd.underlying5
  a5 := Tryd.isAgg5
  z5 := Tryd.sizeOf5
  v5 := Tryd.zeroValue5 }
/-- utf8.RuneStart: "RuneStart reports whether the byte could be the first byte of an encoded, possibly invalid rune. Second and subsequent bytes always have the top two bits set to 10.": IT RETURNS 'Lib.runeStart b'; the world is as it was. ('h0', 'h1': b is a byte: a caller has it of every byte that it was handed.) (LAID: no walk: one application.) -/
theorem Tryd.utf8_RuneStart (b : Int) (w : World) (h0 : 0 ≤ b) (h1 : b < 256) :
    Calls Tryd.prog 131 #[.int .u8 b] w fun e w' => e = .returned (.bool (Lib.runeStart b)) ∧ w' = w := Any.utf8_RuneStart Tryd.lays120 b w h0 h1
end Go.Proofs

set_option linter.unusedSimpArgs false
set_option linter.unusedVariables false
namespace Go.Proofs.YtealbjkhjpmilaaDoor
open Go.Sx

/-- The texts of a row from st on. -/
def rowS (f : Ix → List UInt8) (is : Ix) (st n : Nat) : List (List UInt8) := (List.range n).map fun j => f (is ++ [st + j])

def joinS (xs : List (List UInt8)) (sep : List UInt8) : List UInt8 := Lib.join xs sep

def joinSumm : Summ := fun args H =>
  match args with
  | [.v (.vl lab mem sz cuts len), .v (.vs sep)] => do
    chk (Nat.beq sz 1)
    let (n, t, is) ← rowOf H lab (mem []) sz
    need (Nat.ble (sum cuts + len []) n)
    match t with
    | .vs f => do
      need (Nat.ble (len []) 1000)
      need (Nat.ble (joinS (rowS f is (sum cuts) (len [])) (sep [])).length 100000)
      pure ⟨.v (.vs fun _ => joinS (rowS f is (sum cuts) (len [])) (sep [])), [], [], [lab]⟩
    | _ => M.fail
  | [.v .vl0, .v (.vs sep)] => pure (.val (.v (.vs fun _ => [])))
  | _ => M.fail

theorem below_eff {ρ : Con} {n : Nat} {H : List Ent} {v : SV} {rd : List Nat} {w w' : World} (h : RowKit.Below w.heap.size w w') : EffOK ρ ρ n n H ⟨v, [], [], rd⟩ w w' :=
  ⟨fun _ _ => rfl, fun x hx => (by cases hx), ⟨h.os, h.tape, h.output, h.size, fun k hk _ => h.block k hk⟩, fun x hx => (by cases hx), fun x hx => by cases hx⟩

theorem joinSumm_ok : ∀ args H x e d y, joinSumm args H x = .ok e d y → OkL d → (∀ a ∈ args, ∀ l ∈ a.labs, l < x.nl) → WFh (Sx.look H) x.nl → gtop Tryd.prog ≤ x.nl → CallOK Tryd.prog 79 args H x.nl e y.nl := by
  intro args H x e d y h hd hal hwf hg
  unfold joinSumm at h
  split at h
  · rename_i lab mem sz cuts len sep
    obtain ⟨_, c1, y1, c2, h1, h2, rfl⟩ := bind_ok h
    obtain ⟨hsz, rfl, rfl⟩ := chk_ok h1
    have hsz := Nat.eq_of_beq_eq_true hsz
    subst hsz
    obtain ⟨⟨n, t, is⟩, c3, y3, c4, h3, h4, rfl⟩ := bind_ok h2
    obtain ⟨hn1, en, hl, hw, ht, hts, hz, hlies, _⟩ := rowOf_ok h3
    simp only at h4
    obtain ⟨_, c5, y5, c6, h5, h6, rfl⟩ := bind_ok h4
    obtain ⟨hle, hn2⟩ := need_ok h5
    split at h6
    · rename_i f
      obtain ⟨_, c7, y7, c8, h7, h8, rfl⟩ := bind_ok h6
      obtain ⟨hk1, hn3⟩ := need_ok h7
      obtain ⟨_, c9, y9, c10, h9, h10, rfl⟩ := bind_ok h8
      obtain ⟨hk2, hn4⟩ := need_ok h9
      obtain ⟨rfl, rfl, rfl⟩ := pure_ok h10
      simp only [OkL_append] at hd
      have hle : sum cuts + len [] ≤ n := by simpa [Nat.ble_eq] using hle (by simp_all)
      have hk1 : len [] ≤ 1000 := by simpa [Nat.ble_eq] using hk1 (by simp_all)
      have hk2 : (joinS (rowS f is (sum cuts) (len [])) (sep [])).length ≤ 100000 := by simpa [Nat.ble_eq] using hk2 (by simp_all)
      have hd3 : OkL c3 := by simp_all
      have hnl : y9.nl = x.nl := hn4.trans (hn3.trans (hn2.trans hn1))
      refine ⟨by omega, fun ρ w av hlen hav hG hHp => ?_⟩
      rw [hnl]
      have hL := hlies hd3 ρ w (hHp.hp lab (by simp) en hl)
      match av, hlen with
      | [v0, v1], _ =>
        have e0 := hav 0 _ v0 rfl rfl rfl
        have e1 := hav 1 _ v1 rfl rfl rfl
        subst e0; subst e1
        have hsep : SV.val ρ (.v (.vs sep)) = .string ⟨(sep []).toArray⟩ := rfl
        have key : ∀ (bk o c : Nat), bk < w.heap.size → len [] ≤ c → (∀ j, j < len [] → w.cell? ⟨bk, o + j, none⟩ = some (.string ⟨(f (is ++ [sum cuts + j])).toArray⟩)) →
            Calls Tryd.prog 79 #[.slice (some ⟨bk, o, none⟩) (len []) c, .string ⟨(sep []).toArray⟩] w fun en w' => en = .returned (.string ⟨(joinS (rowS f is (sum cuts) (len [])) (sep [])).toArray⟩) ∧ RowKit.Below w.heap.size w w' := by
          intro bk o c hbk hc hcell
          have hmap : (((rowS f is (sum cuts) (len [])).map fun s => (⟨s.toArray⟩ : ByteArray)).map (·.data.toList)) = rowS f is (sum cuts) (len []) := by
            rw [List.map_map]
            conv => rhs; rw [← List.map_id (rowS f is (sum cuts) (len []))]
            rfl
          have hl2 : ((rowS f is (sum cuts) (len [])).map fun s => (⟨s.toArray⟩ : ByteArray)).length = len [] := by simp [rowS]
          have hj := Tryd.strings_Join bk o c ((rowS f is (sum cuts) (len [])).map fun s => ⟨s.toArray⟩) ⟨(sep []).toArray⟩ w (fun j x hx => by
              simp only [rowS, List.getElem?_map] at hx
              have hlt : j < len [] := by
                rcases Nat.lt_or_ge j (len []) with h | h
                · exact h
                · rw [List.getElem?_eq_none (by simpa using h)] at hx; cases hx
              rw [List.getElem?_range hlt] at hx
              simp only [Option.map_some, Option.some.injEq] at hx
              rw [hcell j hlt, ← hx]) hbk (by rw [hl2]; omega) (by rw [hl2]; exact hc) (by rw [hmap]; exact Nat.le_trans hk2 (by omega))
          rw [hl2, hmap] at hj
          exact hj
        cases hnil : (ρ lab (mem [])).isNil with
        | true =>
          have h0 := row_nil hts hz (hL.2.1 hnil)
          have hl0 : len [] = 0 := by omega
          have hval : SV.val ρ (.v (.vl lab mem 1 cuts len)) = .slice (ρ lab (mem [])).adr 0 0 := by simp [SV.val, Tr.val, hnil, hl0]
          rw [hval, hsep]
          refine (Tryd.strings_Join_none _ 0 ⟨(sep []).toArray⟩ w).mono ?_
          rintro e w' ⟨rfl, rfl⟩
          refine ⟨ρ, _, rfl, fun _ => ?_, below_eff (RowKit.Below.refl _ _)⟩
          simp [SV.val, Tr.val, rowS, hl0, joinS, Lib.join]
        | false =>
          have hval : SV.val ρ (.v (.vl lab mem 1 cuts len)) = .slice (some ⟨(ρ lab (mem [])).blk, (ρ lab (mem [])).base + rsOf (ρ lab (mem [])).room cuts 0 * 1, none⟩) (len []) ((ρ lab (mem [])).room - sum cuts) := by simp [SV.val, Tr.val, hnil]
          rw [hval, hsep]
          rcases Nat.eq_zero_or_pos (len []) with h0 | h0
          · rw [h0]
            refine (Tryd.strings_Join_none _ _ ⟨(sep []).toArray⟩ w).mono ?_
            rintro e w' ⟨rfl, rfl⟩
            refine ⟨ρ, _, rfl, fun _ => ?_, below_eff (RowKit.Below.refl _ _)⟩
            simp [SV.val, Tr.val, rowS, joinS, Lib.join]
          · obtain ⟨_, g2, g3⟩ := hL.row hts hz (show sum cuts < n by omega)
            have hnr : n ≤ (ρ lab (mem [])).room := by
              obtain ⟨_, _, g⟩ := hL.row hts hz (k := 0) (by omega)
              exact g
            have hcell : ∀ j, j < len [] → w.cell? ⟨(ρ lab (mem [])).blk, (ρ lab (mem [])).base + rsOf (ρ lab (mem [])).room cuts 0 * 1 + j, none⟩ = some (.string ⟨(f (is ++ [sum cuts + j])).toArray⟩) := by
              intro j hj
              obtain ⟨pre, post, hc, hp⟩ := row_part (n := n) (t := .vs f) ρ is hts hle
              rw [hc] at hL
              rw [rsOf_sum _ cuts 0 (by omega)]
              refine hL.mid hnil hp ?_
              have e := List.flatMap_singleton' ([] : List Nat)
              simp only [Tr.cells, Tr.val]
              rw [← List.map_eq_flatMap, List.getElem?_map, List.getElem?_range hj]
              rfl
            have hbk : (ρ lab (mem [])).blk < w.heap.size := cell_lt (hcell 0 h0)
            refine (key _ _ _ hbk (by omega) hcell).mono ?_
            rintro e w' ⟨rfl, hb⟩
            exact ⟨ρ, _, rfl, fun _ => rfl, below_eff hb⟩
    · exact (fail_ok h6).elim
  · rename_i sep
    obtain ⟨rfl, rfl, rfl⟩ := pure_ok h
    refine ⟨by omega, fun ρ w av hlen hav hG hHp => ?_⟩
    match av, hlen with
    | [v0, v1], _ =>
      have e0 := hav 0 _ v0 rfl rfl rfl
      have e1 := hav 1 _ v1 rfl rfl rfl
      subst e0; subst e1
      refine (Tryd.strings_Join_none none 0 ⟨(sep []).toArray⟩ w).mono ?_
      rintro e w' ⟨rfl, rfl⟩
      exact ⟨ρ, _, rfl, fun _ => rfl, below_eff (RowKit.Below.refl _ _)⟩
  · exact (fail_ok h).elim

end Go.Proofs.YtealbjkhjpmilaaDoor

