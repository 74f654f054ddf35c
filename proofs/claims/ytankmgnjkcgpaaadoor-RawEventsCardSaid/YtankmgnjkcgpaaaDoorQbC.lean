/-
  DERIVED: THE SHELF's CONTRACTS AT THIS DUMP, IN PLAIN WORDS (tools/lay-plain.mjs out of 'TrydShelf.lean', which tools/lay-shelf.mjs wrote): THE SAME DECLARATIONS UNDER THE SAME NAMES: 'import', 'namespace', 'open', 'def', 'theorem' AND NOTHING ELSE: no command of the shelf's: FOR A HAND-IN. Each laying: the table of numbers ('.._ren') and one theorem, a field a fact of the dump's own or the kernel's comparison; each contract: ONE APPLICATION.
-/
import Derived.Shelf.Strings.Builder1
import Derived.Shelf.Strings.Builder2
import Derived.Shelf.Strings.OnBuilder
import Derived.Shelf.Small.Utf8
import Derived.Shelf.Small.Strs
import Derived.Shelf.Strconv.Itoa0
import Derived.Shelf.Strconv.Itoa1
import Derived.Shelf.LaysM
import Derived.Shelf.Strconv.Itoa2
import Derived.Shelf.Strconv.Clone
import Derived.Shelf.Strconv.SyntaxError
import Derived.Shelf.LaysC
import Derived.Shelf.Strconv.ToError
import Derived.Shelf.Strconv.RangeError
import Derived.Shelf.Strconv.ToErrorRange
import Derived.Shelf.Strings.Search1
import Derived.Shelf.Strings.Search2
import Derived.Shelf.Strings.Search3
import Derived.Shelf.Strings.Count
import Derived.Shelf.Strings.Shaped
import Derived.Shelf.Bits.Mul64
import Derived.Shelf.Unicode.DecodeSlow
import Derived.Test.YtankmgnjkcgpaaaDoorProg
import Derived.Test.YtankmgnjkcgpaaaDoorSyPc
import Derived.Test.YtankmgnjkcgpaaaDoorSyCp
namespace Go.Proofs
open Go.Shelf
def Tryd.lays156_ren : Go.Shelf.Ren := ⟨fun | 156 => 80 | 165 => 94 | 166 => 95 | 169 => 79 | 240 => 93 | 241 => 111 | 276 => 110 | 277 => 82 | n => n, fun | 31 => 22 | 9 => 9 | 3 => 3 | 4 => 4 | 0 => 0 | 20 => 20 | 72 => 121 | 76 => 150 | 70 => 119 | 37 => 30 | 75 => 26 | 127 => 149 | 164 => 168 | 5 => 5 | 80 => 123 | n => n, fun | n => n⟩
theorem Tryd.lays156 : Go.Proofs.Lays.n156 Tryd.prog Tryd.lays156_ren := {
  mixed := by kernel_rfl
  f156 := Tryd.func80.trans (congrArg some (by kernel_rfl))
  f165 := Tryd.func94.trans (congrArg some (by kernel_rfl))
  f166 := Tryd.func95.trans (congrArg some (by kernel_rfl))
  f169 := Tryd.func79.trans (congrArg some (by kernel_rfl))
  f240 := Tryd.func93.trans (congrArg some (by kernel_rfl))
  f241 := Tryd.func111.trans (congrArg some (by kernel_rfl))
  f276 := Tryd.func110.trans (congrArg some (by kernel_rfl))
  f277 := Tryd.func82.trans (congrArg some (by kernel_rfl))
  t0 := Tryd.underlying0
  a0 := Tryd.isAgg0
  z0 := Tryd.sizeOf0
  v0 := Tryd.zeroValue0
  t3 := Tryd.underlying3
  a3 := Tryd.isAgg3
  z3 := Tryd.sizeOf3
  v3 := Tryd.zeroValue3
  t4 := Tryd.underlying4
  a4 := Tryd.isAgg4
  z4 := Tryd.sizeOf4
  v4 := Tryd.zeroValue4
  t9 := Tryd.underlying9
  a9 := Tryd.isAgg9
  z9 := Tryd.sizeOf9
  v9 := Tryd.zeroValue9
  t20 := Tryd.underlying20
  a20 := Tryd.isAgg20
  z20 := Tryd.sizeOf20
  v20 := Tryd.zeroValue20
  t31 := Tryd.underlying22
  a31 := Tryd.isAgg22
  z31 := Tryd.sizeOf22
  v31 := Tryd.zeroValue22
  t37 := Tryd.underlying30
  a37 := Tryd.isAgg30
  z37 := Tryd.sizeOf30
  v37 := Tryd.zeroValue30
  t70 := Tryd.underlying119
  a70 := Tryd.isAgg119
  z70 := Tryd.sizeOf119
  v70 := Tryd.zeroValue119
  t72 := Tryd.underlying121
  a72 := Tryd.isAgg121
  z72 := Tryd.sizeOf121
  v72 := Tryd.zeroValue121
  t75 := Tryd.underlying26
  a75 := Tryd.isAgg26
  z75 := Tryd.sizeOf26
  v75 := Tryd.zeroValue26
  t76 := Tryd.underlying150
  a76 := Tryd.isAgg150
  z76 := Tryd.sizeOf150
  v76 := Tryd.zeroValue150
  t127 := Tryd.underlying149
  a127 := Tryd.isAgg149
  z127 := Tryd.sizeOf149
  v127 := Tryd.zeroValue149
  t164 := Tryd.underlying168
  a164 := Tryd.isAgg168
  z164 := Tryd.sizeOf168
  v164 := Tryd.zeroValue168 }
theorem Tryd.Builder_Extra_156 : Builder.Extra Tryd.prog Tryd.lays156_ren := {
  sizeBuilder := by kernel_rfl
  liesBuilder := by kernel_rfl
  t5 := Tryd.underlying5
  a5 := Tryd.isAgg5
  z5 := Tryd.sizeOf5
  v5 := Tryd.zeroValue5
  infoByte := by kernel_rfl
  cellsByte := by kernel_rfl
  sizeByte := by kernel_rfl
  neB5 := by decide }
open Go.RowKit in
theorem Tryd.strings_Join_none (a : Option Addr) (c : Nat) (sep : ByteArray) (w : World) :
    Calls Tryd.prog 80 #[.slice a 0 c, .string sep] w fun e w' => e = .returned (.string ⟨#[]⟩) ∧ w' = w := Any.strings_Join_none Tryd.lays156 Tryd.Builder_Extra_156 a c sep w
open Go.RowKit in
theorem Tryd.strings_Join (bk o c : Nat) (xs : List ByteArray) (sep : ByteArray) (w : World) (hcells : ∀ (j : Nat) x, xs[j]? = some x → w.cell? ⟨bk, o + j, none⟩ = some (.string x)) (hbk : bk < w.heap.size) (hN : xs.length ≤ 140737488355328) (hcap : xs.length ≤ c) (hlen : (Lib.join (xs.map (·.data.toList)) sep.data.toList).length ≤ 140737488355328) :
    Calls Tryd.prog 80 #[.slice (some ⟨bk, o, none⟩) xs.length c, .string sep] w fun e w' => e = .returned (.string ⟨(Lib.join (xs.map (·.data.toList)) sep.data.toList).toArray⟩) ∧ Below w.heap.size w w' := Any.strings_Join Tryd.lays156 Tryd.Builder_Extra_156 bk o c xs sep w hcells hbk hN hcap hlen
def Tryd.laysC245_ren : Go.Shelf.Ren := ⟨fun | 245 => 115 | 279 => 128 | 280 => 129 | 281 => 130 | 282 => 131 | 316 => 135 | 171 => 60 | 205 => 136 | 243 => 77 | 246 => 92 | 283 => 106 | 284 => 107 | 285 => 108 | 286 => 109 | 129 => 121 | 317 => 120 | 318 => 122 | 319 => 123 | 320 => 124 | 337 => 133 | 338 => 134 | n => n, fun | 9 => 9 | 3 => 3 | 75 => 26 | 167 => 180 | 4 => 4 | 168 => 183 | 210 => 190 | 37 => 30 | 0 => 0 | 127 => 149 | 145 => 196 | 143 => 194 | 2 => 2 | 171 => 163 | 53 => 155 | 5 => 5 | 173 => 166 | 212 => 173 | 51 => 152 | 20 => 20 | 213 => 174 | 46 => 39 | 232 => 192 | 233 => 193 | 80 => 123 | n => n, fun | 15 => 20 | 16 => 21 | 17 => 17 | 18 => 22 | 19 => 23 | n => n⟩
theorem Tryd.laysC245 : Go.Proofs.LaysC.n245 Tryd.prog Tryd.laysC245_ren := {
  mixed := by kernel_rfl
  f129 := Tryd.func121.trans (congrArg some (by kernel_rfl))
  f171 := Tryd.func60.trans (congrArg some (by kernel_rfl))
  f205 := Tryd.func136.trans (congrArg some (by kernel_rfl))
  f243 := Tryd.func77.trans (congrArg some (by kernel_rfl))
  f245 := Tryd.func115.trans (congrArg some (by kernel_rfl))
  f246 := Tryd.func92.trans (congrArg some (by kernel_rfl))
  f279 := Tryd.func128.trans (congrArg some (by kernel_rfl))
  f280 := Tryd.func129.trans (congrArg some (by kernel_rfl))
  f281 := Tryd.func130.trans (congrArg some (by kernel_rfl))
  f282 := Tryd.func131.trans (congrArg some (by kernel_rfl))
  f283 := Tryd.func106.trans (congrArg some (by kernel_rfl))
  f284 := Tryd.func107.trans (congrArg some (by kernel_rfl))
  f285 := Tryd.func108.trans (congrArg some (by kernel_rfl))
  f286 := Tryd.func109.trans (congrArg some (by kernel_rfl))
  f316 := Tryd.func135.trans (congrArg some (by kernel_rfl))
  f317 := Tryd.func120.trans (congrArg some (by kernel_rfl))
  f318 := Tryd.func122.trans (congrArg some (by kernel_rfl))
  f319 := Tryd.func123.trans (congrArg some (by kernel_rfl))
  f320 := Tryd.func124.trans (congrArg some (by kernel_rfl))
  f337 := Tryd.func133.trans (congrArg some (by kernel_rfl))
  f338 := Tryd.func134.trans (congrArg some (by kernel_rfl))
  t0 := Tryd.underlying0
  a0 := Tryd.isAgg0
  z0 := Tryd.sizeOf0
  v0 := Tryd.zeroValue0
  t2 := Tryd.underlying2
  a2 := Tryd.isAgg2
  z2 := Tryd.sizeOf2
  v2 := Tryd.zeroValue2
  t3 := Tryd.underlying3
  a3 := Tryd.isAgg3
  z3 := Tryd.sizeOf3
  v3 := Tryd.zeroValue3
  t4 := Tryd.underlying4
  a4 := Tryd.isAgg4
  z4 := Tryd.sizeOf4
  v4 := Tryd.zeroValue4
  t5 := Tryd.underlying5
  a5 := Tryd.isAgg5
  z5 := Tryd.sizeOf5
  v5 := Tryd.zeroValue5
  t9 := Tryd.underlying9
  a9 := Tryd.isAgg9
  z9 := Tryd.sizeOf9
  v9 := Tryd.zeroValue9
  t20 := Tryd.underlying20
  a20 := Tryd.isAgg20
  z20 := Tryd.sizeOf20
  v20 := Tryd.zeroValue20
  t37 := Tryd.underlying30
  a37 := Tryd.isAgg30
  z37 := Tryd.sizeOf30
  v37 := Tryd.zeroValue30
  t46 := Tryd.underlying39
  a46 := Tryd.isAgg39
  z46 := Tryd.sizeOf39
  v46 := Tryd.zeroValue39
  t51 := Tryd.underlying152
  a51 := Tryd.isAgg152
  z51 := Tryd.sizeOf152
  v51 := Tryd.zeroValue152
  t53 := Tryd.underlying155
  a53 := Tryd.isAgg155
  z53 := Tryd.sizeOf155
  v53 := Tryd.zeroValue155
  t75 := Tryd.underlying26
  a75 := Tryd.isAgg26
  z75 := Tryd.sizeOf26
  v75 := Tryd.zeroValue26
  t127 := Tryd.underlying149
  a127 := Tryd.isAgg149
  z127 := Tryd.sizeOf149
  v127 := Tryd.zeroValue149
  t143 := Tryd.underlying194
  a143 := Tryd.isAgg194
  z143 := Tryd.sizeOf194
  v143 := Tryd.zeroValue194
  t145 := Tryd.underlying196
  a145 := Tryd.isAgg196
  z145 := Tryd.sizeOf196
  v145 := Tryd.zeroValue196
  t167 := Tryd.underlying180
  a167 := Tryd.isAgg180
  z167 := Tryd.sizeOf180
  v167 := Tryd.zeroValue180
  t168 := Tryd.underlying183
  a168 := Tryd.isAgg183
  z168 := Tryd.sizeOf183
  v168 := Tryd.zeroValue183
  t171 := Tryd.underlying163
  a171 := Tryd.isAgg163
  z171 := Tryd.sizeOf163
  v171 := Tryd.zeroValue163
  t173 := Tryd.underlying166
  a173 := Tryd.isAgg166
  z173 := Tryd.sizeOf166
  v173 := Tryd.zeroValue166
  t210 := Tryd.underlying190
  a210 := Tryd.isAgg190
  z210 := Tryd.sizeOf190
  v210 := Tryd.zeroValue190
  t212 := Tryd.underlying173
  a212 := Tryd.isAgg173
  z212 := Tryd.sizeOf173
  v212 := Tryd.zeroValue173
  t213 := Tryd.underlying174
  a213 := Tryd.isAgg174
  z213 := Tryd.sizeOf174
  t232 := Tryd.underlying192
  a232 := Tryd.isAgg192
  z232 := Tryd.sizeOf192
  v232 := Tryd.zeroValue192
  t233 := Tryd.underlying193
  a233 := Tryd.isAgg193
  z233 := Tryd.sizeOf193
  v233 := Tryd.zeroValue193
  g15 := by kernel_rfl
  g16 := by kernel_rfl
  g17 := by kernel_rfl
  g18 := by kernel_rfl
  g19 := by kernel_rfl
  t80 := Tryd.underlying123
  a80 := Tryd.isAgg123
  z80 := Tryd.sizeOf123
  v80 := Tryd.zeroValue123
  i0 := by kernel_rfl
  i2 := by kernel_rfl
  i3 := by kernel_rfl
  i4 := by kernel_rfl
  i5 := by kernel_rfl
  i9 := by kernel_rfl
  i20 := by kernel_rfl
  i37 := by kernel_rfl
  i46 := by kernel_rfl
  i51 := by kernel_rfl
  i53 := by kernel_rfl
  i75 := by kernel_rfl
  i80 := by kernel_rfl
  i127 := by kernel_rfl
  i143 := by kernel_rfl
  i145 := by kernel_rfl
  i167 := by kernel_rfl
  i168 := by kernel_rfl
  i171 := by kernel_rfl
  i173 := by kernel_rfl
  i210 := by kernel_rfl
  i212 := by kernel_rfl
  i232 := by kernel_rfl
  i233 := by kernel_rfl
  m15 := by kernel_rfl
  m16 := by kernel_rfl
  m17 := by kernel_rfl
  m18 := by kernel_rfl
  m19 := by kernel_rfl
  c0 := by kernel_rfl
  c2 := by kernel_rfl
  c3 := by kernel_rfl
  c4 := by kernel_rfl
  c5 := by kernel_rfl
  c9 := by kernel_rfl
  c20 := by kernel_rfl
  c37 := by kernel_rfl
  c46 := by kernel_rfl
  c51 := by kernel_rfl
  c53 := by kernel_rfl
  c75 := by kernel_rfl
  c80 := by kernel_rfl
  c127 := by kernel_rfl
  c143 := by kernel_rfl
  c145 := by kernel_rfl
  c167 := by kernel_rfl
  c168 := by kernel_rfl
  c171 := by kernel_rfl
  c173 := by kernel_rfl
  c210 := by kernel_rfl
  c212 := by kernel_rfl
  c213 := by kernel_rfl
  c232 := by kernel_rfl
  c233 := by kernel_rfl }
open Go.RowKit in
theorem Tryd.strconv_toError_syntax (fn s : ByteArray) (base bits : Int) (ev : Value) (w : World) (hlim : s.size ≤ 281474976710656) (hv : w.cell? ⟨20, 0, none⟩ = some ev) (hev : ev = .nilIface ∨ ∃ te pe, ev = .iface te pe) :
    Calls Tryd.prog 115 #[.string fn, .string s, .int .i64 base, .int .i64 bits, .iface 180 (.int .i64 2)] w fun e w' => ∃ N, e = .returned (.iface 183 (.pointer (some ⟨N, 0, none⟩))) ∧ w.heap.size ≤ N ∧ w'.heap[N]? = some (.cells #[.string fn, .string s, ev] 190 (0, 0)) ∧ Below w.heap.size w w' := Any.strconv_toError_syntax Tryd.laysC245 fn s base bits ev w hlim hv hev
open Go.RowKit in
theorem Tryd.strconv_toError_range (fn s : ByteArray) (base bits : Int) (ev : Value) (w : World) (hlim : s.size ≤ 281474976710656) (hv : w.cell? ⟨21, 0, none⟩ = some ev) (hev : ev = .nilIface ∨ ∃ te pe, ev = .iface te pe) :
    Calls Tryd.prog 115 #[.string fn, .string s, .int .i64 base, .int .i64 bits, .iface 180 (.int .i64 1)] w fun e w' => ∃ N, e = .returned (.iface 183 (.pointer (some ⟨N, 0, none⟩))) ∧ w.heap.size ≤ N ∧ w'.heap[N]? = some (.cells #[.string fn, .string s, ev] 190 (0, 0)) ∧ Below w.heap.size w w' := Any.strconv_toError_range Tryd.laysC245 fn s base bits ev w hlim hv hev
end Go.Proofs

set_option linter.unusedSimpArgs false
set_option linter.unusedVariables false
namespace Go.Proofs.YtankmgnjkcgpaaaDoor
open Go.Sx

def rowS (f : Ix → List UInt8) (is : Ix) (st n : Nat) : List (List UInt8) := (List.range n).map fun j => f (is ++ [st + j])

def joinS (xs : List (List UInt8)) (sep : List UInt8) : List UInt8 := Lib.join xs sep

def joinSumm : Summ := fun args H =>
  match args with
  | [.v (.vl lab mem sz cuts len), .v (.vs sep)] => do
    chk (Nat.beq sz 1)
    let (n, t, is) ← rowOf H lab (mem []) sz
    need (Nat.ble (sum cuts + len []) n)
    match t with
    | .vs f => do
      need (Nat.ble (len []) 1000)
      need (Nat.ble (joinS (rowS f is (sum cuts) (len [])) (sep [])).length 100000)
      pure ⟨.v (.vs fun _ => joinS (rowS f is (sum cuts) (len [])) (sep [])), [], [], [lab]⟩
    | _ => M.fail
  | [.v .vl0, .v (.vs sep)] => pure (.val (.v (.vs fun _ => [])))
  | _ => M.fail

theorem below_eff {ρ : Con} {n : Nat} {H : List Ent} {v : SV} {rd : List Nat} {w w' : World} (h : RowKit.Below w.heap.size w w') : EffOK ρ ρ n n H ⟨v, [], [], rd⟩ w w' :=
  ⟨fun _ _ => rfl, fun x hx => (by cases hx), ⟨h.os, h.tape, h.output, h.size, fun k hk _ => h.block k hk⟩, fun x hx => (by cases hx), fun x hx => by cases hx⟩

theorem joinSumm_ok : ∀ args H x e d y, joinSumm args H x = .ok e d y → OkL d → (∀ a ∈ args, ∀ l ∈ a.labs, l < x.nl) → WFh (Sx.look H) x.nl → gtop Tryd.prog ≤ x.nl → CallOK Tryd.prog 80 args H x.nl e y.nl := by
  intro args H x e d y h hd hal hwf hg
  unfold joinSumm at h
  split at h
  · rename_i lab mem sz cuts len sep
    obtain ⟨_, c1, y1, c2, h1, h2, rfl⟩ := bind_ok h
    obtain ⟨hsz, rfl, rfl⟩ := chk_ok h1
    have hsz := Nat.eq_of_beq_eq_true hsz
    subst hsz
    obtain ⟨⟨n, t, is⟩, c3, y3, c4, h3, h4, rfl⟩ := bind_ok h2
    obtain ⟨hn1, en, hl, hw, ht, hts, hz, hlies, _⟩ := rowOf_ok h3
    simp only at h4
    obtain ⟨_, c5, y5, c6, h5, h6, rfl⟩ := bind_ok h4
    obtain ⟨hle, hn2⟩ := need_ok h5
    split at h6
    · rename_i f
      obtain ⟨_, c7, y7, c8, h7, h8, rfl⟩ := bind_ok h6
      obtain ⟨hk1, hn3⟩ := need_ok h7
      obtain ⟨_, c9, y9, c10, h9, h10, rfl⟩ := bind_ok h8
      obtain ⟨hk2, hn4⟩ := need_ok h9
      obtain ⟨rfl, rfl, rfl⟩ := pure_ok h10
      simp only [OkL_append] at hd
      have hle : sum cuts + len [] ≤ n := by simpa [Nat.ble_eq] using hle (by simp_all)
      have hk1 : len [] ≤ 1000 := by simpa [Nat.ble_eq] using hk1 (by simp_all)
      have hk2 : (joinS (rowS f is (sum cuts) (len [])) (sep [])).length ≤ 100000 := by simpa [Nat.ble_eq] using hk2 (by simp_all)
      have hd3 : OkL c3 := by simp_all
      have hnl : y9.nl = x.nl := hn4.trans (hn3.trans (hn2.trans hn1))
      refine ⟨by omega, fun ρ w av hlen hav hG hHp => ?_⟩
      rw [hnl]
      have hL := hlies hd3 ρ w (hHp.hp lab (by simp) en hl)
      match av, hlen with
      | [v0, v1], _ =>
        have e0 := hav 0 _ v0 rfl rfl rfl
        have e1 := hav 1 _ v1 rfl rfl rfl
        subst e0; subst e1
        have hsep : SV.val ρ (.v (.vs sep)) = .string ⟨(sep []).toArray⟩ := rfl
        have key : ∀ (bk o c : Nat), bk < w.heap.size → len [] ≤ c → (∀ j, j < len [] → w.cell? ⟨bk, o + j, none⟩ = some (.string ⟨(f (is ++ [sum cuts + j])).toArray⟩)) →
            Calls Tryd.prog 80 #[.slice (some ⟨bk, o, none⟩) (len []) c, .string ⟨(sep []).toArray⟩] w fun en w' => en = .returned (.string ⟨(joinS (rowS f is (sum cuts) (len [])) (sep [])).toArray⟩) ∧ RowKit.Below w.heap.size w w' := by
          intro bk o c hbk hc hcell
          have hmap : (((rowS f is (sum cuts) (len [])).map fun s => (⟨s.toArray⟩ : ByteArray)).map (·.data.toList)) = rowS f is (sum cuts) (len []) := by
            rw [List.map_map]
            conv => rhs; rw [← List.map_id (rowS f is (sum cuts) (len []))]
            rfl
          have hl2 : ((rowS f is (sum cuts) (len [])).map fun s => (⟨s.toArray⟩ : ByteArray)).length = len [] := by simp [rowS]
          have hj := Tryd.strings_Join bk o c ((rowS f is (sum cuts) (len [])).map fun s => ⟨s.toArray⟩) ⟨(sep []).toArray⟩ w (fun j x hx => by
              simp only [rowS, List.getElem?_map] at hx
              have hlt : j < len [] := by
                rcases Nat.lt_or_ge j (len []) with h | h
                · exact h
                · rw [List.getElem?_eq_none (by simpa using h)] at hx; cases hx
              rw [List.getElem?_range hlt] at hx
              simp only [Option.map_some, Option.some.injEq] at hx
              rw [hcell j hlt, ← hx]) hbk (by rw [hl2]; omega) (by rw [hl2]; exact hc) (by rw [hmap]; exact Nat.le_trans hk2 (by omega))
          rw [hl2, hmap] at hj
          exact hj
        cases hnil : (ρ lab (mem [])).isNil with
        | true =>
          have h0 := row_nil hts hz (hL.2.1 hnil)
          have hl0 : len [] = 0 := by omega
          have hval : SV.val ρ (.v (.vl lab mem 1 cuts len)) = .slice (ρ lab (mem [])).adr 0 0 := by simp [SV.val, Tr.val, hnil, hl0]
          rw [hval, hsep]
          refine (Tryd.strings_Join_none _ 0 ⟨(sep []).toArray⟩ w).mono ?_
          rintro e w' ⟨rfl, rfl⟩
          refine ⟨ρ, _, rfl, fun _ => ?_, below_eff (RowKit.Below.refl _ _)⟩
          simp [SV.val, Tr.val, rowS, hl0, joinS, Lib.join]
        | false =>
          have hval : SV.val ρ (.v (.vl lab mem 1 cuts len)) = .slice (some ⟨(ρ lab (mem [])).blk, (ρ lab (mem [])).base + rsOf (ρ lab (mem [])).room cuts 0 * 1, none⟩) (len []) ((ρ lab (mem [])).room - sum cuts) := by simp [SV.val, Tr.val, hnil]
          rw [hval, hsep]
          rcases Nat.eq_zero_or_pos (len []) with h0 | h0
          · rw [h0]
            refine (Tryd.strings_Join_none _ _ ⟨(sep []).toArray⟩ w).mono ?_
            rintro e w' ⟨rfl, rfl⟩
            refine ⟨ρ, _, rfl, fun _ => ?_, below_eff (RowKit.Below.refl _ _)⟩
            simp [SV.val, Tr.val, rowS, joinS, Lib.join]
          · obtain ⟨_, g2, g3⟩ := hL.row hts hz (show sum cuts < n by omega)
            have hnr : n ≤ (ρ lab (mem [])).room := by
              obtain ⟨_, _, g⟩ := hL.row hts hz (k := 0) (by omega)
              exact g
            have hcell : ∀ j, j < len [] → w.cell? ⟨(ρ lab (mem [])).blk, (ρ lab (mem [])).base + rsOf (ρ lab (mem [])).room cuts 0 * 1 + j, none⟩ = some (.string ⟨(f (is ++ [sum cuts + j])).toArray⟩) := by
              intro j hj
              obtain ⟨pre, post, hc, hp⟩ := row_part (n := n) (t := .vs f) ρ is hts hle
              rw [hc] at hL
              rw [rsOf_sum _ cuts 0 (by omega)]
              refine hL.mid hnil hp ?_
              have e := List.flatMap_singleton' ([] : List Nat)
              simp only [Tr.cells, Tr.val]
              rw [← List.map_eq_flatMap, List.getElem?_map, List.getElem?_range hj]
              rfl
            have hbk : (ρ lab (mem [])).blk < w.heap.size := cell_lt (hcell 0 h0)
            refine (key _ _ _ hbk (by omega) hcell).mono ?_
            rintro e w' ⟨rfl, hb⟩
            exact ⟨ρ, _, rfl, fun _ => rfl, below_eff hb⟩
    · exact (fail_ok h6).elim
  · rename_i sep
    obtain ⟨rfl, rfl, rfl⟩ := pure_ok h
    refine ⟨by omega, fun ρ w av hlen hav hG hHp => ?_⟩
    match av, hlen with
    | [v0, v1], _ =>
      have e0 := hav 0 _ v0 rfl rfl rfl
      have e1 := hav 1 _ v1 rfl rfl rfl
      subst e0; subst e1
      refine (Tryd.strings_Join_none none 0 ⟨(sep []).toArray⟩ w).mono ?_
      rintro e w' ⟨rfl, rfl⟩
      exact ⟨ρ, _, rfl, fun _ => rfl, below_eff (RowKit.Below.refl _ _)⟩
  · exact (fail_ok h).elim

def tErrG (c : Int) : Nat := if c = 2 then 20 else 21
def tErrSumm : Summ := fun args H =>
  match args with
  | [.v (.vs fn), .v (.vs s), .v (.vi k1 b), .v (.vi k2 q), .v (.ve t (.vi k c))] => do
    chk (sameK k1 .i64 && (sameK k2 .i64 && (sameK k .i64 && Nat.beq t 180)))
    chk (decide (c [] = 1) || decide (c [] = 2))
    need (Nat.ble (s []).length 1000000)
    let e ← opt (Sx.look H (tErrG (c [])))
    chk e.fam.isNone
    match e.t with
    | .ve te u => do
      let l ← newLab
      pure ⟨.v (.ve 183 (.vp l (fun _ => 0) [])), [], [], [tErrG (c [])]⟩
    | _ => M.fail
  | _ => M.fail

theorem tErr_core {g : Nat} {c : Int} (hg : ∀ (fn s : ByteArray) (base bits : Int) (ev : Value) (w : World), s.size ≤ 281474976710656 → w.cell? ⟨g, 0, none⟩ = some ev → (ev = .nilIface ∨ ∃ te pe, ev = .iface te pe) →
      Calls Tryd.prog 115 #[.string fn, .string s, .int .i64 base, .int .i64 bits, .iface 180 (.int .i64 c)] w fun e w' => ∃ N, e = .returned (.iface 183 (.pointer (some ⟨N, 0, none⟩))) ∧ w.heap.size ≤ N ∧ w'.heap[N]? = some (.cells #[.string fn, .string s, ev] 190 (0, 0)) ∧ RowKit.Below w.heap.size w w')
    (hgl : g < Tryd.prog.globals.size) {H : List Ent} {n : Nat} (hn : gtop Tryd.prog ≤ n) {fn s : Ix → List UInt8} {b q : Ix → Int} {f : Ix → Int} (hc : f [] = c) (hs : (s []).length ≤ 1000000) {e : Ent} {te : Nat} {u : Tr} (he : Sx.look H g = some e) (hf : e.fam = none) (ht : e.t = .ve te u) :
    CallOK Tryd.prog 115 [.v (.vs fn), .v (.vs s), .v (.vi .i64 b), .v (.vi .i64 q), .v (.ve 180 (.vi .i64 f))] H n ⟨.v (.ve 183 (.vp n (fun _ => 0) [])), [], [], [g]⟩ (n + 1) := by
  refine ⟨by omega, fun ρ w av hlen hav hG hHp => ?_⟩
  have hh := hHp.hp g (by simp) e he
  have hlab := look_lab he
  unfold Ent.holds at hh
  simp only [hf, hlab, ht, Tr.cells] at hh
  have hcell : w.cell? ⟨g, 0, none⟩ = some ((Tr.ve te u).val ρ []) := by
    obtain ⟨g1, g2⟩ := hG.at_ g hgl
    have g3 : (ρ g 0).isNil = false := by
      cases hq : (ρ g 0).isNil with
      | false => rfl
      | true => exact absurd (hh.2.1 hq) (by simp)
    have := (hh.2.2 g3).1 0 _ rfl
    rw [g1, g2] at this
    exact this
  match av, hlen with
  | [v0, v1, v2, v3, v4], _ =>
    have e0 := hav 0 _ v0 rfl rfl rfl
    have e1 := hav 1 _ v1 rfl rfl rfl
    have e2 := hav 2 _ v2 rfl rfl rfl
    have e3 := hav 3 _ v3 rfl rfl rfl
    have e4 := hav 4 _ v4 rfl rfl rfl
    subst e0; subst e1; subst e2; subst e3; subst e4
    subst hc
    refine (hg ⟨(fn []).toArray⟩ ⟨(s []).toArray⟩ (b []) (q []) _ w (by show (s []).toArray.size ≤ _; simp; omega) hcell (.inr ⟨_, _, rfl⟩)).mono ?_
    rintro en w' ⟨N, rfl, h1, h2, h3⟩
    refine ⟨fun k m => if k = n then ⟨N, 0, 1, 1, false, none, false⟩ else ρ k m, _, rfl, fun _ => ?_, ⟨fun l hl => ?_, fun x hx => (by cases hx), ⟨h3.os, h3.tape, h3.output, h3.size, fun k hk _ => h3.block k hk⟩, fun x hx => (by cases hx), fun x hx => by cases hx⟩⟩
    · simp [SV.val, Tr.val, offs]
    · funext m
      rw [if_neg (by omega)]

theorem tErr_ok : ∀ args H x e d y, tErrSumm args H x = .ok e d y → OkL d → (∀ a ∈ args, ∀ l ∈ a.labs, l < x.nl) → WFh (Sx.look H) x.nl → gtop Tryd.prog ≤ x.nl → CallOK Tryd.prog 115 args H x.nl e y.nl := by
  intro args H x e d y h hd hal hwf hg
  unfold tErrSumm at h
  split at h
  · rename_i fn s k1 b k2 q t k c
    obtain ⟨_, c1, y1, c2, h1, h2, rfl⟩ := bind_ok h
    obtain ⟨hk, rfl, rfl⟩ := chk_ok h1
    simp only [Bool.and_eq_true] at hk
    obtain ⟨k1e, k2e, k3e, hte⟩ := hk
    have k1e := sameK_ok k1e
    have k2e := sameK_ok k2e
    have k3e := sameK_ok k3e
    have hte := Nat.eq_of_beq_eq_true hte
    subst k1e; subst k2e; subst k3e; subst hte
    obtain ⟨_, c3, y3, c4, h3, h4, rfl⟩ := bind_ok h2
    obtain ⟨hc, rfl, rfl⟩ := chk_ok h3
    obtain ⟨_, c5, y5, c6, h5, h6, rfl⟩ := bind_ok h4
    obtain ⟨hs, n5⟩ := need_ok h5
    obtain ⟨en, c7, y7, c8, h7, h8, rfl⟩ := bind_ok h6
    obtain ⟨hl, rfl, rfl⟩ := opt_ok h7
    obtain ⟨_, c9, y9, c10, h9, h10, rfl⟩ := bind_ok h8
    obtain ⟨hf, rfl, rfl⟩ := chk_ok h9
    have hf : en.fam = none := by simpa using hf
    revert h10
    generalize hu : en.t = tt
    intro h10
    split at h10
    · rename_i te u
      have ht := hu
      obtain ⟨l, c11, y11, c12, h11, h12, rfl⟩ := bind_ok h10
      obtain ⟨rfl, rfl, rfl⟩ := newLab_ok h11
      obtain ⟨rfl, rfl, rfl⟩ := pure_ok h12
      simp only [OkL_append] at hd
      have hs : (s []).length ≤ 1000000 := by simpa [Nat.ble_eq] using hs (by simp_all)
      simp only [n5]
      rw [Bool.or_eq_true, decide_eq_true_eq, decide_eq_true_eq] at hc
      rcases hc with hc | hc
      · have hg' : tErrG (c []) = 21 := if_neg (by omega)
        rw [hg'] at hl ⊢
        exact tErr_core (g := 21) (c := 1) Tryd.strconv_toError_range (of_decide_eq_true (by kernel_rfl)) hg hc hs hl hf ht
      · have hg' : tErrG (c []) = 20 := if_pos hc
        rw [hg'] at hl ⊢
        exact tErr_core (g := 20) (c := 2) Tryd.strconv_toError_syntax (of_decide_eq_true (by kernel_rfl)) hg hc hs hl hf ht
    · exact (fail_ok h10).elim
  · exact (fail_ok h).elim

end Go.Proofs.YtankmgnjkcgpaaaDoor

