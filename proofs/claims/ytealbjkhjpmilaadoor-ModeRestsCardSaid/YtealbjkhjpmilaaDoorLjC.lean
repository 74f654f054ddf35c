/- The library's strings.Join, used at a call of the engine's. -/
import Derived.Test.YtealbjkhjpmilaaDoorSxPc
import Derived.Test.YtealbjkhjpmilaaDoorLsC
set_option linter.unusedSimpArgs false
set_option linter.unusedVariables false
namespace Go.Proofs.YtealbjkhjpmilaaDoor
open Go.Sx

/-- The texts of a row from st on. -/
def rowS (f : Ix → List UInt8) (is : Ix) (st n : Nat) : List (List UInt8) := (List.range n).map fun j => f (is ++ [st + j])

def joinS (xs : List (List UInt8)) (sep : List UInt8) : List UInt8 := Lib.join xs sep

def joinSumm : Summ := fun args H =>
  match args with
  | [.v (.vl lab mem sz cuts len), .v (.vs sep)] => do
    chk (Nat.beq sz 1)
    let (n, t, is) ← rowOf H lab (mem []) sz
    need (Nat.ble (sum cuts + len []) n)
    match t with
    | .vs f => do
      need (Nat.ble (len []) 1000)
      need (Nat.ble (joinS (rowS f is (sum cuts) (len [])) (sep [])).length 100000)
      pure ⟨.v (.vs fun _ => joinS (rowS f is (sum cuts) (len [])) (sep [])), [], [], [lab]⟩
    | _ => M.fail
  | [.v .vl0, .v (.vs sep)] => pure (.val (.v (.vs fun _ => [])))
  | _ => M.fail

theorem below_eff {ρ : Con} {n : Nat} {H : List Ent} {v : SV} {rd : List Nat} {w w' : World} (h : RowKit.Below w.heap.size w w') : EffOK ρ ρ n n H ⟨v, [], [], rd⟩ w w' :=
  ⟨fun _ _ => rfl, fun x hx => (by cases hx), ⟨h.os, h.tape, h.output, h.size, fun k hk _ => h.block k hk⟩, fun x hx => (by cases hx), fun x hx => by cases hx⟩

theorem joinSumm_ok : ∀ args H x e d y, joinSumm args H x = .ok e d y → OkL d → (∀ a ∈ args, ∀ l ∈ a.labs, l < x.nl) → WFh (Sx.look H) x.nl → gtop Tryd.prog ≤ x.nl → CallOK Tryd.prog 79 args H x.nl e y.nl := by
  intro args H x e d y h hd hal hwf hg
  unfold joinSumm at h
  split at h
  · rename_i lab mem sz cuts len sep
    obtain ⟨_, c1, y1, c2, h1, h2, rfl⟩ := bind_ok h
    obtain ⟨hsz, rfl, rfl⟩ := chk_ok h1
    have hsz := Nat.eq_of_beq_eq_true hsz
    subst hsz
    obtain ⟨⟨n, t, is⟩, c3, y3, c4, h3, h4, rfl⟩ := bind_ok h2
    obtain ⟨hn1, en, hl, hw, ht, hts, hz, hlies, _⟩ := rowOf_ok h3
    simp only at h4
    obtain ⟨_, c5, y5, c6, h5, h6, rfl⟩ := bind_ok h4
    obtain ⟨hle, hn2⟩ := need_ok h5
    split at h6
    · rename_i f
      obtain ⟨_, c7, y7, c8, h7, h8, rfl⟩ := bind_ok h6
      obtain ⟨hk1, hn3⟩ := need_ok h7
      obtain ⟨_, c9, y9, c10, h9, h10, rfl⟩ := bind_ok h8
      obtain ⟨hk2, hn4⟩ := need_ok h9
      obtain ⟨rfl, rfl, rfl⟩ := pure_ok h10
      simp only [OkL_append] at hd
      have hle : sum cuts + len [] ≤ n := by simpa [Nat.ble_eq] using hle (by simp_all)
      have hk1 : len [] ≤ 1000 := by simpa [Nat.ble_eq] using hk1 (by simp_all)
      have hk2 : (joinS (rowS f is (sum cuts) (len [])) (sep [])).length ≤ 100000 := by simpa [Nat.ble_eq] using hk2 (by simp_all)
      have hd3 : OkL c3 := by simp_all
      have hnl : y9.nl = x.nl := hn4.trans (hn3.trans (hn2.trans hn1))
      refine ⟨by omega, fun ρ w av hlen hav hG hHp => ?_⟩
      rw [hnl]
      have hL := hlies hd3 ρ w (hHp.hp lab (by simp) en hl)
      match av, hlen with
      | [v0, v1], _ =>
        have e0 := hav 0 _ v0 rfl rfl rfl
        have e1 := hav 1 _ v1 rfl rfl rfl
        subst e0; subst e1
        have hsep : SV.val ρ (.v (.vs sep)) = .string ⟨(sep []).toArray⟩ := rfl
        have key : ∀ (bk o c : Nat), bk < w.heap.size → len [] ≤ c → (∀ j, j < len [] → w.cell? ⟨bk, o + j, none⟩ = some (.string ⟨(f (is ++ [sum cuts + j])).toArray⟩)) →
            Calls Tryd.prog 79 #[.slice (some ⟨bk, o, none⟩) (len []) c, .string ⟨(sep []).toArray⟩] w fun en w' => en = .returned (.string ⟨(joinS (rowS f is (sum cuts) (len [])) (sep [])).toArray⟩) ∧ RowKit.Below w.heap.size w w' := by
          intro bk o c hbk hc hcell
          have hmap : (((rowS f is (sum cuts) (len [])).map fun s => (⟨s.toArray⟩ : ByteArray)).map (·.data.toList)) = rowS f is (sum cuts) (len []) := by
            rw [List.map_map]
            conv => rhs; rw [← List.map_id (rowS f is (sum cuts) (len []))]
            rfl
          have hl2 : ((rowS f is (sum cuts) (len [])).map fun s => (⟨s.toArray⟩ : ByteArray)).length = len [] := by simp [rowS]
          have hj := Tryd.strings_Join bk o c ((rowS f is (sum cuts) (len [])).map fun s => ⟨s.toArray⟩) ⟨(sep []).toArray⟩ w (fun j x hx => by
              simp only [rowS, List.getElem?_map] at hx
              have hlt : j < len [] := by
                rcases Nat.lt_or_ge j (len []) with h | h
                · exact h
                · rw [List.getElem?_eq_none (by simpa using h)] at hx; cases hx
              rw [List.getElem?_range hlt] at hx
              simp only [Option.map_some, Option.some.injEq] at hx
              rw [hcell j hlt, ← hx]) hbk (by rw [hl2]; omega) (by rw [hl2]; exact hc) (by rw [hmap]; exact Nat.le_trans hk2 (by omega))
          rw [hl2, hmap] at hj
          exact hj
        cases hnil : (ρ lab (mem [])).isNil with
        | true =>
          have h0 := row_nil hts hz (hL.2.1 hnil)
          have hl0 : len [] = 0 := by omega
          have hval : SV.val ρ (.v (.vl lab mem 1 cuts len)) = .slice (ρ lab (mem [])).adr 0 0 := by simp [SV.val, Tr.val, hnil, hl0]
          rw [hval, hsep]
          refine (Tryd.strings_Join_none _ 0 ⟨(sep []).toArray⟩ w).mono ?_
          rintro e w' ⟨rfl, rfl⟩
          refine ⟨ρ, _, rfl, fun _ => ?_, below_eff (RowKit.Below.refl _ _)⟩
          simp [SV.val, Tr.val, rowS, hl0, joinS, Lib.join]
        | false =>
          have hval : SV.val ρ (.v (.vl lab mem 1 cuts len)) = .slice (some ⟨(ρ lab (mem [])).blk, (ρ lab (mem [])).base + rsOf (ρ lab (mem [])).room cuts 0 * 1, none⟩) (len []) ((ρ lab (mem [])).room - sum cuts) := by simp [SV.val, Tr.val, hnil]
          rw [hval, hsep]
          rcases Nat.eq_zero_or_pos (len []) with h0 | h0
          · rw [h0]
            refine (Tryd.strings_Join_none _ _ ⟨(sep []).toArray⟩ w).mono ?_
            rintro e w' ⟨rfl, rfl⟩
            refine ⟨ρ, _, rfl, fun _ => ?_, below_eff (RowKit.Below.refl _ _)⟩
            simp [SV.val, Tr.val, rowS, joinS, Lib.join]
          · obtain ⟨_, g2, g3⟩ := hL.row hts hz (show sum cuts < n by omega)
            have hnr : n ≤ (ρ lab (mem [])).room := by
              obtain ⟨_, _, g⟩ := hL.row hts hz (k := 0) (by omega)
              exact g
            have hcell : ∀ j, j < len [] → w.cell? ⟨(ρ lab (mem [])).blk, (ρ lab (mem [])).base + rsOf (ρ lab (mem [])).room cuts 0 * 1 + j, none⟩ = some (.string ⟨(f (is ++ [sum cuts + j])).toArray⟩) := by
              intro j hj
              obtain ⟨pre, post, hc, hp⟩ := row_part (n := n) (t := .vs f) ρ is hts hle
              rw [hc] at hL
              rw [rsOf_sum _ cuts 0 (by omega)]
              refine hL.mid hnil hp ?_
              have e := List.flatMap_singleton' ([] : List Nat)
              simp only [Tr.cells, Tr.val]
              rw [← List.map_eq_flatMap, List.getElem?_map, List.getElem?_range hj]
              rfl
            have hbk : (ρ lab (mem [])).blk < w.heap.size := cell_lt (hcell 0 h0)
            refine (key _ _ _ hbk (by omega) hcell).mono ?_
            rintro e w' ⟨rfl, hb⟩
            exact ⟨ρ, _, rfl, fun _ => rfl, below_eff hb⟩
    · exact (fail_ok h6).elim
  · rename_i sep
    obtain ⟨rfl, rfl, rfl⟩ := pure_ok h
    refine ⟨by omega, fun ρ w av hlen hav hG hHp => ?_⟩
    match av, hlen with
    | [v0, v1], _ =>
      have e0 := hav 0 _ v0 rfl rfl rfl
      have e1 := hav 1 _ v1 rfl rfl rfl
      subst e0; subst e1
      refine (Tryd.strings_Join_none none 0 ⟨(sep []).toArray⟩ w).mono ?_
      rintro e w' ⟨rfl, rfl⟩
      exact ⟨ρ, _, rfl, fun _ => rfl, below_eff (RowKit.Below.refl _ _)⟩
  · exact (fail_ok h).elim

end Go.Proofs.YtealbjkhjpmilaaDoor
