/- The engine: internal/strconv.formatBase10, used at calls. -/
import Derived.Test.YtankmgnjkcgpaaaDoorSyRz
import Derived.Shelf.Strconv.Itoa1
import Derived.Shelf.Strconv.Itoa2
import Derived.Lib.RowBridge
set_option linter.unusedSimpArgs false
set_option linter.unusedVariables false
namespace Go.Sx
open Go.Proofs Go.Shelf

variable {P : Program} {q : Ren}

def dgF (u : Int) (len : Nat) : Ix → Int := fun is => ((Lib.dg u.toNat (len - 1 - is.headD 0)).toNat : Int)

def byteOk (F : Ix → Int) (st len : Nat) : Bool := (List.range len).all fun j => decide (0 ≤ F [st + j] ∧ F [st + j] < 256)

def fmtB : Summ := fun args H =>
  match args with
  | [.v (.va lab path sz st len cap), .v (.vi k f)] => do
    chk (sameK k .u64)
    chk (Nat.beq sz 1)
    let e ← opt (look H lab)
    chk e.own
    chk e.fam.isNone
    let (tt, js, cs) ← opt (Tr.get path e.t [])
    askAll cs
    chk js.isEmpty
    match tt with
    | .ta n (.vi .u8 F) => do
      need (Nat.ble (st + len) n)
      need (decide (0 ≤ f [] ∧ f [] < 18446744073709551616))
      need (decide ((f []).toNat < 10 ^ len))
      need (decide (0 < len ∧ len < 1000))
      need (byteOk F st len)
      let t' ← opt (Tr.set path e.t [] (.ta n (.vi .u8 (cpyF len st F (dgF (f []) len)))))
      pure ⟨.tup [], [{ e with t := t' }], [], [lab]⟩
    | _ => M.fail
  | _ => M.fail

theorem drewN_holds {ρ : Con} {e : Ent} {w : World} (n : Nat) (h : e.holds ρ w) : e.holds ρ (w.drewN n) :=
  Ent.holds_frame (S := fun _ => False) h (Fr.drew _ w _) (fun _ _ h => h)

theorem fmtB_ok (L : Lays.n285 P q) : ∀ args H x e d y, fmtB args H x = .ok e d y → OkL d → (∀ a ∈ args, ∀ l ∈ a.labs, l < x.nl) → WFh (look H) x.nl → gtop P ≤ x.nl → CallOK P (q.f 285) args H x.nl e y.nl := by
  intro args H x e d y h hd hal hwf hg
  unfold fmtB at h
  split at h
  · rename_i lab path sz st len cap k f
    obtain ⟨_, c1, y1, c2, h1, h2, rfl⟩ := bind_ok h
    obtain ⟨hk, rfl, rfl⟩ := chk_ok h1
    have hk := sameK_ok hk
    subst hk
    obtain ⟨_, c1, y1, c3, h1, h3, rfl⟩ := bind_ok h2
    obtain ⟨hsz, rfl, rfl⟩ := chk_ok h1
    have hsz := Nat.eq_of_beq_eq_true hsz
    subst hsz
    obtain ⟨en, c1, y1, c4, h1, h4, rfl⟩ := bind_ok h3
    obtain ⟨hl, rfl, rfl⟩ := opt_ok h1
    obtain ⟨_, c1, y1, c5, h1, h5, rfl⟩ := bind_ok h4
    obtain ⟨hown, rfl, rfl⟩ := chk_ok h1
    obtain ⟨_, c1, y1, c6, h1, h6, rfl⟩ := bind_ok h5
    obtain ⟨hfam, rfl, rfl⟩ := chk_ok h1
    have hfam : en.fam = none := by simpa using hfam
    obtain ⟨⟨tt, js, cs⟩, c1, y1, c7, h1, h7, rfl⟩ := bind_ok h6
    obtain ⟨hgt, rfl, rfl⟩ := opt_ok h1
    simp only at h7
    obtain ⟨_, c8, y8, c9, h8, h9, rfl⟩ := bind_ok h7
    obtain ⟨hcs, hn1⟩ := askAll_ok h8
    obtain ⟨_, c1, y1, c10, h1, h10, rfl⟩ := bind_ok h9
    obtain ⟨hjs, rfl, rfl⟩ := chk_ok h1
    have hjs : js = [] := by simpa using hjs
    subst hjs
    split at h10
    · rename_i n F
      obtain ⟨_, c11, y11, c12, h11, h12, rfl⟩ := bind_ok h10
      obtain ⟨k1, m1⟩ := need_ok h11
      obtain ⟨_, c13, y13, c14, h13, h14, rfl⟩ := bind_ok h12
      obtain ⟨k2, m2⟩ := need_ok h13
      obtain ⟨_, c15, y15, c16, h15, h16, rfl⟩ := bind_ok h14
      obtain ⟨k3, m3⟩ := need_ok h15
      obtain ⟨_, c17, y17, c18, h17, h18, rfl⟩ := bind_ok h16
      obtain ⟨k4, m4⟩ := need_ok h17
      obtain ⟨_, c19, y19, c20, h19, h20, rfl⟩ := bind_ok h18
      obtain ⟨k5, m5⟩ := need_ok h19
      obtain ⟨t', c21, y21, c22, h21, h22, rfl⟩ := bind_ok h20
      obtain ⟨hset, rfl, rfl⟩ := opt_ok h21
      obtain ⟨rfl, rfl, rfl⟩ := pure_ok h22
      simp only [OkL_append] at hd
      have k1 : st + len ≤ n := by simpa [Nat.ble_eq] using k1 (by simp_all)
      have k2 : 0 ≤ f [] ∧ f [] < 18446744073709551616 := by simpa using k2 (by simp_all)
      have k3 : (f []).toNat < 10 ^ len := by simpa using k3 (by simp_all)
      have k4 : 0 < len ∧ len < 1000 := by simpa using k4 (by simp_all)
      have k5 : ∀ j, j < len → 0 ≤ F [st + j] ∧ F [st + j] < 256 := fun j hj => of_decide_eq_true (List.all_eq_true.1 (k5 (by simp_all)) j (List.mem_range.2 hj))
      have hcs := hcs (by simp_all)
      refine ⟨by omega, fun ρ w av hlen hav hG hHp => ?_⟩
      have hlab := look_lab hl
      have hholds := hHp.hp lab (by simp) en hl
      unfold Ent.holds at hholds
      simp only [hfam, hlab, hown] at hholds
      obtain ⟨hz, ⟨pre, post, hc1, hc2, hc3⟩, _⟩ := Tr.set_cells ρ path en.t [] _ [] cs _ t' hgt hset hcs
      obtain ⟨pre2, mid, post2, e1, e2, e3, e4⟩ := cpyT_row ρ (n := n) (k := len) (st := st) (u := .vi .u8 F) (g := .vi .u8 (dgF (f []) len)) (r := .vi .u8 (cpyF len st F (dgF (f []) len))) (sz := 1) (by simp [cpyT, sameK]) rfl (by omega)
      rw [e1] at hc1
      rw [e4] at hc3
      have hc1' : en.t.cells ρ [] = (pre ++ pre2) ++ mid ++ (post2 ++ post) := by rw [hc1]; simp
      have hc3' : t'.cells ρ [] = (pre ++ pre2) ++ (Tr.ta len (.vi .u8 (dgF (f []) len))).cells ρ [] ++ (post2 ++ post) := by rw [hc3]; simp
      have hnil : (ρ lab 0).isNil = false := by
        cases hq : (ρ lab 0).isNil with
        | false => rfl
        | true =>
          have := hholds.2.1 hq
          rw [hc1'] at this
          simp only [List.append_eq_nil_iff] at this
          rw [this.1.2] at e3
          simp at e3; omega
      have htouch : Touch ρ H ⟨.tup [], [{ en with t := t' }], [], [lab]⟩ (ρ lab 0).blk :=
        ⟨lab, en, hl, hown, by simp, .inl (by simp [hlab]), ⟨0, by simp [hfam], by rw [hlab]; exact hnil, .inl hown, by rw [hlab]⟩⟩
      obtain ⟨g2, g3, _⟩ := (hholds.2.2 hnil).2.2.1 rfl
      have hroom := (hholds.2.2 hnil).2.1
      have hroom' := hroom
      rw [hc1'] at hroom'
      simp only [List.length_append, hc2, e2, e3, Nat.mul_one] at hroom'
      have hmidc : ∀ j, j < len → mid[j]? = some (.int .u8 (F [st + j])) := by
        intro j hj
        have h0 : ((Tr.ta n (.vi .u8 F)).cells ρ [])[st + j]? = some (.int .u8 (F [st + j])) := by
          simp only [Tr.cells, Tr.val, List.nil_append]
          rw [← List.map_eq_flatMap, List.getElem?_map, List.getElem?_range (by omega)]
          rfl
        rw [e1, List.append_assoc, List.getElem?_append_right (by rw [e2]; omega), List.getElem?_append_left (by rw [e2, e3]; omega)] at h0
        rw [← h0]; congr 1; rw [e2]; omega
      let dd : Array UInt8 := ((List.range len).map fun j => UInt8.ofNat (F [st + j]).toNat).toArray
      have hds : dd.size = len := by simp [dd]
      have hcell : ∀ j, j < len → w.cell? ⟨(ρ lab 0).blk, (ρ lab 0).base + (offs path + st) + j, none⟩ = some (.int .u8 (F [st + j])) := by
        intro j hj
        have := (hholds.2.2 hnil).1 (offs path + st + j) (.int .u8 (F [st + j])) (by
          rw [hc1', List.append_assoc, List.getElem?_append_right (by simp only [List.length_append, hc2, e2, Nat.mul_one]; omega), List.getElem?_append_left (by simp only [List.length_append, hc2, e2, e3, Nat.mul_one]; omega)]
          rw [← hmidc j hj]; congr 1; simp only [List.length_append, hc2, e2, Nat.mul_one]; omega)
        rw [← Nat.add_assoc] at this
        exact this
      have hH : Go.Sort.Holds (fun (b : UInt8) => Value.int .u8 (b.toNat : Int)) w (ρ lab 0).blk ((ρ lab 0).base + (offs path + st)) dd := by
        intro j hj
        rw [hds] at hj
        refine ⟨?_, ?_⟩
        · rw [hcell j hj]
          have hb := k5 j hj
          have : dd[j]! = UInt8.ofNat (F [st + j]).toNat := by
            rw [getElem!_pos dd j (by rw [hds]; exact hj)]
            simp [dd]
          rw [this]
          congr 2
          simp
          omega
        · rw [Nat.add_assoc]; exact (g3 (offs path + st + j) (by omega)).2
      have key := Any.internal_strconv_formatBase10 L (ρ lab 0).blk ((ρ lab 0).base + (offs path + st)) cap (f []).toNat dd w hH (by rw [hds]; exact k3) (by omega) (by rw [hds]; omega)
      match av, hlen with
      | [v0, v1], _ =>
        have e0 := hav 0 _ v0 rfl rfl rfl
        have e1' := hav 1 _ v1 rfl rfl rfl
        subst e0; subst e1'
        have hv0 : SV.val ρ (.v (.va lab path 1 st len cap)) = .slice (some ⟨(ρ lab 0).blk, (ρ lab 0).base + (offs path + st), none⟩) dd.size cap := by
          simp only [SV.val, Tr.val, hds, Nat.mul_one, Nat.add_assoc]
        have hv1 : SV.val ρ (.v (.vi .u64 f)) = .int .u64 ((f []).toNat : Int) := by
          simp only [SV.val, Tr.val]; congr 1; omega
        show Calls P (q.f 285) #[SV.val ρ (.v (.va lab path 1 st len cap)), SV.val ρ (.v (.vi .u64 f))] w _
        rw [hv0, hv1]
        refine key.mono ?_
        rintro e w' ⟨rfl, m, v', dk, rfl, hF⟩
        have hdk : dk.size = len := by rw [hF.size, hds]
        have hput : Go.Sort.putRow (fun (b : UInt8) => Value.int .u8 (b.toNat : Int)) w (ρ lab 0).blk ((ρ lab 0).base + (offs path + st)) dk = w.setCells (ρ lab 0).blk ((ρ lab 0).base + (offs path + st)) (dk.toList.map fun (b : UInt8) => Value.int .u8 (b.toNat : Int)) := by
          have := Lib.putRow_setCells (fun (b : UInt8) => Value.int .u8 (b.toNat : Int)) w (ρ lab 0).blk ((ρ lab 0).base + (offs path + st)) dk.toList dd 0 (by simp [hdk, hds])
          rw [Lib.lay_all dd dk.toList (by simp [hdk, hds]), Go.Sort.putRow_self _ _ _ _ _ hH, Nat.add_zero] at this
          exact this.symm
        have hnews : (Tr.ta len (.vi .u8 (dgF (f []) len))).cells ρ [] = dk.toList.map fun (b : UInt8) => Value.int .u8 (b.toNat : Int) := by
          simp only [Tr.cells, Tr.val, List.nil_append]
          rw [← List.map_eq_flatMap]
          apply List.ext_getElem
          · simp [hdk]
          · intro j h1 h2
            simp only [List.getElem_map, List.getElem_range, dgF, List.headD]
            have hj : j < len := by simpa using h1
            have := hF.done j (by omega) (by rw [hds]; exact hj)
            rw [getElem!_pos dk j (by omega)] at this
            rw [Array.getElem_toList, this, hds]
        refine ⟨ρ, _, rfl, fun _ => rfl, fun _ _ => rfl, ?_, ?_, ?_, SepL.single _ _⟩
        · intro z hz'
          simp only [List.mem_singleton] at hz'
          subst hz'
          refine drewN_holds m ?_
          rw [hput]
          unfold Ent.holds
          simp only [hfam, hlab, hown]
          rw [hc3', hnews]
          rw [hc1'] at hholds
          have := hholds.store (new := dk.toList.map fun (b : UInt8) => Value.int .u8 (b.toNat : Int)) hnil (o := offs path + st) (by simp only [List.length_append, hc2, e2, Nat.mul_one]) (by simp [hdk, e3])
          exact this
        · rw [hput]
          exact (Fr.setCells w _ _ _ htouch).trans (Fr.drew (Touch ρ H ⟨.tup [], [{ en with t := t' }], [], [lab]⟩) _ _) (fun x hx => .inl hx)
        · intro z hz' k hk
          simp only [List.mem_singleton] at hz'
          subst hz'
          left
          obtain ⟨m', hm, _, _, h3⟩ := hk
          simp only [hfam] at hm
          subst hm
          simp only [hlab] at h3
          rw [← h3]; exact htouch
    · exact (fail_ok h10).elim
  · exact (fail_ok h).elim

def oneS (k : IntKind) (lo hi : Int) (v : Int → Tr) : Summ := fun args H =>
  match args with
  | [.v (.vi k' f)] => do
    chk (sameK k k')
    need (decide (lo ≤ f [] ∧ f [] ≤ hi))
    chk (v (f [])).leaf
    pure ⟨.v (v (f [])), [], [], []⟩
  | _ => M.fail

theorem oneS_ok {f : FuncId} {k : IntKind} {lo hi : Int} {v : Int → Tr} (h0 : ∀ (n : Int) (w : World) (ρ : Con), lo ≤ n → n ≤ hi → Calls P f #[.int k n] w fun e w' => e = .returned ((v n).val ρ []) ∧ w' = w) :
    ∀ args H x e d y, oneS k lo hi v args H x = .ok e d y → OkL d → (∀ a ∈ args, ∀ l ∈ a.labs, l < x.nl) → WFh (look H) x.nl → gtop P ≤ x.nl → CallOK P f args H x.nl e y.nl := by
  intro args H x e d y h hd hal hwf hg
  unfold oneS at h
  split at h
  · rename_i k' f'
    obtain ⟨_, c1, y1, c2, h1, h2, rfl⟩ := bind_ok h
    obtain ⟨hk, rfl, rfl⟩ := chk_ok h1
    have hk := sameK_ok hk
    subst hk
    obtain ⟨_, c3, y3, c4, h3, h4, rfl⟩ := bind_ok h2
    obtain ⟨k1, m1⟩ := need_ok h3
    obtain ⟨_, c1, y1, c5, h1, h5, rfl⟩ := bind_ok h4
    obtain ⟨hl, rfl, rfl⟩ := chk_ok h1
    obtain ⟨rfl, rfl, rfl⟩ := pure_ok h5
    simp only [OkL_append] at hd
    have k1 : lo ≤ f' [] ∧ f' [] ≤ hi := by simpa using k1 (by simp_all)
    refine ⟨by omega, fun ρ w av hlen hav hG hHp => ?_⟩
    match av, hlen with
    | [v0], _ =>
      have e0 := hav 0 _ v0 rfl rfl rfl
      subst e0
      show Calls P f #[SV.val ρ (.v (.vi k f'))] w _
      refine (h0 (f' []) w ρ k1.1 k1.2).mono ?_
      rintro e w' ⟨rfl, rfl⟩
      exact ⟨ρ, _, rfl, fun _ => rfl, fun _ _ => rfl, fun x hx => (by cases hx), Fr.refl _ _, fun x hx => (by cases hx), fun x hx => by cases hx⟩
  · exact (fail_ok h).elim

abbrev lenB : Summ := oneS .u64 0 18446744073709551615 fun n => .vi .i64 fun _ => (Lib.bitLen n.toNat : Int)
abbrev smlB : Summ := oneS .i64 0 99 fun n => .vs fun _ => Lib.decDigits n.toNat
theorem lenB_ok (L : Lays.n129 P q) : ∀ args H x e d y, lenB args H x = .ok e d y → OkL d → (∀ a ∈ args, ∀ l ∈ a.labs, l < x.nl) → WFh (look H) x.nl → gtop P ≤ x.nl → CallOK P (q.f 129) args H x.nl e y.nl :=
  oneS_ok fun n w ρ h1 h2 => Any.bits_Len64 L n w h1 h2
theorem smlB_ok (L : Lays.n283 P q) : ∀ args H x e d y, smlB args H x = .ok e d y → OkL d → (∀ a ∈ args, ∀ l ∈ a.labs, l < x.nl) → WFh (look H) x.nl → gtop P ≤ x.nl → CallOK P (q.f 283) args H x.nl e y.nl :=
  oneS_ok fun n w ρ h1 h2 => by
    have := Any.internal_strconv_small L n.toNat (by omega) w
    rwa [Int.toNat_of_nonneg h1] at this

end Go.Sx
