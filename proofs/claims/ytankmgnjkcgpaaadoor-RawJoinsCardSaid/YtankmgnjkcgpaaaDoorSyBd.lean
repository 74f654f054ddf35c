/- The engine: strings.Builder's copyCheck and String, used at calls. -/
import Derived.Test.YtankmgnjkcgpaaaDoorSyCp
import Derived.Shelf.Strings.Builder1
set_option linter.unusedSimpArgs false
set_option linter.unusedVariables false
namespace Go.Sx
open Go.Proofs Go.Shelf

theorem run_loadBytesI {P : Program} {w : World} : ∀ (l : List Int) (a : Addr) (acc : ByteArray), (∀ j x, l[j]? = some x → w.cell? (a.add j) = some (.int .u8 x)) →
    (loadBytes a acc l.length).run P w = .ok ⟨acc.data ++ (l.map fun x => UInt8.ofNat x.toNat).toArray⟩ w
  | [], a, acc, _ => by simp [loadBytes]
  | x :: l, a, acc, h => by
    have h0 : w.cell? a = some (.int .u8 x) := by
      have := h 0 x rfl
      simpa [Addr.add] using this
    have ih := run_loadBytesI (P := P) (w := w) l (a.add 1) (acc.push (UInt8.ofNat x.toNat)) (fun j y hy => by
      have := h (j + 1) y (by simpa using hy)
      have e : (a.add 1).add j = a.add (j + 1) := by
        unfold Addr.add
        by_cases hj : j = 0
        · subst hj; simp
        · simp [hj]; omega
      rw [e]; exact this)
    have hx : (x.toNat).toUInt8 = UInt8.ofNat x.toNat := rfl
    simp only [List.length_cons, loadBytes, Sem.run_bind, run_load, h0, Result.andThen, hx]
    rw [ih]
    congr 1
    apply ByteArray.ext
    simp [ByteArray.push]

theorem run_unsafeStringI {P : Program} {w : World} (pt it ty e : TypeId) (hp : P.underlying pt = some (.pointer e)) (hc : P.cellsOf e = 1) (g cells : Nat) (hsh : w.shape? g = some (e, cells)) (l : List Int) (h0 : l ≠ []) (hn : l.length ≤ cells) (h63 : l.length ≤ 9223372036854775807)
    (hcell : ∀ j x, l[j]? = some x → w.cell? ((⟨g, 0, none⟩ : Addr).add j) = some (.int .u8 x)) :
    (Builtin.unsafeString_ #[pt, it] ty #[.pointer (some ⟨g, 0, none⟩), .int .i64 l.length]).run P w = .ok (.string ⟨(l.map fun x => UInt8.ofNat x.toNat).toArray⟩) (w.freeze ⟨g, 0, none⟩ l.length) := by
  have hl : l.length ≠ 0 := by simpa using h0
  have hlb := run_loadBytesI (P := P) (w := w) l ⟨g, 0, none⟩ .empty hcell
  have hlies := Lib.liesAt_bytes (P := P) hc (cells / P.cellsOf e) l.length (by rw [hc]; simpa using hn)
  have h63' : ¬ (9223372036854775807 : Int) < (l.length : Int) := by omega
  obtain ⟨p1, p2, p3, hdef⟩ : ∃ (p1 p2 : Sem PUnit) (p3 : Sem Value), Builtin.unsafeString_ #[pt, it] ty #[.pointer (some ⟨g, 0, none⟩), .int .i64 l.length] =
      (do
        let n ← asInt (.int .i64 l.length)
        if n < 0 then p1
        if n > IntKind.i64.max then p2
        if n = 0 then pure (.string .empty)
        else if ← variablesAt ⟨g, 0, none⟩ (← elemOf pt) n.toNat then do
          let s ← loadBytes ⟨g, 0, none⟩ .empty n.toNat
          freeze ⟨g, 0, none⟩ n.toNat
          pure (.string s)
        else p3) := ⟨_, _, _, rfl⟩
  rw [hdef]
  have hmax : IntKind.i64.max = 9223372036854775807 := rfl
  have hneg : ¬ (l.length : Int) < 0 := by omega
  simp [asInt, asIntOf, hmax, h63', hneg, hl, variablesAt, hsh, elemOf, run_underlying hp, hlies, hlb]

variable {P : Program} {q : Ren}

set_option maxHeartbeats 1000000 in
set_option maxRecDepth 100000 in
theorem bdString_some (L : Lays.n169 P q) (X : Builder.Extra P q) (b g cap : Nat) (ns : List Int) (cur : Array Value) (w : World) (c1 : w.cell? ⟨b, 1, none⟩ = some (.slice (some ⟨g, 0, none⟩) ns.length cap))
    (hg : w.heap[g]? = some (.cells cur (q.t 5) (0, 0))) (hn : ns.length ≤ cur.size) (hcap : ns.length ≤ cap) (h63 : ns.length ≤ 9223372036854775807) (h0 : ns ≠ [])
    (hcell : ∀ j x, ns[j]? = some x → w.cell? ⟨g, j, none⟩ = some (.int .u8 x)) :
    Calls P (q.f 169) #[.pointer (some ⟨b, 0, none⟩)] w fun e w' => e = .returned (.string ⟨(ns.map fun x => UInt8.ofNat x.toNat).toArray⟩) ∧ w' = w.drew.freeze ⟨g, 0, none⟩ ns.length := by
  have hl0 : ns.length ≠ 0 := by simpa using h0
  have c1 : w.drew.cell? ⟨b, 1, none⟩ = some (.slice (some ⟨g, 0, none⟩) ns.length cap) := c1
  have hSD : (Builtin.unsafeSliceData_ #[(q.t 37)] (q.t 127) #[.slice (some ⟨g, 0, none⟩) ns.length cap]).run P w.drew = .ok (.pointer (some ⟨g, 0, none⟩)) w.drew :=
    Lib.run_unsafeSliceData_row _ _ _ _ _ _ (by omega)
  have hUS : (Builtin.unsafeString_ #[(q.t 127), (q.t 3)] (q.t 9) #[.pointer (some ⟨g, 0, none⟩), .int .i64 ns.length]).run P w.drew = .ok (.string ⟨(ns.map fun x => UInt8.ofNat x.toNat).toArray⟩) (w.drew.freeze ⟨g, 0, none⟩ ns.length) := by
    refine run_unsafeStringI (w := w.drew) (q.t 127) (q.t 3) (q.t 9) (q.t 5) L.t127 X.cellsByte g cur.size (by have hg' : w.drew.heap[g]? = some (.cells cur (q.t 5) (0, 0)) := hg; simp [World.shape?, hg']) ns h0 hn h63 ?_
    intro j x hx
    have := hcell j x hx
    rw [show ((⟨g, 0, none⟩ : Addr).add j) = ⟨g, j, none⟩ by unfold Addr.add; split <;> simp_all]
    exact this
  have mixed := L.mixed
  have t72 := L.t72; have a72 := L.a72; have z72 := L.z72; have v72 := L.v72; have u72 := run_underlying L.t72
  have t70 := L.t70; have a70 := L.a70; have z70 := L.z70; have v70 := L.v70; have u70 := run_underlying L.t70
  have t37 := L.t37; have a37 := L.a37; have z37 := L.z37; have v37 := L.v37; have u37 := run_underlying L.t37
  have t127 := L.t127; have a127 := L.a127; have z127 := L.z127; have v127 := L.v127; have u127 := run_underlying L.t127
  have t3 := L.t3; have a3 := L.a3; have z3 := L.z3; have v3 := L.v3; have u3 := run_underlying L.t3
  have t9 := L.t9; have a9 := L.a9; have z9 := L.z9; have v9 := L.v9; have u9 := run_underlying L.t9
  have t5 := X.t5; have a5 := X.a5; have z5 := X.z5; have v5 := X.v5; have u5 := run_underlying X.t5
  go_enter L.f169, Body.n169_ntmps q
  go_wp2
  go_region_o
  all_goals (go_wp2; go_ret; exact ⟨rfl, rfl⟩)

theorem run_unsafeString0 {w : World} (pt it ty : TypeId) (p : Option Addr) : (Builtin.unsafeString_ #[pt, it] ty #[.pointer p, .int .i64 0]).run P w = .ok (.string .empty) w := by
  cases p with
  | none => rfl
  | some a => rfl

set_option maxHeartbeats 1000000 in
set_option maxRecDepth 100000 in
theorem bdString_none (L : Lays.n169 P q) (X : Builder.Extra P q) (b : Nat) (w : World) (c1 : w.cell? ⟨b, 1, none⟩ = some (.slice none 0 0)) :
    Calls P (q.f 169) #[.pointer (some ⟨b, 0, none⟩)] w fun e w' => e = .returned (.string .empty) ∧ w' = w.drew := by
  have c1 : w.drew.cell? ⟨b, 1, none⟩ = some (.slice none 0 0) := c1
  have hSD : (Builtin.unsafeSliceData_ #[(q.t 37)] (q.t 127) #[.slice none 0 0]).run P w.drew = .ok (.pointer none) w.drew := rfl
  have hUS := run_unsafeString0 (P := P) (w := w.drew) (q.t 127) (q.t 3) (q.t 9) none
  have mixed := L.mixed
  have t72 := L.t72; have a72 := L.a72; have z72 := L.z72; have v72 := L.v72; have u72 := run_underlying L.t72
  have t70 := L.t70; have a70 := L.a70; have z70 := L.z70; have v70 := L.v70; have u70 := run_underlying L.t70
  have t37 := L.t37; have a37 := L.a37; have z37 := L.z37; have v37 := L.v37; have u37 := run_underlying L.t37
  have t127 := L.t127; have a127 := L.a127; have z127 := L.z127; have v127 := L.v127; have u127 := run_underlying L.t127
  have t3 := L.t3; have a3 := L.a3; have z3 := L.z3; have v3 := L.v3; have u3 := run_underlying L.t3
  have t9 := L.t9; have a9 := L.a9; have z9 := L.z9; have v9 := L.v9; have u9 := run_underlying L.t9
  have t5 := X.t5; have a5 := X.a5; have z5 := X.z5; have v5 := X.v5; have u5 := run_underlying X.t5
  go_enter L.f169, Body.n169_ntmps q
  go_wp2
  go_region_o
  all_goals (go_wp2; go_ret; exact ⟨rfl, rfl⟩)

theorem Fr.freeze {S : Nat → Prop} (w : World) (g n : Nat) (hg : S g) : Fr S w (w.drew.freeze ⟨g, 0, none⟩ n) := by
  refine (Fr.drew S w _).trans (b := w.drew) (S' := S) ?_ (fun x hx => .inl hx)
  unfold World.freeze
  split
  · exact Fr.refl _ _
  · exact ⟨rfl, rfl, rfl, by simp, fun k hk hs => by
      simp only [Array.getElem?_modify]
      rw [if_neg (by intro h; exact hs (h ▸ hg))]⟩

def twoOf : Tr → Option (Tr × Tr)
  | .tc a (.tc b .t0) => some (a, b)
  | _ => none
theorem twoOf_ok {t a b : Tr} (h : twoOf t = some (a, b)) : t = .tc a (.tc b .t0) := by
  unfold twoOf at h
  split at h
  · cases h; rfl
  · cases h

def bldCk (TB : Nat) : Summ := fun args H =>
  match args with
  | [.v (.vp l mem [])] => do
    chk (Nat.beq (mem []) 0)
    let e ← opt (look H l)
    chk e.own
    chk e.fam.isNone
    chk (Nat.beq e.wid (boxed 2 TB))
    let (a, v) ← opt (twoOf e.t)
    match a with
    | .vp0 => do
      chk v.leaf
      pure ⟨.tup [], [{ e with t := .tc (.vp l (fun _ => 0) []) (.tc v .t0) }], [], [l]⟩
    | .vp l' m' [] => do
      chk (Nat.beq l' l)
      chk (Nat.beq (m' []) 0)
      pure ⟨.tup [], [], [], [l]⟩
    | _ => M.fail
  | _ => M.fail

theorem leaf_one {ρ : Con} {v : Tr} (h : v.leaf = true) : v.cells ρ [] = [v.val ρ []] := by
  cases v <;> first | rfl | (simp [Tr.leaf] at h)

theorem boxed_at {L : Loc} {wid : Nat} {cells : List Value} {w : World} {sz T : Nat} (h : Lies L true wid cells w) (hne : cells ≠ []) (hw : wid = boxed sz T) (hs : sz < 1000000) :
    L.isNil = false ∧ L.base = 0 ∧ L.blk < w.heap.size ∧ ∃ c, w.heap[L.blk]? = some (.cells c T (0, 0)) ∧ c.size = sz := by
  have hn : L.isNil = false := by
    cases hq : L.isNil with
    | false => rfl
    | true => exact absurd (h.2.1 hq) hne
  obtain ⟨g2, g3, g4⟩ := (h.2.2 hn).2.2.1 rfl
  have hwl : L.wid = wid := h.1.2 (by rw [hw]; unfold boxed; omega)
  obtain ⟨a1, c, a2, a3⟩ := g4 (2 * T) (by rw [hwl, hw]; unfold boxed; omega)
  refine ⟨hn, a1, g2, c, by rw [a2, show 2 * T / 2 = T by omega], ?_⟩
  rw [a3, if_pos (by omega), hwl, hw, wd_boxed hs]; omega

theorem tagged_at {L : Loc} {wid : Nat} {cells : List Value} {w : World} {sz T : Nat} (h : Lies L true wid cells w) (hne : cells ≠ []) (hw : wid = tagged sz T) (hs : sz < 1000000) :
    L.isNil = false ∧ L.base = 0 ∧ L.blk < w.heap.size ∧ ∃ c, w.heap[L.blk]? = some (.cells c T (0, 0)) ∧ c.size = L.room * sz := by
  have hn : L.isNil = false := by
    cases hq : L.isNil with
    | false => rfl
    | true => exact absurd (h.2.1 hq) hne
  obtain ⟨g2, g3, g4⟩ := (h.2.2 hn).2.2.1 rfl
  have hwl : L.wid = wid := h.1.2 (by rw [hw]; unfold tagged; omega)
  obtain ⟨a1, c, a2, a3⟩ := g4 (2 * T + 1) (by rw [hwl, hw]; unfold tagged; omega)
  refine ⟨hn, a1, g2, c, by rw [a2, show (2 * T + 1) / 2 = T by omega], ?_⟩
  rw [a3, if_neg (by omega), hwl, hw, wd_tagged hs]

theorem bldCk_ok (L : Lays.n240 P q) (X : Builder.X72 P q) : ∀ args H x e d y, bldCk (q.t 72) args H x = .ok e d y → OkL d → (∀ a ∈ args, ∀ l ∈ a.labs, l < x.nl) → WFh (look H) x.nl → gtop P ≤ x.nl → CallOK P (q.f 240) args H x.nl e y.nl := by
  intro args H x e d y h hd hal hwf hg
  unfold bldCk at h
  split at h
  · rename_i l mem
    obtain ⟨_, c1, y1, c2, h1, h2, rfl⟩ := bind_ok h
    obtain ⟨hm0, rfl, rfl⟩ := chk_ok h1
    have hm0 := Nat.eq_of_beq_eq_true hm0
    obtain ⟨en, c1, y1, c3, h1, h3, rfl⟩ := bind_ok h2
    obtain ⟨hl, rfl, rfl⟩ := opt_ok h1
    obtain ⟨_, c1, y1, c4, h1, h4, rfl⟩ := bind_ok h3
    obtain ⟨hown, rfl, rfl⟩ := chk_ok h1
    obtain ⟨_, c1, y1, c5, h1, h5, rfl⟩ := bind_ok h4
    obtain ⟨hfam, rfl, rfl⟩ := chk_ok h1
    have hfam : en.fam = none := by simpa using hfam
    obtain ⟨_, c1, y1, c6, h1, h6, rfl⟩ := bind_ok h5
    obtain ⟨hwid, rfl, rfl⟩ := chk_ok h1
    have hwid := Nat.eq_of_beq_eq_true hwid
    have hlab := look_lab hl
    have hho : ∀ (ρ : Con) (w : World), en.holds ρ w → Lies (ρ l 0) true en.wid (en.t.cells ρ []) w := fun ρ w hh => by
      unfold Ent.holds at hh
      simp only [hfam] at hh
      rw [hlab, hown] at hh
      exact hh
    obtain ⟨⟨pa, v⟩, c1, y1, c7, h1, h6, rfl⟩ := bind_ok h6
    obtain ⟨ht, rfl, rfl⟩ := opt_ok h1
    have ht := twoOf_ok ht
    simp only at h6
    split at h6
    · obtain ⟨_, c1, y1, c7, h1, h7, rfl⟩ := bind_ok h6
      obtain ⟨hv, rfl, rfl⟩ := chk_ok h1
      obtain ⟨rfl, rfl, rfl⟩ := pure_ok h7
      refine ⟨Nat.le_refl _, fun ρ w av hlen hav hG hHp => ?_⟩
      have hL := hho ρ w (hHp.hp l (by simp) en hl)
      rw [ht] at hL
      simp only [Tr.cells, leaf_one hv, List.append_nil, List.singleton_append] at hL
      obtain ⟨hn, hb, hlt, c, hc, hcs⟩ := boxed_at hL (by simp) hwid (by omega)
      have hc0 := (hL.2.2 hn).1 0 _ rfl
      rw [hb] at hc0
      match av, hlen with
      | [v0], _ =>
        have e0 := hav 0 _ v0 rfl rfl rfl
        subst e0
        have hval : SV.val ρ (.v (.vp l mem [])) = .pointer (some ⟨(ρ l 0).blk, 0, none⟩) := by simp [SV.val, Tr.val, hm0, hb, offs]
        have hfz : w.frozen? ⟨(ρ l 0).blk, 0, none⟩ = false := by simp [World.frozen?, hc]
        have key := Any.Builder_copyCheck_fresh L X (ρ l 0).blk w hc0 (by simp [World.shape?, hc, hcs]) hfz
        show Calls P (q.f 240) #[SV.val ρ (.v (.vp l mem []))] w _
        rw [hval]
        refine key.mono ?_
        rintro e w' ⟨rfl, rfl⟩
        have htouch : Touch ρ H ⟨.tup [], [{ en with t := .tc (.vp l (fun _ => 0) []) (.tc v .t0) }], [], [l]⟩ (ρ l 0).blk :=
          ⟨l, en, hl, hown, by simp, .inl (by simp [hlab]), ⟨0, by simp [hfam], by rw [hlab]; exact hn, .inl hown, by rw [hlab]⟩⟩
        refine ⟨ρ, _, rfl, fun _ => rfl, fun _ _ => rfl, ?_, Fr.setCells w (ρ l 0).blk 0 [.pointer (some ⟨(ρ l 0).blk, 0, none⟩)] htouch, ?_, SepL.single _ _⟩
        · intro z hz
          simp only [List.mem_singleton] at hz
          subst hz
          unfold Ent.holds
          simp only [hfam, hlab, hown]
          have := Lies.store (pre := []) (mid := [.pointer none]) (post := [v.val ρ []]) (new := [.pointer (some ⟨(ρ l 0).blk, 0, none⟩)]) (by simpa [Tr.val] using hL) hn rfl rfl
          simp only [Nat.add_zero, hb] at this
          simp only [Tr.cells, leaf_one hv, Tr.val, offs, hb, Nat.add_zero, List.append_nil]
          exact this
        · intro z hz k hk
          simp only [List.mem_singleton] at hz
          subst hz
          left
          obtain ⟨m, hm, _, _, h3⟩ := hk
          simp only [hfam] at hm
          subst hm
          simp only [hlab] at h3
          rw [← h3]; exact htouch
    · rename_i l' m' _
      obtain ⟨_, c1, y1, c7, h1, h7, rfl⟩ := bind_ok h6
      obtain ⟨hl', rfl, rfl⟩ := chk_ok h1
      obtain rfl := Nat.eq_of_beq_eq_true hl'
      obtain ⟨_, c1, y1, c8, h1, h8, rfl⟩ := bind_ok h7
      obtain ⟨hm', rfl, rfl⟩ := chk_ok h1
      have hm' := Nat.eq_of_beq_eq_true hm'
      obtain ⟨rfl, rfl, rfl⟩ := pure_ok h8
      refine ⟨Nat.le_refl _, fun ρ w av hlen hav hG hHp => ?_⟩
      have hL := hho ρ w (hHp.hp l' (by simp) en hl)
      rw [ht] at hL
      simp only [Tr.cells, List.append_nil, List.singleton_append] at hL
      obtain ⟨hn, hb, hlt, c, hc, hcs⟩ := boxed_at hL (by simp) hwid (by omega)
      have hc0 := (hL.2.2 hn).1 0 _ rfl
      rw [hb] at hc0
      simp only [Tr.val, hm', hb, offs, Nat.add_zero] at hc0
      match av, hlen with
      | [v0], _ =>
        have e0 := hav 0 _ v0 rfl rfl rfl
        subst e0
        have hval : SV.val ρ (.v (.vp l' mem [])) = .pointer (some ⟨(ρ l' 0).blk, 0, none⟩) := by simp [SV.val, Tr.val, hm0, hb, offs]
        have key := Any.Builder_copyCheck_used L X (ρ l' 0).blk w hc0
        show Calls P (q.f 240) #[SV.val ρ (.v (.vp l' mem []))] w _
        rw [hval]
        refine key.mono ?_
        rintro e w' ⟨rfl, rfl⟩
        exact ⟨ρ, _, rfl, fun _ => rfl, fun _ _ => rfl, fun x hx => (by cases hx), Fr.refl _ _, fun x hx => (by cases hx), fun x hx => by cases hx⟩
    · exact (fail_ok h6).elim
  · exact (fail_ok h).elim

def byteRow : Tr → Option (Nat × (Ix → Int))
  | .ta n (.vi .u8 f) => some (n, f)
  | _ => none
theorem byteRow_ok {t : Tr} {n : Nat} {f : Ix → Int} (h : byteRow t = some (n, f)) : t = .ta n (.vi .u8 f) := by
  unfold byteRow at h
  split at h
  · cases h; rfl
  · cases h

def bldStr (TB TU : Nat) : Summ := fun args H =>
  match args with
  | [.v (.vp l mem [])] => do
    chk (Nat.beq (mem []) 0)
    let e ← opt (look H l)
    chk e.own
    chk e.fam.isNone
    chk (Nat.beq e.wid (boxed 2 TB))
    let (p, v) ← opt (twoOf e.t)
    match v with
    | .vl0 => do
      chk p.leaf
      pure ⟨.v (.vs fun _ => []), [], [], [l]⟩
    | .vl g gm sz [] len => do
      chk p.leaf
      chk (Nat.beq sz 1)
      chk (Nat.beq (gm []) 0)
      let r ← opt (look H g)
      chk r.own
      chk r.fam.isNone
      chk (Nat.beq r.wid (tagged 1 TU))
      chk (!Nat.beq g l)
      let (n, f) ← opt (byteRow r.t)
      need (Nat.blt 0 (len []))
      need (Nat.ble (len []) n)
      need (Nat.ble n 1000000)
      pure ⟨.v (.vs fun _ => bytesOf f [] 0 (len [])), [], [g], [l, g]⟩
    | _ => M.fail
  | _ => M.fail

theorem bldStr_ok (L : Lays.n169 P q) (X : Builder.Extra P q) : ∀ args H x e d y, bldStr (q.t 72) (q.t 5) args H x = .ok e d y → OkL d → (∀ a ∈ args, ∀ l ∈ a.labs, l < x.nl) → WFh (look H) x.nl → gtop P ≤ x.nl → CallOK P (q.f 169) args H x.nl e y.nl := by
  intro args H x e d y h hd hal hwf hg
  unfold bldStr at h
  split at h
  · rename_i l mem
    obtain ⟨_, c1, y1, c2, h1, h2, rfl⟩ := bind_ok h
    obtain ⟨hm0, rfl, rfl⟩ := chk_ok h1
    have hm0 := Nat.eq_of_beq_eq_true hm0
    obtain ⟨en, c1, y1, c3, h1, h3, rfl⟩ := bind_ok h2
    obtain ⟨hl, rfl, rfl⟩ := opt_ok h1
    obtain ⟨_, c1, y1, c4, h1, h4, rfl⟩ := bind_ok h3
    obtain ⟨hown, rfl, rfl⟩ := chk_ok h1
    obtain ⟨_, c1, y1, c5, h1, h5, rfl⟩ := bind_ok h4
    obtain ⟨hfam, rfl, rfl⟩ := chk_ok h1
    have hfam : en.fam = none := by simpa using hfam
    obtain ⟨_, c1, y1, c6, h1, h5, rfl⟩ := bind_ok h5
    obtain ⟨ewid, rfl, rfl⟩ := chk_ok h1
    have ewid := Nat.eq_of_beq_eq_true ewid
    have hlab := look_lab hl
    obtain ⟨⟨p, v⟩, c1, y1, c7, h1, h5, rfl⟩ := bind_ok h5
    obtain ⟨ht, rfl, rfl⟩ := opt_ok h1
    have ht := twoOf_ok ht
    simp only at h5
    split at h5
    · obtain ⟨_, c1, y1, c6, h1, h6, rfl⟩ := bind_ok h5
      obtain ⟨hp, rfl, rfl⟩ := chk_ok h1
      obtain ⟨rfl, rfl, rfl⟩ := pure_ok h6
      refine ⟨by omega, fun ρ w av hlen hav hG hHp => ?_⟩
      have hL : Lies (ρ l 0) true en.wid (en.t.cells ρ []) w := by
        have hh := hHp.hp l (by simp) en hl
        unfold Ent.holds at hh
        simp only [hfam] at hh
        rw [hlab, hown] at hh
        exact hh
      rw [ht] at hL
      simp only [Tr.cells, leaf_one hp, List.append_nil, List.singleton_append] at hL
      have hnb : (ρ l 0).isNil = false := by
        cases hq : (ρ l 0).isNil with
        | false => rfl
        | true => have := hL.2.1 hq; simp at this
      have hc1 := (hL.2.2 hnb).1 1 _ rfl
      match av, hlen with
      | [v0], _ =>
        have e0 := hav 0 _ v0 rfl rfl rfl
        subst e0
        have hval : SV.val ρ (.v (.vp l mem [])) = .pointer (some ⟨(ρ l 0).blk, (ρ l 0).base, none⟩) := by simp [SV.val, Tr.val, hm0, offs]
        show Calls P (q.f 169) #[SV.val ρ (.v (.vp l mem []))] w _
        have hbb : (ρ l 0).base = 0 := (boxed_at hL (by simp) ewid (by omega)).2.1
        rw [hval, hbb]
        rw [hbb, Nat.zero_add] at hc1
        refine (bdString_none L X (ρ l 0).blk w hc1).mono ?_
        rintro e w' ⟨rfl, rfl⟩
        exact ⟨ρ, _, rfl, fun _ => rfl, fun _ _ => rfl, fun x hx => (by cases hx), Fr.drew _ w _, fun x hx => (by cases hx), fun x hx => by cases hx⟩
    · rename_i g gm sz len _
      obtain ⟨_, c1, y1, c6, h1, h6, rfl⟩ := bind_ok h5
      obtain ⟨hp, rfl, rfl⟩ := chk_ok h1
      obtain ⟨_, c1, y1, c7, h1, h7, rfl⟩ := bind_ok h6
      obtain ⟨hsz, rfl, rfl⟩ := chk_ok h1
      obtain rfl := Nat.eq_of_beq_eq_true hsz
      obtain ⟨_, c1, y1, c8, h1, h8, rfl⟩ := bind_ok h7
      obtain ⟨hgm, rfl, rfl⟩ := chk_ok h1
      have hgm := Nat.eq_of_beq_eq_true hgm
      obtain ⟨r, c1, y1, c9, h1, h9, rfl⟩ := bind_ok h8
      obtain ⟨hr, rfl, rfl⟩ := opt_ok h1
      obtain ⟨_, c1, y1, c10, h1, h10, rfl⟩ := bind_ok h9
      obtain ⟨rown, rfl, rfl⟩ := chk_ok h1
      obtain ⟨_, c1, y1, c11, h1, h11, rfl⟩ := bind_ok h10
      obtain ⟨rfam, rfl, rfl⟩ := chk_ok h1
      have rfam : r.fam = none := by simpa using rfam
      obtain ⟨_, c1, y1, c12, h1, h12, rfl⟩ := bind_ok h11
      obtain ⟨rwid, rfl, rfl⟩ := chk_ok h1
      have rwid := Nat.eq_of_beq_eq_true rwid
      obtain ⟨_, c1, y1, c13, h1, h13, rfl⟩ := bind_ok h12
      obtain ⟨hgl, rfl, rfl⟩ := chk_ok h1
      have rlab := look_lab hr
      obtain ⟨⟨n, f⟩, c1, y1, c14, h1, h13, rfl⟩ := bind_ok h13
      obtain ⟨rt, rfl, rfl⟩ := opt_ok h1
      have rt := byteRow_ok rt
      simp only at h13
      obtain ⟨_, c14, y14, c15, h14, h15, rfl⟩ := bind_ok h13
      obtain ⟨k1, hn1⟩ := need_ok h14
      obtain ⟨_, c16, y16, c17, h16, h17, rfl⟩ := bind_ok h15
      obtain ⟨k2, hn2⟩ := need_ok h16
      obtain ⟨_, c18, y18, c19, h18, h19, rfl⟩ := bind_ok h17
      obtain ⟨k3, hn3⟩ := need_ok h18
      obtain ⟨rfl, rfl, rfl⟩ := pure_ok h19
      simp only [OkL_append] at hd
      have k1 : 0 < len [] := by simpa [Nat.blt_eq] using k1 (by simp_all)
      have k2 : len [] ≤ n := by simpa [Nat.ble_eq] using k2 (by simp_all)
      have k3 : n ≤ 1000000 := by simpa [Nat.ble_eq] using k3 (by simp_all)
      refine ⟨by omega, fun ρ w av hlen hav hG hHp => ?_⟩
      have hL : Lies (ρ l 0) true en.wid (en.t.cells ρ []) w := by
        have hh := hHp.hp l (by simp) en hl
        unfold Ent.holds at hh
        simp only [hfam] at hh
        rw [hlab, hown] at hh
        exact hh
      have hR : Lies (ρ g 0) true r.wid (r.t.cells ρ []) w := by
        have hh := hHp.hp g (by simp) r hr
        unfold Ent.holds at hh
        simp only [rfam] at hh
        rw [rlab, rown] at hh
        exact hh
      rw [ht] at hL
      rw [rt] at hR
      simp only [Tr.cells, leaf_one hp, List.append_nil, List.singleton_append] at hL
      rw [bytes_cells] at hR
      have hne : (List.map (fun i => Value.int .u8 (f ([] ++ [i]))) (List.range n)) ≠ [] := by
        intro h; have := congrArg List.length h; simp at this; omega
      obtain ⟨hn, hb, hlt, c, hc, hcs⟩ := tagged_at hR hne rwid (by omega)
      have hroom : n ≤ (ρ g 0).room := by
        have := (hR.2.2 hn).2.1
        rw [hR.1.1, rwid, wd_tagged (by omega)] at this
        simpa using this
      have hnb : (ρ l 0).isNil = false := by
        cases hq : (ρ l 0).isNil with
        | false => rfl
        | true => have := hL.2.1 hq; simp at this
      have hc1 := (hL.2.2 hnb).1 1 _ rfl
      simp only [Tr.val, hgm, hn, rsOf, sum, hb, Nat.zero_mul, Nat.add_zero, Nat.sub_zero, Bool.false_eq_true, if_false] at hc1
      match av, hlen with
      | [v0], _ =>
        have e0 := hav 0 _ v0 rfl rfl rfl
        subst e0
        have hnl : ((List.range (len [])).map fun j => f ([] ++ [0 + j])).length = len [] := by simp
        have hval : SV.val ρ (.v (.vp l mem [])) = .pointer (some ⟨(ρ l 0).blk, (ρ l 0).base, none⟩) := by simp [SV.val, Tr.val, hm0, offs]
        show Calls P (q.f 169) #[SV.val ρ (.v (.vp l mem []))] w _
        have hbb : (ρ l 0).base = 0 := (boxed_at hL (by simp) ewid (by omega)).2.1
        rw [hval, hbb]
        rw [hbb, Nat.zero_add] at hc1
        have key := bdString_some L X (ρ l 0).blk (ρ g 0).blk (ρ g 0).room ((List.range (len [])).map fun j => f ([] ++ [0 + j])) c w (by rw [hnl]; exact hc1) hc (by rw [hnl, hcs]; omega) (by rw [hnl]; omega) (by rw [hnl]; omega)
          (by intro h; have := congrArg List.length h; simp at this; omega) (fun j x hx => by
            have hj : j < len [] := by
              have := (List.getElem?_eq_some_iff.1 hx).1
              simpa using this
            have hx' : x = f [j] := by
              rw [List.getElem?_map, List.getElem?_range hj] at hx
              simpa using hx.symm
            have := (hR.2.2 hn).1 j (.int .u8 (f [j])) (by rw [List.getElem?_map, List.getElem?_range (by omega)]; simp)
            rw [hb, Nat.zero_add] at this
            rw [hx']; exact this)
        refine key.mono ?_
        rintro e w' ⟨rfl, rfl⟩
        have htouch : Touch ρ H ⟨.v (.vs fun _ => bytesOf f [] 0 (len [])), [], [g], [l, g]⟩ (ρ g 0).blk :=
          ⟨g, r, hr, rown, by simp, .inr (by simp), ⟨0, by simp [rfam], by rw [rlab]; exact hn, .inl rown, by rw [rlab]⟩⟩
        refine ⟨ρ, _, rfl, fun _ => ?_, fun _ _ => rfl, fun x hx => (by cases hx), Fr.freeze w _ _ htouch, fun x hx => (by cases hx), fun x hx => by cases hx⟩
        simp [SV.val, Tr.val, bytesOf, Function.comp_def]
    · exact (fail_ok h5).elim
  · exact (fail_ok h).elim

end Go.Sx
