/- Errors: what errors.Is answers of two errors of package api. -/
import Derived.Test.YtealbjkhjpmilaaDoorRows
import Derived.Test.YtealbjkhjpmilaaDoorSyX
import Derived.WalkKit
import Derived.LaidEql
import Derived.Stop.Asserts
import Derived.RowKitTokens
set_option linter.unusedSimpArgs false
set_option linter.unusedVariables false
set_option maxRecDepth 100000
namespace Go.Proofs.YtealbjkhjpmilaaDoor
open Go.RowKit Go.Extern.Stop Go.Stop Go.Extern

/-! ### CLOSED FACTS: what 'reflectlite.TypeOf(target).Comparable()' gives at such a target -/
theorem es_isTypeOf (v : Value) (w : World) : (Extern.ReflectliteType.typeOf #[.iface 223 v]).run Tryd.prog w = .ok (.iface 190 (.agg #[.pointer (some ⟨25, 223, none⟩)])) w := by kernel_rfl
theorem es_isComparable (w : World) : ((Extern.ReflectliteType.method fun t => do Rtype.noPackHeld "Comparable" t; (fun a => Value.bool a.comparable) <$> typeInfo t) #[.agg #[.pointer (some ⟨25, 223, none⟩)]]).run Tryd.prog w = .ok (.bool true) w := by kernel_rfl
theorem es_isMethodComparable (v : Value) (w : World) : (Go.method 367 190 v "Comparable").run Tryd.prog w = .ok (173, v) w := by kernel_rfl
theorem es_isComp : (Tryd.prog.info? 223).map (·.comparable) = some true := by kernel_rfl
theorem es_isSize : (Tryd.prog.info? 225).map (·.size) = some 1 := by kernel_rfl

/-! ### CLOSED FACTS ON THE METHOD SETS: what errors.is's assertions find -/
theorem es_noIsE (v : Value) (xT : TypeId) (w : World) : (Instr.typeAssert (.iface 223 v) xT 192 true).run Tryd.prog w = .ok (.tuple #[.nilIface, .bool false]) w := run_typeAssert_lacksB Tryd.underlying192 (by kernel_rfl) (by kernel_rfl) v xT w
theorem es_noUnwrapE (v : Value) (xT : TypeId) (w : World) : (Instr.typeAssert (.iface 223 v) xT 195 true).run Tryd.prog w = .ok (.tuple #[.nilIface, .bool false]) w := run_typeAssert_lacksB Tryd.underlying195 (by kernel_rfl) (by kernel_rfl) v xT w
theorem es_noUnwrapsE (v : Value) (xT : TypeId) (w : World) : (Instr.typeAssert (.iface 223 v) xT 197 true).run Tryd.prog w = .ok (.tuple #[.nilIface, .bool false]) w := run_typeAssert_lacksB Tryd.underlying197 (by kernel_rfl) (by kernel_rfl) v xT w

/-- errors.Is(x, x), x a pointer to an errors.errorString. -/
theorem is_same (a : Addr) (w : World) :
    Calls Tryd.prog 78 #[.iface 223 (.pointer (some a)), .iface 223 (.pointer (some a))] w fun e w' => e = .returned (.bool true) ∧ w' = w := by
  obtain ⟨i, hi, hcmp⟩ := Option.map_eq_some_iff.1 es_isComp
  obtain ⟨j, hj, hjs⟩ := Option.map_eq_some_iff.1 es_isSize
  have h8 := @run_callFunc_extern Tryd.prog 104 _ Extern.ReflectliteType.typeOf Tryd.func104 (by kernel_rfl) (by kernel_rfl) (by kernel_rfl) (by kernel_rfl)
  have h32 := @run_callFunc_extern Tryd.prog 173 _ (Extern.ReflectliteType.method fun t => do Rtype.noPackHeld "Comparable" t; pure (.bool (← typeInfo t).comparable)) Tryd.func173 (by kernel_rfl) (by kernel_rfl) (by kernel_rfl) (by kernel_rfl)
  have tT := es_isTypeOf
  have cT := es_isComparable
  have mR := es_isMethodComparable
  have heq := run_eql_iface_ptr_same (P := Tryd.prog) w a Tryd.underlying31 Tryd.underlying223 hi hcmp hj
  go_enter Tryd.func78, Tryd.ntmps78
  go_wp2
  refine wp_loop_rounds 1 ?_
  rw [rounds_succ]
  go_wp2
  go_ret
  exact ⟨rfl, rfl⟩

/-- errors.Is(x, y), two different pointers to errors.errorString: neither has Is nor Unwrap: false. -/
theorem is_other (a b : Addr) (ca cb : Array Value) (ta tb : TypeId) (w : World) (hne : a ≠ b) (ha : w.heap[a.block]? = some (.cells ca ta (0, 0))) (hb : w.heap[b.block]? = some (.cells cb tb (0, 0))) :
    Calls Tryd.prog 78 #[.iface 223 (.pointer (some a)), .iface 223 (.pointer (some b))] w fun e w' => e = .returned (.bool false) ∧ w' = w := by
  obtain ⟨i, hi, hcmp⟩ := Option.map_eq_some_iff.1 es_isComp
  obtain ⟨j, hj, hjs⟩ := Option.map_eq_some_iff.1 es_isSize
  have h8 := @run_callFunc_extern Tryd.prog 104 _ Extern.ReflectliteType.typeOf Tryd.func104 (by kernel_rfl) (by kernel_rfl) (by kernel_rfl) (by kernel_rfl)
  have h32 := @run_callFunc_extern Tryd.prog 173 _ (Extern.ReflectliteType.method fun t => do Rtype.noPackHeld "Comparable" t; pure (.bool (← typeInfo t).comparable)) Tryd.func173 (by kernel_rfl) (by kernel_rfl) (by kernel_rfl) (by kernel_rfl)
  have tT := es_isTypeOf
  have cT := es_isComparable
  have mR := es_isMethodComparable
  have nE := es_noIsE
  have uE := es_noUnwrapE
  have vE := es_noUnwrapsE
  have heq := run_eql_iface_ptr_other (P := Tryd.prog) w Tryd.underlying31 Tryd.underlying223 hi hcmp hj (by rw [hjs]; decide) hne ha hb
  go_enter Tryd.func78, Tryd.ntmps78
  go_wp2
  refine wp_loop_rounds 1 ?_
  rw [rounds_succ]
  go_wp2
  go_ret
  exact ⟨rfl, rfl⟩


open Go.Sx

/-- A label of what an error points to, with an entry that tells something of it. -/
def errAt (H : List Ent) (l : Nat) (m : Ix → Nat) (p : List Stp) : M Unit := do
  chk (Nat.ble 25 l)
  chk (Nat.blt l 50)
  chk (Nat.beq (m []) 0)
  chk p.isEmpty
  let e ← opt (Sx.look H l)
  chk (noFam e.fam)
  chk (Nat.blt 0 e.t.size)

theorem errAt_ok {H : List Ent} {l : Nat} {m : Ix → Nat} {p : List Stp} {x y : Aux} {u : Unit} {d : Conds} (h : errAt H l m p x = .ok u d y) :
    d = [] ∧ x = y ∧ 25 ≤ l ∧ l < 50 ∧ m [] = 0 ∧ p = [] ∧ ∃ e, Sx.look H l = some e ∧ e.fam = none ∧ e.t.size ≠ 0 := by
  unfold errAt at h
  obtain ⟨e1, h⟩ := chk_bind h
  obtain ⟨e2, h⟩ := chk_bind h
  obtain ⟨e3, h⟩ := chk_bind h
  obtain ⟨e4, h⟩ := chk_bind h
  obtain ⟨e, he, h⟩ := opt_bind h
  obtain ⟨e5, h⟩ := chk_bind h
  obtain ⟨e6, h7, h8⟩ := chk_ok h
  refine ⟨h7, h8, by rwa [Nat.ble_eq] at e1, by rwa [Nat.blt_eq] at e2, Nat.eq_of_beq_eq_true e3, List.isEmpty_iff.1 e4, e, he, noFam_ok e5, ?_⟩
  rw [Nat.blt_eq] at e6
  omega

def isS : Summ := fun args H =>
  match args with
  | [.v (.ve t1 (.vp l1 m1 p1)), .v (.ve t2 (.vp l2 m2 p2))] => do
    chk (Nat.beq t1 223)
    chk (Nat.beq t2 223)
    errAt H l1 m1 p1
    errAt H l2 m2 p2
    pure ⟨.v (.vb fun _ => Nat.beq l1 l2), [], [], [l1, l2]⟩
  | _ => M.fail

theorem isS_ok : ∀ args H x e d y, isS args H x = .ok e d y → OkL d → (∀ a ∈ args, ∀ l ∈ a.labs, l < x.nl) → WFh (Sx.look H) x.nl → gtop Tryd.prog ≤ x.nl → CallOK Tryd.prog 78 args H x.nl e y.nl := by
  intro args H x e d y h hd h3 h4 h5
  unfold isS at h
  split at h
  · rename_i t1 l1 m1 p1 t2 l2 m2 p2
    obtain ⟨e1, h⟩ := chk_bind h
    obtain ⟨e2, h⟩ := chk_bind h
    have e1 := Nat.eq_of_beq_eq_true e1
    have e2 := Nat.eq_of_beq_eq_true e2
    obtain ⟨_, c1, y1, c2, g1, h6, hcc⟩ := bind_ok h
    obtain ⟨rfl, rfl, a1, a2, a3, a4, en1, a5, a6, a7⟩ := errAt_ok g1
    obtain ⟨_, c3, y3, c4, g2, h7, hcd⟩ := bind_ok h6
    obtain ⟨rfl, rfl, b1, b2, b3, b4, en2, b5, b6, b7⟩ := errAt_ok g2
    obtain ⟨rfl, rfl, rfl⟩ := pure_ok h7
    subst e1; subst e2; subst a4; subst b4
    refine ⟨Nat.le_refl _, fun ρ w av hlen hav hG hHp => ?_⟩
    match av, hlen with
    | [u, v], _ =>
      have hu := hav 0 _ u rfl rfl rfl
      have hv := hav 1 _ v rfl rfl rfl
      have hgs : Tryd.prog.globals.size = 25 := by kernel_rfl
      have thawed : ∀ (l : Nat) (en : Ent), 25 ≤ l → l < 50 → Sx.look H l = some en → en.fam = none → en.t.size ≠ 0 → l ∈ [l1, l2] → Thawed w (ρ l 0).blk := by
        intro l en k1 k2 k3 k4 k5 k6
        have hh := hHp.hp l k6 en k3
        unfold Ent.holds at hh
        simp only [k4] at hh
        rw [look_lab k3] at hh
        have ht := hG.thaw (l - 25) (by rw [hgs]; omega)
        rw [hgs, show 25 + (l - 25) = l by omega] at ht
        exact (hh.2.2 ht.2).2.2.2 ht.1 (by rw [Tr.cells_length]; exact k5)
      have vu : u = .iface 223 (.pointer (some ⟨(ρ l1 0).blk, (ρ l1 0).base, none⟩)) := by rw [hu]; simp [SV.val, Tr.val, offs, a3]
      have vv : v = .iface 223 (.pointer (some ⟨(ρ l2 0).blk, (ρ l2 0).base, none⟩)) := by rw [hv]; simp [SV.val, Tr.val, offs, b3]
      subst vu; subst vv
      have fin : ∀ {b : Bool}, b = Nat.beq l1 l2 → (Calls Tryd.prog 78 #[.iface 223 (.pointer (some ⟨(ρ l1 0).blk, (ρ l1 0).base, none⟩)), .iface 223 (.pointer (some ⟨(ρ l2 0).blk, (ρ l2 0).base, none⟩))] w fun e w' => e = .returned (.bool b) ∧ w' = w) →
          Calls Tryd.prog 78 #[.iface 223 (.pointer (some ⟨(ρ l1 0).blk, (ρ l1 0).base, none⟩)), .iface 223 (.pointer (some ⟨(ρ l2 0).blk, (ρ l2 0).base, none⟩))] w fun en w' => ∃ ρ' v, en = .returned v ∧ ((SV.v (.vb fun _ => Nat.beq l1 l2)).isJ = false → v = (SV.v (.vb fun _ => Nat.beq l1 l2)).val ρ') ∧ EffOK ρ ρ' x.nl x.nl H ⟨.v (.vb fun _ => Nat.beq l1 l2), [], [], [l1, l2]⟩ w w' := by
        intro b hb hc
        refine hc.mono fun en w' ⟨h1, h2⟩ => ⟨ρ, _, h1, fun _ => by rw [hb]; rfl, ?_⟩
        rw [h2]; exact EffOK.pure
      by_cases hl : l1 = l2
      · subst hl
        exact fin (b := true) (beqT rfl).symm (is_same _ w)
      · obtain ⟨c1, t1, q1⟩ := thawed l1 en1 a1 a2 a5 a6 a7 (by simp)
        obtain ⟨c2, t2, q2⟩ := thawed l2 en2 b1 b2 b5 b6 b7 (by simp)
        refine fin (b := false) (beqF hl).symm (is_other _ _ c1 c2 t1 t2 w ?_ q1 q2)
        intro he
        have := hG.apart (l1 - 25) (l2 - 25) (by rw [hgs]; omega) (by rw [hgs]; omega) (by omega)
        rw [hgs, show 25 + (l1 - 25) = l1 by omega, show 25 + (l2 - 25) = l2 by omega] at this
        simp only [Addr.mk.injEq, and_true] at he
        exact this he
  · exact (fail_ok h).elim

end Go.Proofs.YtealbjkhjpmilaaDoor
