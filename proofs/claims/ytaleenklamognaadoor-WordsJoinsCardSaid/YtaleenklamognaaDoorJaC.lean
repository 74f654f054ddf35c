/- Errors: what errors.Is answers of two errors of package api. -/
import Derived.Test.YtaleenklamognaaDoorRows
import Derived.Test.YtaleenklamognaaDoorSyX
import Derived.WalkKit
import Derived.LaidEql
import Derived.Stop.Asserts
import Derived.RowKitTokens
import Derived.Test.YtaleenklamognaaDoorSyKit
import Derived.Test.YtaleenklamognaaDoorSyPc
import Derived.Test.YtaleenklamognaaDoorSyPl
set_option linter.unusedSimpArgs false
set_option linter.unusedVariables false
set_option maxRecDepth 100000
namespace Go.Proofs.YtaleenklamognaaDoor
open Go.RowKit Go.Extern.Stop Go.Stop Go.Extern

/-! ### CLOSED FACTS: what 'reflectlite.TypeOf(target).Comparable()' gives at such a target -/
theorem es_isTypeOf (v : Value) (w : World) : (Extern.ReflectliteType.typeOf #[.iface 213 v]).run Tryd.prog w = .ok (.iface 164 (.agg #[.pointer (some ⟨23, 213, none⟩)])) w := by kernel_rfl
theorem es_isComparable (w : World) : ((Extern.ReflectliteType.method fun t => do Rtype.noPackHeld "Comparable" t; (fun a => Value.bool a.comparable) <$> typeInfo t) #[.agg #[.pointer (some ⟨23, 213, none⟩)]]).run Tryd.prog w = .ok (.bool true) w := by kernel_rfl
theorem es_isMethodComparable (v : Value) (w : World) : (Go.method 361 164 v "Comparable").run Tryd.prog w = .ok (202, v) w := by kernel_rfl
theorem es_isComp : (Tryd.prog.info? 213).map (·.comparable) = some true := by kernel_rfl
theorem es_isSize : (Tryd.prog.info? 215).map (·.size) = some 1 := by kernel_rfl

/-! ### CLOSED FACTS ON THE METHOD SETS: what errors.is's assertions find -/
theorem es_noIsE (v : Value) (xT : TypeId) (w : World) : (Instr.typeAssert (.iface 213 v) xT 166 true).run Tryd.prog w = .ok (.tuple #[.nilIface, .bool false]) w := run_typeAssert_lacksB Tryd.underlying166 (by kernel_rfl) (by kernel_rfl) v xT w
theorem es_noUnwrapE (v : Value) (xT : TypeId) (w : World) : (Instr.typeAssert (.iface 213 v) xT 169 true).run Tryd.prog w = .ok (.tuple #[.nilIface, .bool false]) w := run_typeAssert_lacksB Tryd.underlying169 (by kernel_rfl) (by kernel_rfl) v xT w
theorem es_noUnwrapsE (v : Value) (xT : TypeId) (w : World) : (Instr.typeAssert (.iface 213 v) xT 171 true).run Tryd.prog w = .ok (.tuple #[.nilIface, .bool false]) w := run_typeAssert_lacksB Tryd.underlying171 (by kernel_rfl) (by kernel_rfl) v xT w

/-- errors.Is(x, x), x a pointer to an errors.errorString. -/
theorem is_same (a : Addr) (w : World) :
    Calls Tryd.prog 59 #[.iface 213 (.pointer (some a)), .iface 213 (.pointer (some a))] w fun e w' => e = .returned (.bool true) ∧ w' = w := by
  obtain ⟨i, hi, hcmp⟩ := Option.map_eq_some_iff.1 es_isComp
  obtain ⟨j, hj, hjs⟩ := Option.map_eq_some_iff.1 es_isSize
  have h8 := @run_callFunc_extern Tryd.prog 96 _ Extern.ReflectliteType.typeOf Tryd.func96 (by kernel_rfl) (by kernel_rfl) (by kernel_rfl) (by kernel_rfl)
  have h32 := @run_callFunc_extern Tryd.prog 202 _ (Extern.ReflectliteType.method fun t => do Rtype.noPackHeld "Comparable" t; pure (.bool (← typeInfo t).comparable)) Tryd.func202 (by kernel_rfl) (by kernel_rfl) (by kernel_rfl) (by kernel_rfl)
  have tT := es_isTypeOf
  have cT := es_isComparable
  have mR := es_isMethodComparable
  have heq := run_eql_iface_ptr_same (P := Tryd.prog) w a Tryd.underlying25 Tryd.underlying213 hi hcmp hj
  go_enter Tryd.func59, Tryd.ntmps59
  go_wp2
  refine wp_loop_rounds 1 ?_
  rw [rounds_succ]
  go_wp2
  go_ret
  exact ⟨rfl, rfl⟩

/-- errors.Is(x, y), two different pointers to errors.errorString: neither has Is nor Unwrap: false. -/
theorem is_other (a b : Addr) (ca cb : Array Value) (ta tb : TypeId) (w : World) (hne : a ≠ b) (ha : w.heap[a.block]? = some (.cells ca ta (0, 0))) (hb : w.heap[b.block]? = some (.cells cb tb (0, 0))) :
    Calls Tryd.prog 59 #[.iface 213 (.pointer (some a)), .iface 213 (.pointer (some b))] w fun e w' => e = .returned (.bool false) ∧ w' = w := by
  obtain ⟨i, hi, hcmp⟩ := Option.map_eq_some_iff.1 es_isComp
  obtain ⟨j, hj, hjs⟩ := Option.map_eq_some_iff.1 es_isSize
  have h8 := @run_callFunc_extern Tryd.prog 96 _ Extern.ReflectliteType.typeOf Tryd.func96 (by kernel_rfl) (by kernel_rfl) (by kernel_rfl) (by kernel_rfl)
  have h32 := @run_callFunc_extern Tryd.prog 202 _ (Extern.ReflectliteType.method fun t => do Rtype.noPackHeld "Comparable" t; pure (.bool (← typeInfo t).comparable)) Tryd.func202 (by kernel_rfl) (by kernel_rfl) (by kernel_rfl) (by kernel_rfl)
  have tT := es_isTypeOf
  have cT := es_isComparable
  have mR := es_isMethodComparable
  have nE := es_noIsE
  have uE := es_noUnwrapE
  have vE := es_noUnwrapsE
  have heq := run_eql_iface_ptr_other (P := Tryd.prog) w Tryd.underlying25 Tryd.underlying213 hi hcmp hj (by rw [hjs]; decide) hne ha hb
  go_enter Tryd.func59, Tryd.ntmps59
  go_wp2
  refine wp_loop_rounds 1 ?_
  rw [rounds_succ]
  go_wp2
  go_ret
  exact ⟨rfl, rfl⟩


open Go.Sx

/-- A label of what an error points to, with an entry that tells something of it. -/
def errAt (H : List Ent) (l : Nat) (m : Ix → Nat) (p : List Stp) : M Unit := do
  chk (Nat.ble 23 l)
  chk (Nat.blt l 46)
  chk (Nat.beq (m []) 0)
  chk p.isEmpty
  let e ← opt (Sx.look H l)
  chk (noFam e.fam)
  chk (Nat.blt 0 e.t.size)

theorem errAt_ok {H : List Ent} {l : Nat} {m : Ix → Nat} {p : List Stp} {x y : Aux} {u : Unit} {d : Conds} (h : errAt H l m p x = .ok u d y) :
    d = [] ∧ x = y ∧ 23 ≤ l ∧ l < 46 ∧ m [] = 0 ∧ p = [] ∧ ∃ e, Sx.look H l = some e ∧ e.fam = none ∧ e.t.size ≠ 0 := by
  unfold errAt at h
  obtain ⟨e1, h⟩ := chk_bind h
  obtain ⟨e2, h⟩ := chk_bind h
  obtain ⟨e3, h⟩ := chk_bind h
  obtain ⟨e4, h⟩ := chk_bind h
  obtain ⟨e, he, h⟩ := opt_bind h
  obtain ⟨e5, h⟩ := chk_bind h
  obtain ⟨e6, h7, h8⟩ := chk_ok h
  refine ⟨h7, h8, by rwa [Nat.ble_eq] at e1, by rwa [Nat.blt_eq] at e2, Nat.eq_of_beq_eq_true e3, List.isEmpty_iff.1 e4, e, he, noFam_ok e5, ?_⟩
  rw [Nat.blt_eq] at e6
  omega

def isS : Summ := fun args H =>
  match args with
  | [.v (.ve t1 (.vp l1 m1 p1)), .v (.ve t2 (.vp l2 m2 p2))] => do
    chk (Nat.beq t1 213)
    chk (Nat.beq t2 213)
    errAt H l1 m1 p1
    errAt H l2 m2 p2
    pure ⟨.v (.vb fun _ => Nat.beq l1 l2), [], [], [l1, l2]⟩
  | _ => M.fail

theorem isS_ok : ∀ args H x e d y, isS args H x = .ok e d y → OkL d → (∀ a ∈ args, ∀ l ∈ a.labs, l < x.nl) → WFh (Sx.look H) x.nl → gtop Tryd.prog ≤ x.nl → CallOK Tryd.prog 59 args H x.nl e y.nl := by
  intro args H x e d y h hd h3 h4 h5
  unfold isS at h
  split at h
  · rename_i t1 l1 m1 p1 t2 l2 m2 p2
    obtain ⟨e1, h⟩ := chk_bind h
    obtain ⟨e2, h⟩ := chk_bind h
    have e1 := Nat.eq_of_beq_eq_true e1
    have e2 := Nat.eq_of_beq_eq_true e2
    obtain ⟨_, c1, y1, c2, g1, h6, hcc⟩ := bind_ok h
    obtain ⟨rfl, rfl, a1, a2, a3, a4, en1, a5, a6, a7⟩ := errAt_ok g1
    obtain ⟨_, c3, y3, c4, g2, h7, hcd⟩ := bind_ok h6
    obtain ⟨rfl, rfl, b1, b2, b3, b4, en2, b5, b6, b7⟩ := errAt_ok g2
    obtain ⟨rfl, rfl, rfl⟩ := pure_ok h7
    subst e1; subst e2; subst a4; subst b4
    refine ⟨Nat.le_refl _, fun ρ w av hlen hav hG hHp => ?_⟩
    match av, hlen with
    | [u, v], _ =>
      have hu := hav 0 _ u rfl rfl rfl
      have hv := hav 1 _ v rfl rfl rfl
      have hgs : Tryd.prog.globals.size = 23 := by kernel_rfl
      have thawed : ∀ (l : Nat) (en : Ent), 23 ≤ l → l < 46 → Sx.look H l = some en → en.fam = none → en.t.size ≠ 0 → l ∈ [l1, l2] → Thawed w (ρ l 0).blk := by
        intro l en k1 k2 k3 k4 k5 k6
        have hh := hHp.hp l k6 en k3
        unfold Ent.holds at hh
        simp only [k4] at hh
        rw [look_lab k3] at hh
        have ht := hG.thaw (l - 23) (by rw [hgs]; omega)
        rw [hgs, show 23 + (l - 23) = l by omega] at ht
        exact (hh.2.2 ht.2).2.2.2 ht.1 (by rw [Tr.cells_length]; exact k5)
      have vu : u = .iface 213 (.pointer (some ⟨(ρ l1 0).blk, (ρ l1 0).base, none⟩)) := by rw [hu]; simp [SV.val, Tr.val, offs, a3]
      have vv : v = .iface 213 (.pointer (some ⟨(ρ l2 0).blk, (ρ l2 0).base, none⟩)) := by rw [hv]; simp [SV.val, Tr.val, offs, b3]
      subst vu; subst vv
      have fin : ∀ {b : Bool}, b = Nat.beq l1 l2 → (Calls Tryd.prog 59 #[.iface 213 (.pointer (some ⟨(ρ l1 0).blk, (ρ l1 0).base, none⟩)), .iface 213 (.pointer (some ⟨(ρ l2 0).blk, (ρ l2 0).base, none⟩))] w fun e w' => e = .returned (.bool b) ∧ w' = w) →
          Calls Tryd.prog 59 #[.iface 213 (.pointer (some ⟨(ρ l1 0).blk, (ρ l1 0).base, none⟩)), .iface 213 (.pointer (some ⟨(ρ l2 0).blk, (ρ l2 0).base, none⟩))] w fun en w' => ∃ ρ' v, en = .returned v ∧ ((SV.v (.vb fun _ => Nat.beq l1 l2)).isJ = false → v = (SV.v (.vb fun _ => Nat.beq l1 l2)).val ρ') ∧ EffOK ρ ρ' x.nl x.nl H ⟨.v (.vb fun _ => Nat.beq l1 l2), [], [], [l1, l2]⟩ w w' := by
        intro b hb hc
        refine hc.mono fun en w' ⟨h1, h2⟩ => ⟨ρ, _, h1, fun _ => by rw [hb]; rfl, ?_⟩
        rw [h2]; exact EffOK.pure
      by_cases hl : l1 = l2
      · subst hl
        exact fin (b := true) (beqT rfl).symm (is_same _ w)
      · obtain ⟨c1, t1, q1⟩ := thawed l1 en1 a1 a2 a5 a6 a7 (by simp)
        obtain ⟨c2, t2, q2⟩ := thawed l2 en2 b1 b2 b5 b6 b7 (by simp)
        refine fin (b := false) (beqF hl).symm (is_other _ _ c1 c2 t1 t2 w ?_ q1 q2)
        intro he
        have := hG.apart (l1 - 23) (l2 - 23) (by rw [hgs]; omega) (by rw [hgs]; omega) (by omega)
        rw [hgs, show 23 + (l1 - 23) = l1 by omega, show 23 + (l2 - 23) = l2 by omega] at this
        simp only [Addr.mk.injEq, and_true] at he
        exact this he
  · exact (fail_ok h).elim

end Go.Proofs.YtaleenklamognaaDoor

set_option linter.unusedSimpArgs false
set_option linter.unusedVariables false
set_option maxRecDepth 100000
namespace Go.Proofs.YtaleenklamognaaDoor
open Go.Sx

def errG : List Nat := [0, 1, 2, 3, 4, 5, 6, 7, 8, 9, 10, 11, 12, 13, 14, 15]
def numC (H : List Ent) : List Ent := sentEnts 23 213 (textsIn 23 H errG)
def numA (l : Nat) : SV := .v (.ve 213 (.vp l (fun _ => 0) []))
def sumsI : List (FuncId × Summ) := [(59, isS)]

theorem goodN : PGood Tryd.prog := good_of (by kernel_rfl) (by kernel_rfl)
theorem gtopE : gtop Tryd.prog ≤ 54 := of_decide_eq_true (by kernel_rfl)
theorem baseI : Base0 Tryd.prog sumsI := (Base0.nil goodN).cons Tryd.func59 (by kernel_rfl) isS_ok
theorem num_nil_p0 (H : List Ent) :
    isEnd (evTill Tryd.prog sumsI 100 99 900 16 [.code (bodyOf Tryd.f16)] (envOf [.v .ve0] Tryd.f16.ntmps) [] ⟨[.t], 54⟩) (endP ([]) (.v (.vi .i64 fun _ => 0)) [] 104) =
    (OkL [] ∧ (0 : Int) = (0 : Int) ∧ True) := by kernel_rfl

set_option maxHeartbeats 4000000 in
theorem num_nil (H : List Ent)  :
    RunsTo Tryd.prog 16 [.code (bodyOf Tryd.f16)] (envOf [.v .ve0] Tryd.f16.ntmps) (Sx.look []) 54 (.v (.vi .i64 fun _ => 0)) (Sx.look []) 104 := by
  exact runs_last baseI (Sx.Ends.of (num_nil_p0 H) ⟨okn, rfl, trivial⟩) (by kernel_rfl) rfl gtopE (Nat.le_refl _)

theorem num_0_p0 (H : List Ent) :
    isEnd (evTill Tryd.prog sumsI 100 99 900 16 [.code (bodyOf Tryd.f16)] (envOf [numA 23] Tryd.f16.ntmps) (numC H) ⟨[.f, .t, .t, .t, .f, .t, .t, .t, .f, .t, .t, .t, .f, .t, .t, .t, .t], 54⟩) (endP ([]) (.v (.vi .i64 fun _ => 4)) [] 104) =
    (OkL [] ∧ (4 : Int) = IntKind.i64.wrap (IntKind.i64.wrap (IntKind.i64.wrap (IntKind.i64.wrap ((0 : Int) + (1 : Int)) + (1 : Int)) + (1 : Int)) + (1 : Int)) ∧ True) := by kernel_rfl

set_option maxHeartbeats 4000000 in
theorem num_0 (H : List Ent)  :
    RunsTo Tryd.prog 16 [.code (bodyOf Tryd.f16)] (envOf [numA 23] Tryd.f16.ntmps) (Sx.look (numC H)) 54 (.v (.vi .i64 fun _ => 4)) (Sx.look []) 104 := by
  exact runs_last baseI (Sx.Ends.of (num_0_p0 H) ⟨okn, rfl, trivial⟩) (by kernel_rfl) rfl gtopE (Nat.le_refl _)

theorem num_1_p0 (H : List Ent) :
    isEnd (evTill Tryd.prog sumsI 100 99 900 16 [.code (bodyOf Tryd.f16)] (envOf [numA 24] Tryd.f16.ntmps) (numC H) ⟨[.f, .t, .t, .t, .f, .t, .t, .t, .f, .t, .t, .t, .f, .t, .t, .t, .f, .t, .t, .t, .f, .t, .t, .t, .f, .t, .t, .t, .f, .t, .t, .t, .f, .t, .t, .t, .f, .t, .t, .t, .f, .t, .t, .t, .f, .t, .t, .t, .f, .t, .t, .t, .f, .t, .t, .t, .f, .t, .t, .t, .f, .t, .t, .t, .t], 54⟩) (endP ([]) (.v (.vi .i64 fun _ => 16)) [] 104) =
    (OkL [] ∧ (16 : Int) = IntKind.i64.wrap (IntKind.i64.wrap (IntKind.i64.wrap (IntKind.i64.wrap (IntKind.i64.wrap (IntKind.i64.wrap (IntKind.i64.wrap (IntKind.i64.wrap (IntKind.i64.wrap (IntKind.i64.wrap (IntKind.i64.wrap (IntKind.i64.wrap (IntKind.i64.wrap (IntKind.i64.wrap (IntKind.i64.wrap (IntKind.i64.wrap ((0 : Int) + (1 : Int)) + (1 : Int)) + (1 : Int)) + (1 : Int)) + (1 : Int)) + (1 : Int)) + (1 : Int)) + (1 : Int)) + (1 : Int)) + (1 : Int)) + (1 : Int)) + (1 : Int)) + (1 : Int)) + (1 : Int)) + (1 : Int)) + (1 : Int)) ∧ True) := by kernel_rfl

set_option maxHeartbeats 4000000 in
theorem num_1 (H : List Ent)  :
    RunsTo Tryd.prog 16 [.code (bodyOf Tryd.f16)] (envOf [numA 24] Tryd.f16.ntmps) (Sx.look (numC H)) 54 (.v (.vi .i64 fun _ => 16)) (Sx.look []) 104 := by
  exact runs_last baseI (Sx.Ends.of (num_1_p0 H) ⟨okn, rfl, trivial⟩) (by kernel_rfl) rfl gtopE (Nat.le_refl _)

theorem num_2_p0 (H : List Ent) :
    isEnd (evTill Tryd.prog sumsI 100 99 900 16 [.code (bodyOf Tryd.f16)] (envOf [numA 25] Tryd.f16.ntmps) (numC H) ⟨[.f, .t, .t, .t, .f, .t, .t, .t, .f, .t, .t, .t, .f, .t, .t, .t, .f, .t, .t, .t, .f, .t, .t, .t, .t], 54⟩) (endP ([]) (.v (.vi .i64 fun _ => 6)) [] 104) =
    (OkL [] ∧ (6 : Int) = IntKind.i64.wrap (IntKind.i64.wrap (IntKind.i64.wrap (IntKind.i64.wrap (IntKind.i64.wrap (IntKind.i64.wrap ((0 : Int) + (1 : Int)) + (1 : Int)) + (1 : Int)) + (1 : Int)) + (1 : Int)) + (1 : Int)) ∧ True) := by kernel_rfl

set_option maxHeartbeats 4000000 in
theorem num_2 (H : List Ent)  :
    RunsTo Tryd.prog 16 [.code (bodyOf Tryd.f16)] (envOf [numA 25] Tryd.f16.ntmps) (Sx.look (numC H)) 54 (.v (.vi .i64 fun _ => 6)) (Sx.look []) 104 := by
  exact runs_last baseI (Sx.Ends.of (num_2_p0 H) ⟨okn, rfl, trivial⟩) (by kernel_rfl) rfl gtopE (Nat.le_refl _)

theorem num_3_p0 (H : List Ent) :
    isEnd (evTill Tryd.prog sumsI 100 99 900 16 [.code (bodyOf Tryd.f16)] (envOf [numA 26] Tryd.f16.ntmps) (numC H) ⟨[.f, .t, .t, .t, .f, .t, .t, .t, .t], 54⟩) (endP ([]) (.v (.vi .i64 fun _ => 2)) [] 104) =
    (OkL [] ∧ (2 : Int) = IntKind.i64.wrap (IntKind.i64.wrap ((0 : Int) + (1 : Int)) + (1 : Int)) ∧ True) := by kernel_rfl

set_option maxHeartbeats 4000000 in
theorem num_3 (H : List Ent)  :
    RunsTo Tryd.prog 16 [.code (bodyOf Tryd.f16)] (envOf [numA 26] Tryd.f16.ntmps) (Sx.look (numC H)) 54 (.v (.vi .i64 fun _ => 2)) (Sx.look []) 104 := by
  exact runs_last baseI (Sx.Ends.of (num_3_p0 H) ⟨okn, rfl, trivial⟩) (by kernel_rfl) rfl gtopE (Nat.le_refl _)

theorem num_4_p0 (H : List Ent) :
    isEnd (evTill Tryd.prog sumsI 100 99 900 16 [.code (bodyOf Tryd.f16)] (envOf [numA 27] Tryd.f16.ntmps) (numC H) ⟨[.f, .t, .t, .t, .t], 54⟩) (endP ([]) (.v (.vi .i64 fun _ => 1)) [] 104) =
    (OkL [] ∧ (1 : Int) = IntKind.i64.wrap ((0 : Int) + (1 : Int)) ∧ True) := by kernel_rfl

set_option maxHeartbeats 4000000 in
theorem num_4 (H : List Ent)  :
    RunsTo Tryd.prog 16 [.code (bodyOf Tryd.f16)] (envOf [numA 27] Tryd.f16.ntmps) (Sx.look (numC H)) 54 (.v (.vi .i64 fun _ => 1)) (Sx.look []) 104 := by
  exact runs_last baseI (Sx.Ends.of (num_4_p0 H) ⟨okn, rfl, trivial⟩) (by kernel_rfl) rfl gtopE (Nat.le_refl _)

theorem num_5_p0 (H : List Ent) :
    isEnd (evTill Tryd.prog sumsI 100 99 900 16 [.code (bodyOf Tryd.f16)] (envOf [numA 28] Tryd.f16.ntmps) (numC H) ⟨[.f, .t, .t, .t, .f, .t, .t, .t, .f, .t, .t, .t, .t], 54⟩) (endP ([]) (.v (.vi .i64 fun _ => 3)) [] 104) =
    (OkL [] ∧ (3 : Int) = IntKind.i64.wrap (IntKind.i64.wrap (IntKind.i64.wrap ((0 : Int) + (1 : Int)) + (1 : Int)) + (1 : Int)) ∧ True) := by kernel_rfl

set_option maxHeartbeats 4000000 in
theorem num_5 (H : List Ent)  :
    RunsTo Tryd.prog 16 [.code (bodyOf Tryd.f16)] (envOf [numA 28] Tryd.f16.ntmps) (Sx.look (numC H)) 54 (.v (.vi .i64 fun _ => 3)) (Sx.look []) 104 := by
  exact runs_last baseI (Sx.Ends.of (num_5_p0 H) ⟨okn, rfl, trivial⟩) (by kernel_rfl) rfl gtopE (Nat.le_refl _)

theorem num_6_p0 (H : List Ent) :
    isEnd (evTill Tryd.prog sumsI 100 99 900 16 [.code (bodyOf Tryd.f16)] (envOf [numA 29] Tryd.f16.ntmps) (numC H) ⟨[.f, .t, .t, .t, .f, .t, .t, .t, .f, .t, .t, .t, .f, .t, .t, .t, .f, .t, .t, .t, .t], 54⟩) (endP ([]) (.v (.vi .i64 fun _ => 5)) [] 104) =
    (OkL [] ∧ (5 : Int) = IntKind.i64.wrap (IntKind.i64.wrap (IntKind.i64.wrap (IntKind.i64.wrap (IntKind.i64.wrap ((0 : Int) + (1 : Int)) + (1 : Int)) + (1 : Int)) + (1 : Int)) + (1 : Int)) ∧ True) := by kernel_rfl

set_option maxHeartbeats 4000000 in
theorem num_6 (H : List Ent)  :
    RunsTo Tryd.prog 16 [.code (bodyOf Tryd.f16)] (envOf [numA 29] Tryd.f16.ntmps) (Sx.look (numC H)) 54 (.v (.vi .i64 fun _ => 5)) (Sx.look []) 104 := by
  exact runs_last baseI (Sx.Ends.of (num_6_p0 H) ⟨okn, rfl, trivial⟩) (by kernel_rfl) rfl gtopE (Nat.le_refl _)

theorem num_7_p0 (H : List Ent) :
    isEnd (evTill Tryd.prog sumsI 100 99 900 16 [.code (bodyOf Tryd.f16)] (envOf [numA 30] Tryd.f16.ntmps) (numC H) ⟨[.f, .t, .t, .t, .f, .t, .t, .t, .f, .t, .t, .t, .f, .t, .t, .t, .f, .t, .t, .t, .f, .t, .t, .t, .f, .t, .t, .t, .t], 54⟩) (endP ([]) (.v (.vi .i64 fun _ => 7)) [] 104) =
    (OkL [] ∧ (7 : Int) = IntKind.i64.wrap (IntKind.i64.wrap (IntKind.i64.wrap (IntKind.i64.wrap (IntKind.i64.wrap (IntKind.i64.wrap (IntKind.i64.wrap ((0 : Int) + (1 : Int)) + (1 : Int)) + (1 : Int)) + (1 : Int)) + (1 : Int)) + (1 : Int)) + (1 : Int)) ∧ True) := by kernel_rfl

set_option maxHeartbeats 4000000 in
theorem num_7 (H : List Ent)  :
    RunsTo Tryd.prog 16 [.code (bodyOf Tryd.f16)] (envOf [numA 30] Tryd.f16.ntmps) (Sx.look (numC H)) 54 (.v (.vi .i64 fun _ => 7)) (Sx.look []) 104 := by
  exact runs_last baseI (Sx.Ends.of (num_7_p0 H) ⟨okn, rfl, trivial⟩) (by kernel_rfl) rfl gtopE (Nat.le_refl _)

theorem num_8_p0 (H : List Ent) :
    isEnd (evTill Tryd.prog sumsI 100 99 900 16 [.code (bodyOf Tryd.f16)] (envOf [numA 31] Tryd.f16.ntmps) (numC H) ⟨[.f, .t, .t, .t, .f, .t, .t, .t, .f, .t, .t, .t, .f, .t, .t, .t, .f, .t, .t, .t, .f, .t, .t, .t, .f, .t, .t, .t, .f, .t, .t, .t, .t], 54⟩) (endP ([]) (.v (.vi .i64 fun _ => 8)) [] 104) =
    (OkL [] ∧ (8 : Int) = IntKind.i64.wrap (IntKind.i64.wrap (IntKind.i64.wrap (IntKind.i64.wrap (IntKind.i64.wrap (IntKind.i64.wrap (IntKind.i64.wrap (IntKind.i64.wrap ((0 : Int) + (1 : Int)) + (1 : Int)) + (1 : Int)) + (1 : Int)) + (1 : Int)) + (1 : Int)) + (1 : Int)) + (1 : Int)) ∧ True) := by kernel_rfl

set_option maxHeartbeats 4000000 in
theorem num_8 (H : List Ent)  :
    RunsTo Tryd.prog 16 [.code (bodyOf Tryd.f16)] (envOf [numA 31] Tryd.f16.ntmps) (Sx.look (numC H)) 54 (.v (.vi .i64 fun _ => 8)) (Sx.look []) 104 := by
  exact runs_last baseI (Sx.Ends.of (num_8_p0 H) ⟨okn, rfl, trivial⟩) (by kernel_rfl) rfl gtopE (Nat.le_refl _)

theorem num_9_p0 (H : List Ent) :
    isEnd (evTill Tryd.prog sumsI 100 99 900 16 [.code (bodyOf Tryd.f16)] (envOf [numA 32] Tryd.f16.ntmps) (numC H) ⟨[.f, .t, .t, .t, .f, .t, .t, .t, .f, .t, .t, .t, .f, .t, .t, .t, .f, .t, .t, .t, .f, .t, .t, .t, .f, .t, .t, .t, .f, .t, .t, .t, .f, .t, .t, .t, .t], 54⟩) (endP ([]) (.v (.vi .i64 fun _ => 9)) [] 104) =
    (OkL [] ∧ (9 : Int) = IntKind.i64.wrap (IntKind.i64.wrap (IntKind.i64.wrap (IntKind.i64.wrap (IntKind.i64.wrap (IntKind.i64.wrap (IntKind.i64.wrap (IntKind.i64.wrap (IntKind.i64.wrap ((0 : Int) + (1 : Int)) + (1 : Int)) + (1 : Int)) + (1 : Int)) + (1 : Int)) + (1 : Int)) + (1 : Int)) + (1 : Int)) + (1 : Int)) ∧ True) := by kernel_rfl

set_option maxHeartbeats 4000000 in
theorem num_9 (H : List Ent)  :
    RunsTo Tryd.prog 16 [.code (bodyOf Tryd.f16)] (envOf [numA 32] Tryd.f16.ntmps) (Sx.look (numC H)) 54 (.v (.vi .i64 fun _ => 9)) (Sx.look []) 104 := by
  exact runs_last baseI (Sx.Ends.of (num_9_p0 H) ⟨okn, rfl, trivial⟩) (by kernel_rfl) rfl gtopE (Nat.le_refl _)

theorem num_10_p0 (H : List Ent) :
    isEnd (evTill Tryd.prog sumsI 100 99 900 16 [.code (bodyOf Tryd.f16)] (envOf [numA 33] Tryd.f16.ntmps) (numC H) ⟨[.f, .t, .t, .t, .f, .t, .t, .t, .f, .t, .t, .t, .f, .t, .t, .t, .f, .t, .t, .t, .f, .t, .t, .t, .f, .t, .t, .t, .f, .t, .t, .t, .f, .t, .t, .t, .f, .t, .t, .t, .t], 54⟩) (endP ([]) (.v (.vi .i64 fun _ => 10)) [] 104) =
    (OkL [] ∧ (10 : Int) = IntKind.i64.wrap (IntKind.i64.wrap (IntKind.i64.wrap (IntKind.i64.wrap (IntKind.i64.wrap (IntKind.i64.wrap (IntKind.i64.wrap (IntKind.i64.wrap (IntKind.i64.wrap (IntKind.i64.wrap ((0 : Int) + (1 : Int)) + (1 : Int)) + (1 : Int)) + (1 : Int)) + (1 : Int)) + (1 : Int)) + (1 : Int)) + (1 : Int)) + (1 : Int)) + (1 : Int)) ∧ True) := by kernel_rfl

set_option maxHeartbeats 4000000 in
theorem num_10 (H : List Ent)  :
    RunsTo Tryd.prog 16 [.code (bodyOf Tryd.f16)] (envOf [numA 33] Tryd.f16.ntmps) (Sx.look (numC H)) 54 (.v (.vi .i64 fun _ => 10)) (Sx.look []) 104 := by
  exact runs_last baseI (Sx.Ends.of (num_10_p0 H) ⟨okn, rfl, trivial⟩) (by kernel_rfl) rfl gtopE (Nat.le_refl _)

theorem num_11_p0 (H : List Ent) :
    isEnd (evTill Tryd.prog sumsI 100 99 900 16 [.code (bodyOf Tryd.f16)] (envOf [numA 34] Tryd.f16.ntmps) (numC H) ⟨[.f, .t, .t, .t, .f, .t, .t, .t, .f, .t, .t, .t, .f, .t, .t, .t, .f, .t, .t, .t, .f, .t, .t, .t, .f, .t, .t, .t, .f, .t, .t, .t, .f, .t, .t, .t, .f, .t, .t, .t, .f, .t, .t, .t, .t], 54⟩) (endP ([]) (.v (.vi .i64 fun _ => 11)) [] 104) =
    (OkL [] ∧ (11 : Int) = IntKind.i64.wrap (IntKind.i64.wrap (IntKind.i64.wrap (IntKind.i64.wrap (IntKind.i64.wrap (IntKind.i64.wrap (IntKind.i64.wrap (IntKind.i64.wrap (IntKind.i64.wrap (IntKind.i64.wrap (IntKind.i64.wrap ((0 : Int) + (1 : Int)) + (1 : Int)) + (1 : Int)) + (1 : Int)) + (1 : Int)) + (1 : Int)) + (1 : Int)) + (1 : Int)) + (1 : Int)) + (1 : Int)) + (1 : Int)) ∧ True) := by kernel_rfl

set_option maxHeartbeats 4000000 in
theorem num_11 (H : List Ent)  :
    RunsTo Tryd.prog 16 [.code (bodyOf Tryd.f16)] (envOf [numA 34] Tryd.f16.ntmps) (Sx.look (numC H)) 54 (.v (.vi .i64 fun _ => 11)) (Sx.look []) 104 := by
  exact runs_last baseI (Sx.Ends.of (num_11_p0 H) ⟨okn, rfl, trivial⟩) (by kernel_rfl) rfl gtopE (Nat.le_refl _)

theorem num_12_p0 (H : List Ent) :
    isEnd (evTill Tryd.prog sumsI 100 99 900 16 [.code (bodyOf Tryd.f16)] (envOf [numA 35] Tryd.f16.ntmps) (numC H) ⟨[.f, .t, .t, .t, .f, .t, .t, .t, .f, .t, .t, .t, .f, .t, .t, .t, .f, .t, .t, .t, .f, .t, .t, .t, .f, .t, .t, .t, .f, .t, .t, .t, .f, .t, .t, .t, .f, .t, .t, .t, .f, .t, .t, .t, .f, .t, .t, .t, .t], 54⟩) (endP ([]) (.v (.vi .i64 fun _ => 12)) [] 104) =
    (OkL [] ∧ (12 : Int) = IntKind.i64.wrap (IntKind.i64.wrap (IntKind.i64.wrap (IntKind.i64.wrap (IntKind.i64.wrap (IntKind.i64.wrap (IntKind.i64.wrap (IntKind.i64.wrap (IntKind.i64.wrap (IntKind.i64.wrap (IntKind.i64.wrap (IntKind.i64.wrap ((0 : Int) + (1 : Int)) + (1 : Int)) + (1 : Int)) + (1 : Int)) + (1 : Int)) + (1 : Int)) + (1 : Int)) + (1 : Int)) + (1 : Int)) + (1 : Int)) + (1 : Int)) + (1 : Int)) ∧ True) := by kernel_rfl

set_option maxHeartbeats 4000000 in
theorem num_12 (H : List Ent)  :
    RunsTo Tryd.prog 16 [.code (bodyOf Tryd.f16)] (envOf [numA 35] Tryd.f16.ntmps) (Sx.look (numC H)) 54 (.v (.vi .i64 fun _ => 12)) (Sx.look []) 104 := by
  exact runs_last baseI (Sx.Ends.of (num_12_p0 H) ⟨okn, rfl, trivial⟩) (by kernel_rfl) rfl gtopE (Nat.le_refl _)

theorem num_13_p0 (H : List Ent) :
    isEnd (evTill Tryd.prog sumsI 100 99 900 16 [.code (bodyOf Tryd.f16)] (envOf [numA 36] Tryd.f16.ntmps) (numC H) ⟨[.f, .t, .t, .t, .f, .t, .t, .t, .f, .t, .t, .t, .f, .t, .t, .t, .f, .t, .t, .t, .f, .t, .t, .t, .f, .t, .t, .t, .f, .t, .t, .t, .f, .t, .t, .t, .f, .t, .t, .t, .f, .t, .t, .t, .f, .t, .t, .t, .f, .t, .t, .t, .t], 54⟩) (endP ([]) (.v (.vi .i64 fun _ => 13)) [] 104) =
    (OkL [] ∧ (13 : Int) = IntKind.i64.wrap (IntKind.i64.wrap (IntKind.i64.wrap (IntKind.i64.wrap (IntKind.i64.wrap (IntKind.i64.wrap (IntKind.i64.wrap (IntKind.i64.wrap (IntKind.i64.wrap (IntKind.i64.wrap (IntKind.i64.wrap (IntKind.i64.wrap (IntKind.i64.wrap ((0 : Int) + (1 : Int)) + (1 : Int)) + (1 : Int)) + (1 : Int)) + (1 : Int)) + (1 : Int)) + (1 : Int)) + (1 : Int)) + (1 : Int)) + (1 : Int)) + (1 : Int)) + (1 : Int)) + (1 : Int)) ∧ True) := by kernel_rfl

set_option maxHeartbeats 4000000 in
theorem num_13 (H : List Ent)  :
    RunsTo Tryd.prog 16 [.code (bodyOf Tryd.f16)] (envOf [numA 36] Tryd.f16.ntmps) (Sx.look (numC H)) 54 (.v (.vi .i64 fun _ => 13)) (Sx.look []) 104 := by
  exact runs_last baseI (Sx.Ends.of (num_13_p0 H) ⟨okn, rfl, trivial⟩) (by kernel_rfl) rfl gtopE (Nat.le_refl _)

theorem num_14_p0 (H : List Ent) :
    isEnd (evTill Tryd.prog sumsI 100 99 900 16 [.code (bodyOf Tryd.f16)] (envOf [numA 37] Tryd.f16.ntmps) (numC H) ⟨[.f, .t, .t, .t, .f, .t, .t, .t, .f, .t, .t, .t, .f, .t, .t, .t, .f, .t, .t, .t, .f, .t, .t, .t, .f, .t, .t, .t, .f, .t, .t, .t, .f, .t, .t, .t, .f, .t, .t, .t, .f, .t, .t, .t, .f, .t, .t, .t, .f, .t, .t, .t, .f, .t, .t, .t, .t], 54⟩) (endP ([]) (.v (.vi .i64 fun _ => 14)) [] 104) =
    (OkL [] ∧ (14 : Int) = IntKind.i64.wrap (IntKind.i64.wrap (IntKind.i64.wrap (IntKind.i64.wrap (IntKind.i64.wrap (IntKind.i64.wrap (IntKind.i64.wrap (IntKind.i64.wrap (IntKind.i64.wrap (IntKind.i64.wrap (IntKind.i64.wrap (IntKind.i64.wrap (IntKind.i64.wrap (IntKind.i64.wrap ((0 : Int) + (1 : Int)) + (1 : Int)) + (1 : Int)) + (1 : Int)) + (1 : Int)) + (1 : Int)) + (1 : Int)) + (1 : Int)) + (1 : Int)) + (1 : Int)) + (1 : Int)) + (1 : Int)) + (1 : Int)) + (1 : Int)) ∧ True) := by kernel_rfl

set_option maxHeartbeats 4000000 in
theorem num_14 (H : List Ent)  :
    RunsTo Tryd.prog 16 [.code (bodyOf Tryd.f16)] (envOf [numA 37] Tryd.f16.ntmps) (Sx.look (numC H)) 54 (.v (.vi .i64 fun _ => 14)) (Sx.look []) 104 := by
  exact runs_last baseI (Sx.Ends.of (num_14_p0 H) ⟨okn, rfl, trivial⟩) (by kernel_rfl) rfl gtopE (Nat.le_refl _)

theorem num_15_p0 (H : List Ent) :
    isEnd (evTill Tryd.prog sumsI 100 99 900 16 [.code (bodyOf Tryd.f16)] (envOf [numA 38] Tryd.f16.ntmps) (numC H) ⟨[.f, .t, .t, .t, .f, .t, .t, .t, .f, .t, .t, .t, .f, .t, .t, .t, .f, .t, .t, .t, .f, .t, .t, .t, .f, .t, .t, .t, .f, .t, .t, .t, .f, .t, .t, .t, .f, .t, .t, .t, .f, .t, .t, .t, .f, .t, .t, .t, .f, .t, .t, .t, .f, .t, .t, .t, .f, .t, .t, .t, .t], 54⟩) (endP ([]) (.v (.vi .i64 fun _ => 15)) [] 104) =
    (OkL [] ∧ (15 : Int) = IntKind.i64.wrap (IntKind.i64.wrap (IntKind.i64.wrap (IntKind.i64.wrap (IntKind.i64.wrap (IntKind.i64.wrap (IntKind.i64.wrap (IntKind.i64.wrap (IntKind.i64.wrap (IntKind.i64.wrap (IntKind.i64.wrap (IntKind.i64.wrap (IntKind.i64.wrap (IntKind.i64.wrap (IntKind.i64.wrap ((0 : Int) + (1 : Int)) + (1 : Int)) + (1 : Int)) + (1 : Int)) + (1 : Int)) + (1 : Int)) + (1 : Int)) + (1 : Int)) + (1 : Int)) + (1 : Int)) + (1 : Int)) + (1 : Int)) + (1 : Int)) + (1 : Int)) + (1 : Int)) ∧ True) := by kernel_rfl

set_option maxHeartbeats 4000000 in
theorem num_15 (H : List Ent)  :
    RunsTo Tryd.prog 16 [.code (bodyOf Tryd.f16)] (envOf [numA 38] Tryd.f16.ntmps) (Sx.look (numC H)) 54 (.v (.vi .i64 fun _ => 15)) (Sx.look []) 104 := by
  exact runs_last baseI (Sx.Ends.of (num_15_p0 H) ⟨okn, rfl, trivial⟩) (by kernel_rfl) rfl gtopE (Nat.le_refl _)

end Go.Proofs.YtaleenklamognaaDoor

set_option linter.unusedSimpArgs false
set_option linter.unusedVariables false
set_option maxRecDepth 100000
namespace Go.Proofs.YtaleenklamognaaDoor
open Go.Sx

def memB (l : Nat) : List Nat → Bool
  | [] => false
  | a :: r => match Nat.beq a l with | true => true | false => memB l r
theorem memB_ok {l : Nat} : ∀ {r : List Nat}, memB l r = true → l ∈ r
  | a :: r, h => by
    simp only [memB] at h
    split at h
    · rename_i e; rw [Nat.eq_of_beq_eq_true e]; simp
    · exact List.mem_cons_of_mem _ (memB_ok h)

def numOf (l : Nat) : Int := match l with
  | 23 => 4
  | 24 => 16
  | 25 => 6
  | 26 => 2
  | 27 => 1
  | 28 => 3
  | 29 => 5
  | 30 => 7
  | 31 => 8
  | 32 => 9
  | 33 => 10
  | 34 => 11
  | 35 => 12
  | 36 => 13
  | 37 => 14
  | 38 => 15
  | _ => 0

def numS : Summ := fun args H =>
  match args with
  | [.v .ve0] => do
    bump 50
    pure ⟨.v (.vi .i64 fun _ => 0), [], [], []⟩
  | [.v (.ve t (.vp l m p))] => do
    chk (Nat.beq t 213)
    chk (Nat.beq (m []) 0)
    chk p.isEmpty
    chk (errsIn 23 213 H errG)
    chk (memB l (errG.map (23 + ·)))
    bump 50
    pure ⟨.v (.vi .i64 fun _ => numOf l), [], [], errLabs 23 errG⟩
  | _ => M.fail

theorem num_runs (H : List Ent) (l : Nat) (hl : memB l (errG.map (23 + ·)) = true) : RunsTo Tryd.prog 16 [.code (bodyOf Tryd.f16)] (envOf [numA l] Tryd.f16.ntmps) (Sx.look (numC H)) 54 (.v (.vi .i64 fun _ => numOf l)) (Sx.look []) (54 + 50) := by
  have hl := memB_ok hl
  simp only [errG, List.map_cons, List.map_nil, List.mem_cons, List.not_mem_nil, or_false] at hl
  rcases hl with rfl | rfl | rfl | rfl | rfl | rfl | rfl | rfl | rfl | rfl | rfl | rfl | rfl | rfl | rfl | rfl
  · exact num_0 H
  · exact num_1 H
  · exact num_2 H
  · exact num_3 H
  · exact num_4 H
  · exact num_5 H
  · exact num_6 H
  · exact num_7 H
  · exact num_8 H
  · exact num_9 H
  · exact num_10 H
  · exact num_11 H
  · exact num_12 H
  · exact num_13 H
  · exact num_14 H
  · exact num_15 H

theorem numS_ok : ∀ args H x e d y, numS args H x = .ok e d y → OkL d → (∀ a ∈ args, ∀ l ∈ a.labs, l < x.nl) → WFh (Sx.look H) x.nl → gtop Tryd.prog ≤ x.nl → CallOK Tryd.prog 16 args H x.nl e y.nl := by
  intro args H x e d y h hd h3 h4 h5
  unfold numS at h
  split at h
  · obtain ⟨x9, n9, h⟩ := bump_bind h
    obtain ⟨rfl, rfl, rfl⟩ := pure_ok h
    rw [n9]
    exact useC_ok (σ := []) Tryd.func16 (body := bodyOf Tryd.f16) (by kernel_rfl) (cargs := [.v .ve0]) (C := []) (C' := []) (n := 54) (n' := 54 + 50)
      (num_nil []) rfl rfl ⟨trivial, trivial⟩ trivial (by kernel_rfl) rfl rfl rfl
  · rename_i t l m p
    obtain ⟨e1, h⟩ := chk_bind h
    obtain ⟨e2, h⟩ := chk_bind h
    obtain ⟨e3, h⟩ := chk_bind h
    obtain ⟨e4, h⟩ := chk_bind h
    obtain ⟨e5, h⟩ := chk_bind h
    obtain ⟨x9, n9, h⟩ := bump_bind h
    obtain ⟨rfl, rfl, rfl⟩ := pure_ok h
    have e1 := Nat.eq_of_beq_eq_true e1
    have e2 := Nat.eq_of_beq_eq_true e2
    have e3 : p = [] := List.isEmpty_iff.1 e3
    subst e1; subst e3
    rw [n9]
    have hs := srcs_sent (G := 23) (tp := 213) (H := H) errG
    have hu := useC_ok (σ := []) (args := [.v (.ve 213 (.vp l m []))]) (H := H) (nl := x.nl) Tryd.func16 (body := bodyOf Tryd.f16) (by kernel_rfl) (cargs := [numA l]) (C := numC H) (C' := []) (n := 54) (n' := 54 + 50) (num_runs H l e5) (by kernel_rfl) rfl
      ⟨by simp [numA, fitS, fitT, fitP, sgOf, onB_true, offs, allB, e2, beqT rfl], trivial⟩ (errs_fitH e4) (by kernel_rfl) rfl rfl rfl
    unfold effC at hu
    rw [show srcsOf [] (numC H) = errLabs 23 errG from hs] at hu
    exact hu
  · exact (fail_ok h).elim

end Go.Proofs.YtaleenklamognaaDoor

set_option linter.unusedSimpArgs false
set_option linter.unusedVariables false
namespace WordR

/-- A piece of a text: a variable's name, or a literal. -/
structure Pc where
  var : List UInt8
  lit : List UInt8
deriving DecidableEq, Repr
/-- A token. -/
structure Wt where
  kind : Nat
  text : List UInt8
  num : Int
  ps : List Pc
  pos : Nat
deriving DecidableEq, Repr
def ltrI (x : Int) : Bool := decide (97 ≤ x ∧ x ≤ 122 ∨ 65 ≤ x ∧ x ≤ 90 ∨ x = 95)
def figI (x : Int) : Bool := decide (48 ≤ x ∧ x ≤ 57)
def goI (x : Int) : Bool := ltrI x || figI x
def blI (x : Int) : Bool := decide (x = 32 ∨ x = 9 ∨ x = 13)
def nlI (x : Int) : Bool := decide (x ≠ 10)
def nat (c : UInt8) : Int := (c.toNat : Int)
/-- How many bytes are such, from the beginning on. -/
def spanR (p : Int → Bool) : List UInt8 → Nat
  | [] => 0
  | c :: r => if p (nat c) = true then spanR p r + 1 else 0
/-- How many bytes belong to a gap (true: within a remark). -/
def gapR : Bool → List UInt8 → Nat
  | _, [] => 0
  | false, c :: r => if blI (nat c) = true then gapR false r + 1 else if c = 35 then gapR true r + 1 else 0
  | true, c :: r => if c = 10 then 0 else gapR true r + 1
/-- What is read: a token and how many bytes it has, or an error's number. -/
inductive TR where
  | ok (t : Wt) (n : Nat)
  | err (e : Nat)
deriving DecidableEq, Repr
def nameR (l : List UInt8) : TR := if 24 < spanR goI l then .err 4 else .ok ⟨1, l.take (spanR goI l), 0, [], 0⟩ (spanR goI l)
def decA (n : Int) : List UInt8 → Int
  | [] => n
  | c :: r => decA (10 * n + (nat c - 48)) r
def decR (l : List UInt8) : Int := decA 0 l
def numK (m : Bool) (r : List UInt8) : TR :=
  if 9 < spanR figI r then .err 4
  else if spanR figI r = 0 ∨ (1 < spanR figI r ∧ r.headD 0 = 48) ∨ (m = true ∧ r.take (spanR figI r) = [48]) ∨ goI (nat ((r.drop (spanR figI r)).headD 0)) = true then .err 5
  else .ok ⟨2, [], if m = true then - decR (r.take (spanR figI r)) else decR (r.take (spanR figI r)), [], 0⟩ (spanR figI r + if m = true then 1 else 0)
def numberR : List UInt8 → TR
  | [] => numK false []
  | c :: r => if c = 45 then numK true r else numK false (c :: r)
def hexI (x : Int) : Int := if 48 ≤ x ∧ x ≤ 57 then x - 48 else if 97 ≤ x ∧ x ≤ 102 then x - 87 else if 65 ≤ x ∧ x ≤ 70 then x - 55 else -1
inductive O1 where
  | byte (c : UInt8) (n : Nat)
  | var (x : List UInt8) (n : Nat)
  | err (e : Nat)
deriving DecidableEq, Repr
def hexR : List UInt8 → O1
  | [] => .err 3
  | [x] => if hexI (nat x) < 0 then .err 5 else .err 3
  | x :: y :: _ => if hexI (nat x) < 0 then .err 5 else if hexI (nat y) < 0 then .err 5 else .byte (UInt8.ofNat (16 * hexI (nat x) + hexI (nat y)).toNat) 4
def escR : List UInt8 → O1
  | [] => .err 3
  | d :: r => if d = 110 then .byte 10 2 else if d = 114 then .byte 13 2 else if d = 116 then .byte 9 2 else if d = 120 then hexR r
    else if d = 92 ∨ d = 34 ∨ d = 36 then .byte d 2 else .err 5
def varR : List UInt8 → O1
  | [] => .err 3
  | d :: r => if figI (nat d) = true then .var [d] 2 else if ltrI (nat d) = false then .err 5 else if 24 < spanR goI (d :: r) then .err 4 else .var ((d :: r).take (spanR goI (d :: r))) (spanR goI (d :: r) + 1)
def oneR : List UInt8 → O1
  | [] => .err 3
  | c :: r => if c = 36 then varR r else if c = 10 then .err 5 else if c = 92 then escR r else .byte c 1
def litP : List Pc → UInt8 → List Pc
  | [], c => [⟨[], [c]⟩]
  | [p], c => if p.var = [] then [⟨[], p.lit ++ [c]⟩] else [p, ⟨[], [c]⟩]
  | p :: q :: r, c => p :: litP (q :: r) c
def fitsP (P : List Pc) : Bool := decide (P.length ≤ 40) && P.all fun p => decide (p.lit.length ≤ 400)
def textR : Nat → List UInt8 → List Pc → Nat → TR
  | 0, _, _, _ => .err 3
  | _ + 1, [], _, _ => .err 3
  | f + 1, c :: r, P, n => if c = 34 then .ok ⟨3, [], 0, P, 0⟩ (n + 1) else
    match oneR (c :: r) with
    | .err e => .err e
    | .byte x k => if fitsP (litP P x) = true then textR f ((c :: r).drop k) (litP P x) (n + k) else .err 4
    | .var x k => if fitsP (P ++ [⟨x, []⟩]) = true then textR f ((c :: r).drop k) (P ++ [⟨x, []⟩]) (n + k) else .err 4
def signR : List UInt8 → TR
  | 61 :: 61 :: _ => .ok ⟨4, [61, 61], 0, [], 0⟩ 2
  | 33 :: 61 :: _ => .ok ⟨4, [33, 61], 0, [], 0⟩ 2
  | 60 :: 61 :: _ => .ok ⟨4, [60, 61], 0, [], 0⟩ 2
  | 62 :: 61 :: _ => .ok ⟨4, [62, 61], 0, [], 0⟩ 2
  | 123 :: _ => .ok ⟨4, [123], 0, [], 0⟩ 1
  | 125 :: _ => .ok ⟨4, [125], 0, [], 0⟩ 1
  | 60 :: _ => .ok ⟨4, [60], 0, [], 0⟩ 1
  | 62 :: _ => .ok ⟨4, [62], 0, [], 0⟩ 1
  | _ => .err 5
def tokR : List UInt8 → TR
  | [] => .err 5
  | c :: r => if c = 10 ∨ c = 59 then .ok ⟨5, [], 0, [], 0⟩ 1 else if ltrI (nat c) = true then nameR (c :: r) else if figI (nat c) = true ∨ c = 45 then numberR (c :: r)
    else if c = 34 then textR (r.length + 1) r [] 1 else signR (c :: r)
/-- All tokens from a place on; where what is wrong stands; its number. -/
def splitR : Nat → Nat → List UInt8 → List Wt × Nat × Nat
  | 0, _, _ => ([], 0, 0)
  | f + 1, a, l => match l.drop (gapR false l) with
    | [] => ([], 0, 0)
    | c :: r => match tokR (c :: r) with
      | .err e => ([], a + gapR false l, e)
      | .ok t n => match splitR f (a + gapR false l + n) ((c :: r).drop n) with
        | (T, p, 0) => ({ t with pos := a + gapR false l } :: T, p, 0)
        | (_, p, e + 1) => ([], p, e + 1)
def splitS (s : List UInt8) : List Wt × Nat × Nat := if 4000 < s.length then ([], 0, 4) else splitR (s.length + 1) 0 s
end WordR

set_option linter.unusedSimpArgs false
set_option linter.unusedVariables false
set_option maxRecDepth 100000
namespace Go.Proofs.YtaleenklamognaaDoor
open Go.Sx

theorem goodP : PGood Tryd.prog := good_of (by kernel_rfl) (by kernel_rfl)
theorem gtopP : gtop Tryd.prog ≤ 100 := of_decide_eq_true (by kernel_rfl)
theorem gtopG : gtop Tryd.prog = 46 := of_decide_eq_true (by kernel_rfl)
theorem gtL {n : Nat} (h : 46 ≤ n) : gtop Tryd.prog ≤ n := Nat.le_trans (Nat.le_of_eq gtopG) h
theorem baseO : Base0 Tryd.prog [] := Base0.nil goodP
abbrev YES : SV := .v (.vb fun _ => true)
abbrev vN (a : Int) : SV := .v (.vi .i64 fun _ => a)
abbrev vU (a : Int) : SV := .v (.vi .u8 fun _ => a)
abbrev vB (a : Bool) : SV := .v (.vb fun _ => a)
abbrev vS (a : List UInt8) : SV := .v (.vs fun _ => a)
abbrev vP (l : Nat) : SV := .v (.vp l (fun _ => 0) [])
abbrev vL (l w n : Nat) : SV := .v (.vl l (fun _ => 0) w [] (fun _ => n))
open WordR
def rdW (p : Nat) (s : List UInt8) (a : Int) : List Ent := [⟨p, true, none, 2, .tc (.vs fun _ => s) (.tc (.vi .i64 fun _ => a) .t0)⟩]
abbrev vF (f : Nat) : SV := .v (.vr (.func (.func f) #[] #[]))
def vErr (g : Nat) : Tr := .ve 213 (.vp (23 + g) (fun _ => 0) [])
theorem drop_at (bs : List UInt8) {i : Nat} (h : i < bs.length) : bs.drop i = bs.getD i 0 :: bs.drop (i + 1) := by
  rw [List.drop_eq_getElem_cons h]; simp [List.getD_eq_getElem?_getD, List.getElem?_eq_getElem h]
theorem span_y {p : Int → Bool} {s : List UInt8} {i : Nat} (h : i < s.length) (q : p ((s.getD i 0).toNat : Int) = true) : spanR p (s.drop i) = spanR p (s.drop (i + 1)) + 1 := by
  rw [drop_at s h, spanR]; exact if_pos q
theorem span_n {p : Int → Bool} {s : List UInt8} {i : Nat} (h : i < s.length) (q : p ((s.getD i 0).toNat : Int) = false) : spanR p (s.drop i) = 0 := by
  rw [drop_at s h, spanR]; exact if_neg (by show ¬ p ((s.getD i 0).toNat : Int) = true; rw [q]; decide)
theorem span_e {p : Int → Bool} {s : List UInt8} {i : Nat} (h : s.length ≤ i) : spanR p (s.drop i) = 0 := by
  rw [List.drop_eq_nil_of_le h]; rfl
theorem span_le (p : Int → Bool) : ∀ l : List UInt8, spanR p l ≤ l.length
  | [] => Nat.le_refl _
  | c :: r => by
    have := span_le p r
    rw [spanR]; split <;> simp only [List.length_cons] <;> omega
theorem span_le' (p : Int → Bool) (s : List UInt8) {a : Nat} (h : a ≤ s.length) : a + spanR p (s.drop a) ≤ s.length := by
  have := span_le p (s.drop a)
  rw [List.length_drop] at this; omega
theorem bgT_p0 (x : Int) :
    isEnd (evTill Tryd.prog [] 300 (99) 900 66 [.code (bodyOf Tryd.f66)] (envOf [vU x] Tryd.f66.ntmps) ([] ++ ([])) ⟨[.s false, .s false], 80⟩) (endP ([]) (vB (ltrI x)) ([]) 90) =
    (OkL [(decide (x ≥ (97 : Int)), false), (decide (x ≥ (65 : Int)), false)] ∧ ltrI x = (x == (95 : Int)) ∧ True) := by kernel_rfl
theorem bgT_p1 (x : Int) :
    isEnd (evTill Tryd.prog [] 300 (99) 900 66 [.code (bodyOf Tryd.f66)] (envOf [vU x] Tryd.f66.ntmps) ([] ++ ([])) ⟨[.s false, .s true, .s false], 80⟩) (endP ([]) (vB (ltrI x)) ([]) 90) =
    (OkL [(decide (x ≥ (97 : Int)), false), (decide (x ≥ (65 : Int)), true), (decide (x ≤ (90 : Int)), false)] ∧ ltrI x = (x == (95 : Int)) ∧ True) := by kernel_rfl
theorem bgT_p2 (x : Int) :
    isEnd (evTill Tryd.prog [] 300 (99) 900 66 [.code (bodyOf Tryd.f66)] (envOf [vU x] Tryd.f66.ntmps) ([] ++ ([])) ⟨[.s false, .s true, .s true], 80⟩) (endP ([]) (vB (ltrI x)) ([]) 90) =
    (OkL [(decide (x ≥ (97 : Int)), false), (decide (x ≥ (65 : Int)), true), (decide (x ≤ (90 : Int)), true)] ∧ ltrI x = true ∧ True) := by kernel_rfl
theorem bgT_p3 (x : Int) :
    isEnd (evTill Tryd.prog [] 300 (99) 900 66 [.code (bodyOf Tryd.f66)] (envOf [vU x] Tryd.f66.ntmps) ([] ++ ([])) ⟨[.s true, .s false, .s true, .s false], 80⟩) (endP ([]) (vB (ltrI x)) ([]) 90) =
    (OkL [(decide (x ≥ (97 : Int)), true), (decide (x ≤ (122 : Int)), false), (decide (x ≥ (65 : Int)), true), (decide (x ≤ (90 : Int)), false)] ∧ ltrI x = (x == (95 : Int)) ∧ True) := by kernel_rfl
theorem bgT_p4 (x : Int) :
    isEnd (evTill Tryd.prog [] 300 (99) 900 66 [.code (bodyOf Tryd.f66)] (envOf [vU x] Tryd.f66.ntmps) ([] ++ ([])) ⟨[.s true, .s true], 80⟩) (endP ([]) (vB (ltrI x)) ([]) 90) =
    (OkL [(decide (x ≥ (97 : Int)), true), (decide (x ≤ (122 : Int)), true)] ∧ ltrI x = true ∧ True) := by kernel_rfl

set_option maxHeartbeats 4000000 in
theorem bgT (x : Int)  :
    RunsTo Tryd.prog 66 [.code (bodyOf Tryd.f66)] (envOf [vU x] Tryd.f66.ntmps) (Sx.look ([] ++ ([]))) 80 (vB (ltrI x)) (Sx.look ([])) 90 := by
  refine bcase (c := (decide (x ≥ (97 : Int)))) (fun gg0 => ?_) (fun gg0 => ?_)
  · refine bcase (c := (decide (x ≥ (65 : Int)))) (fun gg1 => ?_) (fun gg1 => ?_)
    · refine runs_last baseO (Sx.Ends.of (bgT_p0 x) ⟨?oo, ?rr⟩) (by kernel_rfl) rfl (gtL (by decide)) (by decide)
      case oo =>
        refine (okc gg0 (okc gg1 okn))
        all_goals ((try simp (disch := omega) only [SS]); first | done | omega | assumption | (simp (disch := omega) only [SS] at *; first | done | omega | assumption) | (simp_all; done))
      case rr =>
        refine ⟨?_, trivial⟩
        first | (simp_all [ltrI]; done) | (rw [Bool.eq_iff_iff]; simp only [ltrI, decide_eq_true_eq, decide_eq_false_iff_not, beq_iff_eq, beq_eq_false_iff_ne, bne_iff_ne, ne_eq, iff_true, true_iff, iff_false, false_iff, ge_iff_le] at *; omega) | (simp only [ltrI, decide_eq_true_eq, decide_eq_false_iff_not, ge_iff_le] at *; omega) | (rw [Bool.eq_iff_iff]; simp [ltrI]; done)
    · refine bcase (c := (decide (x ≤ (90 : Int)))) (fun gg2 => ?_) (fun gg2 => ?_)
      · refine runs_last baseO (Sx.Ends.of (bgT_p1 x) ⟨?oo, ?rr⟩) (by kernel_rfl) rfl (gtL (by decide)) (by decide)
        case oo =>
          refine (okc gg0 (okc gg1 (okc gg2 okn)))
          all_goals ((try simp (disch := omega) only [SS]); first | done | omega | assumption | (simp (disch := omega) only [SS] at *; first | done | omega | assumption) | (simp_all; done))
        case rr =>
          refine ⟨?_, trivial⟩
          first | (simp_all [ltrI]; done) | (rw [Bool.eq_iff_iff]; simp only [ltrI, decide_eq_true_eq, decide_eq_false_iff_not, beq_iff_eq, beq_eq_false_iff_ne, bne_iff_ne, ne_eq, iff_true, true_iff, iff_false, false_iff, ge_iff_le] at *; omega) | (simp only [ltrI, decide_eq_true_eq, decide_eq_false_iff_not, ge_iff_le] at *; omega) | (rw [Bool.eq_iff_iff]; simp [ltrI]; done)
      · refine runs_last baseO (Sx.Ends.of (bgT_p2 x) ⟨?oo, ?rr⟩) (by kernel_rfl) rfl (gtL (by decide)) (by decide)
        case oo =>
          refine (okc gg0 (okc gg1 (okc gg2 okn)))
          all_goals ((try simp (disch := omega) only [SS]); first | done | omega | assumption | (simp (disch := omega) only [SS] at *; first | done | omega | assumption) | (simp_all; done))
        case rr =>
          refine ⟨?_, trivial⟩
          first | (simp_all [ltrI]; done) | (rw [Bool.eq_iff_iff]; simp only [ltrI, decide_eq_true_eq, decide_eq_false_iff_not, beq_iff_eq, beq_eq_false_iff_ne, bne_iff_ne, ne_eq, iff_true, true_iff, iff_false, false_iff, ge_iff_le] at *; omega) | (simp only [ltrI, decide_eq_true_eq, decide_eq_false_iff_not, ge_iff_le] at *; omega) | (rw [Bool.eq_iff_iff]; simp [ltrI]; done)
  · refine bcase (c := (decide (x ≤ (122 : Int)))) (fun gg1 => ?_) (fun gg1 => ?_)
    · refine runs_last baseO (Sx.Ends.of (bgT_p3 x) ⟨?oo, ?rr⟩) (by kernel_rfl) rfl (gtL (by decide)) (by decide)
      case oo =>
        refine (okc gg0 (okc gg1 (okc ?_ (okc ?_ okn))))
        all_goals ((try simp (disch := omega) only [SS]); first | done | omega | assumption | (simp (disch := omega) only [SS] at *; first | done | omega | assumption) | (simp_all; done))
      case rr =>
        refine ⟨?_, trivial⟩
        first | (simp_all [ltrI]; done) | (rw [Bool.eq_iff_iff]; simp only [ltrI, decide_eq_true_eq, decide_eq_false_iff_not, beq_iff_eq, beq_eq_false_iff_ne, bne_iff_ne, ne_eq, iff_true, true_iff, iff_false, false_iff, ge_iff_le] at *; omega) | (simp only [ltrI, decide_eq_true_eq, decide_eq_false_iff_not, ge_iff_le] at *; omega) | (rw [Bool.eq_iff_iff]; simp [ltrI]; done)
    · refine runs_last baseO (Sx.Ends.of (bgT_p4 x) ⟨?oo, ?rr⟩) (by kernel_rfl) rfl (gtL (by decide)) (by decide)
      case oo =>
        refine (okc gg0 (okc gg1 okn))
        all_goals ((try simp (disch := omega) only [SS]); first | done | omega | assumption | (simp (disch := omega) only [SS] at *; first | done | omega | assumption) | (simp_all; done))
      case rr =>
        refine ⟨?_, trivial⟩
        first | (simp_all [ltrI]; done) | (rw [Bool.eq_iff_iff]; simp only [ltrI, decide_eq_true_eq, decide_eq_false_iff_not, beq_iff_eq, beq_eq_false_iff_ne, bne_iff_ne, ne_eq, iff_true, true_iff, iff_false, false_iff, ge_iff_le] at *; omega) | (simp only [ltrI, decide_eq_true_eq, decide_eq_false_iff_not, ge_iff_le] at *; omega) | (rw [Bool.eq_iff_iff]; simp [ltrI]; done)

def bgP : PC := { args := [.v (.vi .u8 0)], heap := [], gs := [], G := 23, tp := 213, n := 80, n' := 90, cond := fun e => true, v := fun e => vB (ltrI (eI e 0 [])), post := fun e => [] }
theorem bgP_pc : PC.Runs Tryd.prog 66 Tryd.f66 (bodyOf Tryd.f66) bgP := ⟨Tryd.func66, by kernel_rfl, (fun g hg => by first | (cases hg; done) | (revert g; show ∀ g ∈ ([] : List Nat), g < 23; decide)), fun e H hc => by
  have hc : (true) = true := hc
  try simp only [Bool.and_eq_true, decide_eq_true_eq, Nat.beq_eq] at hc
  exact bgT (eI e 0 [])⟩
theorem fgT_p0 (x : Int) :
    isEnd (evTill Tryd.prog [] 300 (99) 900 91 [.code (bodyOf Tryd.f91)] (envOf [vU x] Tryd.f91.ntmps) ([] ++ ([])) ⟨[.s false], 80⟩) (endP ([]) (vB (figI x)) ([]) 90) =
    (OkL [(decide (x ≥ (48 : Int)), false)] ∧ figI x = false ∧ True) := by kernel_rfl
theorem fgT_p1 (x : Int) :
    isEnd (evTill Tryd.prog [] 300 (99) 900 91 [.code (bodyOf Tryd.f91)] (envOf [vU x] Tryd.f91.ntmps) ([] ++ ([])) ⟨[.s true], 80⟩) (endP ([]) (vB (figI x)) ([]) 90) =
    (OkL [(decide (x ≥ (48 : Int)), true)] ∧ figI x = decide (x ≤ (57 : Int)) ∧ True) := by kernel_rfl

set_option maxHeartbeats 4000000 in
theorem fgT (x : Int)  :
    RunsTo Tryd.prog 91 [.code (bodyOf Tryd.f91)] (envOf [vU x] Tryd.f91.ntmps) (Sx.look ([] ++ ([]))) 80 (vB (figI x)) (Sx.look ([])) 90 := by
  refine bcase (c := (decide (x ≥ (48 : Int)))) (fun gg0 => ?_) (fun gg0 => ?_)
  · refine runs_last baseO (Sx.Ends.of (fgT_p0 x) ⟨?oo, ?rr⟩) (by kernel_rfl) rfl (gtL (by decide)) (by decide)
    case oo =>
      refine (okc gg0 okn)
      all_goals ((try simp (disch := omega) only [SS]); first | done | omega | assumption | (simp (disch := omega) only [SS] at *; first | done | omega | assumption) | (simp_all; done))
    case rr =>
      refine ⟨?_, trivial⟩
      first | (simp_all [figI]; done) | (rw [Bool.eq_iff_iff]; simp only [figI, decide_eq_true_eq, decide_eq_false_iff_not, beq_iff_eq, beq_eq_false_iff_ne, bne_iff_ne, ne_eq, iff_true, true_iff, iff_false, false_iff, ge_iff_le] at *; omega) | (simp only [figI, decide_eq_true_eq, decide_eq_false_iff_not, ge_iff_le] at *; omega) | (rw [Bool.eq_iff_iff]; simp [figI]; done)
  · refine runs_last baseO (Sx.Ends.of (fgT_p1 x) ⟨?oo, ?rr⟩) (by kernel_rfl) rfl (gtL (by decide)) (by decide)
    case oo =>
      refine (okc gg0 okn)
      all_goals ((try simp (disch := omega) only [SS]); first | done | omega | assumption | (simp (disch := omega) only [SS] at *; first | done | omega | assumption) | (simp_all; done))
    case rr =>
      refine ⟨?_, trivial⟩
      first | (simp_all [figI]; done) | (rw [Bool.eq_iff_iff]; simp only [figI, decide_eq_true_eq, decide_eq_false_iff_not, beq_iff_eq, beq_eq_false_iff_ne, bne_iff_ne, ne_eq, iff_true, true_iff, iff_false, false_iff, ge_iff_le] at *; omega) | (simp only [figI, decide_eq_true_eq, decide_eq_false_iff_not, ge_iff_le] at *; omega) | (rw [Bool.eq_iff_iff]; simp [figI]; done)

def fgP : PC := { args := [.v (.vi .u8 0)], heap := [], gs := [], G := 23, tp := 213, n := 80, n' := 90, cond := fun e => true, v := fun e => vB (figI (eI e 0 [])), post := fun e => [] }
theorem fgP_pc : PC.Runs Tryd.prog 91 Tryd.f91 (bodyOf Tryd.f91) fgP := ⟨Tryd.func91, by kernel_rfl, (fun g hg => by first | (cases hg; done) | (revert g; show ∀ g ∈ ([] : List Nat), g < 23; decide)), fun e H hc => by
  have hc : (true) = true := hc
  try simp only [Bool.and_eq_true, decide_eq_true_eq, Nat.beq_eq] at hc
  exact fgT (eI e 0 [])⟩
def sumsGO : List (FuncId × Summ) := [(66, bgP.summ 46), (91, fgP.summ 46)]
theorem baseGO : Base0 Tryd.prog sumsGO := ((baseO.cons Tryd.func91 (by kernel_rfl) (PC.summ_ok fgP_pc gtopG)).cons Tryd.func66 (by kernel_rfl) (PC.summ_ok bgP_pc gtopG))
theorem goT_p0 (x : Int) :
    isEnd (evTill Tryd.prog sumsGO 300 (99) 900 68 [.code (bodyOf Tryd.f68)] (envOf [vU x] Tryd.f68.ntmps) ([] ++ ([])) ⟨[.t, .s false, .t], 80⟩) (endP ([]) (vB (goI x)) ([]) 110) =
    (OkL [(ltrI x, false)] ∧ goI x = figI x ∧ True) := by kernel_rfl
theorem goT_p1 (x : Int) :
    isEnd (evTill Tryd.prog sumsGO 300 (99) 900 68 [.code (bodyOf Tryd.f68)] (envOf [vU x] Tryd.f68.ntmps) ([] ++ ([])) ⟨[.t, .s true], 80⟩) (endP ([]) (vB (goI x)) ([]) 110) =
    (OkL [(ltrI x, true)] ∧ goI x = true ∧ True) := by kernel_rfl

set_option maxHeartbeats 4000000 in
theorem goT (x : Int)  :
    RunsTo Tryd.prog 68 [.code (bodyOf Tryd.f68)] (envOf [vU x] Tryd.f68.ntmps) (Sx.look ([] ++ ([]))) 80 (vB (goI x)) (Sx.look ([])) 110 := by
  refine bcase (c := (ltrI x)) (fun gg0 => ?_) (fun gg0 => ?_)
  · refine runs_last baseGO (Sx.Ends.of (goT_p0 x) ⟨?oo, ?rr⟩) (by kernel_rfl) rfl (gtL (by decide)) (by decide)
    case oo =>
      refine (okc gg0 okn)
      all_goals ((try simp (disch := omega) only [SS]); first | done | omega | assumption | (simp (disch := omega) only [SS] at *; first | done | omega | assumption) | (simp_all; done))
    case rr =>
      refine ⟨?_, trivial⟩
      first | (simp_all [goI]; done) | (rw [Bool.eq_iff_iff]; simp only [goI, decide_eq_true_eq, decide_eq_false_iff_not, beq_iff_eq, beq_eq_false_iff_ne, bne_iff_ne, ne_eq, iff_true, true_iff, iff_false, false_iff, ge_iff_le] at *; omega) | (simp only [goI, decide_eq_true_eq, decide_eq_false_iff_not, ge_iff_le] at *; omega) | (rw [Bool.eq_iff_iff]; simp [goI]; done)
  · refine runs_last baseGO (Sx.Ends.of (goT_p1 x) ⟨?oo, ?rr⟩) (by kernel_rfl) rfl (gtL (by decide)) (by decide)
    case oo =>
      refine (okc gg0 okn)
      all_goals ((try simp (disch := omega) only [SS]); first | done | omega | assumption | (simp (disch := omega) only [SS] at *; first | done | omega | assumption) | (simp_all; done))
    case rr =>
      refine ⟨?_, trivial⟩
      first | (simp_all [goI]; done) | (rw [Bool.eq_iff_iff]; simp only [goI, decide_eq_true_eq, decide_eq_false_iff_not, beq_iff_eq, beq_eq_false_iff_ne, bne_iff_ne, ne_eq, iff_true, true_iff, iff_false, false_iff, ge_iff_le] at *; omega) | (simp only [goI, decide_eq_true_eq, decide_eq_false_iff_not, ge_iff_le] at *; omega) | (rw [Bool.eq_iff_iff]; simp [goI]; done)

def goP : PC := { args := [.v (.vi .u8 0)], heap := [], gs := [], G := 23, tp := 213, n := 80, n' := 110, cond := fun e => true, v := fun e => vB (goI (eI e 0 [])), post := fun e => [] }
theorem goP_pc : PC.Runs Tryd.prog 68 Tryd.f68 (bodyOf Tryd.f68) goP := ⟨Tryd.func68, by kernel_rfl, (fun g hg => by first | (cases hg; done) | (revert g; show ∀ g ∈ ([] : List Nat), g < 23; decide)), fun e H hc => by
  have hc : (true) = true := hc
  try simp only [Bool.and_eq_true, decide_eq_true_eq, Nat.beq_eq] at hc
  exact goT (eI e 0 [])⟩
theorem blT_p0 (x : Int) :
    isEnd (evTill Tryd.prog [] 300 (99) 900 87 [.code (bodyOf Tryd.f87)] (envOf [vU x] Tryd.f87.ntmps) ([] ++ ([])) ⟨[.s false, .s false], 80⟩) (endP ([]) (vB (blI x)) ([]) 90) =
    (OkL [(x == (32 : Int), false), (x == (9 : Int), false)] ∧ blI x = (x == (13 : Int)) ∧ True) := by kernel_rfl
theorem blT_p1 (x : Int) :
    isEnd (evTill Tryd.prog [] 300 (99) 900 87 [.code (bodyOf Tryd.f87)] (envOf [vU x] Tryd.f87.ntmps) ([] ++ ([])) ⟨[.s false, .s true], 80⟩) (endP ([]) (vB (blI x)) ([]) 90) =
    (OkL [(x == (32 : Int), false), (x == (9 : Int), true)] ∧ blI x = true ∧ True) := by kernel_rfl
theorem blT_p2 (x : Int) :
    isEnd (evTill Tryd.prog [] 300 (99) 900 87 [.code (bodyOf Tryd.f87)] (envOf [vU x] Tryd.f87.ntmps) ([] ++ ([])) ⟨[.s true], 80⟩) (endP ([]) (vB (blI x)) ([]) 90) =
    (OkL [(x == (32 : Int), true)] ∧ blI x = true ∧ True) := by kernel_rfl

set_option maxHeartbeats 4000000 in
theorem blT (x : Int)  :
    RunsTo Tryd.prog 87 [.code (bodyOf Tryd.f87)] (envOf [vU x] Tryd.f87.ntmps) (Sx.look ([] ++ ([]))) 80 (vB (blI x)) (Sx.look ([])) 90 := by
  refine bcase (c := (x == (32 : Int))) (fun gg0 => ?_) (fun gg0 => ?_)
  · refine bcase (c := (x == (9 : Int))) (fun gg1 => ?_) (fun gg1 => ?_)
    · refine runs_last baseO (Sx.Ends.of (blT_p0 x) ⟨?oo, ?rr⟩) (by kernel_rfl) rfl (gtL (by decide)) (by decide)
      case oo =>
        refine (okc gg0 (okc gg1 okn))
        all_goals ((try simp (disch := omega) only [SS]); first | done | omega | assumption | (simp (disch := omega) only [SS] at *; first | done | omega | assumption) | (simp_all; done))
      case rr =>
        refine ⟨?_, trivial⟩
        first | (simp_all [blI]; done) | (rw [Bool.eq_iff_iff]; simp only [blI, decide_eq_true_eq, decide_eq_false_iff_not, beq_iff_eq, beq_eq_false_iff_ne, bne_iff_ne, ne_eq, iff_true, true_iff, iff_false, false_iff, ge_iff_le] at *; omega) | (simp only [blI, decide_eq_true_eq, decide_eq_false_iff_not, ge_iff_le] at *; omega) | (rw [Bool.eq_iff_iff]; simp [blI]; done)
    · refine runs_last baseO (Sx.Ends.of (blT_p1 x) ⟨?oo, ?rr⟩) (by kernel_rfl) rfl (gtL (by decide)) (by decide)
      case oo =>
        refine (okc gg0 (okc gg1 okn))
        all_goals ((try simp (disch := omega) only [SS]); first | done | omega | assumption | (simp (disch := omega) only [SS] at *; first | done | omega | assumption) | (simp_all; done))
      case rr =>
        refine ⟨?_, trivial⟩
        first | (simp_all [blI]; done) | (rw [Bool.eq_iff_iff]; simp only [blI, decide_eq_true_eq, decide_eq_false_iff_not, beq_iff_eq, beq_eq_false_iff_ne, bne_iff_ne, ne_eq, iff_true, true_iff, iff_false, false_iff, ge_iff_le] at *; omega) | (simp only [blI, decide_eq_true_eq, decide_eq_false_iff_not, ge_iff_le] at *; omega) | (rw [Bool.eq_iff_iff]; simp [blI]; done)
  · refine runs_last baseO (Sx.Ends.of (blT_p2 x) ⟨?oo, ?rr⟩) (by kernel_rfl) rfl (gtL (by decide)) (by decide)
    case oo =>
      refine (okc gg0 okn)
      all_goals ((try simp (disch := omega) only [SS]); first | done | omega | assumption | (simp (disch := omega) only [SS] at *; first | done | omega | assumption) | (simp_all; done))
    case rr =>
      refine ⟨?_, trivial⟩
      first | (simp_all [blI]; done) | (rw [Bool.eq_iff_iff]; simp only [blI, decide_eq_true_eq, decide_eq_false_iff_not, beq_iff_eq, beq_eq_false_iff_ne, bne_iff_ne, ne_eq, iff_true, true_iff, iff_false, false_iff, ge_iff_le] at *; omega) | (simp only [blI, decide_eq_true_eq, decide_eq_false_iff_not, ge_iff_le] at *; omega) | (rw [Bool.eq_iff_iff]; simp [blI]; done)

def blP : PC := { args := [.v (.vi .u8 0)], heap := [], gs := [], G := 23, tp := 213, n := 80, n' := 90, cond := fun e => true, v := fun e => vB (blI (eI e 0 [])), post := fun e => [] }
theorem blP_pc : PC.Runs Tryd.prog 87 Tryd.f87 (bodyOf Tryd.f87) blP := ⟨Tryd.func87, by kernel_rfl, (fun g hg => by first | (cases hg; done) | (revert g; show ∀ g ∈ ([] : List Nat), g < 23; decide)), fun e H hc => by
  have hc : (true) = true := hc
  try simp only [Bool.and_eq_true, decide_eq_true_eq, Nat.beq_eq] at hc
  exact blT (eI e 0 [])⟩
theorem nlT_p0 (x : Int) :
    isEnd (evTill Tryd.prog [] 300 (99) 900 89 [.code (bodyOf Tryd.f89)] (envOf [vU x] Tryd.f89.ntmps) ([] ++ ([])) ⟨[], 80⟩) (endP ([]) (vB (nlI x)) ([]) 90) =
    (OkL [] ∧ nlI x = (x != (10 : Int)) ∧ True) := by kernel_rfl

set_option maxHeartbeats 4000000 in
theorem nlT (x : Int)  :
    RunsTo Tryd.prog 89 [.code (bodyOf Tryd.f89)] (envOf [vU x] Tryd.f89.ntmps) (Sx.look ([] ++ ([]))) 80 (vB (nlI x)) (Sx.look ([])) 90 := by
  refine runs_last baseO (Sx.Ends.of (nlT_p0 x) ⟨?oo, ?rr⟩) (by kernel_rfl) rfl (gtL (by decide)) (by decide)
  case oo =>
    refine okn
    all_goals ((try simp (disch := omega) only [SS]); first | done | omega | assumption | (simp (disch := omega) only [SS] at *; first | done | omega | assumption) | (simp_all; done))
  case rr =>
    refine ⟨?_, trivial⟩
    first | (simp_all [nlI]; done) | (rw [Bool.eq_iff_iff]; simp only [nlI, decide_eq_true_eq, decide_eq_false_iff_not, beq_iff_eq, beq_eq_false_iff_ne, bne_iff_ne, ne_eq, iff_true, true_iff, iff_false, false_iff, ge_iff_le] at *; omega) | (simp only [nlI, decide_eq_true_eq, decide_eq_false_iff_not, ge_iff_le] at *; omega) | (rw [Bool.eq_iff_iff]; simp [nlI]; done)

def nlP : PC := { args := [.v (.vi .u8 0)], heap := [], gs := [], G := 23, tp := 213, n := 80, n' := 90, cond := fun e => true, v := fun e => vB (nlI (eI e 0 [])), post := fun e => [] }
theorem nlP_pc : PC.Runs Tryd.prog 89 Tryd.f89 (bodyOf Tryd.f89) nlP := ⟨Tryd.func89, by kernel_rfl, (fun g hg => by first | (cases hg; done) | (revert g; show ∀ g ∈ ([] : List Nat), g < 23; decide)), fun e H hc => by
  have hc : (true) = true := hc
  try simp only [Bool.and_eq_true, decide_eq_true_eq, Nat.beq_eq] at hc
  exact nlT (eI e 0 [])⟩
def sumswhG : List (FuncId × Summ) := [(68, goP.summ 46)]
theorem basewhG : Base0 Tryd.prog sumswhG := (baseO.cons Tryd.func68 (by kernel_rfl) (PC.summ_ok goP_pc gtopG))
theorem whG0_p0 (s : List UInt8) (a : Nat) :
    isMore (evTill Tryd.prog sumswhG 300 (behind Tryd.f86 0) 900 86 [.code (bodyOf Tryd.f86)] (envOf [vP 63, vF 68] Tryd.f86.ntmps) ([] ++ (rdW 63 s (a : Nat))) ⟨[], 80⟩) (moreP (headOf Tryd.f86 0) ([]) Tryd.f86.ntmps ([(0, vP 63), (1, vF 68), (5, vN (a : Nat))]) (rdW 63 s (a : Nat)) 140) =
    (OkL [] ∧ headOf Tryd.f86 0 = headOf Tryd.f86 0 ∧ (0 = 0 ∧ Value.func (Fn.func (68 : Nat)) #[] #[] = Value.func (Fn.func (68 : Nat)) #[] #[] ∧ (a : Int) = (a : Int)) ∧ s = s ∧ (a : Int) = (a : Int)) := by kernel_rfl

set_option maxHeartbeats 4000000 in
theorem whG0 (s : List UInt8) (a : Nat) (ha : a ≤ s.length) (hs : s.length ≤ 100000)  (v : SV) (L' : HF) (next : RunsTo Tryd.prog 86 (headOf Tryd.f86 0) (envAt Tryd.f86.ntmps ([(0, vP 63), (1, vF 68), (5, vN (a : Nat))])) (Sx.look ([] ++ (rdW 63 s (a : Nat)))) 80 (v) (L') 140) :
    RunsTo Tryd.prog 86 [.code (bodyOf Tryd.f86)] (envOf [vP 63, vF 68] Tryd.f86.ntmps) (Sx.look ([] ++ (rdW 63 s (a : Nat)))) 80 (v) (L') 140 := by
  refine runs_more basewhG (More.of (whG0_p0 s a) ⟨okn, rfl, ?_⟩) (by kernel_rfl) (by kernel_rfl) rfl (gtL (by decide)) (by decide) next
  all_goals clear next
  all_goals first | (refine And.intro ?_ ?_ <;> ((try simp (disch := omega) only [SS]); (repeat' apply And.intro); (all_goals first | exact True.intro | with_reducible rfl | omega | (intros; first | exact True.intro | with_reducible rfl | omega | (simp_all; done)) | (simp_all; done) | rfl))) | (((try simp (disch := omega) only [SS]); first | done | omega | assumption | (simp (disch := omega) only [SS] at *; first | done | omega | assumption) | (simp_all; done)))

theorem whG1_p0 (s : List UInt8) (a : Nat) (i : Nat) :
    isMore (evTill Tryd.prog sumswhG 300 (behind Tryd.f86 0) 900 86 (headOf Tryd.f86 0) (envAt Tryd.f86.ntmps ([(0, vP 63), (1, vF 68), (5, vN (a : Nat))])) ([] ++ (rdW 63 s (i : Nat))) ⟨[.s true, .s true, .t, .s true], 110⟩) (moreP (headOf Tryd.f86 0) ([]) Tryd.f86.ntmps ([(0, vP 63), (1, vF 68), (5, vN (a : Nat))]) (rdW 63 s (i + 1 : Nat)) 140) =
    (OkL [(!decide ((i : Int) ≥ (↑s.length : Int)), true), (decide ((0 : Int) ≤ (i : Int) ∧ (i : Int) < (↑s.length : Int)), true), (goI (↑(s.getD (i : Int).toNat (0 : UInt8)).toNat : Int), true)] ∧ headOf Tryd.f86 0 = headOf Tryd.f86 0 ∧ (0 = 0 ∧ Value.func (Fn.func (68 : Nat)) #[] #[] = Value.func (Fn.func (68 : Nat)) #[] #[] ∧ (a : Int) = (a : Int)) ∧ s = s ∧ (↑(i + (1 : Nat)) : Int) = IntKind.i64.wrap ((i : Int) + 1)) := by kernel_rfl

set_option maxHeartbeats 4000000 in
theorem whG1 (s : List UInt8) (a : Nat) (i : Nat) (hi : i < s.length) (hs : s.length ≤ 100000) (h : goI ((s.getD i 0).toNat : Int) = true)  (v : SV) (L' : HF) (next : RunsTo Tryd.prog 86 (headOf Tryd.f86 0) (envAt Tryd.f86.ntmps ([(0, vP 63), (1, vF 68), (5, vN (a : Nat))])) (Sx.look ([] ++ (rdW 63 s (i + 1 : Nat)))) 80 (v) (L') 140) :
    RunsTo Tryd.prog 86 (headOf Tryd.f86 0) (envAt Tryd.f86.ntmps ([(0, vP 63), (1, vF 68), (5, vN (a : Nat))])) (Sx.look ([] ++ (rdW 63 s (i : Nat)))) 80 (v) (L') 140 := by
  have hw : IntKind.i64.wrap ((i : Int) + 1) = ((i + 1 : Nat) : Int) := by rw [wr64 (by omega)]; rfl
  refine runs_more basewhG (More.of (whG1_p0 s a i) ⟨(okc ?_ (okc ?_ (okc ?_ okn))), rfl, ?_⟩) (by kernel_rfl) (by kernel_rfl) rfl (gtL (by decide)) (by decide) next
  all_goals clear next
  all_goals first | (refine And.intro ?_ ?_ <;> ((try simp (disch := omega) only [SS, hw, h]); (repeat' apply And.intro); (all_goals first | exact True.intro | with_reducible rfl | omega | (intros; first | exact True.intro | with_reducible rfl | omega | (simp_all; done)) | (simp_all; done) | rfl))) | (((try simp (disch := omega) only [SS, hw, h]); first | done | omega | assumption | (simp (disch := omega) only [SS, hw, h] at *; first | done | omega | assumption) | (simp_all; done)))

theorem whG2_p0 (s : List UInt8) (a : Nat) (i : Nat) :
    isEnd (evTill Tryd.prog sumswhG 300 (99) 900 86 (headOf Tryd.f86 0) (envAt Tryd.f86.ntmps ([(0, vP 63), (1, vF 68), (5, vN (a : Nat))])) ([] ++ (rdW 63 s (i : Nat))) ⟨[.s false, .s true, .s true], 110⟩) (endP ([]) (vS ((s.take (i)).drop a)) (rdW 63 s (i : Nat)) 140) =
    (OkL [(!decide ((i : Int) ≥ (↑s.length : Int)), false), (decide ((0 : Int) ≤ (i : Int) ∧ (i : Int) ≤ (↑s.length : Int)), true), (decide ((0 : Int) ≤ (a : Int) ∧ (a : Int) ≤ (i : Int)), true)] ∧ List.drop a (List.take i s) = List.drop (a : Int).toNat (List.take (i : Int).toNat s) ∧ s = s ∧ (i : Int) = (i : Int)) := by kernel_rfl

set_option maxHeartbeats 4000000 in
theorem whG2 (s : List UInt8) (a : Nat) (i : Nat) (hi : i = s.length) (ha : a ≤ i)  :
    RunsTo Tryd.prog 86 (headOf Tryd.f86 0) (envAt Tryd.f86.ntmps ([(0, vP 63), (1, vF 68), (5, vN (a : Nat))])) (Sx.look ([] ++ (rdW 63 s (i : Nat)))) 80 (vS ((s.take (i)).drop a)) (Sx.look (rdW 63 s (i : Nat))) 140 := by
  refine runs_last basewhG (Sx.Ends.of (whG2_p0 s a i) ⟨(okc ?_ (okc ?_ (okc ?_ okn))), ?_⟩) (by kernel_rfl) rfl (gtL (by decide)) (by decide)
  all_goals first | (refine And.intro ?_ ?_ <;> ((try simp (disch := omega) only [SS]); (repeat' apply And.intro); (all_goals first | exact True.intro | with_reducible rfl | omega | (intros; first | exact True.intro | with_reducible rfl | omega | (simp_all; done)) | (simp_all; done) | rfl))) | (((try simp (disch := omega) only [SS]); first | done | omega | assumption | (simp (disch := omega) only [SS] at *; first | done | omega | assumption) | (simp_all; done)))

theorem whG3_p0 (s : List UInt8) (a : Nat) (i : Nat) :
    isEnd (evTill Tryd.prog sumswhG 300 (99) 900 86 (headOf Tryd.f86 0) (envAt Tryd.f86.ntmps ([(0, vP 63), (1, vF 68), (5, vN (a : Nat))])) ([] ++ (rdW 63 s (i : Nat))) ⟨[.s true, .s true, .t, .s false, .s true, .s true], 110⟩) (endP ([]) (vS ((s.take (i)).drop a)) (rdW 63 s (i : Nat)) 140) =
    (OkL [(!decide ((i : Int) ≥ (↑s.length : Int)), true), (decide ((0 : Int) ≤ (i : Int) ∧ (i : Int) < (↑s.length : Int)), true), (goI (↑(s.getD (i : Int).toNat (0 : UInt8)).toNat : Int), false), (decide ((0 : Int) ≤ (i : Int) ∧ (i : Int) ≤ (↑s.length : Int)), true), (decide ((0 : Int) ≤ (a : Int) ∧ (a : Int) ≤ (i : Int)), true)] ∧ List.drop a (List.take i s) = List.drop (a : Int).toNat (List.take (i : Int).toNat s) ∧ s = s ∧ (i : Int) = (i : Int)) := by kernel_rfl

set_option maxHeartbeats 4000000 in
theorem whG3 (s : List UInt8) (a : Nat) (i : Nat) (hi : i < s.length) (ha : a ≤ i) (h : goI ((s.getD i 0).toNat : Int) = false)  :
    RunsTo Tryd.prog 86 (headOf Tryd.f86 0) (envAt Tryd.f86.ntmps ([(0, vP 63), (1, vF 68), (5, vN (a : Nat))])) (Sx.look ([] ++ (rdW 63 s (i : Nat)))) 80 (vS ((s.take (i)).drop a)) (Sx.look (rdW 63 s (i : Nat))) 140 := by
  refine runs_last basewhG (Sx.Ends.of (whG3_p0 s a i) ⟨(okc ?_ (okc ?_ (okc ?_ (okc ?_ (okc ?_ okn))))), ?_⟩) (by kernel_rfl) rfl (gtL (by decide)) (by decide)
  all_goals first | (refine And.intro ?_ ?_ <;> ((try simp (disch := omega) only [SS, h]); (repeat' apply And.intro); (all_goals first | exact True.intro | with_reducible rfl | omega | (intros; first | exact True.intro | with_reducible rfl | omega | (simp_all; done)) | (simp_all; done) | rfl))) | (((try simp (disch := omega) only [SS, h]); first | done | omega | assumption | (simp (disch := omega) only [SS, h] at *; first | done | omega | assumption) | (simp_all; done)))

theorem whGI (s : List UInt8) (a : Nat) (ha : a ≤ s.length) (hs : s.length ≤ 100000) : RunsTo Tryd.prog 86 [.code (bodyOf Tryd.f86)] (envOf [vP 63, vF 68] Tryd.f86.ntmps) (Sx.look ([] ++ (rdW 63 s (a : Nat)))) 80 (vS ((s.take (a + spanR goI (s.drop a))).drop a)) (Sx.look (rdW 63 s (a + spanR goI (s.drop a) : Nat))) 140 := by
  refine whG0 s a ha hs _ _ ?_
  suffices q : ∀ (k i : Nat), i + k = s.length → a ≤ i → RunsTo Tryd.prog 86 (headOf Tryd.f86 0) (envAt Tryd.f86.ntmps ([(0, vP 63), (1, vF 68), (5, vN (a : Nat))])) (Sx.look ([] ++ (rdW 63 s (i : Nat)))) 80 (vS ((s.take (i + spanR goI (s.drop i))).drop a)) (Sx.look (rdW 63 s (i + spanR goI (s.drop i) : Nat))) 140 from q (s.length - a) a (by omega) (Nat.le_refl _)
  intro k
  induction k with
  | zero =>
    intro i hi hai
    rw [span_e (by omega), Nat.add_zero]
    exact whG2 s a i (by omega) hai
  | succ k ih =>
    intro i hi hai
    cases h : goI ((s.getD i 0).toNat : Int) with
    | true =>
      rw [span_y (by omega) h, show ∀ x, i + (x + 1) = i + 1 + x by omega]
      exact whG1 s a i (by omega) hs h _ _ (ih (i + 1) (by omega) (by omega))
    | false =>
      rw [span_n (by omega) h, Nat.add_zero]
      exact whG3 s a i (by omega) hai h
def whGP : PC := { args := [.v (.vp 63), .v (.vq 68)], heap := [⟨63, true, 2, .tc (.vs 0) (.tc (.vi .i64 1) .t0)⟩], gs := [], G := 23, tp := 213, n := 80, n' := 140, cond := fun e => decide (0 ≤ eI e 1 []) && (decide ((eI e 1 []).toNat ≤ (eS e 0 []).length) && decide ((eS e 0 []).length ≤ 100000)), v := fun e => vS (((eS e 0 []).take ((eI e 1 []).toNat + spanR goI ((eS e 0 []).drop (eI e 1 []).toNat))).drop ((eI e 1 []).toNat)), post := fun e => rdW 63 (eS e 0 []) (((eI e 1 []).toNat + spanR goI ((eS e 0 []).drop (eI e 1 []).toNat)) : Nat) }
theorem whGP_pc : PC.Runs Tryd.prog 86 Tryd.f86 (bodyOf Tryd.f86) whGP := ⟨Tryd.func86, by kernel_rfl, (fun g hg => by first | (cases hg; done) | (revert g; show ∀ g ∈ ([] : List Nat), g < 23; decide)), fun e H hc => by
  have hc : (decide (0 ≤ eI e 1 []) && (decide ((eI e 1 []).toNat ≤ (eS e 0 []).length) && decide ((eS e 0 []).length ≤ 100000))) = true := hc
  try simp only [Bool.and_eq_true, decide_eq_true_eq, Nat.beq_eq] at hc
  exact by obtain ⟨h1, h2, h3⟩ := hc; have hj : ((eI e 1 []).toNat : Int) = eI e 1 [] := Int.toNat_of_nonneg h1; have q := whGI (eS e 0 []) (eI e 1 []).toNat h2 h3; rw [hj] at q; exact q⟩
def sumswhF : List (FuncId × Summ) := [(91, fgP.summ 46)]
theorem basewhF : Base0 Tryd.prog sumswhF := (baseO.cons Tryd.func91 (by kernel_rfl) (PC.summ_ok fgP_pc gtopG))
theorem whF0_p0 (s : List UInt8) (a : Nat) :
    isMore (evTill Tryd.prog sumswhF 300 (behind Tryd.f86 0) 900 86 [.code (bodyOf Tryd.f86)] (envOf [vP 63, vF 91] Tryd.f86.ntmps) ([] ++ (rdW 63 s (a : Nat))) ⟨[], 80⟩) (moreP (headOf Tryd.f86 0) ([]) Tryd.f86.ntmps ([(0, vP 63), (1, vF 91), (5, vN (a : Nat))]) (rdW 63 s (a : Nat)) 140) =
    (OkL [] ∧ headOf Tryd.f86 0 = headOf Tryd.f86 0 ∧ (0 = 0 ∧ Value.func (Fn.func (91 : Nat)) #[] #[] = Value.func (Fn.func (91 : Nat)) #[] #[] ∧ (a : Int) = (a : Int)) ∧ s = s ∧ (a : Int) = (a : Int)) := by kernel_rfl

set_option maxHeartbeats 4000000 in
theorem whF0 (s : List UInt8) (a : Nat) (ha : a ≤ s.length) (hs : s.length ≤ 100000)  (v : SV) (L' : HF) (next : RunsTo Tryd.prog 86 (headOf Tryd.f86 0) (envAt Tryd.f86.ntmps ([(0, vP 63), (1, vF 91), (5, vN (a : Nat))])) (Sx.look ([] ++ (rdW 63 s (a : Nat)))) 80 (v) (L') 140) :
    RunsTo Tryd.prog 86 [.code (bodyOf Tryd.f86)] (envOf [vP 63, vF 91] Tryd.f86.ntmps) (Sx.look ([] ++ (rdW 63 s (a : Nat)))) 80 (v) (L') 140 := by
  refine runs_more basewhF (More.of (whF0_p0 s a) ⟨okn, rfl, ?_⟩) (by kernel_rfl) (by kernel_rfl) rfl (gtL (by decide)) (by decide) next
  all_goals clear next
  all_goals first | (refine And.intro ?_ ?_ <;> ((try simp (disch := omega) only [SS]); (repeat' apply And.intro); (all_goals first | exact True.intro | with_reducible rfl | omega | (intros; first | exact True.intro | with_reducible rfl | omega | (simp_all; done)) | (simp_all; done) | rfl))) | (((try simp (disch := omega) only [SS]); first | done | omega | assumption | (simp (disch := omega) only [SS] at *; first | done | omega | assumption) | (simp_all; done)))

theorem whF1_p0 (s : List UInt8) (a : Nat) (i : Nat) :
    isMore (evTill Tryd.prog sumswhF 300 (behind Tryd.f86 0) 900 86 (headOf Tryd.f86 0) (envAt Tryd.f86.ntmps ([(0, vP 63), (1, vF 91), (5, vN (a : Nat))])) ([] ++ (rdW 63 s (i : Nat))) ⟨[.s true, .s true, .t, .s true], 110⟩) (moreP (headOf Tryd.f86 0) ([]) Tryd.f86.ntmps ([(0, vP 63), (1, vF 91), (5, vN (a : Nat))]) (rdW 63 s (i + 1 : Nat)) 140) =
    (OkL [(!decide ((i : Int) ≥ (↑s.length : Int)), true), (decide ((0 : Int) ≤ (i : Int) ∧ (i : Int) < (↑s.length : Int)), true), (figI (↑(s.getD (i : Int).toNat (0 : UInt8)).toNat : Int), true)] ∧ headOf Tryd.f86 0 = headOf Tryd.f86 0 ∧ (0 = 0 ∧ Value.func (Fn.func (91 : Nat)) #[] #[] = Value.func (Fn.func (91 : Nat)) #[] #[] ∧ (a : Int) = (a : Int)) ∧ s = s ∧ (↑(i + (1 : Nat)) : Int) = IntKind.i64.wrap ((i : Int) + 1)) := by kernel_rfl

set_option maxHeartbeats 4000000 in
theorem whF1 (s : List UInt8) (a : Nat) (i : Nat) (hi : i < s.length) (hs : s.length ≤ 100000) (h : figI ((s.getD i 0).toNat : Int) = true)  (v : SV) (L' : HF) (next : RunsTo Tryd.prog 86 (headOf Tryd.f86 0) (envAt Tryd.f86.ntmps ([(0, vP 63), (1, vF 91), (5, vN (a : Nat))])) (Sx.look ([] ++ (rdW 63 s (i + 1 : Nat)))) 80 (v) (L') 140) :
    RunsTo Tryd.prog 86 (headOf Tryd.f86 0) (envAt Tryd.f86.ntmps ([(0, vP 63), (1, vF 91), (5, vN (a : Nat))])) (Sx.look ([] ++ (rdW 63 s (i : Nat)))) 80 (v) (L') 140 := by
  have hw : IntKind.i64.wrap ((i : Int) + 1) = ((i + 1 : Nat) : Int) := by rw [wr64 (by omega)]; rfl
  refine runs_more basewhF (More.of (whF1_p0 s a i) ⟨(okc ?_ (okc ?_ (okc ?_ okn))), rfl, ?_⟩) (by kernel_rfl) (by kernel_rfl) rfl (gtL (by decide)) (by decide) next
  all_goals clear next
  all_goals first | (refine And.intro ?_ ?_ <;> ((try simp (disch := omega) only [SS, hw, h]); (repeat' apply And.intro); (all_goals first | exact True.intro | with_reducible rfl | omega | (intros; first | exact True.intro | with_reducible rfl | omega | (simp_all; done)) | (simp_all; done) | rfl))) | (((try simp (disch := omega) only [SS, hw, h]); first | done | omega | assumption | (simp (disch := omega) only [SS, hw, h] at *; first | done | omega | assumption) | (simp_all; done)))

theorem whF2_p0 (s : List UInt8) (a : Nat) (i : Nat) :
    isEnd (evTill Tryd.prog sumswhF 300 (99) 900 86 (headOf Tryd.f86 0) (envAt Tryd.f86.ntmps ([(0, vP 63), (1, vF 91), (5, vN (a : Nat))])) ([] ++ (rdW 63 s (i : Nat))) ⟨[.s false, .s true, .s true], 110⟩) (endP ([]) (vS ((s.take (i)).drop a)) (rdW 63 s (i : Nat)) 140) =
    (OkL [(!decide ((i : Int) ≥ (↑s.length : Int)), false), (decide ((0 : Int) ≤ (i : Int) ∧ (i : Int) ≤ (↑s.length : Int)), true), (decide ((0 : Int) ≤ (a : Int) ∧ (a : Int) ≤ (i : Int)), true)] ∧ List.drop a (List.take i s) = List.drop (a : Int).toNat (List.take (i : Int).toNat s) ∧ s = s ∧ (i : Int) = (i : Int)) := by kernel_rfl

set_option maxHeartbeats 4000000 in
theorem whF2 (s : List UInt8) (a : Nat) (i : Nat) (hi : i = s.length) (ha : a ≤ i)  :
    RunsTo Tryd.prog 86 (headOf Tryd.f86 0) (envAt Tryd.f86.ntmps ([(0, vP 63), (1, vF 91), (5, vN (a : Nat))])) (Sx.look ([] ++ (rdW 63 s (i : Nat)))) 80 (vS ((s.take (i)).drop a)) (Sx.look (rdW 63 s (i : Nat))) 140 := by
  refine runs_last basewhF (Sx.Ends.of (whF2_p0 s a i) ⟨(okc ?_ (okc ?_ (okc ?_ okn))), ?_⟩) (by kernel_rfl) rfl (gtL (by decide)) (by decide)
  all_goals first | (refine And.intro ?_ ?_ <;> ((try simp (disch := omega) only [SS]); (repeat' apply And.intro); (all_goals first | exact True.intro | with_reducible rfl | omega | (intros; first | exact True.intro | with_reducible rfl | omega | (simp_all; done)) | (simp_all; done) | rfl))) | (((try simp (disch := omega) only [SS]); first | done | omega | assumption | (simp (disch := omega) only [SS] at *; first | done | omega | assumption) | (simp_all; done)))

theorem whF3_p0 (s : List UInt8) (a : Nat) (i : Nat) :
    isEnd (evTill Tryd.prog sumswhF 300 (99) 900 86 (headOf Tryd.f86 0) (envAt Tryd.f86.ntmps ([(0, vP 63), (1, vF 91), (5, vN (a : Nat))])) ([] ++ (rdW 63 s (i : Nat))) ⟨[.s true, .s true, .t, .s false, .s true, .s true], 110⟩) (endP ([]) (vS ((s.take (i)).drop a)) (rdW 63 s (i : Nat)) 140) =
    (OkL [(!decide ((i : Int) ≥ (↑s.length : Int)), true), (decide ((0 : Int) ≤ (i : Int) ∧ (i : Int) < (↑s.length : Int)), true), (figI (↑(s.getD (i : Int).toNat (0 : UInt8)).toNat : Int), false), (decide ((0 : Int) ≤ (i : Int) ∧ (i : Int) ≤ (↑s.length : Int)), true), (decide ((0 : Int) ≤ (a : Int) ∧ (a : Int) ≤ (i : Int)), true)] ∧ List.drop a (List.take i s) = List.drop (a : Int).toNat (List.take (i : Int).toNat s) ∧ s = s ∧ (i : Int) = (i : Int)) := by kernel_rfl

set_option maxHeartbeats 4000000 in
theorem whF3 (s : List UInt8) (a : Nat) (i : Nat) (hi : i < s.length) (ha : a ≤ i) (h : figI ((s.getD i 0).toNat : Int) = false)  :
    RunsTo Tryd.prog 86 (headOf Tryd.f86 0) (envAt Tryd.f86.ntmps ([(0, vP 63), (1, vF 91), (5, vN (a : Nat))])) (Sx.look ([] ++ (rdW 63 s (i : Nat)))) 80 (vS ((s.take (i)).drop a)) (Sx.look (rdW 63 s (i : Nat))) 140 := by
  refine runs_last basewhF (Sx.Ends.of (whF3_p0 s a i) ⟨(okc ?_ (okc ?_ (okc ?_ (okc ?_ (okc ?_ okn))))), ?_⟩) (by kernel_rfl) rfl (gtL (by decide)) (by decide)
  all_goals first | (refine And.intro ?_ ?_ <;> ((try simp (disch := omega) only [SS, h]); (repeat' apply And.intro); (all_goals first | exact True.intro | with_reducible rfl | omega | (intros; first | exact True.intro | with_reducible rfl | omega | (simp_all; done)) | (simp_all; done) | rfl))) | (((try simp (disch := omega) only [SS, h]); first | done | omega | assumption | (simp (disch := omega) only [SS, h] at *; first | done | omega | assumption) | (simp_all; done)))

theorem whFI (s : List UInt8) (a : Nat) (ha : a ≤ s.length) (hs : s.length ≤ 100000) : RunsTo Tryd.prog 86 [.code (bodyOf Tryd.f86)] (envOf [vP 63, vF 91] Tryd.f86.ntmps) (Sx.look ([] ++ (rdW 63 s (a : Nat)))) 80 (vS ((s.take (a + spanR figI (s.drop a))).drop a)) (Sx.look (rdW 63 s (a + spanR figI (s.drop a) : Nat))) 140 := by
  refine whF0 s a ha hs _ _ ?_
  suffices q : ∀ (k i : Nat), i + k = s.length → a ≤ i → RunsTo Tryd.prog 86 (headOf Tryd.f86 0) (envAt Tryd.f86.ntmps ([(0, vP 63), (1, vF 91), (5, vN (a : Nat))])) (Sx.look ([] ++ (rdW 63 s (i : Nat)))) 80 (vS ((s.take (i + spanR figI (s.drop i))).drop a)) (Sx.look (rdW 63 s (i + spanR figI (s.drop i) : Nat))) 140 from q (s.length - a) a (by omega) (Nat.le_refl _)
  intro k
  induction k with
  | zero =>
    intro i hi hai
    rw [span_e (by omega), Nat.add_zero]
    exact whF2 s a i (by omega) hai
  | succ k ih =>
    intro i hi hai
    cases h : figI ((s.getD i 0).toNat : Int) with
    | true =>
      rw [span_y (by omega) h, show ∀ x, i + (x + 1) = i + 1 + x by omega]
      exact whF1 s a i (by omega) hs h _ _ (ih (i + 1) (by omega) (by omega))
    | false =>
      rw [span_n (by omega) h, Nat.add_zero]
      exact whF3 s a i (by omega) hai h
def whFP : PC := { args := [.v (.vp 63), .v (.vq 91)], heap := [⟨63, true, 2, .tc (.vs 0) (.tc (.vi .i64 1) .t0)⟩], gs := [], G := 23, tp := 213, n := 80, n' := 140, cond := fun e => decide (0 ≤ eI e 1 []) && (decide ((eI e 1 []).toNat ≤ (eS e 0 []).length) && decide ((eS e 0 []).length ≤ 100000)), v := fun e => vS (((eS e 0 []).take ((eI e 1 []).toNat + spanR figI ((eS e 0 []).drop (eI e 1 []).toNat))).drop ((eI e 1 []).toNat)), post := fun e => rdW 63 (eS e 0 []) (((eI e 1 []).toNat + spanR figI ((eS e 0 []).drop (eI e 1 []).toNat)) : Nat) }
theorem whFP_pc : PC.Runs Tryd.prog 86 Tryd.f86 (bodyOf Tryd.f86) whFP := ⟨Tryd.func86, by kernel_rfl, (fun g hg => by first | (cases hg; done) | (revert g; show ∀ g ∈ ([] : List Nat), g < 23; decide)), fun e H hc => by
  have hc : (decide (0 ≤ eI e 1 []) && (decide ((eI e 1 []).toNat ≤ (eS e 0 []).length) && decide ((eS e 0 []).length ≤ 100000))) = true := hc
  try simp only [Bool.and_eq_true, decide_eq_true_eq, Nat.beq_eq] at hc
  exact by obtain ⟨h1, h2, h3⟩ := hc; have hj : ((eI e 1 []).toNat : Int) = eI e 1 [] := Int.toNat_of_nonneg h1; have q := whFI (eS e 0 []) (eI e 1 []).toNat h2 h3; rw [hj] at q; exact q⟩
def sumswhB : List (FuncId × Summ) := [(87, blP.summ 46)]
theorem basewhB : Base0 Tryd.prog sumswhB := (baseO.cons Tryd.func87 (by kernel_rfl) (PC.summ_ok blP_pc gtopG))
theorem whB0_p0 (s : List UInt8) (a : Nat) :
    isMore (evTill Tryd.prog sumswhB 300 (behind Tryd.f86 0) 900 86 [.code (bodyOf Tryd.f86)] (envOf [vP 63, vF 87] Tryd.f86.ntmps) ([] ++ (rdW 63 s (a : Nat))) ⟨[], 80⟩) (moreP (headOf Tryd.f86 0) ([]) Tryd.f86.ntmps ([(0, vP 63), (1, vF 87), (5, vN (a : Nat))]) (rdW 63 s (a : Nat)) 140) =
    (OkL [] ∧ headOf Tryd.f86 0 = headOf Tryd.f86 0 ∧ (0 = 0 ∧ Value.func (Fn.func (87 : Nat)) #[] #[] = Value.func (Fn.func (87 : Nat)) #[] #[] ∧ (a : Int) = (a : Int)) ∧ s = s ∧ (a : Int) = (a : Int)) := by kernel_rfl

set_option maxHeartbeats 4000000 in
theorem whB0 (s : List UInt8) (a : Nat) (ha : a ≤ s.length) (hs : s.length ≤ 100000)  (v : SV) (L' : HF) (next : RunsTo Tryd.prog 86 (headOf Tryd.f86 0) (envAt Tryd.f86.ntmps ([(0, vP 63), (1, vF 87), (5, vN (a : Nat))])) (Sx.look ([] ++ (rdW 63 s (a : Nat)))) 80 (v) (L') 140) :
    RunsTo Tryd.prog 86 [.code (bodyOf Tryd.f86)] (envOf [vP 63, vF 87] Tryd.f86.ntmps) (Sx.look ([] ++ (rdW 63 s (a : Nat)))) 80 (v) (L') 140 := by
  refine runs_more basewhB (More.of (whB0_p0 s a) ⟨okn, rfl, ?_⟩) (by kernel_rfl) (by kernel_rfl) rfl (gtL (by decide)) (by decide) next
  all_goals clear next
  all_goals first | (refine And.intro ?_ ?_ <;> ((try simp (disch := omega) only [SS]); (repeat' apply And.intro); (all_goals first | exact True.intro | with_reducible rfl | omega | (intros; first | exact True.intro | with_reducible rfl | omega | (simp_all; done)) | (simp_all; done) | rfl))) | (((try simp (disch := omega) only [SS]); first | done | omega | assumption | (simp (disch := omega) only [SS] at *; first | done | omega | assumption) | (simp_all; done)))

theorem whB1_p0 (s : List UInt8) (a : Nat) (i : Nat) :
    isMore (evTill Tryd.prog sumswhB 300 (behind Tryd.f86 0) 900 86 (headOf Tryd.f86 0) (envAt Tryd.f86.ntmps ([(0, vP 63), (1, vF 87), (5, vN (a : Nat))])) ([] ++ (rdW 63 s (i : Nat))) ⟨[.s true, .s true, .t, .s true], 110⟩) (moreP (headOf Tryd.f86 0) ([]) Tryd.f86.ntmps ([(0, vP 63), (1, vF 87), (5, vN (a : Nat))]) (rdW 63 s (i + 1 : Nat)) 140) =
    (OkL [(!decide ((i : Int) ≥ (↑s.length : Int)), true), (decide ((0 : Int) ≤ (i : Int) ∧ (i : Int) < (↑s.length : Int)), true), (blI (↑(s.getD (i : Int).toNat (0 : UInt8)).toNat : Int), true)] ∧ headOf Tryd.f86 0 = headOf Tryd.f86 0 ∧ (0 = 0 ∧ Value.func (Fn.func (87 : Nat)) #[] #[] = Value.func (Fn.func (87 : Nat)) #[] #[] ∧ (a : Int) = (a : Int)) ∧ s = s ∧ (↑(i + (1 : Nat)) : Int) = IntKind.i64.wrap ((i : Int) + 1)) := by kernel_rfl

set_option maxHeartbeats 4000000 in
theorem whB1 (s : List UInt8) (a : Nat) (i : Nat) (hi : i < s.length) (hs : s.length ≤ 100000) (h : blI ((s.getD i 0).toNat : Int) = true)  (v : SV) (L' : HF) (next : RunsTo Tryd.prog 86 (headOf Tryd.f86 0) (envAt Tryd.f86.ntmps ([(0, vP 63), (1, vF 87), (5, vN (a : Nat))])) (Sx.look ([] ++ (rdW 63 s (i + 1 : Nat)))) 80 (v) (L') 140) :
    RunsTo Tryd.prog 86 (headOf Tryd.f86 0) (envAt Tryd.f86.ntmps ([(0, vP 63), (1, vF 87), (5, vN (a : Nat))])) (Sx.look ([] ++ (rdW 63 s (i : Nat)))) 80 (v) (L') 140 := by
  have hw : IntKind.i64.wrap ((i : Int) + 1) = ((i + 1 : Nat) : Int) := by rw [wr64 (by omega)]; rfl
  refine runs_more basewhB (More.of (whB1_p0 s a i) ⟨(okc ?_ (okc ?_ (okc ?_ okn))), rfl, ?_⟩) (by kernel_rfl) (by kernel_rfl) rfl (gtL (by decide)) (by decide) next
  all_goals clear next
  all_goals first | (refine And.intro ?_ ?_ <;> ((try simp (disch := omega) only [SS, hw, h]); (repeat' apply And.intro); (all_goals first | exact True.intro | with_reducible rfl | omega | (intros; first | exact True.intro | with_reducible rfl | omega | (simp_all; done)) | (simp_all; done) | rfl))) | (((try simp (disch := omega) only [SS, hw, h]); first | done | omega | assumption | (simp (disch := omega) only [SS, hw, h] at *; first | done | omega | assumption) | (simp_all; done)))

theorem whB2_p0 (s : List UInt8) (a : Nat) (i : Nat) :
    isEnd (evTill Tryd.prog sumswhB 300 (99) 900 86 (headOf Tryd.f86 0) (envAt Tryd.f86.ntmps ([(0, vP 63), (1, vF 87), (5, vN (a : Nat))])) ([] ++ (rdW 63 s (i : Nat))) ⟨[.s false, .s true, .s true], 110⟩) (endP ([]) (vS ((s.take (i)).drop a)) (rdW 63 s (i : Nat)) 140) =
    (OkL [(!decide ((i : Int) ≥ (↑s.length : Int)), false), (decide ((0 : Int) ≤ (i : Int) ∧ (i : Int) ≤ (↑s.length : Int)), true), (decide ((0 : Int) ≤ (a : Int) ∧ (a : Int) ≤ (i : Int)), true)] ∧ List.drop a (List.take i s) = List.drop (a : Int).toNat (List.take (i : Int).toNat s) ∧ s = s ∧ (i : Int) = (i : Int)) := by kernel_rfl

set_option maxHeartbeats 4000000 in
theorem whB2 (s : List UInt8) (a : Nat) (i : Nat) (hi : i = s.length) (ha : a ≤ i)  :
    RunsTo Tryd.prog 86 (headOf Tryd.f86 0) (envAt Tryd.f86.ntmps ([(0, vP 63), (1, vF 87), (5, vN (a : Nat))])) (Sx.look ([] ++ (rdW 63 s (i : Nat)))) 80 (vS ((s.take (i)).drop a)) (Sx.look (rdW 63 s (i : Nat))) 140 := by
  refine runs_last basewhB (Sx.Ends.of (whB2_p0 s a i) ⟨(okc ?_ (okc ?_ (okc ?_ okn))), ?_⟩) (by kernel_rfl) rfl (gtL (by decide)) (by decide)
  all_goals first | (refine And.intro ?_ ?_ <;> ((try simp (disch := omega) only [SS]); (repeat' apply And.intro); (all_goals first | exact True.intro | with_reducible rfl | omega | (intros; first | exact True.intro | with_reducible rfl | omega | (simp_all; done)) | (simp_all; done) | rfl))) | (((try simp (disch := omega) only [SS]); first | done | omega | assumption | (simp (disch := omega) only [SS] at *; first | done | omega | assumption) | (simp_all; done)))

theorem whB3_p0 (s : List UInt8) (a : Nat) (i : Nat) :
    isEnd (evTill Tryd.prog sumswhB 300 (99) 900 86 (headOf Tryd.f86 0) (envAt Tryd.f86.ntmps ([(0, vP 63), (1, vF 87), (5, vN (a : Nat))])) ([] ++ (rdW 63 s (i : Nat))) ⟨[.s true, .s true, .t, .s false, .s true, .s true], 110⟩) (endP ([]) (vS ((s.take (i)).drop a)) (rdW 63 s (i : Nat)) 140) =
    (OkL [(!decide ((i : Int) ≥ (↑s.length : Int)), true), (decide ((0 : Int) ≤ (i : Int) ∧ (i : Int) < (↑s.length : Int)), true), (blI (↑(s.getD (i : Int).toNat (0 : UInt8)).toNat : Int), false), (decide ((0 : Int) ≤ (i : Int) ∧ (i : Int) ≤ (↑s.length : Int)), true), (decide ((0 : Int) ≤ (a : Int) ∧ (a : Int) ≤ (i : Int)), true)] ∧ List.drop a (List.take i s) = List.drop (a : Int).toNat (List.take (i : Int).toNat s) ∧ s = s ∧ (i : Int) = (i : Int)) := by kernel_rfl

set_option maxHeartbeats 4000000 in
theorem whB3 (s : List UInt8) (a : Nat) (i : Nat) (hi : i < s.length) (ha : a ≤ i) (h : blI ((s.getD i 0).toNat : Int) = false)  :
    RunsTo Tryd.prog 86 (headOf Tryd.f86 0) (envAt Tryd.f86.ntmps ([(0, vP 63), (1, vF 87), (5, vN (a : Nat))])) (Sx.look ([] ++ (rdW 63 s (i : Nat)))) 80 (vS ((s.take (i)).drop a)) (Sx.look (rdW 63 s (i : Nat))) 140 := by
  refine runs_last basewhB (Sx.Ends.of (whB3_p0 s a i) ⟨(okc ?_ (okc ?_ (okc ?_ (okc ?_ (okc ?_ okn))))), ?_⟩) (by kernel_rfl) rfl (gtL (by decide)) (by decide)
  all_goals first | (refine And.intro ?_ ?_ <;> ((try simp (disch := omega) only [SS, h]); (repeat' apply And.intro); (all_goals first | exact True.intro | with_reducible rfl | omega | (intros; first | exact True.intro | with_reducible rfl | omega | (simp_all; done)) | (simp_all; done) | rfl))) | (((try simp (disch := omega) only [SS, h]); first | done | omega | assumption | (simp (disch := omega) only [SS, h] at *; first | done | omega | assumption) | (simp_all; done)))

theorem whBI (s : List UInt8) (a : Nat) (ha : a ≤ s.length) (hs : s.length ≤ 100000) : RunsTo Tryd.prog 86 [.code (bodyOf Tryd.f86)] (envOf [vP 63, vF 87] Tryd.f86.ntmps) (Sx.look ([] ++ (rdW 63 s (a : Nat)))) 80 (vS ((s.take (a + spanR blI (s.drop a))).drop a)) (Sx.look (rdW 63 s (a + spanR blI (s.drop a) : Nat))) 140 := by
  refine whB0 s a ha hs _ _ ?_
  suffices q : ∀ (k i : Nat), i + k = s.length → a ≤ i → RunsTo Tryd.prog 86 (headOf Tryd.f86 0) (envAt Tryd.f86.ntmps ([(0, vP 63), (1, vF 87), (5, vN (a : Nat))])) (Sx.look ([] ++ (rdW 63 s (i : Nat)))) 80 (vS ((s.take (i + spanR blI (s.drop i))).drop a)) (Sx.look (rdW 63 s (i + spanR blI (s.drop i) : Nat))) 140 from q (s.length - a) a (by omega) (Nat.le_refl _)
  intro k
  induction k with
  | zero =>
    intro i hi hai
    rw [span_e (by omega), Nat.add_zero]
    exact whB2 s a i (by omega) hai
  | succ k ih =>
    intro i hi hai
    cases h : blI ((s.getD i 0).toNat : Int) with
    | true =>
      rw [span_y (by omega) h, show ∀ x, i + (x + 1) = i + 1 + x by omega]
      exact whB1 s a i (by omega) hs h _ _ (ih (i + 1) (by omega) (by omega))
    | false =>
      rw [span_n (by omega) h, Nat.add_zero]
      exact whB3 s a i (by omega) hai h
def whBP : PC := { args := [.v (.vp 63), .v (.vq 87)], heap := [⟨63, true, 2, .tc (.vs 0) (.tc (.vi .i64 1) .t0)⟩], gs := [], G := 23, tp := 213, n := 80, n' := 140, cond := fun e => decide (0 ≤ eI e 1 []) && (decide ((eI e 1 []).toNat ≤ (eS e 0 []).length) && decide ((eS e 0 []).length ≤ 100000)), v := fun e => vS (((eS e 0 []).take ((eI e 1 []).toNat + spanR blI ((eS e 0 []).drop (eI e 1 []).toNat))).drop ((eI e 1 []).toNat)), post := fun e => rdW 63 (eS e 0 []) (((eI e 1 []).toNat + spanR blI ((eS e 0 []).drop (eI e 1 []).toNat)) : Nat) }
theorem whBP_pc : PC.Runs Tryd.prog 86 Tryd.f86 (bodyOf Tryd.f86) whBP := ⟨Tryd.func86, by kernel_rfl, (fun g hg => by first | (cases hg; done) | (revert g; show ∀ g ∈ ([] : List Nat), g < 23; decide)), fun e H hc => by
  have hc : (decide (0 ≤ eI e 1 []) && (decide ((eI e 1 []).toNat ≤ (eS e 0 []).length) && decide ((eS e 0 []).length ≤ 100000))) = true := hc
  try simp only [Bool.and_eq_true, decide_eq_true_eq, Nat.beq_eq] at hc
  exact by obtain ⟨h1, h2, h3⟩ := hc; have hj : ((eI e 1 []).toNat : Int) = eI e 1 [] := Int.toNat_of_nonneg h1; have q := whBI (eS e 0 []) (eI e 1 []).toNat h2 h3; rw [hj] at q; exact q⟩
def sumswhN : List (FuncId × Summ) := [(89, nlP.summ 46)]
theorem basewhN : Base0 Tryd.prog sumswhN := (baseO.cons Tryd.func89 (by kernel_rfl) (PC.summ_ok nlP_pc gtopG))
theorem whN0_p0 (s : List UInt8) (a : Nat) :
    isMore (evTill Tryd.prog sumswhN 300 (behind Tryd.f86 0) 900 86 [.code (bodyOf Tryd.f86)] (envOf [vP 63, vF 89] Tryd.f86.ntmps) ([] ++ (rdW 63 s (a : Nat))) ⟨[], 80⟩) (moreP (headOf Tryd.f86 0) ([]) Tryd.f86.ntmps ([(0, vP 63), (1, vF 89), (5, vN (a : Nat))]) (rdW 63 s (a : Nat)) 140) =
    (OkL [] ∧ headOf Tryd.f86 0 = headOf Tryd.f86 0 ∧ (0 = 0 ∧ Value.func (Fn.func (89 : Nat)) #[] #[] = Value.func (Fn.func (89 : Nat)) #[] #[] ∧ (a : Int) = (a : Int)) ∧ s = s ∧ (a : Int) = (a : Int)) := by kernel_rfl

set_option maxHeartbeats 4000000 in
theorem whN0 (s : List UInt8) (a : Nat) (ha : a ≤ s.length) (hs : s.length ≤ 100000)  (v : SV) (L' : HF) (next : RunsTo Tryd.prog 86 (headOf Tryd.f86 0) (envAt Tryd.f86.ntmps ([(0, vP 63), (1, vF 89), (5, vN (a : Nat))])) (Sx.look ([] ++ (rdW 63 s (a : Nat)))) 80 (v) (L') 140) :
    RunsTo Tryd.prog 86 [.code (bodyOf Tryd.f86)] (envOf [vP 63, vF 89] Tryd.f86.ntmps) (Sx.look ([] ++ (rdW 63 s (a : Nat)))) 80 (v) (L') 140 := by
  refine runs_more basewhN (More.of (whN0_p0 s a) ⟨okn, rfl, ?_⟩) (by kernel_rfl) (by kernel_rfl) rfl (gtL (by decide)) (by decide) next
  all_goals clear next
  all_goals first | (refine And.intro ?_ ?_ <;> ((try simp (disch := omega) only [SS]); (repeat' apply And.intro); (all_goals first | exact True.intro | with_reducible rfl | omega | (intros; first | exact True.intro | with_reducible rfl | omega | (simp_all; done)) | (simp_all; done) | rfl))) | (((try simp (disch := omega) only [SS]); first | done | omega | assumption | (simp (disch := omega) only [SS] at *; first | done | omega | assumption) | (simp_all; done)))

theorem whN1_p0 (s : List UInt8) (a : Nat) (i : Nat) :
    isMore (evTill Tryd.prog sumswhN 300 (behind Tryd.f86 0) 900 86 (headOf Tryd.f86 0) (envAt Tryd.f86.ntmps ([(0, vP 63), (1, vF 89), (5, vN (a : Nat))])) ([] ++ (rdW 63 s (i : Nat))) ⟨[.s true, .s true, .t, .s true], 110⟩) (moreP (headOf Tryd.f86 0) ([]) Tryd.f86.ntmps ([(0, vP 63), (1, vF 89), (5, vN (a : Nat))]) (rdW 63 s (i + 1 : Nat)) 140) =
    (OkL [(!decide ((i : Int) ≥ (↑s.length : Int)), true), (decide ((0 : Int) ≤ (i : Int) ∧ (i : Int) < (↑s.length : Int)), true), (nlI (↑(s.getD (i : Int).toNat (0 : UInt8)).toNat : Int), true)] ∧ headOf Tryd.f86 0 = headOf Tryd.f86 0 ∧ (0 = 0 ∧ Value.func (Fn.func (89 : Nat)) #[] #[] = Value.func (Fn.func (89 : Nat)) #[] #[] ∧ (a : Int) = (a : Int)) ∧ s = s ∧ (↑(i + (1 : Nat)) : Int) = IntKind.i64.wrap ((i : Int) + 1)) := by kernel_rfl

set_option maxHeartbeats 4000000 in
theorem whN1 (s : List UInt8) (a : Nat) (i : Nat) (hi : i < s.length) (hs : s.length ≤ 100000) (h : nlI ((s.getD i 0).toNat : Int) = true)  (v : SV) (L' : HF) (next : RunsTo Tryd.prog 86 (headOf Tryd.f86 0) (envAt Tryd.f86.ntmps ([(0, vP 63), (1, vF 89), (5, vN (a : Nat))])) (Sx.look ([] ++ (rdW 63 s (i + 1 : Nat)))) 80 (v) (L') 140) :
    RunsTo Tryd.prog 86 (headOf Tryd.f86 0) (envAt Tryd.f86.ntmps ([(0, vP 63), (1, vF 89), (5, vN (a : Nat))])) (Sx.look ([] ++ (rdW 63 s (i : Nat)))) 80 (v) (L') 140 := by
  have hw : IntKind.i64.wrap ((i : Int) + 1) = ((i + 1 : Nat) : Int) := by rw [wr64 (by omega)]; rfl
  refine runs_more basewhN (More.of (whN1_p0 s a i) ⟨(okc ?_ (okc ?_ (okc ?_ okn))), rfl, ?_⟩) (by kernel_rfl) (by kernel_rfl) rfl (gtL (by decide)) (by decide) next
  all_goals clear next
  all_goals first | (refine And.intro ?_ ?_ <;> ((try simp (disch := omega) only [SS, hw, h]); (repeat' apply And.intro); (all_goals first | exact True.intro | with_reducible rfl | omega | (intros; first | exact True.intro | with_reducible rfl | omega | (simp_all; done)) | (simp_all; done) | rfl))) | (((try simp (disch := omega) only [SS, hw, h]); first | done | omega | assumption | (simp (disch := omega) only [SS, hw, h] at *; first | done | omega | assumption) | (simp_all; done)))

theorem whN2_p0 (s : List UInt8) (a : Nat) (i : Nat) :
    isEnd (evTill Tryd.prog sumswhN 300 (99) 900 86 (headOf Tryd.f86 0) (envAt Tryd.f86.ntmps ([(0, vP 63), (1, vF 89), (5, vN (a : Nat))])) ([] ++ (rdW 63 s (i : Nat))) ⟨[.s false, .s true, .s true], 110⟩) (endP ([]) (vS ((s.take (i)).drop a)) (rdW 63 s (i : Nat)) 140) =
    (OkL [(!decide ((i : Int) ≥ (↑s.length : Int)), false), (decide ((0 : Int) ≤ (i : Int) ∧ (i : Int) ≤ (↑s.length : Int)), true), (decide ((0 : Int) ≤ (a : Int) ∧ (a : Int) ≤ (i : Int)), true)] ∧ List.drop a (List.take i s) = List.drop (a : Int).toNat (List.take (i : Int).toNat s) ∧ s = s ∧ (i : Int) = (i : Int)) := by kernel_rfl

set_option maxHeartbeats 4000000 in
theorem whN2 (s : List UInt8) (a : Nat) (i : Nat) (hi : i = s.length) (ha : a ≤ i)  :
    RunsTo Tryd.prog 86 (headOf Tryd.f86 0) (envAt Tryd.f86.ntmps ([(0, vP 63), (1, vF 89), (5, vN (a : Nat))])) (Sx.look ([] ++ (rdW 63 s (i : Nat)))) 80 (vS ((s.take (i)).drop a)) (Sx.look (rdW 63 s (i : Nat))) 140 := by
  refine runs_last basewhN (Sx.Ends.of (whN2_p0 s a i) ⟨(okc ?_ (okc ?_ (okc ?_ okn))), ?_⟩) (by kernel_rfl) rfl (gtL (by decide)) (by decide)
  all_goals first | (refine And.intro ?_ ?_ <;> ((try simp (disch := omega) only [SS]); (repeat' apply And.intro); (all_goals first | exact True.intro | with_reducible rfl | omega | (intros; first | exact True.intro | with_reducible rfl | omega | (simp_all; done)) | (simp_all; done) | rfl))) | (((try simp (disch := omega) only [SS]); first | done | omega | assumption | (simp (disch := omega) only [SS] at *; first | done | omega | assumption) | (simp_all; done)))

theorem whN3_p0 (s : List UInt8) (a : Nat) (i : Nat) :
    isEnd (evTill Tryd.prog sumswhN 300 (99) 900 86 (headOf Tryd.f86 0) (envAt Tryd.f86.ntmps ([(0, vP 63), (1, vF 89), (5, vN (a : Nat))])) ([] ++ (rdW 63 s (i : Nat))) ⟨[.s true, .s true, .t, .s false, .s true, .s true], 110⟩) (endP ([]) (vS ((s.take (i)).drop a)) (rdW 63 s (i : Nat)) 140) =
    (OkL [(!decide ((i : Int) ≥ (↑s.length : Int)), true), (decide ((0 : Int) ≤ (i : Int) ∧ (i : Int) < (↑s.length : Int)), true), (nlI (↑(s.getD (i : Int).toNat (0 : UInt8)).toNat : Int), false), (decide ((0 : Int) ≤ (i : Int) ∧ (i : Int) ≤ (↑s.length : Int)), true), (decide ((0 : Int) ≤ (a : Int) ∧ (a : Int) ≤ (i : Int)), true)] ∧ List.drop a (List.take i s) = List.drop (a : Int).toNat (List.take (i : Int).toNat s) ∧ s = s ∧ (i : Int) = (i : Int)) := by kernel_rfl

set_option maxHeartbeats 4000000 in
theorem whN3 (s : List UInt8) (a : Nat) (i : Nat) (hi : i < s.length) (ha : a ≤ i) (h : nlI ((s.getD i 0).toNat : Int) = false)  :
    RunsTo Tryd.prog 86 (headOf Tryd.f86 0) (envAt Tryd.f86.ntmps ([(0, vP 63), (1, vF 89), (5, vN (a : Nat))])) (Sx.look ([] ++ (rdW 63 s (i : Nat)))) 80 (vS ((s.take (i)).drop a)) (Sx.look (rdW 63 s (i : Nat))) 140 := by
  refine runs_last basewhN (Sx.Ends.of (whN3_p0 s a i) ⟨(okc ?_ (okc ?_ (okc ?_ (okc ?_ (okc ?_ okn))))), ?_⟩) (by kernel_rfl) rfl (gtL (by decide)) (by decide)
  all_goals first | (refine And.intro ?_ ?_ <;> ((try simp (disch := omega) only [SS, h]); (repeat' apply And.intro); (all_goals first | exact True.intro | with_reducible rfl | omega | (intros; first | exact True.intro | with_reducible rfl | omega | (simp_all; done)) | (simp_all; done) | rfl))) | (((try simp (disch := omega) only [SS, h]); first | done | omega | assumption | (simp (disch := omega) only [SS, h] at *; first | done | omega | assumption) | (simp_all; done)))

theorem whNI (s : List UInt8) (a : Nat) (ha : a ≤ s.length) (hs : s.length ≤ 100000) : RunsTo Tryd.prog 86 [.code (bodyOf Tryd.f86)] (envOf [vP 63, vF 89] Tryd.f86.ntmps) (Sx.look ([] ++ (rdW 63 s (a : Nat)))) 80 (vS ((s.take (a + spanR nlI (s.drop a))).drop a)) (Sx.look (rdW 63 s (a + spanR nlI (s.drop a) : Nat))) 140 := by
  refine whN0 s a ha hs _ _ ?_
  suffices q : ∀ (k i : Nat), i + k = s.length → a ≤ i → RunsTo Tryd.prog 86 (headOf Tryd.f86 0) (envAt Tryd.f86.ntmps ([(0, vP 63), (1, vF 89), (5, vN (a : Nat))])) (Sx.look ([] ++ (rdW 63 s (i : Nat)))) 80 (vS ((s.take (i + spanR nlI (s.drop i))).drop a)) (Sx.look (rdW 63 s (i + spanR nlI (s.drop i) : Nat))) 140 from q (s.length - a) a (by omega) (Nat.le_refl _)
  intro k
  induction k with
  | zero =>
    intro i hi hai
    rw [span_e (by omega), Nat.add_zero]
    exact whN2 s a i (by omega) hai
  | succ k ih =>
    intro i hi hai
    cases h : nlI ((s.getD i 0).toNat : Int) with
    | true =>
      rw [span_y (by omega) h, show ∀ x, i + (x + 1) = i + 1 + x by omega]
      exact whN1 s a i (by omega) hs h _ _ (ih (i + 1) (by omega) (by omega))
    | false =>
      rw [span_n (by omega) h, Nat.add_zero]
      exact whN3 s a i (by omega) hai h
def whNP : PC := { args := [.v (.vp 63), .v (.vq 89)], heap := [⟨63, true, 2, .tc (.vs 0) (.tc (.vi .i64 1) .t0)⟩], gs := [], G := 23, tp := 213, n := 80, n' := 140, cond := fun e => decide (0 ≤ eI e 1 []) && (decide ((eI e 1 []).toNat ≤ (eS e 0 []).length) && decide ((eS e 0 []).length ≤ 100000)), v := fun e => vS (((eS e 0 []).take ((eI e 1 []).toNat + spanR nlI ((eS e 0 []).drop (eI e 1 []).toNat))).drop ((eI e 1 []).toNat)), post := fun e => rdW 63 (eS e 0 []) (((eI e 1 []).toNat + spanR nlI ((eS e 0 []).drop (eI e 1 []).toNat)) : Nat) }
theorem whNP_pc : PC.Runs Tryd.prog 86 Tryd.f86 (bodyOf Tryd.f86) whNP := ⟨Tryd.func86, by kernel_rfl, (fun g hg => by first | (cases hg; done) | (revert g; show ∀ g ∈ ([] : List Nat), g < 23; decide)), fun e H hc => by
  have hc : (decide (0 ≤ eI e 1 []) && (decide ((eI e 1 []).toNat ≤ (eS e 0 []).length) && decide ((eS e 0 []).length ≤ 100000))) = true := hc
  try simp only [Bool.and_eq_true, decide_eq_true_eq, Nat.beq_eq] at hc
  exact by obtain ⟨h1, h2, h3⟩ := hc; have hj : ((eI e 1 []).toNat : Int) = eI e 1 [] := Int.toNat_of_nonneg h1; have q := whNI (eS e 0 []) (eI e 1 []).toNat h2 h3; rw [hj] at q; exact q⟩
end Go.Proofs.YtaleenklamognaaDoor

set_option linter.unusedSimpArgs false
set_option linter.unusedVariables false
set_option maxRecDepth 100000
namespace Go.Proofs.YtaleenklamognaaDoor
open Go.Sx

open WordR
def isOkR : TR → Bool | .ok _ _ => true | .err _ => false
def isErR (e : Nat) : TR → Bool | .ok _ _ => false | .err k => k == e
def okT : TR → Wt | .ok t _ => t | .err _ => ⟨0, [], 0, [], 0⟩
def okN : TR → Nat | .ok _ n => n | .err _ => 0
def isBy : O1 → Bool | .byte _ _ => true | _ => false
def isVa : O1 → Bool | .var _ _ => true | _ => false
def isEr (e : Nat) : O1 → Bool | .err k => k == e | _ => false
def byC : O1 → UInt8 | .byte c _ => c | _ => 0
def vaX : O1 → List UInt8 | .var x _ => x | _ => []
def o1N : O1 → Nat | .byte _ n => n | .var _ n => n | .err _ => 0
/-- A token's cells. -/
def tkT (k : Int) (x : List UInt8) (m : Int) (p : Tr) : Tr := .tc (.vi .i64 fun _ => k) (.tc (.vs fun _ => x) (.tc (.vi .i64 fun _ => m) (.tc p (.tc (.vi .i64 fun _ => 0) .t0))))
def txt (s : List UInt8) (a n : Nat) : List UInt8 := (s.take (a + n)).drop a
def textAt (H : List Ent) (g : Nat) : List UInt8 := match Sx.look H g with | some b => objText b | none => []
theorem gap_eq : ∀ l : List UInt8, gapR false l = spanR blI l + (if (l.drop (spanR blI l)).headD 0 = 35 then spanR nlI (l.drop (spanR blI l)) else 0)
  | [] => rfl
  | c :: r => by
    have ih := gap_eq r
    have ht : ∀ q : List UInt8, gapR true q = spanR nlI q := by
      intro q
      induction q with
      | nil => rfl
      | cons d q ih =>
        by_cases h : d = 10
        · subst h; rfl
        · have hn : nlI (nat d) = true := by
            unfold nlI nat; refine decide_eq_true ?_; intro e; exact h (UInt8.toNat_inj.1 (by have : (10 : UInt8).toNat = 10 := rfl; omega))
          rw [gapR, spanR, if_neg h, if_pos hn, ih]
    by_cases hb : blI (nat c) = true
    · rw [gapR, spanR, if_pos hb, if_pos hb, List.drop_succ_cons, ih]; omega
    · rw [gapR, spanR, if_neg hb, if_neg hb, List.drop_zero, List.headD_cons]
      by_cases hc : c = 35
      · subst hc
        rw [if_pos rfl, if_pos rfl, ht, spanR, if_pos (by decide)]; omega
      · rw [if_neg hc, if_neg hc]
theorem head_drop (s : List UInt8) (b : Nat) : (s.drop b).headD 0 = s.getD b 0 := by
  rw [List.headD_eq_head?_getD, List.head?_drop, List.getD_eq_getElem?_getD]
theorem span_stop (p : Int → Bool) : ∀ l : List UInt8, spanR p l < l.length → p (nat (l.getD (spanR p l) 0)) = false
  | [], h => by simp [spanR] at h
  | c :: r, h => by
    by_cases q : p (nat c) = true
    · rw [spanR, if_pos q] at h ⊢
      exact span_stop p r (by simpa using h)
    · rw [spanR, if_neg q]; simpa using q
theorem getD_drop (s : List UInt8) (b k : Nat) : (s.drop b).getD k 0 = s.getD (b + k) 0 := by
  simp [List.getD_eq_getElem?_getD, List.getElem?_drop]
theorem span_at (p : Int → Bool) (s : List UInt8) (a : Nat) (h : a + spanR p (s.drop a) < s.length) : p ((s.getD (a + spanR p (s.drop a)) 0).toNat : Int) = false := by
  have := span_stop p (s.drop a) (by rw [List.length_drop]; omega)
  rw [getD_drop] at this
  exact this
theorem take_drop (s : List UInt8) (a n : Nat) : (s.take (a + n)).drop a = (s.drop a).take n := by rw [List.drop_take]; congr 1; omega
def whBN : Summ := fun args H x => match args with
  | [_, .v (.vr v)] => (match isFn 87 v with | true => whBP.summ 46 args H x | false => whNP.summ 46 args H x)
  | _ => whNP.summ 46 args H x
theorem whBN_ok : ∀ args H x e d y, whBN args H x = .ok e d y → OkL d → (∀ a ∈ args, ∀ l ∈ a.labs, l < x.nl) → WFh (Sx.look H) x.nl → gtop Tryd.prog ≤ x.nl → CallOK Tryd.prog 86 args H x.nl e y.nl := by
  intro args H x e d y h
  unfold whBN at h
  split at h
  · split at h
    · exact PC.summ_ok whBP_pc gtopG _ _ _ _ _ _ h
    · exact PC.summ_ok whNP_pc gtopG _ _ _ _ _ _ h
  · exact PC.summ_ok whNP_pc gtopG _ _ _ _ _ _ h
def sumsSK : List (FuncId × Summ) := [(86, whBN)]
theorem baseSK : Base0 Tryd.prog sumsSK := (baseO.cons Tryd.func86 (by kernel_rfl) whBN_ok)
theorem sk1_p0 (s : List UInt8) (a : Nat) (b : Nat) :
    isEnd (evTill Tryd.prog sumsSK 300 (99) 900 49 [.code (bodyOf Tryd.f49)] (envOf [vP 63] Tryd.f49.ntmps) ([] ++ (rdW 63 s (a : Nat))) ⟨[.s true, .s false, .s true, .s false], 80⟩) (endP ([]) (.tup []) (rdW 63 s (b : Nat)) 300) =
    (OkL [(decide ((0 : Int) ≤ (a : Int)) && (decide ((a : Int).toNat ≤ s.length) && decide (s.length ≤ (100000 : Nat))), true), (decide (IntKind.i64.wrap ((↑((a : Int).toNat + spanR blI (List.drop (a : Int).toNat s)) : Int) + 0) ≥ (↑s.length : Int)), false), (decide ((0 : Int) ≤ IntKind.i64.wrap ((↑((a : Int).toNat + spanR blI (List.drop (a : Int).toNat s)) : Int) + 0) ∧ IntKind.i64.wrap ((↑((a : Int).toNat + spanR blI (List.drop (a : Int).toNat s)) : Int) + 0) < (↑s.length : Int)), true), ((↑(s.getD (IntKind.i64.wrap ((↑((a : Int).toNat + spanR blI (List.drop (a : Int).toNat s)) : Int) + 0)).toNat (0 : UInt8)).toNat : Int) == 35, false)] ∧ True ∧ s = s ∧ (b : Int) = (↑((a : Int).toNat + spanR blI (List.drop (a : Int).toNat s)) : Int)) := by kernel_rfl
theorem sk1_p1 (s : List UInt8) (a : Nat) (b : Nat) :
    isEnd (evTill Tryd.prog sumsSK 300 (99) 900 49 [.code (bodyOf Tryd.f49)] (envOf [vP 63] Tryd.f49.ntmps) ([] ++ (rdW 63 s (a : Nat))) ⟨[.s true, .s true, .f], 80⟩) (endP ([]) (.tup []) (rdW 63 s (b : Nat)) 300) =
    (OkL [(decide ((0 : Int) ≤ (a : Int)) && (decide ((a : Int).toNat ≤ s.length) && decide (s.length ≤ (100000 : Nat))), true), (decide (IntKind.i64.wrap ((↑((a : Int).toNat + spanR blI (List.drop (a : Int).toNat s)) : Int) + 0) ≥ (↑s.length : Int)), true)] ∧ True ∧ s = s ∧ (b : Int) = (↑((a : Int).toNat + spanR blI (List.drop (a : Int).toNat s)) : Int)) := by kernel_rfl

set_option maxHeartbeats 4000000 in
theorem sk1 (s : List UInt8) (a : Nat) (b : Nat) (ha : a ≤ s.length) (hs : s.length ≤ 100000) (hb : a + spanR blI (s.drop a) = b) (hbl : b ≤ s.length) (h : b < s.length → (s.getD b 0).toNat ≠ 35)  :
    RunsTo Tryd.prog 49 [.code (bodyOf Tryd.f49)] (envOf [vP 63] Tryd.f49.ntmps) (Sx.look ([] ++ (rdW 63 s (a : Nat)))) 80 (.tup []) (Sx.look (rdW 63 s (b : Nat))) 300 := by
  have hwb : IntKind.i64.wrap ((b : Int) + 0) = (b : Int) := by rw [wr64 (by omega)]; omega
  have hvb : IntKind.i64.wrap (b : Int) = (b : Int) := wr64 (by omega)
  refine bcase (c := (decide (IntKind.i64.wrap ((↑((↑a : Int).toNat + spanR blI (List.drop (↑a : Int).toNat s)) : Int) + (0 : Int)) ≥ (↑s.length : Int)))) (fun gg0 => (runs_last baseSK (Sx.Ends.of (sk1_p0 s a b) ⟨(okc ?_ (okc gg0 (okc ?_ (okc ?_ okn)))), ?_⟩) (by kernel_rfl) rfl (gtL (by decide)) (by decide))) (fun gg0 => (runs_last baseSK (Sx.Ends.of (sk1_p1 s a b) ⟨(okc ?_ (okc gg0 okn)), ?_⟩) (by kernel_rfl) rfl (gtL (by decide)) (by decide)))
  all_goals first | (refine And.intro ?_ ?_ <;> ((try simp (disch := omega) only [SS, hb, hwb, hvb]); (repeat' apply And.intro); (all_goals first | exact True.intro | with_reducible rfl | omega | (intros; first | exact True.intro | with_reducible rfl | omega | (simp_all; done)) | (simp_all; done) | rfl))) | (first | omega | (simp (disch := omega) only [SS, hb, hwb, hvb]; first | done | omega) | (simp (disch := omega) only [SS, hb, hwb, hvb] at *; first | done | omega | (have := h (by omega); omega)) | (simp_all; done) | (simp_all; omega))

theorem sk2_p0 (s : List UInt8) (a : Nat) (b c : Nat) :
    isEnd (evTill Tryd.prog sumsSK 300 (99) 900 49 [.code (bodyOf Tryd.f49)] (envOf [vP 63] Tryd.f49.ntmps) ([] ++ (rdW 63 s (a : Nat))) ⟨[.s true, .s false, .s true, .s true, .s true, .s true, .s false, .s true, .s false], 80⟩) (endP ([]) (.tup []) (rdW 63 s (c : Nat)) 300) =
    (OkL [(decide ((0 : Int) ≤ (a : Int)) && (decide ((a : Int).toNat ≤ s.length) && decide (s.length ≤ (100000 : Nat))), true), (decide (IntKind.i64.wrap ((↑((a : Int).toNat + spanR blI (List.drop (a : Int).toNat s)) : Int) + 0) ≥ (↑s.length : Int)), false), (decide ((0 : Int) ≤ IntKind.i64.wrap ((↑((a : Int).toNat + spanR blI (List.drop (a : Int).toNat s)) : Int) + 0) ∧ IntKind.i64.wrap ((↑((a : Int).toNat + spanR blI (List.drop (a : Int).toNat s)) : Int) + 0) < (↑s.length : Int)), true), ((↑(s.getD (IntKind.i64.wrap ((↑((a : Int).toNat + spanR blI (List.drop (a : Int).toNat s)) : Int) + 0)).toNat (0 : UInt8)).toNat : Int) == 35, true), (decide ((0 : Int) ≤ (↑((a : Int).toNat + spanR blI (List.drop (a : Int).toNat s)) : Int)) && (decide ((↑((a : Int).toNat + spanR blI (List.drop (a : Int).toNat s)) : Int).toNat ≤ s.length) && decide (s.length ≤ (100000 : Nat))), true), (decide ((0 : Int) ≤ (↑((↑((a : Int).toNat + spanR blI (List.drop (a : Int).toNat s)) : Int).toNat + spanR nlI (List.drop (↑((a : Int).toNat + spanR blI (List.drop (a : Int).toNat s)) : Int).toNat s)) : Int)) && (decide ((↑((↑((a : Int).toNat + spanR blI (List.drop (a : Int).toNat s)) : Int).toNat + spanR nlI (List.drop (↑((a : Int).toNat + spanR blI (List.drop (a : Int).toNat s)) : Int).toNat s)) : Int).toNat ≤ s.length) && decide (s.length ≤ (100000 : Nat))), true), (decide (IntKind.i64.wrap ((↑((↑((↑((a : Int).toNat + spanR blI (List.drop (a : Int).toNat s)) : Int).toNat + spanR nlI (List.drop (↑((a : Int).toNat + spanR blI (List.drop (a : Int).toNat s)) : Int).toNat s)) : Int).toNat + spanR blI (List.drop (↑((↑((a : Int).toNat + spanR blI (List.drop (a : Int).toNat s)) : Int).toNat + spanR nlI (List.drop (↑((a : Int).toNat + spanR blI (List.drop (a : Int).toNat s)) : Int).toNat s)) : Int).toNat s)) : Int) + 0) ≥ (↑s.length : Int)), false), (decide ((0 : Int) ≤ IntKind.i64.wrap ((↑((↑((↑((a : Int).toNat + spanR blI (List.drop (a : Int).toNat s)) : Int).toNat + spanR nlI (List.drop (↑((a : Int).toNat + spanR blI (List.drop (a : Int).toNat s)) : Int).toNat s)) : Int).toNat + spanR blI (List.drop (↑((↑((a : Int).toNat + spanR blI (List.drop (a : Int).toNat s)) : Int).toNat + spanR nlI (List.drop (↑((a : Int).toNat + spanR blI (List.drop (a : Int).toNat s)) : Int).toNat s)) : Int).toNat s)) : Int) + 0) ∧ IntKind.i64.wrap ((↑((↑((↑((a : Int).toNat + spanR blI (List.drop (a : Int).toNat s)) : Int).toNat + spanR nlI (List.drop (↑((a : Int).toNat + spanR blI (List.drop (a : Int).toNat s)) : Int).toNat s)) : Int).toNat + spanR blI (List.drop (↑((↑((a : Int).toNat + spanR blI (List.drop (a : Int).toNat s)) : Int).toNat + spanR nlI (List.drop (↑((a : Int).toNat + spanR blI (List.drop (a : Int).toNat s)) : Int).toNat s)) : Int).toNat s)) : Int) + 0) < (↑s.length : Int)), true), ((↑(s.getD (IntKind.i64.wrap ((↑((↑((↑((a : Int).toNat + spanR blI (List.drop (a : Int).toNat s)) : Int).toNat + spanR nlI (List.drop (↑((a : Int).toNat + spanR blI (List.drop (a : Int).toNat s)) : Int).toNat s)) : Int).toNat + spanR blI (List.drop (↑((↑((a : Int).toNat + spanR blI (List.drop (a : Int).toNat s)) : Int).toNat + spanR nlI (List.drop (↑((a : Int).toNat + spanR blI (List.drop (a : Int).toNat s)) : Int).toNat s)) : Int).toNat s)) : Int) + 0)).toNat (0 : UInt8)).toNat : Int) == 35, false)] ∧ True ∧ s = s ∧ (c : Int) = (↑((↑((↑((a : Int).toNat + spanR blI (List.drop (a : Int).toNat s)) : Int).toNat + spanR nlI (List.drop (↑((a : Int).toNat + spanR blI (List.drop (a : Int).toNat s)) : Int).toNat s)) : Int).toNat + spanR blI (List.drop (↑((↑((a : Int).toNat + spanR blI (List.drop (a : Int).toNat s)) : Int).toNat + spanR nlI (List.drop (↑((a : Int).toNat + spanR blI (List.drop (a : Int).toNat s)) : Int).toNat s)) : Int).toNat s)) : Int)) := by kernel_rfl
theorem sk2_p1 (s : List UInt8) (a : Nat) (b c : Nat) :
    isEnd (evTill Tryd.prog sumsSK 300 (99) 900 49 [.code (bodyOf Tryd.f49)] (envOf [vP 63] Tryd.f49.ntmps) ([] ++ (rdW 63 s (a : Nat))) ⟨[.s true, .s false, .s true, .s true, .s true, .s true, .s true, .f], 80⟩) (endP ([]) (.tup []) (rdW 63 s (c : Nat)) 300) =
    (OkL [(decide ((0 : Int) ≤ (a : Int)) && (decide ((a : Int).toNat ≤ s.length) && decide (s.length ≤ (100000 : Nat))), true), (decide (IntKind.i64.wrap ((↑((a : Int).toNat + spanR blI (List.drop (a : Int).toNat s)) : Int) + 0) ≥ (↑s.length : Int)), false), (decide ((0 : Int) ≤ IntKind.i64.wrap ((↑((a : Int).toNat + spanR blI (List.drop (a : Int).toNat s)) : Int) + 0) ∧ IntKind.i64.wrap ((↑((a : Int).toNat + spanR blI (List.drop (a : Int).toNat s)) : Int) + 0) < (↑s.length : Int)), true), ((↑(s.getD (IntKind.i64.wrap ((↑((a : Int).toNat + spanR blI (List.drop (a : Int).toNat s)) : Int) + 0)).toNat (0 : UInt8)).toNat : Int) == 35, true), (decide ((0 : Int) ≤ (↑((a : Int).toNat + spanR blI (List.drop (a : Int).toNat s)) : Int)) && (decide ((↑((a : Int).toNat + spanR blI (List.drop (a : Int).toNat s)) : Int).toNat ≤ s.length) && decide (s.length ≤ (100000 : Nat))), true), (decide ((0 : Int) ≤ (↑((↑((a : Int).toNat + spanR blI (List.drop (a : Int).toNat s)) : Int).toNat + spanR nlI (List.drop (↑((a : Int).toNat + spanR blI (List.drop (a : Int).toNat s)) : Int).toNat s)) : Int)) && (decide ((↑((↑((a : Int).toNat + spanR blI (List.drop (a : Int).toNat s)) : Int).toNat + spanR nlI (List.drop (↑((a : Int).toNat + spanR blI (List.drop (a : Int).toNat s)) : Int).toNat s)) : Int).toNat ≤ s.length) && decide (s.length ≤ (100000 : Nat))), true), (decide (IntKind.i64.wrap ((↑((↑((↑((a : Int).toNat + spanR blI (List.drop (a : Int).toNat s)) : Int).toNat + spanR nlI (List.drop (↑((a : Int).toNat + spanR blI (List.drop (a : Int).toNat s)) : Int).toNat s)) : Int).toNat + spanR blI (List.drop (↑((↑((a : Int).toNat + spanR blI (List.drop (a : Int).toNat s)) : Int).toNat + spanR nlI (List.drop (↑((a : Int).toNat + spanR blI (List.drop (a : Int).toNat s)) : Int).toNat s)) : Int).toNat s)) : Int) + 0) ≥ (↑s.length : Int)), true)] ∧ True ∧ s = s ∧ (c : Int) = (↑((↑((↑((a : Int).toNat + spanR blI (List.drop (a : Int).toNat s)) : Int).toNat + spanR nlI (List.drop (↑((a : Int).toNat + spanR blI (List.drop (a : Int).toNat s)) : Int).toNat s)) : Int).toNat + spanR blI (List.drop (↑((↑((a : Int).toNat + spanR blI (List.drop (a : Int).toNat s)) : Int).toNat + spanR nlI (List.drop (↑((a : Int).toNat + spanR blI (List.drop (a : Int).toNat s)) : Int).toNat s)) : Int).toNat s)) : Int)) := by kernel_rfl

set_option maxHeartbeats 4000000 in
theorem sk2 (s : List UInt8) (a : Nat) (b c : Nat) (ha : a ≤ s.length) (hs : s.length ≤ 100000) (hb : a + spanR blI (s.drop a) = b) (hbl : b < s.length) (h : (s.getD b 0).toNat = 35) (hc : b + spanR nlI (s.drop b) = c) (hcl : c ≤ s.length) (hd : c + spanR blI (s.drop c) = c) (h2 : c < s.length → (s.getD c 0).toNat ≠ 35)  :
    RunsTo Tryd.prog 49 [.code (bodyOf Tryd.f49)] (envOf [vP 63] Tryd.f49.ntmps) (Sx.look ([] ++ (rdW 63 s (a : Nat)))) 80 (.tup []) (Sx.look (rdW 63 s (c : Nat))) 300 := by
  have hwb : IntKind.i64.wrap ((b : Int) + 0) = (b : Int) := by rw [wr64 (by omega)]; omega
  have hvb : IntKind.i64.wrap (b : Int) = (b : Int) := wr64 (by omega)
  have hwc : IntKind.i64.wrap ((c : Int) + 0) = (c : Int) := by rw [wr64 (by omega)]; omega
  have hvc : IntKind.i64.wrap (c : Int) = (c : Int) := wr64 (by omega)
  refine bcase (c := (decide (IntKind.i64.wrap ((↑((↑((↑((↑a : Int).toNat + spanR blI (List.drop (↑a : Int).toNat s)) : Int).toNat + spanR nlI (List.drop (↑((↑a : Int).toNat + spanR blI (List.drop (↑a : Int).toNat s)) : Int).toNat s)) : Int).toNat + spanR blI (List.drop (↑((↑((↑a : Int).toNat + spanR blI (List.drop (↑a : Int).toNat s)) : Int).toNat + spanR nlI (List.drop (↑((↑a : Int).toNat + spanR blI (List.drop (↑a : Int).toNat s)) : Int).toNat s)) : Int).toNat s)) : Int) + (0 : Int)) ≥ (↑s.length : Int)))) (fun gg0 => (runs_last baseSK (Sx.Ends.of (sk2_p0 s a b c) ⟨(okc ?_ (okc ?_ (okc ?_ (okc ?_ (okc ?_ (okc ?_ (okc gg0 (okc ?_ (okc ?_ okn))))))))), ?_⟩) (by kernel_rfl) rfl (gtL (by decide)) (by decide))) (fun gg0 => (runs_last baseSK (Sx.Ends.of (sk2_p1 s a b c) ⟨(okc ?_ (okc ?_ (okc ?_ (okc ?_ (okc ?_ (okc ?_ (okc gg0 okn))))))), ?_⟩) (by kernel_rfl) rfl (gtL (by decide)) (by decide)))
  all_goals first | (refine And.intro ?_ ?_ <;> ((try simp (disch := omega) only [SS, hb, hc, hd, h, hwb, hvb, hwc, hvc]); (repeat' apply And.intro); (all_goals first | exact True.intro | with_reducible rfl | omega | (intros; first | exact True.intro | with_reducible rfl | omega | (simp_all; done)) | (simp_all; done) | rfl))) | (first | omega | (simp (disch := omega) only [SS, hb, hc, hd, h, hwb, hvb, hwc, hvc]; first | done | omega) | (simp (disch := omega) only [SS, hb, hc, hd, hwb, hvb, hwc, hvc] at *; first | done | omega | (have := h2 (by omega); omega)) | (simp_all; done) | (simp_all; omega))

theorem skI (s : List UInt8) (a : Nat) (ha : a ≤ s.length) (hs : s.length ≤ 100000) : RunsTo Tryd.prog 49 [.code (bodyOf Tryd.f49)] (envOf [vP 63] Tryd.f49.ntmps) (Sx.look ([] ++ (rdW 63 s (a : Nat)))) 80 (.tup []) (Sx.look (rdW 63 s ((a + gapR false (s.drop a)) : Nat))) 300 := by
  have hg := gap_eq (s.drop a)
  have hb := span_le' blI s ha
  rw [List.drop_drop, head_drop] at hg
  by_cases h : s.getD (a + spanR blI (s.drop a)) 0 = 35
  · rw [if_pos h] at hg
    have hbl : a + spanR blI (s.drop a) < s.length := by
      rcases Nat.lt_or_ge (a + spanR blI (s.drop a)) s.length with q | q
      · exact q
      · rw [List.getD_eq_getElem?_getD, List.getElem?_eq_none q] at h; exact absurd h (by decide)
    have hc := span_le' nlI s (a := a + spanR blI (s.drop a)) hb
    rw [hg, show ∀ x, a + (spanR blI (s.drop a) + x) = a + spanR blI (s.drop a) + x by omega]
    generalize hbe : a + spanR blI (s.drop a) = b at *
    have hstop := span_at nlI s b
    generalize hce : b + spanR nlI (s.drop b) = c at *
    have hd : c + spanR blI (s.drop c) = c := by
      rcases Nat.lt_or_ge c s.length with q | q
      · have h10 := hstop q
        have e10 : ((s.getD c 0).toNat : Int) = 10 := by simpa [nlI] using h10
        rw [span_n q (by rw [e10]; decide), Nat.add_zero]
      · rw [span_e q, Nat.add_zero]
    have h35 : c < s.length → (s.getD c 0).toNat ≠ 35 := fun q => by
      have h10 := hstop q
      have e10 : ((s.getD c 0).toNat : Int) = 10 := by simpa [nlI] using h10
      omega
    exact sk2 s a b c ha hs hbe hbl (by rw [h]; rfl) hce hc hd h35
  · rw [if_neg h, Nat.add_zero] at hg
    rw [hg]
    exact sk1 s a _ ha hs rfl hb (fun _ e => h (UInt8.toNat_inj.1 (by have : (35 : UInt8).toNat = 35 := rfl; omega)))
def skP : PC := { args := [.v (.vp 63)], heap := [⟨63, true, 2, .tc (.vs 0) (.tc (.vi .i64 1) .t0)⟩], gs := [], G := 23, tp := 213, n := 80, n' := 300, cond := fun e => decide (0 ≤ eI e 1 []) && (decide ((eI e 1 []).toNat ≤ (eS e 0 []).length) && (decide ((eS e 0 []).length ≤ 100000))), v := fun e => .tup [], post := fun e => rdW 63 (eS e 0 []) (((eI e 1 []).toNat + gapR false ((eS e 0 []).drop (eI e 1 []).toNat)) : Nat) }
theorem skP_pc : PC.Runs Tryd.prog 49 Tryd.f49 (bodyOf Tryd.f49) skP := ⟨Tryd.func49, by kernel_rfl, (fun g hg => by first | (cases hg; done) | (revert g; show ∀ g ∈ ([] : List Nat), g < 23; decide)), fun e H hc => by
  have hc : (decide (0 ≤ eI e 1 []) && (decide ((eI e 1 []).toNat ≤ (eS e 0 []).length) && (decide ((eS e 0 []).length ≤ 100000)))) = true := hc
  try simp only [Bool.and_eq_true, decide_eq_true_eq, Nat.beq_eq] at hc
  exact by obtain ⟨h1, h2, h3⟩ := hc; have hj : ((eI e 1 []).toNat : Int) = eI e 1 [] := Int.toNat_of_nonneg h1; have q := skI (eS e 0 []) (eI e 1 []).toNat h2 h3; rw [hj] at q; exact q⟩
def sumsNM : List (FuncId × Summ) := [(86, whGP.summ 46)]
theorem baseNM : Base0 Tryd.prog sumsNM := (baseO.cons Tryd.func86 (by kernel_rfl) (PC.summ_ok whGP_pc gtopG))
theorem nmOk_p0 (t0 : List UInt8) (s : List UInt8) (a : Nat) :
    isEnd (evTill Tryd.prog sumsNM 300 (99) 900 90 [.code (bodyOf Tryd.f90)] (envOf [vP 63] Tryd.f90.ntmps) (sentEnts 23 213 [(0, t0)] ++ (rdW 63 s (a : Nat))) ⟨[.s true, .s false], 80⟩) (endP ([]) (.tup [(true, tkT (1) (txt s a (spanR goI (s.drop a))) (0) .vl0), (false, .ve0)]) (rdW 63 s (a + spanR goI (s.drop a) : Nat)) 300) =
    (OkL [(decide ((0 : Int) ≤ (a : Int)) && (decide ((a : Int).toNat ≤ s.length) && decide (s.length ≤ (100000 : Nat))), true), (decide ((↑(List.drop (a : Int).toNat (List.take ((a : Int).toNat + spanR goI (List.drop (a : Int).toNat s)) s)).length : Int) > 24), false)] ∧ (((1 : Int) = (1 : Int) ∧ txt s a (spanR goI (List.drop a s)) = List.drop (a : Int).toNat (List.take ((a : Int).toNat + spanR goI (List.drop (a : Int).toNat s)) s) ∧ (0 : Int) = (0 : Int) ∧ True ∧ (0 : Int) = (0 : Int)) ∧ True ∧ True) ∧ s = s ∧ (↑(a + spanR goI (List.drop a s)) : Int) = (↑((a : Int).toNat + spanR goI (List.drop (a : Int).toNat s)) : Int)) := by kernel_rfl

set_option maxHeartbeats 4000000 in
theorem nmOk (t0 : List UInt8) (s : List UInt8) (a : Nat) (ha : a ≤ s.length) (hs : s.length ≤ 100000) (h : spanR goI (s.drop a) ≤ 24)  :
    RunsTo Tryd.prog 90 [.code (bodyOf Tryd.f90)] (envOf [vP 63] Tryd.f90.ntmps) (Sx.look (sentEnts 23 213 [(0, t0)] ++ (rdW 63 s (a : Nat)))) 80 (.tup [(true, tkT (1) (txt s a (spanR goI (s.drop a))) (0) .vl0), (false, .ve0)]) (Sx.look (rdW 63 s (a + spanR goI (s.drop a) : Nat))) 300 := by
  have hl := span_le' goI s ha
  have htl : (txt s a (spanR goI (s.drop a))).length = spanR goI (s.drop a) := by simp only [txt, List.length_drop, List.length_take]; omega
  refine runs_last baseNM (Sx.Ends.of (nmOk_p0 t0 s a) ⟨(okc ?_ (okc ?_ okn)), ?_⟩) (by kernel_rfl) rfl (gtL (by decide)) (by decide)
  all_goals first | (refine And.intro ?_ ?_ <;> ((try simp (disch := omega) only [SS, htl]); (repeat' apply And.intro); (all_goals first | exact True.intro | with_reducible rfl | omega | (intros; first | exact True.intro | with_reducible rfl | omega | (simp_all; done)) | (simp_all; done) | rfl))) | (first | omega | (simp (disch := omega) only [SS, htl]; first | done | omega) | (simp_all; done) | (simp_all; omega))

theorem nmLo_p0 (t0 : List UInt8) (s : List UInt8) (a : Nat) :
    isEnd (evTill Tryd.prog sumsNM 300 (99) 900 90 [.code (bodyOf Tryd.f90)] (envOf [vP 63] Tryd.f90.ntmps) (sentEnts 23 213 [(0, t0)] ++ (rdW 63 s (a : Nat))) ⟨[.s true, .s true], 80⟩) (endP ([]) (.tup [(true, tkT (0) ([]) (0) .vl0), (false, vErr 0)]) ([]) 300) =
    (OkL [(decide ((0 : Int) ≤ (a : Int)) && (decide ((a : Int).toNat ≤ s.length) && decide (s.length ≤ (100000 : Nat))), true), (decide ((↑(List.drop (a : Int).toNat (List.take ((a : Int).toNat + spanR goI (List.drop (a : Int).toNat s)) s)).length : Int) > 24), true)] ∧ (((0 : Int) = (0 : Int) ∧ ([] : List UInt8) = [] ∧ (0 : Int) = (0 : Int) ∧ True ∧ (0 : Int) = (0 : Int)) ∧ 0 = 0 ∧ True) ∧ True) := by kernel_rfl

set_option maxHeartbeats 4000000 in
theorem nmLo (t0 : List UInt8) (s : List UInt8) (a : Nat) (ha : a ≤ s.length) (hs : s.length ≤ 100000) (h : 24 < spanR goI (s.drop a))  :
    RunsTo Tryd.prog 90 [.code (bodyOf Tryd.f90)] (envOf [vP 63] Tryd.f90.ntmps) (Sx.look (sentEnts 23 213 [(0, t0)] ++ (rdW 63 s (a : Nat)))) 80 (.tup [(true, tkT (0) ([]) (0) .vl0), (false, vErr 0)]) (Sx.look ([])) 300 := by
  have hl := span_le' goI s ha
  have htl : (txt s a (spanR goI (s.drop a))).length = spanR goI (s.drop a) := by simp only [txt, List.length_drop, List.length_take]; omega
  refine runs_last baseNM (Sx.Ends.of (nmLo_p0 t0 s a) ⟨(okc ?_ (okc ?_ okn)), ?_⟩) (by kernel_rfl) rfl (gtL (by decide)) (by decide)
  all_goals first | (refine And.intro ?_ ?_ <;> ((try simp (disch := omega) only [SS, htl]); (repeat' apply And.intro); (all_goals first | exact True.intro | with_reducible rfl | omega | (intros; first | exact True.intro | with_reducible rfl | omega | (simp_all; done)) | (simp_all; done) | rfl))) | (first | omega | (simp (disch := omega) only [SS, htl]; first | done | omega) | (simp_all; done) | (simp_all; omega))

def nmOkP : PC := { args := [.v (.vp 63)], heap := [⟨63, true, 2, .tc (.vs 0) (.tc (.vi .i64 1) .t0)⟩], gs := [0], G := 23, tp := 213, n := 80, n' := 300, cond := fun e => decide (0 ≤ eI e 1 []) && (decide ((eI e 1 []).toNat ≤ (eS e 0 []).length) && (decide ((eS e 0 []).length ≤ 100000) && decide ((spanR goI ((eS e 0 []).drop (eI e 1 []).toNat)) ≤ 24))), v := fun e => .tup [(true, tkT (1) (txt (eS e 0 []) (eI e 1 []).toNat (spanR goI ((eS e 0 []).drop (eI e 1 []).toNat))) (0) .vl0), (false, .ve0)], post := fun e => rdW 63 (eS e 0 []) ((eI e 1 []).toNat + (spanR goI ((eS e 0 []).drop (eI e 1 []).toNat)) : Nat) }
theorem nmOkP_pc : PC.Runs Tryd.prog 90 Tryd.f90 (bodyOf Tryd.f90) nmOkP := ⟨Tryd.func90, by kernel_rfl, (fun g hg => by first | (cases hg; done) | (revert g; show ∀ g ∈ ([0] : List Nat), g < 23; decide)), fun e H hc => by
  have hc : (decide (0 ≤ eI e 1 []) && (decide ((eI e 1 []).toNat ≤ (eS e 0 []).length) && (decide ((eS e 0 []).length ≤ 100000) && decide ((spanR goI ((eS e 0 []).drop (eI e 1 []).toNat)) ≤ 24)))) = true := hc
  try simp only [Bool.and_eq_true, decide_eq_true_eq, Nat.beq_eq] at hc
  exact by obtain ⟨h1, h2, h3, h4⟩ := hc; have hj : ((eI e 1 []).toNat : Int) = eI e 1 [] := Int.toNat_of_nonneg h1; have q := nmOk (textAt H 23) (eS e 0 []) (eI e 1 []).toNat h2 h3 h4; rw [hj] at q; exact q⟩
def nmLoP : PC := { args := [.v (.vp 63)], heap := [⟨63, true, 2, .tc (.vs 0) (.tc (.vi .i64 1) .t0)⟩], gs := [0], G := 23, tp := 213, n := 80, n' := 300, cond := fun e => decide (0 ≤ eI e 1 []) && (decide ((eI e 1 []).toNat ≤ (eS e 0 []).length) && (decide ((eS e 0 []).length ≤ 100000) && decide (24 < (spanR goI ((eS e 0 []).drop (eI e 1 []).toNat))))), v := fun e => .tup [(true, tkT (0) ([]) (0) .vl0), (false, vErr 0)], post := fun e => [] }
theorem nmLoP_pc : PC.Runs Tryd.prog 90 Tryd.f90 (bodyOf Tryd.f90) nmLoP := ⟨Tryd.func90, by kernel_rfl, (fun g hg => by first | (cases hg; done) | (revert g; show ∀ g ∈ ([0] : List Nat), g < 23; decide)), fun e H hc => by
  have hc : (decide (0 ≤ eI e 1 []) && (decide ((eI e 1 []).toNat ≤ (eS e 0 []).length) && (decide ((eS e 0 []).length ≤ 100000) && decide (24 < (spanR goI ((eS e 0 []).drop (eI e 1 []).toNat)))))) = true := hc
  try simp only [Bool.and_eq_true, decide_eq_true_eq, Nat.beq_eq] at hc
  exact by obtain ⟨h1, h2, h3, h4⟩ := hc; have hj : ((eI e 1 []).toNat : Int) = eI e 1 [] := Int.toNat_of_nonneg h1; have q := nmLo (textAt H 23) (eS e 0 []) (eI e 1 []).toNat h2 h3 h4; rw [hj] at q; exact q⟩
end Go.Proofs.YtaleenklamognaaDoor

