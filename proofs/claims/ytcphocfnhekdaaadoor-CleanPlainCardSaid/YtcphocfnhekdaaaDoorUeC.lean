/- Errors: what errors.Is answers of two errors of package api. -/
import Derived.Test.YtcphocfnhekdaaaDoorRows
import Derived.Test.YtcphocfnhekdaaaDoorSyX
import Derived.WalkKit
import Derived.LaidEql
import Derived.Stop.Asserts
import Derived.RowKitTokens
import Derived.Test.YtcphocfnhekdaaaDoorSyKit
set_option linter.unusedSimpArgs false
set_option linter.unusedVariables false
set_option maxRecDepth 100000
namespace Go.Proofs.YtcphocfnhekdaaaDoor
open Go.RowKit Go.Extern.Stop Go.Stop Go.Extern

/-! ### CLOSED FACTS: what 'reflectlite.TypeOf(target).Comparable()' gives at such a target -/
theorem es_isTypeOf (v : Value) (w : World) : (Extern.ReflectliteType.typeOf #[.iface 144 v]).run Tryd.prog w = .ok (.iface 120 (.agg #[.pointer (some ⟨19, 144, none⟩)])) w := by kernel_rfl
theorem es_isComparable (w : World) : ((Extern.ReflectliteType.method fun t => do Rtype.noPackHeld "Comparable" t; (fun a => Value.bool a.comparable) <$> typeInfo t) #[.agg #[.pointer (some ⟨19, 144, none⟩)]]).run Tryd.prog w = .ok (.bool true) w := by kernel_rfl
theorem es_isMethodComparable (v : Value) (w : World) : (Go.method 281 120 v "Comparable").run Tryd.prog w = .ok (108, v) w := by kernel_rfl
theorem es_isComp : (Tryd.prog.info? 144).map (·.comparable) = some true := by kernel_rfl
theorem es_isSize : (Tryd.prog.info? 169).map (·.size) = some 1 := by kernel_rfl

/-! ### CLOSED FACTS ON THE METHOD SETS: what errors.is's assertions find -/
theorem es_noIsE (v : Value) (xT : TypeId) (w : World) : (Instr.typeAssert (.iface 144 v) xT 122 true).run Tryd.prog w = .ok (.tuple #[.nilIface, .bool false]) w := run_typeAssert_lacksB Tryd.underlying122 (by kernel_rfl) (by kernel_rfl) v xT w
theorem es_noUnwrapE (v : Value) (xT : TypeId) (w : World) : (Instr.typeAssert (.iface 144 v) xT 125 true).run Tryd.prog w = .ok (.tuple #[.nilIface, .bool false]) w := run_typeAssert_lacksB Tryd.underlying125 (by kernel_rfl) (by kernel_rfl) v xT w
theorem es_noUnwrapsE (v : Value) (xT : TypeId) (w : World) : (Instr.typeAssert (.iface 144 v) xT 127 true).run Tryd.prog w = .ok (.tuple #[.nilIface, .bool false]) w := run_typeAssert_lacksB Tryd.underlying127 (by kernel_rfl) (by kernel_rfl) v xT w

/-- errors.Is(x, x), x a pointer to an errors.errorString. -/
theorem is_same (a : Addr) (w : World) :
    Calls Tryd.prog 44 #[.iface 144 (.pointer (some a)), .iface 144 (.pointer (some a))] w fun e w' => e = .returned (.bool true) ∧ w' = w := by
  obtain ⟨i, hi, hcmp⟩ := Option.map_eq_some_iff.1 es_isComp
  obtain ⟨j, hj, hjs⟩ := Option.map_eq_some_iff.1 es_isSize
  have h8 := @run_callFunc_extern Tryd.prog 62 _ Extern.ReflectliteType.typeOf Tryd.func62 (by kernel_rfl) (by kernel_rfl) (by kernel_rfl) (by kernel_rfl)
  have h32 := @run_callFunc_extern Tryd.prog 108 _ (Extern.ReflectliteType.method fun t => do Rtype.noPackHeld "Comparable" t; pure (.bool (← typeInfo t).comparable)) Tryd.func108 (by kernel_rfl) (by kernel_rfl) (by kernel_rfl) (by kernel_rfl)
  have tT := es_isTypeOf
  have cT := es_isComparable
  have mR := es_isMethodComparable
  have heq := run_eql_iface_ptr_same (P := Tryd.prog) w a Tryd.underlying26 Tryd.underlying144 hi hcmp hj
  go_enter Tryd.func44, Tryd.ntmps44
  go_wp2
  refine wp_loop_rounds 1 ?_
  rw [rounds_succ]
  go_wp2
  go_ret
  exact ⟨rfl, rfl⟩

/-- errors.Is(x, y), two different pointers to errors.errorString: neither has Is nor Unwrap: false. -/
theorem is_other (a b : Addr) (ca cb : Array Value) (ta tb : TypeId) (w : World) (hne : a ≠ b) (ha : w.heap[a.block]? = some (.cells ca ta (0, 0))) (hb : w.heap[b.block]? = some (.cells cb tb (0, 0))) :
    Calls Tryd.prog 44 #[.iface 144 (.pointer (some a)), .iface 144 (.pointer (some b))] w fun e w' => e = .returned (.bool false) ∧ w' = w := by
  obtain ⟨i, hi, hcmp⟩ := Option.map_eq_some_iff.1 es_isComp
  obtain ⟨j, hj, hjs⟩ := Option.map_eq_some_iff.1 es_isSize
  have h8 := @run_callFunc_extern Tryd.prog 62 _ Extern.ReflectliteType.typeOf Tryd.func62 (by kernel_rfl) (by kernel_rfl) (by kernel_rfl) (by kernel_rfl)
  have h32 := @run_callFunc_extern Tryd.prog 108 _ (Extern.ReflectliteType.method fun t => do Rtype.noPackHeld "Comparable" t; pure (.bool (← typeInfo t).comparable)) Tryd.func108 (by kernel_rfl) (by kernel_rfl) (by kernel_rfl) (by kernel_rfl)
  have tT := es_isTypeOf
  have cT := es_isComparable
  have mR := es_isMethodComparable
  have nE := es_noIsE
  have uE := es_noUnwrapE
  have vE := es_noUnwrapsE
  have heq := run_eql_iface_ptr_other (P := Tryd.prog) w Tryd.underlying26 Tryd.underlying144 hi hcmp hj (by rw [hjs]; decide) hne ha hb
  go_enter Tryd.func44, Tryd.ntmps44
  go_wp2
  refine wp_loop_rounds 1 ?_
  rw [rounds_succ]
  go_wp2
  go_ret
  exact ⟨rfl, rfl⟩


open Go.Sx

/-- A label of what an error points to, with an entry that tells something of it. -/
def errAt (H : List Ent) (l : Nat) (m : Ix → Nat) (p : List Stp) : M Unit := do
  chk (Nat.ble 19 l)
  chk (Nat.blt l 38)
  chk (Nat.beq (m []) 0)
  chk p.isEmpty
  let e ← opt (Sx.look H l)
  chk (noFam e.fam)
  chk (Nat.blt 0 e.t.size)

theorem errAt_ok {H : List Ent} {l : Nat} {m : Ix → Nat} {p : List Stp} {x y : Aux} {u : Unit} {d : Conds} (h : errAt H l m p x = .ok u d y) :
    d = [] ∧ x = y ∧ 19 ≤ l ∧ l < 38 ∧ m [] = 0 ∧ p = [] ∧ ∃ e, Sx.look H l = some e ∧ e.fam = none ∧ e.t.size ≠ 0 := by
  unfold errAt at h
  obtain ⟨e1, h⟩ := chk_bind h
  obtain ⟨e2, h⟩ := chk_bind h
  obtain ⟨e3, h⟩ := chk_bind h
  obtain ⟨e4, h⟩ := chk_bind h
  obtain ⟨e, he, h⟩ := opt_bind h
  obtain ⟨e5, h⟩ := chk_bind h
  obtain ⟨e6, h7, h8⟩ := chk_ok h
  refine ⟨h7, h8, by rwa [Nat.ble_eq] at e1, by rwa [Nat.blt_eq] at e2, Nat.eq_of_beq_eq_true e3, List.isEmpty_iff.1 e4, e, he, noFam_ok e5, ?_⟩
  rw [Nat.blt_eq] at e6
  omega

def isS : Summ := fun args H =>
  match args with
  | [.v (.ve t1 (.vp l1 m1 p1)), .v (.ve t2 (.vp l2 m2 p2))] => do
    chk (Nat.beq t1 144)
    chk (Nat.beq t2 144)
    errAt H l1 m1 p1
    errAt H l2 m2 p2
    pure ⟨.v (.vb fun _ => Nat.beq l1 l2), [], [], [l1, l2]⟩
  | _ => M.fail

theorem isS_ok : ∀ args H x e d y, isS args H x = .ok e d y → OkL d → (∀ a ∈ args, ∀ l ∈ a.labs, l < x.nl) → WFh (Sx.look H) x.nl → gtop Tryd.prog ≤ x.nl → CallOK Tryd.prog 44 args H x.nl e y.nl := by
  intro args H x e d y h hd h3 h4 h5
  unfold isS at h
  split at h
  · rename_i t1 l1 m1 p1 t2 l2 m2 p2
    obtain ⟨e1, h⟩ := chk_bind h
    obtain ⟨e2, h⟩ := chk_bind h
    have e1 := Nat.eq_of_beq_eq_true e1
    have e2 := Nat.eq_of_beq_eq_true e2
    obtain ⟨_, c1, y1, c2, g1, h6, hcc⟩ := bind_ok h
    obtain ⟨rfl, rfl, a1, a2, a3, a4, en1, a5, a6, a7⟩ := errAt_ok g1
    obtain ⟨_, c3, y3, c4, g2, h7, hcd⟩ := bind_ok h6
    obtain ⟨rfl, rfl, b1, b2, b3, b4, en2, b5, b6, b7⟩ := errAt_ok g2
    obtain ⟨rfl, rfl, rfl⟩ := pure_ok h7
    subst e1; subst e2; subst a4; subst b4
    refine ⟨Nat.le_refl _, fun ρ w av hlen hav hG hHp => ?_⟩
    match av, hlen with
    | [u, v], _ =>
      have hu := hav 0 _ u rfl rfl rfl
      have hv := hav 1 _ v rfl rfl rfl
      have hgs : Tryd.prog.globals.size = 19 := by kernel_rfl
      have thawed : ∀ (l : Nat) (en : Ent), 19 ≤ l → l < 38 → Sx.look H l = some en → en.fam = none → en.t.size ≠ 0 → l ∈ [l1, l2] → Thawed w (ρ l 0).blk := by
        intro l en k1 k2 k3 k4 k5 k6
        have hh := hHp.hp l k6 en k3
        unfold Ent.holds at hh
        simp only [k4] at hh
        rw [look_lab k3] at hh
        have ht := hG.thaw (l - 19) (by rw [hgs]; omega)
        rw [hgs, show 19 + (l - 19) = l by omega] at ht
        exact (hh.2.2 ht.2).2.2.2 ht.1 (by rw [Tr.cells_length]; exact k5)
      have vu : u = .iface 144 (.pointer (some ⟨(ρ l1 0).blk, (ρ l1 0).base, none⟩)) := by rw [hu]; simp [SV.val, Tr.val, offs, a3]
      have vv : v = .iface 144 (.pointer (some ⟨(ρ l2 0).blk, (ρ l2 0).base, none⟩)) := by rw [hv]; simp [SV.val, Tr.val, offs, b3]
      subst vu; subst vv
      have fin : ∀ {b : Bool}, b = Nat.beq l1 l2 → (Calls Tryd.prog 44 #[.iface 144 (.pointer (some ⟨(ρ l1 0).blk, (ρ l1 0).base, none⟩)), .iface 144 (.pointer (some ⟨(ρ l2 0).blk, (ρ l2 0).base, none⟩))] w fun e w' => e = .returned (.bool b) ∧ w' = w) →
          Calls Tryd.prog 44 #[.iface 144 (.pointer (some ⟨(ρ l1 0).blk, (ρ l1 0).base, none⟩)), .iface 144 (.pointer (some ⟨(ρ l2 0).blk, (ρ l2 0).base, none⟩))] w fun en w' => ∃ ρ' v, en = .returned v ∧ ((SV.v (.vb fun _ => Nat.beq l1 l2)).isJ = false → v = (SV.v (.vb fun _ => Nat.beq l1 l2)).val ρ') ∧ EffOK ρ ρ' x.nl x.nl H ⟨.v (.vb fun _ => Nat.beq l1 l2), [], [], [l1, l2]⟩ w w' := by
        intro b hb hc
        refine hc.mono fun en w' ⟨h1, h2⟩ => ⟨ρ, _, h1, fun _ => by rw [hb]; rfl, ?_⟩
        rw [h2]; exact EffOK.pure
      by_cases hl : l1 = l2
      · subst hl
        exact fin (b := true) (beqT rfl).symm (is_same _ w)
      · obtain ⟨c1, t1, q1⟩ := thawed l1 en1 a1 a2 a5 a6 a7 (by simp)
        obtain ⟨c2, t2, q2⟩ := thawed l2 en2 b1 b2 b5 b6 b7 (by simp)
        refine fin (b := false) (beqF hl).symm (is_other _ _ c1 c2 t1 t2 w ?_ q1 q2)
        intro he
        have := hG.apart (l1 - 19) (l2 - 19) (by rw [hgs]; omega) (by rw [hgs]; omega) (by omega)
        rw [hgs, show 19 + (l1 - 19) = l1 by omega, show 19 + (l2 - 19) = l2 by omega] at this
        simp only [Addr.mk.injEq, and_true] at he
        exact this he
  · exact (fail_ok h).elim

end Go.Proofs.YtcphocfnhekdaaaDoor

set_option linter.unusedSimpArgs false
set_option linter.unusedVariables false
set_option maxRecDepth 100000
namespace Go.Proofs.YtcphocfnhekdaaaDoor
open Go.Sx

def errG : List Nat := [0, 1, 2, 3, 4, 5, 6, 7, 8, 9, 10, 11, 12, 13, 14, 15]
def numC (H : List Ent) : List Ent := sentEnts 19 144 (textsIn 19 H errG)
def numA (l : Nat) : SV := .v (.ve 144 (.vp l (fun _ => 0) []))
def sumsI : List (FuncId × Summ) := [(44, isS)]

theorem goodN : PGood Tryd.prog := good_of (by kernel_rfl) (by kernel_rfl)
theorem gtopE : gtop Tryd.prog ≤ 46 := of_decide_eq_true (by kernel_rfl)
theorem baseI : Base0 Tryd.prog sumsI := (Base0.nil goodN).cons Tryd.func44 (by kernel_rfl) isS_ok
theorem num_nil_p0 (H : List Ent) :
    isEnd (evTill Tryd.prog sumsI 100 99 900 20 [.code (bodyOf Tryd.f20)] (envOf [.v .ve0] Tryd.f20.ntmps) [] ⟨[.t], 46⟩) (endP ([]) (.v (.vi .i64 fun _ => 0)) [] 96) =
    (OkL [] ∧ (0 : Int) = (0 : Int) ∧ True) := by kernel_rfl

set_option maxHeartbeats 4000000 in
theorem num_nil (H : List Ent)  :
    RunsTo Tryd.prog 20 [.code (bodyOf Tryd.f20)] (envOf [.v .ve0] Tryd.f20.ntmps) (Sx.look []) 46 (.v (.vi .i64 fun _ => 0)) (Sx.look []) 96 := by
  exact runs_last baseI (Sx.Ends.of (num_nil_p0 H) ⟨okn, rfl, trivial⟩) (by kernel_rfl) rfl gtopE (Nat.le_refl _)

theorem num_0_p0 (H : List Ent) :
    isEnd (evTill Tryd.prog sumsI 100 99 900 20 [.code (bodyOf Tryd.f20)] (envOf [numA 19] Tryd.f20.ntmps) (numC H) ⟨[.f, .t, .t, .t, .f, .t, .t, .t, .f, .t, .t, .t, .f, .t, .t, .t, .f, .t, .t, .t, .t], 46⟩) (endP ([]) (.v (.vi .i64 fun _ => 5)) [] 96) =
    (OkL [] ∧ (5 : Int) = IntKind.i64.wrap (IntKind.i64.wrap (IntKind.i64.wrap (IntKind.i64.wrap (IntKind.i64.wrap ((0 : Int) + (1 : Int)) + (1 : Int)) + (1 : Int)) + (1 : Int)) + (1 : Int)) ∧ True) := by kernel_rfl

set_option maxHeartbeats 4000000 in
theorem num_0 (H : List Ent)  :
    RunsTo Tryd.prog 20 [.code (bodyOf Tryd.f20)] (envOf [numA 19] Tryd.f20.ntmps) (Sx.look (numC H)) 46 (.v (.vi .i64 fun _ => 5)) (Sx.look []) 96 := by
  exact runs_last baseI (Sx.Ends.of (num_0_p0 H) ⟨okn, rfl, trivial⟩) (by kernel_rfl) rfl gtopE (Nat.le_refl _)

theorem num_1_p0 (H : List Ent) :
    isEnd (evTill Tryd.prog sumsI 100 99 900 20 [.code (bodyOf Tryd.f20)] (envOf [numA 20] Tryd.f20.ntmps) (numC H) ⟨[.f, .t, .t, .t, .f, .t, .t, .t, .f, .t, .t, .t, .f, .t, .t, .t, .f, .t, .t, .t, .f, .t, .t, .t, .f, .t, .t, .t, .f, .t, .t, .t, .f, .t, .t, .t, .t], 46⟩) (endP ([]) (.v (.vi .i64 fun _ => 9)) [] 96) =
    (OkL [] ∧ (9 : Int) = IntKind.i64.wrap (IntKind.i64.wrap (IntKind.i64.wrap (IntKind.i64.wrap (IntKind.i64.wrap (IntKind.i64.wrap (IntKind.i64.wrap (IntKind.i64.wrap (IntKind.i64.wrap ((0 : Int) + (1 : Int)) + (1 : Int)) + (1 : Int)) + (1 : Int)) + (1 : Int)) + (1 : Int)) + (1 : Int)) + (1 : Int)) + (1 : Int)) ∧ True) := by kernel_rfl

set_option maxHeartbeats 4000000 in
theorem num_1 (H : List Ent)  :
    RunsTo Tryd.prog 20 [.code (bodyOf Tryd.f20)] (envOf [numA 20] Tryd.f20.ntmps) (Sx.look (numC H)) 46 (.v (.vi .i64 fun _ => 9)) (Sx.look []) 96 := by
  exact runs_last baseI (Sx.Ends.of (num_1_p0 H) ⟨okn, rfl, trivial⟩) (by kernel_rfl) rfl gtopE (Nat.le_refl _)

theorem num_2_p0 (H : List Ent) :
    isEnd (evTill Tryd.prog sumsI 100 99 900 20 [.code (bodyOf Tryd.f20)] (envOf [numA 21] Tryd.f20.ntmps) (numC H) ⟨[.f, .t, .t, .t, .t], 46⟩) (endP ([]) (.v (.vi .i64 fun _ => 1)) [] 96) =
    (OkL [] ∧ (1 : Int) = IntKind.i64.wrap ((0 : Int) + (1 : Int)) ∧ True) := by kernel_rfl

set_option maxHeartbeats 4000000 in
theorem num_2 (H : List Ent)  :
    RunsTo Tryd.prog 20 [.code (bodyOf Tryd.f20)] (envOf [numA 21] Tryd.f20.ntmps) (Sx.look (numC H)) 46 (.v (.vi .i64 fun _ => 1)) (Sx.look []) 96 := by
  exact runs_last baseI (Sx.Ends.of (num_2_p0 H) ⟨okn, rfl, trivial⟩) (by kernel_rfl) rfl gtopE (Nat.le_refl _)

theorem num_3_p0 (H : List Ent) :
    isEnd (evTill Tryd.prog sumsI 100 99 900 20 [.code (bodyOf Tryd.f20)] (envOf [numA 22] Tryd.f20.ntmps) (numC H) ⟨[.f, .t, .t, .t, .f, .t, .t, .t, .f, .t, .t, .t, .f, .t, .t, .t, .t], 46⟩) (endP ([]) (.v (.vi .i64 fun _ => 4)) [] 96) =
    (OkL [] ∧ (4 : Int) = IntKind.i64.wrap (IntKind.i64.wrap (IntKind.i64.wrap (IntKind.i64.wrap ((0 : Int) + (1 : Int)) + (1 : Int)) + (1 : Int)) + (1 : Int)) ∧ True) := by kernel_rfl

set_option maxHeartbeats 4000000 in
theorem num_3 (H : List Ent)  :
    RunsTo Tryd.prog 20 [.code (bodyOf Tryd.f20)] (envOf [numA 22] Tryd.f20.ntmps) (Sx.look (numC H)) 46 (.v (.vi .i64 fun _ => 4)) (Sx.look []) 96 := by
  exact runs_last baseI (Sx.Ends.of (num_3_p0 H) ⟨okn, rfl, trivial⟩) (by kernel_rfl) rfl gtopE (Nat.le_refl _)

theorem num_4_p0 (H : List Ent) :
    isEnd (evTill Tryd.prog sumsI 100 99 900 20 [.code (bodyOf Tryd.f20)] (envOf [numA 23] Tryd.f20.ntmps) (numC H) ⟨[.f, .t, .t, .t, .f, .t, .t, .t, .f, .t, .t, .t, .t], 46⟩) (endP ([]) (.v (.vi .i64 fun _ => 3)) [] 96) =
    (OkL [] ∧ (3 : Int) = IntKind.i64.wrap (IntKind.i64.wrap (IntKind.i64.wrap ((0 : Int) + (1 : Int)) + (1 : Int)) + (1 : Int)) ∧ True) := by kernel_rfl

set_option maxHeartbeats 4000000 in
theorem num_4 (H : List Ent)  :
    RunsTo Tryd.prog 20 [.code (bodyOf Tryd.f20)] (envOf [numA 23] Tryd.f20.ntmps) (Sx.look (numC H)) 46 (.v (.vi .i64 fun _ => 3)) (Sx.look []) 96 := by
  exact runs_last baseI (Sx.Ends.of (num_4_p0 H) ⟨okn, rfl, trivial⟩) (by kernel_rfl) rfl gtopE (Nat.le_refl _)

theorem num_5_p0 (H : List Ent) :
    isEnd (evTill Tryd.prog sumsI 100 99 900 20 [.code (bodyOf Tryd.f20)] (envOf [numA 24] Tryd.f20.ntmps) (numC H) ⟨[.f, .t, .t, .t, .f, .t, .t, .t, .t], 46⟩) (endP ([]) (.v (.vi .i64 fun _ => 2)) [] 96) =
    (OkL [] ∧ (2 : Int) = IntKind.i64.wrap (IntKind.i64.wrap ((0 : Int) + (1 : Int)) + (1 : Int)) ∧ True) := by kernel_rfl

set_option maxHeartbeats 4000000 in
theorem num_5 (H : List Ent)  :
    RunsTo Tryd.prog 20 [.code (bodyOf Tryd.f20)] (envOf [numA 24] Tryd.f20.ntmps) (Sx.look (numC H)) 46 (.v (.vi .i64 fun _ => 2)) (Sx.look []) 96 := by
  exact runs_last baseI (Sx.Ends.of (num_5_p0 H) ⟨okn, rfl, trivial⟩) (by kernel_rfl) rfl gtopE (Nat.le_refl _)

theorem num_6_p0 (H : List Ent) :
    isEnd (evTill Tryd.prog sumsI 100 99 900 20 [.code (bodyOf Tryd.f20)] (envOf [numA 25] Tryd.f20.ntmps) (numC H) ⟨[.f, .t, .t, .t, .f, .t, .t, .t, .f, .t, .t, .t, .f, .t, .t, .t, .f, .t, .t, .t, .f, .t, .t, .t, .t], 46⟩) (endP ([]) (.v (.vi .i64 fun _ => 6)) [] 96) =
    (OkL [] ∧ (6 : Int) = IntKind.i64.wrap (IntKind.i64.wrap (IntKind.i64.wrap (IntKind.i64.wrap (IntKind.i64.wrap (IntKind.i64.wrap ((0 : Int) + (1 : Int)) + (1 : Int)) + (1 : Int)) + (1 : Int)) + (1 : Int)) + (1 : Int)) ∧ True) := by kernel_rfl

set_option maxHeartbeats 4000000 in
theorem num_6 (H : List Ent)  :
    RunsTo Tryd.prog 20 [.code (bodyOf Tryd.f20)] (envOf [numA 25] Tryd.f20.ntmps) (Sx.look (numC H)) 46 (.v (.vi .i64 fun _ => 6)) (Sx.look []) 96 := by
  exact runs_last baseI (Sx.Ends.of (num_6_p0 H) ⟨okn, rfl, trivial⟩) (by kernel_rfl) rfl gtopE (Nat.le_refl _)

theorem num_7_p0 (H : List Ent) :
    isEnd (evTill Tryd.prog sumsI 100 99 900 20 [.code (bodyOf Tryd.f20)] (envOf [numA 26] Tryd.f20.ntmps) (numC H) ⟨[.f, .t, .t, .t, .f, .t, .t, .t, .f, .t, .t, .t, .f, .t, .t, .t, .f, .t, .t, .t, .f, .t, .t, .t, .f, .t, .t, .t, .t], 46⟩) (endP ([]) (.v (.vi .i64 fun _ => 7)) [] 96) =
    (OkL [] ∧ (7 : Int) = IntKind.i64.wrap (IntKind.i64.wrap (IntKind.i64.wrap (IntKind.i64.wrap (IntKind.i64.wrap (IntKind.i64.wrap (IntKind.i64.wrap ((0 : Int) + (1 : Int)) + (1 : Int)) + (1 : Int)) + (1 : Int)) + (1 : Int)) + (1 : Int)) + (1 : Int)) ∧ True) := by kernel_rfl

set_option maxHeartbeats 4000000 in
theorem num_7 (H : List Ent)  :
    RunsTo Tryd.prog 20 [.code (bodyOf Tryd.f20)] (envOf [numA 26] Tryd.f20.ntmps) (Sx.look (numC H)) 46 (.v (.vi .i64 fun _ => 7)) (Sx.look []) 96 := by
  exact runs_last baseI (Sx.Ends.of (num_7_p0 H) ⟨okn, rfl, trivial⟩) (by kernel_rfl) rfl gtopE (Nat.le_refl _)

theorem num_8_p0 (H : List Ent) :
    isEnd (evTill Tryd.prog sumsI 100 99 900 20 [.code (bodyOf Tryd.f20)] (envOf [numA 27] Tryd.f20.ntmps) (numC H) ⟨[.f, .t, .t, .t, .f, .t, .t, .t, .f, .t, .t, .t, .f, .t, .t, .t, .f, .t, .t, .t, .f, .t, .t, .t, .f, .t, .t, .t, .f, .t, .t, .t, .t], 46⟩) (endP ([]) (.v (.vi .i64 fun _ => 8)) [] 96) =
    (OkL [] ∧ (8 : Int) = IntKind.i64.wrap (IntKind.i64.wrap (IntKind.i64.wrap (IntKind.i64.wrap (IntKind.i64.wrap (IntKind.i64.wrap (IntKind.i64.wrap (IntKind.i64.wrap ((0 : Int) + (1 : Int)) + (1 : Int)) + (1 : Int)) + (1 : Int)) + (1 : Int)) + (1 : Int)) + (1 : Int)) + (1 : Int)) ∧ True) := by kernel_rfl

set_option maxHeartbeats 4000000 in
theorem num_8 (H : List Ent)  :
    RunsTo Tryd.prog 20 [.code (bodyOf Tryd.f20)] (envOf [numA 27] Tryd.f20.ntmps) (Sx.look (numC H)) 46 (.v (.vi .i64 fun _ => 8)) (Sx.look []) 96 := by
  exact runs_last baseI (Sx.Ends.of (num_8_p0 H) ⟨okn, rfl, trivial⟩) (by kernel_rfl) rfl gtopE (Nat.le_refl _)

theorem num_9_p0 (H : List Ent) :
    isEnd (evTill Tryd.prog sumsI 100 99 900 20 [.code (bodyOf Tryd.f20)] (envOf [numA 28] Tryd.f20.ntmps) (numC H) ⟨[.f, .t, .t, .t, .f, .t, .t, .t, .f, .t, .t, .t, .f, .t, .t, .t, .f, .t, .t, .t, .f, .t, .t, .t, .f, .t, .t, .t, .f, .t, .t, .t, .f, .t, .t, .t, .f, .t, .t, .t, .t], 46⟩) (endP ([]) (.v (.vi .i64 fun _ => 10)) [] 96) =
    (OkL [] ∧ (10 : Int) = IntKind.i64.wrap (IntKind.i64.wrap (IntKind.i64.wrap (IntKind.i64.wrap (IntKind.i64.wrap (IntKind.i64.wrap (IntKind.i64.wrap (IntKind.i64.wrap (IntKind.i64.wrap (IntKind.i64.wrap ((0 : Int) + (1 : Int)) + (1 : Int)) + (1 : Int)) + (1 : Int)) + (1 : Int)) + (1 : Int)) + (1 : Int)) + (1 : Int)) + (1 : Int)) + (1 : Int)) ∧ True) := by kernel_rfl

set_option maxHeartbeats 4000000 in
theorem num_9 (H : List Ent)  :
    RunsTo Tryd.prog 20 [.code (bodyOf Tryd.f20)] (envOf [numA 28] Tryd.f20.ntmps) (Sx.look (numC H)) 46 (.v (.vi .i64 fun _ => 10)) (Sx.look []) 96 := by
  exact runs_last baseI (Sx.Ends.of (num_9_p0 H) ⟨okn, rfl, trivial⟩) (by kernel_rfl) rfl gtopE (Nat.le_refl _)

theorem num_10_p0 (H : List Ent) :
    isEnd (evTill Tryd.prog sumsI 100 99 900 20 [.code (bodyOf Tryd.f20)] (envOf [numA 29] Tryd.f20.ntmps) (numC H) ⟨[.f, .t, .t, .t, .f, .t, .t, .t, .f, .t, .t, .t, .f, .t, .t, .t, .f, .t, .t, .t, .f, .t, .t, .t, .f, .t, .t, .t, .f, .t, .t, .t, .f, .t, .t, .t, .f, .t, .t, .t, .f, .t, .t, .t, .t], 46⟩) (endP ([]) (.v (.vi .i64 fun _ => 11)) [] 96) =
    (OkL [] ∧ (11 : Int) = IntKind.i64.wrap (IntKind.i64.wrap (IntKind.i64.wrap (IntKind.i64.wrap (IntKind.i64.wrap (IntKind.i64.wrap (IntKind.i64.wrap (IntKind.i64.wrap (IntKind.i64.wrap (IntKind.i64.wrap (IntKind.i64.wrap ((0 : Int) + (1 : Int)) + (1 : Int)) + (1 : Int)) + (1 : Int)) + (1 : Int)) + (1 : Int)) + (1 : Int)) + (1 : Int)) + (1 : Int)) + (1 : Int)) + (1 : Int)) ∧ True) := by kernel_rfl

set_option maxHeartbeats 4000000 in
theorem num_10 (H : List Ent)  :
    RunsTo Tryd.prog 20 [.code (bodyOf Tryd.f20)] (envOf [numA 29] Tryd.f20.ntmps) (Sx.look (numC H)) 46 (.v (.vi .i64 fun _ => 11)) (Sx.look []) 96 := by
  exact runs_last baseI (Sx.Ends.of (num_10_p0 H) ⟨okn, rfl, trivial⟩) (by kernel_rfl) rfl gtopE (Nat.le_refl _)

theorem num_11_p0 (H : List Ent) :
    isEnd (evTill Tryd.prog sumsI 100 99 900 20 [.code (bodyOf Tryd.f20)] (envOf [numA 30] Tryd.f20.ntmps) (numC H) ⟨[.f, .t, .t, .t, .f, .t, .t, .t, .f, .t, .t, .t, .f, .t, .t, .t, .f, .t, .t, .t, .f, .t, .t, .t, .f, .t, .t, .t, .f, .t, .t, .t, .f, .t, .t, .t, .f, .t, .t, .t, .f, .t, .t, .t, .f, .t, .t, .t, .t], 46⟩) (endP ([]) (.v (.vi .i64 fun _ => 12)) [] 96) =
    (OkL [] ∧ (12 : Int) = IntKind.i64.wrap (IntKind.i64.wrap (IntKind.i64.wrap (IntKind.i64.wrap (IntKind.i64.wrap (IntKind.i64.wrap (IntKind.i64.wrap (IntKind.i64.wrap (IntKind.i64.wrap (IntKind.i64.wrap (IntKind.i64.wrap (IntKind.i64.wrap ((0 : Int) + (1 : Int)) + (1 : Int)) + (1 : Int)) + (1 : Int)) + (1 : Int)) + (1 : Int)) + (1 : Int)) + (1 : Int)) + (1 : Int)) + (1 : Int)) + (1 : Int)) + (1 : Int)) ∧ True) := by kernel_rfl

set_option maxHeartbeats 4000000 in
theorem num_11 (H : List Ent)  :
    RunsTo Tryd.prog 20 [.code (bodyOf Tryd.f20)] (envOf [numA 30] Tryd.f20.ntmps) (Sx.look (numC H)) 46 (.v (.vi .i64 fun _ => 12)) (Sx.look []) 96 := by
  exact runs_last baseI (Sx.Ends.of (num_11_p0 H) ⟨okn, rfl, trivial⟩) (by kernel_rfl) rfl gtopE (Nat.le_refl _)

theorem num_12_p0 (H : List Ent) :
    isEnd (evTill Tryd.prog sumsI 100 99 900 20 [.code (bodyOf Tryd.f20)] (envOf [numA 31] Tryd.f20.ntmps) (numC H) ⟨[.f, .t, .t, .t, .f, .t, .t, .t, .f, .t, .t, .t, .f, .t, .t, .t, .f, .t, .t, .t, .f, .t, .t, .t, .f, .t, .t, .t, .f, .t, .t, .t, .f, .t, .t, .t, .f, .t, .t, .t, .f, .t, .t, .t, .f, .t, .t, .t, .f, .t, .t, .t, .t], 46⟩) (endP ([]) (.v (.vi .i64 fun _ => 13)) [] 96) =
    (OkL [] ∧ (13 : Int) = IntKind.i64.wrap (IntKind.i64.wrap (IntKind.i64.wrap (IntKind.i64.wrap (IntKind.i64.wrap (IntKind.i64.wrap (IntKind.i64.wrap (IntKind.i64.wrap (IntKind.i64.wrap (IntKind.i64.wrap (IntKind.i64.wrap (IntKind.i64.wrap (IntKind.i64.wrap ((0 : Int) + (1 : Int)) + (1 : Int)) + (1 : Int)) + (1 : Int)) + (1 : Int)) + (1 : Int)) + (1 : Int)) + (1 : Int)) + (1 : Int)) + (1 : Int)) + (1 : Int)) + (1 : Int)) + (1 : Int)) ∧ True) := by kernel_rfl

set_option maxHeartbeats 4000000 in
theorem num_12 (H : List Ent)  :
    RunsTo Tryd.prog 20 [.code (bodyOf Tryd.f20)] (envOf [numA 31] Tryd.f20.ntmps) (Sx.look (numC H)) 46 (.v (.vi .i64 fun _ => 13)) (Sx.look []) 96 := by
  exact runs_last baseI (Sx.Ends.of (num_12_p0 H) ⟨okn, rfl, trivial⟩) (by kernel_rfl) rfl gtopE (Nat.le_refl _)

theorem num_13_p0 (H : List Ent) :
    isEnd (evTill Tryd.prog sumsI 100 99 900 20 [.code (bodyOf Tryd.f20)] (envOf [numA 32] Tryd.f20.ntmps) (numC H) ⟨[.f, .t, .t, .t, .f, .t, .t, .t, .f, .t, .t, .t, .f, .t, .t, .t, .f, .t, .t, .t, .f, .t, .t, .t, .f, .t, .t, .t, .f, .t, .t, .t, .f, .t, .t, .t, .f, .t, .t, .t, .f, .t, .t, .t, .f, .t, .t, .t, .f, .t, .t, .t, .f, .t, .t, .t, .t], 46⟩) (endP ([]) (.v (.vi .i64 fun _ => 14)) [] 96) =
    (OkL [] ∧ (14 : Int) = IntKind.i64.wrap (IntKind.i64.wrap (IntKind.i64.wrap (IntKind.i64.wrap (IntKind.i64.wrap (IntKind.i64.wrap (IntKind.i64.wrap (IntKind.i64.wrap (IntKind.i64.wrap (IntKind.i64.wrap (IntKind.i64.wrap (IntKind.i64.wrap (IntKind.i64.wrap (IntKind.i64.wrap ((0 : Int) + (1 : Int)) + (1 : Int)) + (1 : Int)) + (1 : Int)) + (1 : Int)) + (1 : Int)) + (1 : Int)) + (1 : Int)) + (1 : Int)) + (1 : Int)) + (1 : Int)) + (1 : Int)) + (1 : Int)) + (1 : Int)) ∧ True) := by kernel_rfl

set_option maxHeartbeats 4000000 in
theorem num_13 (H : List Ent)  :
    RunsTo Tryd.prog 20 [.code (bodyOf Tryd.f20)] (envOf [numA 32] Tryd.f20.ntmps) (Sx.look (numC H)) 46 (.v (.vi .i64 fun _ => 14)) (Sx.look []) 96 := by
  exact runs_last baseI (Sx.Ends.of (num_13_p0 H) ⟨okn, rfl, trivial⟩) (by kernel_rfl) rfl gtopE (Nat.le_refl _)

theorem num_14_p0 (H : List Ent) :
    isEnd (evTill Tryd.prog sumsI 100 99 900 20 [.code (bodyOf Tryd.f20)] (envOf [numA 33] Tryd.f20.ntmps) (numC H) ⟨[.f, .t, .t, .t, .f, .t, .t, .t, .f, .t, .t, .t, .f, .t, .t, .t, .f, .t, .t, .t, .f, .t, .t, .t, .f, .t, .t, .t, .f, .t, .t, .t, .f, .t, .t, .t, .f, .t, .t, .t, .f, .t, .t, .t, .f, .t, .t, .t, .f, .t, .t, .t, .f, .t, .t, .t, .f, .t, .t, .t, .t], 46⟩) (endP ([]) (.v (.vi .i64 fun _ => 15)) [] 96) =
    (OkL [] ∧ (15 : Int) = IntKind.i64.wrap (IntKind.i64.wrap (IntKind.i64.wrap (IntKind.i64.wrap (IntKind.i64.wrap (IntKind.i64.wrap (IntKind.i64.wrap (IntKind.i64.wrap (IntKind.i64.wrap (IntKind.i64.wrap (IntKind.i64.wrap (IntKind.i64.wrap (IntKind.i64.wrap (IntKind.i64.wrap (IntKind.i64.wrap ((0 : Int) + (1 : Int)) + (1 : Int)) + (1 : Int)) + (1 : Int)) + (1 : Int)) + (1 : Int)) + (1 : Int)) + (1 : Int)) + (1 : Int)) + (1 : Int)) + (1 : Int)) + (1 : Int)) + (1 : Int)) + (1 : Int)) + (1 : Int)) ∧ True) := by kernel_rfl

set_option maxHeartbeats 4000000 in
theorem num_14 (H : List Ent)  :
    RunsTo Tryd.prog 20 [.code (bodyOf Tryd.f20)] (envOf [numA 33] Tryd.f20.ntmps) (Sx.look (numC H)) 46 (.v (.vi .i64 fun _ => 15)) (Sx.look []) 96 := by
  exact runs_last baseI (Sx.Ends.of (num_14_p0 H) ⟨okn, rfl, trivial⟩) (by kernel_rfl) rfl gtopE (Nat.le_refl _)

theorem num_15_p0 (H : List Ent) :
    isEnd (evTill Tryd.prog sumsI 100 99 900 20 [.code (bodyOf Tryd.f20)] (envOf [numA 34] Tryd.f20.ntmps) (numC H) ⟨[.f, .t, .t, .t, .f, .t, .t, .t, .f, .t, .t, .t, .f, .t, .t, .t, .f, .t, .t, .t, .f, .t, .t, .t, .f, .t, .t, .t, .f, .t, .t, .t, .f, .t, .t, .t, .f, .t, .t, .t, .f, .t, .t, .t, .f, .t, .t, .t, .f, .t, .t, .t, .f, .t, .t, .t, .f, .t, .t, .t, .f, .t, .t, .t, .t], 46⟩) (endP ([]) (.v (.vi .i64 fun _ => 16)) [] 96) =
    (OkL [] ∧ (16 : Int) = IntKind.i64.wrap (IntKind.i64.wrap (IntKind.i64.wrap (IntKind.i64.wrap (IntKind.i64.wrap (IntKind.i64.wrap (IntKind.i64.wrap (IntKind.i64.wrap (IntKind.i64.wrap (IntKind.i64.wrap (IntKind.i64.wrap (IntKind.i64.wrap (IntKind.i64.wrap (IntKind.i64.wrap (IntKind.i64.wrap (IntKind.i64.wrap ((0 : Int) + (1 : Int)) + (1 : Int)) + (1 : Int)) + (1 : Int)) + (1 : Int)) + (1 : Int)) + (1 : Int)) + (1 : Int)) + (1 : Int)) + (1 : Int)) + (1 : Int)) + (1 : Int)) + (1 : Int)) + (1 : Int)) + (1 : Int)) + (1 : Int)) ∧ True) := by kernel_rfl

set_option maxHeartbeats 4000000 in
theorem num_15 (H : List Ent)  :
    RunsTo Tryd.prog 20 [.code (bodyOf Tryd.f20)] (envOf [numA 34] Tryd.f20.ntmps) (Sx.look (numC H)) 46 (.v (.vi .i64 fun _ => 16)) (Sx.look []) 96 := by
  exact runs_last baseI (Sx.Ends.of (num_15_p0 H) ⟨okn, rfl, trivial⟩) (by kernel_rfl) rfl gtopE (Nat.le_refl _)

end Go.Proofs.YtcphocfnhekdaaaDoor

set_option linter.unusedSimpArgs false
set_option linter.unusedVariables false
set_option maxRecDepth 100000
namespace Go.Proofs.YtcphocfnhekdaaaDoor
open Go.Sx

def memB (l : Nat) : List Nat → Bool
  | [] => false
  | a :: r => match Nat.beq a l with | true => true | false => memB l r
theorem memB_ok {l : Nat} : ∀ {r : List Nat}, memB l r = true → l ∈ r
  | a :: r, h => by
    simp only [memB] at h
    split at h
    · rename_i e; rw [Nat.eq_of_beq_eq_true e]; simp
    · exact List.mem_cons_of_mem _ (memB_ok h)

def numOf (l : Nat) : Int := match l with
  | 19 => 5
  | 20 => 9
  | 21 => 1
  | 22 => 4
  | 23 => 3
  | 24 => 2
  | 25 => 6
  | 26 => 7
  | 27 => 8
  | 28 => 10
  | 29 => 11
  | 30 => 12
  | 31 => 13
  | 32 => 14
  | 33 => 15
  | 34 => 16
  | _ => 0

def numS : Summ := fun args H =>
  match args with
  | [.v .ve0] => do
    bump 50
    pure ⟨.v (.vi .i64 fun _ => 0), [], [], []⟩
  | [.v (.ve t (.vp l m p))] => do
    chk (Nat.beq t 144)
    chk (Nat.beq (m []) 0)
    chk p.isEmpty
    chk (errsIn 19 144 H errG)
    chk (memB l (errG.map (19 + ·)))
    bump 50
    pure ⟨.v (.vi .i64 fun _ => numOf l), [], [], errLabs 19 errG⟩
  | _ => M.fail

theorem num_runs (H : List Ent) (l : Nat) (hl : memB l (errG.map (19 + ·)) = true) : RunsTo Tryd.prog 20 [.code (bodyOf Tryd.f20)] (envOf [numA l] Tryd.f20.ntmps) (Sx.look (numC H)) 46 (.v (.vi .i64 fun _ => numOf l)) (Sx.look []) (46 + 50) := by
  have hl := memB_ok hl
  simp only [errG, List.map_cons, List.map_nil, List.mem_cons, List.not_mem_nil, or_false] at hl
  rcases hl with rfl | rfl | rfl | rfl | rfl | rfl | rfl | rfl | rfl | rfl | rfl | rfl | rfl | rfl | rfl | rfl
  · exact num_0 H
  · exact num_1 H
  · exact num_2 H
  · exact num_3 H
  · exact num_4 H
  · exact num_5 H
  · exact num_6 H
  · exact num_7 H
  · exact num_8 H
  · exact num_9 H
  · exact num_10 H
  · exact num_11 H
  · exact num_12 H
  · exact num_13 H
  · exact num_14 H
  · exact num_15 H

theorem numS_ok : ∀ args H x e d y, numS args H x = .ok e d y → OkL d → (∀ a ∈ args, ∀ l ∈ a.labs, l < x.nl) → WFh (Sx.look H) x.nl → gtop Tryd.prog ≤ x.nl → CallOK Tryd.prog 20 args H x.nl e y.nl := by
  intro args H x e d y h hd h3 h4 h5
  unfold numS at h
  split at h
  · obtain ⟨x9, n9, h⟩ := bump_bind h
    obtain ⟨rfl, rfl, rfl⟩ := pure_ok h
    rw [n9]
    exact useC_ok (σ := []) Tryd.func20 (body := bodyOf Tryd.f20) (by kernel_rfl) (cargs := [.v .ve0]) (C := []) (C' := []) (n := 46) (n' := 46 + 50)
      (num_nil []) rfl rfl ⟨trivial, trivial⟩ trivial (by kernel_rfl) rfl rfl rfl
  · rename_i t l m p
    obtain ⟨e1, h⟩ := chk_bind h
    obtain ⟨e2, h⟩ := chk_bind h
    obtain ⟨e3, h⟩ := chk_bind h
    obtain ⟨e4, h⟩ := chk_bind h
    obtain ⟨e5, h⟩ := chk_bind h
    obtain ⟨x9, n9, h⟩ := bump_bind h
    obtain ⟨rfl, rfl, rfl⟩ := pure_ok h
    have e1 := Nat.eq_of_beq_eq_true e1
    have e2 := Nat.eq_of_beq_eq_true e2
    have e3 : p = [] := List.isEmpty_iff.1 e3
    subst e1; subst e3
    rw [n9]
    have hs := srcs_sent (G := 19) (tp := 144) (H := H) errG
    have hu := useC_ok (σ := []) (args := [.v (.ve 144 (.vp l m []))]) (H := H) (nl := x.nl) Tryd.func20 (body := bodyOf Tryd.f20) (by kernel_rfl) (cargs := [numA l]) (C := numC H) (C' := []) (n := 46) (n' := 46 + 50) (num_runs H l e5) (by kernel_rfl) rfl
      ⟨by simp [numA, fitS, fitT, fitP, sgOf, onB_true, offs, allB, e2, beqT rfl], trivial⟩ (errs_fitH e4) (by kernel_rfl) rfl rfl rfl
    unfold effC at hu
    rw [show srcsOf [] (numC H) = errLabs 19 errG from hs] at hu
    exact hu
  · exact (fail_ok h).elim

end Go.Proofs.YtcphocfnhekdaaaDoor

