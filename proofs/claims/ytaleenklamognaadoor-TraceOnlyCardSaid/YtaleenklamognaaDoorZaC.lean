/- Errors: what errors.Is answers of two errors of package api. -/
import Derived.Test.YtaleenklamognaaDoorRows
import Derived.Test.YtaleenklamognaaDoorSyX
import Derived.WalkKit
import Derived.LaidEql
import Derived.Stop.Asserts
import Derived.RowKitTokens
import Derived.Test.YtaleenklamognaaDoorSyKit
import Derived.Test.YtaleenklamognaaDoorSyBd
import Derived.Test.YtaleenklamognaaDoorProg
import Derived.Test.YtaleenklamognaaDoorSyPc
import Derived.Test.YtaleenklamognaaDoorSyPl
set_option linter.unusedSimpArgs false
set_option linter.unusedVariables false
set_option maxRecDepth 100000
namespace Go.Proofs.YtaleenklamognaaDoor
open Go.RowKit Go.Extern.Stop Go.Stop Go.Extern

/-! ### CLOSED FACTS: what 'reflectlite.TypeOf(target).Comparable()' gives at such a target -/
theorem es_isTypeOf (v : Value) (w : World) : (Extern.ReflectliteType.typeOf #[.iface 213 v]).run Tryd.prog w = .ok (.iface 164 (.agg #[.pointer (some ⟨23, 213, none⟩)])) w := by kernel_rfl
theorem es_isComparable (w : World) : ((Extern.ReflectliteType.method fun t => do Rtype.noPackHeld "Comparable" t; (fun a => Value.bool a.comparable) <$> typeInfo t) #[.agg #[.pointer (some ⟨23, 213, none⟩)]]).run Tryd.prog w = .ok (.bool true) w := by kernel_rfl
theorem es_isMethodComparable (v : Value) (w : World) : (Go.method 361 164 v "Comparable").run Tryd.prog w = .ok (202, v) w := by kernel_rfl
theorem es_isComp : (Tryd.prog.info? 213).map (·.comparable) = some true := by kernel_rfl
theorem es_isSize : (Tryd.prog.info? 215).map (·.size) = some 1 := by kernel_rfl

/-! ### CLOSED FACTS ON THE METHOD SETS: what errors.is's assertions find -/
theorem es_noIsE (v : Value) (xT : TypeId) (w : World) : (Instr.typeAssert (.iface 213 v) xT 166 true).run Tryd.prog w = .ok (.tuple #[.nilIface, .bool false]) w := run_typeAssert_lacksB Tryd.underlying166 (by kernel_rfl) (by kernel_rfl) v xT w
theorem es_noUnwrapE (v : Value) (xT : TypeId) (w : World) : (Instr.typeAssert (.iface 213 v) xT 169 true).run Tryd.prog w = .ok (.tuple #[.nilIface, .bool false]) w := run_typeAssert_lacksB Tryd.underlying169 (by kernel_rfl) (by kernel_rfl) v xT w
theorem es_noUnwrapsE (v : Value) (xT : TypeId) (w : World) : (Instr.typeAssert (.iface 213 v) xT 171 true).run Tryd.prog w = .ok (.tuple #[.nilIface, .bool false]) w := run_typeAssert_lacksB Tryd.underlying171 (by kernel_rfl) (by kernel_rfl) v xT w

theorem is_same (a : Addr) (w : World) :
    Calls Tryd.prog 59 #[.iface 213 (.pointer (some a)), .iface 213 (.pointer (some a))] w fun e w' => e = .returned (.bool true) ∧ w' = w := by
  obtain ⟨i, hi, hcmp⟩ := Option.map_eq_some_iff.1 es_isComp
  obtain ⟨j, hj, hjs⟩ := Option.map_eq_some_iff.1 es_isSize
  have h8 := @run_callFunc_extern Tryd.prog 96 _ Extern.ReflectliteType.typeOf Tryd.func96 (by kernel_rfl) (by kernel_rfl) (by kernel_rfl) (by kernel_rfl)
  have h32 := @run_callFunc_extern Tryd.prog 202 _ (Extern.ReflectliteType.method fun t => do Rtype.noPackHeld "Comparable" t; pure (.bool (← typeInfo t).comparable)) Tryd.func202 (by kernel_rfl) (by kernel_rfl) (by kernel_rfl) (by kernel_rfl)
  have tT := es_isTypeOf
  have cT := es_isComparable
  have mR := es_isMethodComparable
  have heq := run_eql_iface_ptr_same (P := Tryd.prog) w a Tryd.underlying25 Tryd.underlying213 hi hcmp hj
  go_enter Tryd.func59, Tryd.ntmps59
  go_wp2
  refine wp_loop_rounds 1 ?_
  rw [rounds_succ]
  go_wp2
  go_ret
  exact ⟨rfl, rfl⟩

theorem is_other (a b : Addr) (ca cb : Array Value) (ta tb : TypeId) (w : World) (hne : a ≠ b) (ha : w.heap[a.block]? = some (.cells ca ta (0, 0))) (hb : w.heap[b.block]? = some (.cells cb tb (0, 0))) :
    Calls Tryd.prog 59 #[.iface 213 (.pointer (some a)), .iface 213 (.pointer (some b))] w fun e w' => e = .returned (.bool false) ∧ w' = w := by
  obtain ⟨i, hi, hcmp⟩ := Option.map_eq_some_iff.1 es_isComp
  obtain ⟨j, hj, hjs⟩ := Option.map_eq_some_iff.1 es_isSize
  have h8 := @run_callFunc_extern Tryd.prog 96 _ Extern.ReflectliteType.typeOf Tryd.func96 (by kernel_rfl) (by kernel_rfl) (by kernel_rfl) (by kernel_rfl)
  have h32 := @run_callFunc_extern Tryd.prog 202 _ (Extern.ReflectliteType.method fun t => do Rtype.noPackHeld "Comparable" t; pure (.bool (← typeInfo t).comparable)) Tryd.func202 (by kernel_rfl) (by kernel_rfl) (by kernel_rfl) (by kernel_rfl)
  have tT := es_isTypeOf
  have cT := es_isComparable
  have mR := es_isMethodComparable
  have nE := es_noIsE
  have uE := es_noUnwrapE
  have vE := es_noUnwrapsE
  have heq := run_eql_iface_ptr_other (P := Tryd.prog) w Tryd.underlying25 Tryd.underlying213 hi hcmp hj (by rw [hjs]; decide) hne ha hb
  go_enter Tryd.func59, Tryd.ntmps59
  go_wp2
  refine wp_loop_rounds 1 ?_
  rw [rounds_succ]
  go_wp2
  go_ret
  exact ⟨rfl, rfl⟩


open Go.Sx

def errAt (H : List Ent) (l : Nat) (m : Ix → Nat) (p : List Stp) : M Unit := do
  chk (Nat.ble 23 l)
  chk (Nat.blt l 46)
  chk (Nat.beq (m []) 0)
  chk p.isEmpty
  let e ← opt (Sx.look H l)
  chk (noFam e.fam)
  chk (Nat.blt 0 e.t.size)

theorem errAt_ok {H : List Ent} {l : Nat} {m : Ix → Nat} {p : List Stp} {x y : Aux} {u : Unit} {d : Conds} (h : errAt H l m p x = .ok u d y) :
    d = [] ∧ x = y ∧ 23 ≤ l ∧ l < 46 ∧ m [] = 0 ∧ p = [] ∧ ∃ e, Sx.look H l = some e ∧ e.fam = none ∧ e.t.size ≠ 0 := by
  unfold errAt at h
  obtain ⟨e1, h⟩ := chk_bind h
  obtain ⟨e2, h⟩ := chk_bind h
  obtain ⟨e3, h⟩ := chk_bind h
  obtain ⟨e4, h⟩ := chk_bind h
  obtain ⟨e, he, h⟩ := opt_bind h
  obtain ⟨e5, h⟩ := chk_bind h
  obtain ⟨e6, h7, h8⟩ := chk_ok h
  refine ⟨h7, h8, by rwa [Nat.ble_eq] at e1, by rwa [Nat.blt_eq] at e2, Nat.eq_of_beq_eq_true e3, List.isEmpty_iff.1 e4, e, he, noFam_ok e5, ?_⟩
  rw [Nat.blt_eq] at e6
  omega

def isS : Summ := fun args H =>
  match args with
  | [.v (.ve t1 (.vp l1 m1 p1)), .v (.ve t2 (.vp l2 m2 p2))] => do
    chk (Nat.beq t1 213)
    chk (Nat.beq t2 213)
    errAt H l1 m1 p1
    errAt H l2 m2 p2
    pure ⟨.v (.vb fun _ => Nat.beq l1 l2), [], [], [l1, l2]⟩
  | _ => M.fail

theorem isS_ok : ∀ args H x e d y, isS args H x = .ok e d y → OkL d → (∀ a ∈ args, ∀ l ∈ a.labs, l < x.nl) → WFh (Sx.look H) x.nl → gtop Tryd.prog ≤ x.nl → CallOK Tryd.prog 59 args H x.nl e y.nl := by
  intro args H x e d y h hd h3 h4 h5
  unfold isS at h
  split at h
  · rename_i t1 l1 m1 p1 t2 l2 m2 p2
    obtain ⟨e1, h⟩ := chk_bind h
    obtain ⟨e2, h⟩ := chk_bind h
    have e1 := Nat.eq_of_beq_eq_true e1
    have e2 := Nat.eq_of_beq_eq_true e2
    obtain ⟨_, c1, y1, c2, g1, h6, hcc⟩ := bind_ok h
    obtain ⟨rfl, rfl, a1, a2, a3, a4, en1, a5, a6, a7⟩ := errAt_ok g1
    obtain ⟨_, c3, y3, c4, g2, h7, hcd⟩ := bind_ok h6
    obtain ⟨rfl, rfl, b1, b2, b3, b4, en2, b5, b6, b7⟩ := errAt_ok g2
    obtain ⟨rfl, rfl, rfl⟩ := pure_ok h7
    subst e1; subst e2; subst a4; subst b4
    refine ⟨Nat.le_refl _, fun ρ w av hlen hav hG hHp => ?_⟩
    match av, hlen with
    | [u, v], _ =>
      have hu := hav 0 _ u rfl rfl rfl
      have hv := hav 1 _ v rfl rfl rfl
      have hgs : Tryd.prog.globals.size = 23 := by kernel_rfl
      have thawed : ∀ (l : Nat) (en : Ent), 23 ≤ l → l < 46 → Sx.look H l = some en → en.fam = none → en.t.size ≠ 0 → l ∈ [l1, l2] → Thawed w (ρ l 0).blk := by
        intro l en k1 k2 k3 k4 k5 k6
        have hh := hHp.hp l k6 en k3
        unfold Ent.holds at hh
        simp only [k4] at hh
        rw [look_lab k3] at hh
        have ht := hG.thaw (l - 23) (by rw [hgs]; omega)
        rw [hgs, show 23 + (l - 23) = l by omega] at ht
        exact (hh.2.2 ht.2).2.2.2 ht.1 (by rw [Tr.cells_length]; exact k5)
      have vu : u = .iface 213 (.pointer (some ⟨(ρ l1 0).blk, (ρ l1 0).base, none⟩)) := by rw [hu]; simp [SV.val, Tr.val, offs, a3]
      have vv : v = .iface 213 (.pointer (some ⟨(ρ l2 0).blk, (ρ l2 0).base, none⟩)) := by rw [hv]; simp [SV.val, Tr.val, offs, b3]
      subst vu; subst vv
      have fin : ∀ {b : Bool}, b = Nat.beq l1 l2 → (Calls Tryd.prog 59 #[.iface 213 (.pointer (some ⟨(ρ l1 0).blk, (ρ l1 0).base, none⟩)), .iface 213 (.pointer (some ⟨(ρ l2 0).blk, (ρ l2 0).base, none⟩))] w fun e w' => e = .returned (.bool b) ∧ w' = w) →
          Calls Tryd.prog 59 #[.iface 213 (.pointer (some ⟨(ρ l1 0).blk, (ρ l1 0).base, none⟩)), .iface 213 (.pointer (some ⟨(ρ l2 0).blk, (ρ l2 0).base, none⟩))] w fun en w' => ∃ ρ' v, en = .returned v ∧ ((SV.v (.vb fun _ => Nat.beq l1 l2)).isJ = false → v = (SV.v (.vb fun _ => Nat.beq l1 l2)).val ρ') ∧ EffOK ρ ρ' x.nl x.nl H ⟨.v (.vb fun _ => Nat.beq l1 l2), [], [], [l1, l2]⟩ w w' := by
        intro b hb hc
        refine hc.mono fun en w' ⟨h1, h2⟩ => ⟨ρ, _, h1, fun _ => by rw [hb]; rfl, ?_⟩
        rw [h2]; exact EffOK.pure
      by_cases hl : l1 = l2
      · subst hl
        exact fin (b := true) (beqT rfl).symm (is_same _ w)
      · obtain ⟨c1, t1, q1⟩ := thawed l1 en1 a1 a2 a5 a6 a7 (by simp)
        obtain ⟨c2, t2, q2⟩ := thawed l2 en2 b1 b2 b5 b6 b7 (by simp)
        refine fin (b := false) (beqF hl).symm (is_other _ _ c1 c2 t1 t2 w ?_ q1 q2)
        intro he
        have := hG.apart (l1 - 23) (l2 - 23) (by rw [hgs]; omega) (by rw [hgs]; omega) (by omega)
        rw [hgs, show 23 + (l1 - 23) = l1 by omega, show 23 + (l2 - 23) = l2 by omega] at this
        simp only [Addr.mk.injEq, and_true] at he
        exact this he
  · exact (fail_ok h).elim

end Go.Proofs.YtaleenklamognaaDoor

set_option linter.unusedSimpArgs false
set_option linter.unusedVariables false
set_option maxRecDepth 100000
namespace Go.Proofs.YtaleenklamognaaDoor
open Go.Sx

def errG : List Nat := [0, 1, 2, 3, 4, 5, 6, 7, 8, 9, 10, 11, 12, 13, 14, 15]
def numC (H : List Ent) : List Ent := sentEnts 23 213 (textsIn 23 H errG)
def numA (l : Nat) : SV := .v (.ve 213 (.vp l (fun _ => 0) []))
def sumsI : List (FuncId × Summ) := [(59, isS)]

theorem goodN : PGood Tryd.prog := good_of (by kernel_rfl) (by kernel_rfl)
theorem gtopE : gtop Tryd.prog ≤ 54 := of_decide_eq_true (by kernel_rfl)
theorem baseI : Base0 Tryd.prog sumsI := (Base0.nil goodN).cons Tryd.func59 (by kernel_rfl) isS_ok
end Go.Proofs.YtaleenklamognaaDoor

set_option linter.unusedSimpArgs false
set_option linter.unusedVariables false
set_option maxRecDepth 100000
namespace Go.Proofs.YtaleenklamognaaDoor
open Go.Sx

end Go.Proofs.YtaleenklamognaaDoor

set_option linter.unusedSimpArgs false
set_option linter.unusedVariables false
namespace WordR

structure Pc where
  var : List UInt8
  lit : List UInt8
deriving DecidableEq, Repr
structure Wt where
  kind : Nat
  text : List UInt8
  num : Int
  ps : List Pc
  pos : Nat
deriving DecidableEq, Repr
inductive TR where
  | ok (t : Wt) (n : Nat)
  | err (e : Nat)
deriving DecidableEq, Repr
inductive O1 where
  | byte (c : UInt8) (n : Nat)
  | var (x : List UInt8) (n : Nat)
  | err (e : Nat)
deriving DecidableEq, Repr
end WordR

set_option linter.unusedVariables false
set_option maxRecDepth 100000
namespace Go.Proofs.YtaleenklamognaaDoor
open Go.Sx Go.Shelf
def bdRen : Ren := ⟨fun | 169 => 69 | 240 => 100 | 276 => 122 | n => n, fun | 37 => 118 | 70 => 117 | 72 => 120 | 127 => 153 | 164 => 173 | n => n, fun | n => n⟩
theorem bdLays240 : Go.Proofs.Lays.n240 Tryd.prog bdRen := {
  mixed := by kernel_rfl
  f240 := Tryd.func100.trans (congrArg some (by kernel_rfl))
  f276 := Tryd.func122.trans (congrArg some (by kernel_rfl))
  t0 := Tryd.underlying0
  a0 := Tryd.isAgg0
  z0 := Tryd.sizeOf0
  v0 := Tryd.zeroValue0
  t4 := Tryd.underlying4
  a4 := Tryd.isAgg4
  z4 := Tryd.sizeOf4
  v4 := Tryd.zeroValue4
  t9 := Tryd.underlying9
  a9 := Tryd.isAgg9
  z9 := Tryd.sizeOf9
  v9 := Tryd.zeroValue9
  t20 := Tryd.underlying20
  a20 := Tryd.isAgg20
  z20 := Tryd.sizeOf20
  v20 := Tryd.zeroValue20
  t70 := Tryd.underlying117
  a70 := Tryd.isAgg117
  z70 := Tryd.sizeOf117
  v70 := Tryd.zeroValue117
  t72 := Tryd.underlying120
  a72 := Tryd.isAgg120
  z72 := Tryd.sizeOf120
  v72 := Tryd.zeroValue120
  t164 := Tryd.underlying173
  a164 := Tryd.isAgg173
  z164 := Tryd.sizeOf173
  v164 := Tryd.zeroValue173 }
theorem bdLays169 : Go.Proofs.Lays.n169 Tryd.prog bdRen := {
  mixed := by kernel_rfl
  f169 := Tryd.func69.trans (congrArg some (by kernel_rfl))
  t0 := Tryd.underlying0
  a0 := Tryd.isAgg0
  z0 := Tryd.sizeOf0
  v0 := Tryd.zeroValue0
  t3 := Tryd.underlying3
  a3 := Tryd.isAgg3
  z3 := Tryd.sizeOf3
  v3 := Tryd.zeroValue3
  t9 := Tryd.underlying9
  a9 := Tryd.isAgg9
  z9 := Tryd.sizeOf9
  v9 := Tryd.zeroValue9
  t37 := Tryd.underlying118
  a37 := Tryd.isAgg118
  z37 := Tryd.sizeOf118
  v37 := Tryd.zeroValue118
  t70 := Tryd.underlying117
  a70 := Tryd.isAgg117
  z70 := Tryd.sizeOf117
  v70 := Tryd.zeroValue117
  t72 := Tryd.underlying120
  a72 := Tryd.isAgg120
  z72 := Tryd.sizeOf120
  v72 := Tryd.zeroValue120
  t127 := Tryd.underlying153
  a127 := Tryd.isAgg153
  z127 := Tryd.sizeOf153
  v127 := Tryd.zeroValue153 }
theorem bdExtra : Go.Proofs.Builder.Extra Tryd.prog bdRen := {
  sizeBuilder := by kernel_rfl
  liesBuilder := by kernel_rfl
  t5 := Tryd.underlying5
  a5 := Tryd.isAgg5
  z5 := Tryd.sizeOf5
  v5 := Tryd.zeroValue5
  infoByte := by kernel_rfl
  cellsByte := by kernel_rfl
  sizeByte := by kernel_rfl
  neB5 := by decide }
theorem bdCk : ∀ args H x e d y, bldCk 120 args H x = .ok e d y → OkL d → (∀ a ∈ args, ∀ l ∈ a.labs, l < x.nl) → WFh (Sx.look H) x.nl → gtop Tryd.prog ≤ x.nl → CallOK Tryd.prog 100 args H x.nl e y.nl := by
  have h := bldCk_ok bdLays240 bdExtra.toX72
  rw [show bdRen.t 72 = 120 by kernel_rfl, show bdRen.f 240 = 100 by kernel_rfl] at h
  exact h
theorem bdStr : ∀ args H x e d y, bldStr 120 5 args H x = .ok e d y → OkL d → (∀ a ∈ args, ∀ l ∈ a.labs, l < x.nl) → WFh (Sx.look H) x.nl → gtop Tryd.prog ≤ x.nl → CallOK Tryd.prog 69 args H x.nl e y.nl := by
  have h := bldStr_ok bdLays169 bdExtra
  rw [show bdRen.t 72 = 120 by kernel_rfl, show bdRen.t 5 = 5 by kernel_rfl, show bdRen.f 169 = 69 by kernel_rfl] at h
  exact h
end Go.Proofs.YtaleenklamognaaDoor

set_option linter.unusedSimpArgs false
set_option linter.unusedVariables false
set_option maxRecDepth 100000
namespace Go.Proofs.YtaleenklamognaaDoor
open Go.Sx

theorem goodP : PGood Tryd.prog := good_of (by kernel_rfl) (by kernel_rfl)
theorem gtopP : gtop Tryd.prog ≤ 100 := of_decide_eq_true (by kernel_rfl)
theorem gtopG : gtop Tryd.prog = 46 := of_decide_eq_true (by kernel_rfl)
theorem gtL {n : Nat} (h : 46 ≤ n) : gtop Tryd.prog ≤ n := Nat.le_trans (Nat.le_of_eq gtopG) h
theorem baseO : Base0 Tryd.prog [] := Base0.nil goodP
abbrev YES : SV := .v (.vb fun _ => true)
abbrev vN (a : Int) : SV := .v (.vi .i64 fun _ => a)
abbrev vU (a : Int) : SV := .v (.vi .u8 fun _ => a)
abbrev vB (a : Bool) : SV := .v (.vb fun _ => a)
abbrev vS (a : List UInt8) : SV := .v (.vs fun _ => a)
abbrev vP (l : Nat) : SV := .v (.vp l (fun _ => 0) [])
abbrev vL (l w n : Nat) : SV := .v (.vl l (fun _ => 0) w [] (fun _ => n))
open WordR
def rdW (p : Nat) (s : List UInt8) (a : Int) : List Ent := [⟨p, true, none, 2, .tc (.vs fun _ => s) (.tc (.vi .i64 fun _ => a) .t0)⟩]
def vErr (g : Nat) : Tr := .ve 213 (.vp (23 + g) (fun _ => 0) [])
end Go.Proofs.YtaleenklamognaaDoor

set_option linter.unusedSimpArgs false
set_option linter.unusedVariables false
set_option maxRecDepth 100000
namespace Go.Proofs.YtaleenklamognaaDoor
open Go.Sx

open WordR
def tkT (k : Int) (x : List UInt8) (m : Int) (p : Tr) : Tr := .tc (.vi .i64 fun _ => k) (.tc (.vs fun _ => x) (.tc (.vi .i64 fun _ => m) (.tc p (.tc (.vi .i64 fun _ => 0) .t0))))
end Go.Proofs.YtaleenklamognaaDoor

set_option linter.unusedSimpArgs false
set_option linter.unusedVariables false
set_option maxRecDepth 100000
namespace Go.Proofs.YtaleenklamognaaDoor
open Go.Sx

open WordR
end Go.Proofs.YtaleenklamognaaDoor

set_option linter.unusedSimpArgs false
set_option linter.unusedVariables false
set_option maxRecDepth 100000
namespace Go.Proofs.YtaleenklamognaaDoor
open Go.Sx

open WordR
end Go.Proofs.YtaleenklamognaaDoor

set_option linter.unusedSimpArgs false
set_option linter.unusedVariables false
set_option maxRecDepth 100000
namespace Go.Proofs.YtaleenklamognaaDoor
open Go.Sx

open WordR
def zP : Pc := ⟨[], []⟩
def prV (P : List Pc) : Ix → List UInt8 := fun is => (P.getD (is.headD 0) zP).var
def prL (P : List Pc) : Ix → List UInt8 := fun is => (P.getD (is.headD 0) zP).lit
def prE (l : Nat) (P : List Pc) : List Ent := [⟨l, true, none, 2, .ta P.length (.tc (.vs (prV P)) (.tc (.vs (prL P)) .t0))⟩]
end Go.Proofs.YtaleenklamognaaDoor

set_option linter.unusedSimpArgs false
set_option linter.unusedVariables false
set_option maxRecDepth 100000
namespace Go.Proofs.YtaleenklamognaaDoor
open Go.Sx

open WordR
end Go.Proofs.YtaleenklamognaaDoor

set_option linter.unusedSimpArgs false
set_option linter.unusedVariables false
set_option maxRecDepth 100000
namespace Go.Proofs.YtaleenklamognaaDoor
open Go.Sx

open WordR
def rwB (l : Nat) (b : List UInt8) : List Ent := [⟨l, true, none, 1, .ta b.length (.vi .u8 fun is => ((b.getD (is.headD 0) 0).toNat : Int))⟩]
def hexS : List UInt8 := [48, 49, 50, 51, 52, 53, 54, 55, 56, 57, 97, 98, 99, 100, 101, 102]
def toldI (x : Int) (p : Bool) : List UInt8 :=
  if x = 10 then [92, 110] else if x = 13 then [92, 114] else if x = 9 then [92, 116] else if x = 34 ∨ x = 36 ∨ x = 92 then [92, UInt8.ofNat x.toNat]
  else if p = true ∧ 32 ≤ x ∧ x ≤ 126 then [UInt8.ofNat x.toNat] else [92, 120, hexS.getD (x / 16).toNat 0, hexS.getD (x % 16).toNat 0]
theorem sh_all : ((List.range 256).all fun n => decide (ishr .u8 (n : Int) 4 = (n : Int) / 16 ∧ iand .u8 (n : Int) 15 = (n : Int) % 16)) = true := by kernel_rfl
theorem sh_at {x : Int} (h : 0 ≤ x ∧ x < 256) : ishr .u8 x 4 = x / 16 ∧ iand .u8 x 15 = x % 16 := by
  obtain ⟨n, rfl⟩ : ∃ n : Nat, x = (n : Int) := ⟨x.toNat, by omega⟩
  exact of_decide_eq_true (List.all_eq_true.1 sh_all n (List.mem_range.2 (by omega)))
end Go.Proofs.YtaleenklamognaaDoor

set_option linter.unusedSimpArgs false
set_option linter.unusedVariables false
set_option maxRecDepth 100000
namespace Go.Proofs.YtaleenklamognaaDoor
open Go.Sx

def errL : List Nat := [27, 26, 28, 23, 29, 25, 30, 31, 32, 33, 34, 35, 36, 37, 38, 24]
def xnum (k : Nat) : Int := if k < 16 then (k : Int) + 1 else 0
def xArg (k : Nat) : SV := match nthL errL k with | some l => numA l | none => .v .ve0
theorem baseN0 : Base0 Tryd.prog [] := Base0.nil goodN
def xS : Summ := fun args H =>
  match args with
  | [.v .ve0] => do
    chk (errsIn 23 213 H errG)
    bump 50
    pure ⟨.v (.vi .i64 fun _ => xnum 16), [], [], errLabs 23 errG⟩
  | [.v (.vx t ls f)] => do
    chk (Nat.beq t 213 && sameL ls errL)
    chk (errsIn 23 213 H errG)
    bump 50
    pure ⟨.v (.vi .i64 fun _ => xnum (f [])), [], [], errLabs 23 errG⟩
  | [.v (.ve t (.vp l m []))] => do
    chk (Nat.beq t 213 && Nat.beq (m []) 0)
    chk (errsIn 23 213 H errG)
    let k ← opt (idxL l errL 0)
    bump 50
    pure ⟨.v (.vi .i64 fun _ => xnum k), [], [], errLabs 23 errG⟩
  | _ => M.fail
theorem xS_core {f : FuncId} {fn : Func} {body : Code} (h1 : Tryd.prog.funcs[f]? = some fn) (h2 : fn.body = some body) (runs : ∀ (H : List Ent) (k : Nat), RunsTo Tryd.prog f [.code body] (envOf [xArg k] fn.ntmps) (Sx.look (numC H)) 54 (.v (.vi .i64 fun _ => xnum k)) (Sx.look []) (54 + 50))
    (H : List Ent) (nl : Nat) (a : SV) (k : Nat) (e4 : errsIn 23 213 H errG = true) (hf : fitS [] (xArg k) a) (hw : WFh (Sx.look H) nl) (hg : gtop Tryd.prog ≤ nl) (hl : ∀ l ∈ a.labs, l < nl) :
    CallOK Tryd.prog f [a] H nl ⟨.v (.vi .i64 fun _ => xnum k), [], [], errLabs 23 errG⟩ (nl + 50) := by
  have hs := srcs_sent (G := 23) (tp := 213) (H := H) errG
  have hx : below 54 (labsSV [xArg k]) = true := by
    unfold xArg
    cases hk : nthL errL k with
    | none => rfl
    | some l =>
      have hm := nthL_mem hk
      simp only [errL, List.mem_cons, List.not_mem_nil, or_false] at hm
      rcases hm with rfl | rfl | rfl | rfl | rfl | rfl | rfl | rfl | rfl | rfl | rfl | rfl | rfl | rfl | rfl | rfl <;> rfl
  have hu := useC_ok (σ := []) (args := [a]) (H := H) (nl := nl) h1 (body := body) h2 (cargs := [xArg k]) (C := numC H) (C' := []) (n := 54) (n' := 54 + 50) (runs H k) (by kernel_rfl) rfl
    ⟨hf, trivial⟩ (errs_fitH e4) (by kernel_rfl) rfl rfl rfl
  unfold effC at hu
  rw [show srcsOf [] (numC H) = errLabs 23 errG from hs] at hu
  exact hu
theorem xfit_e {l k t : Nat} {m : Ix → Nat} (h : idxL l errL 0 = some k) (ht : Nat.beq t 213 = true) (hm : m [] = 0) : fitS [] (xArg k) (.v (.ve t (.vp l m []))) := by
  obtain ⟨i, rfl, hi⟩ := idxL_ok h
  rw [Nat.zero_add]
  unfold xArg
  rw [hi]
  simp only [numA, fitS, fitT, fitP, sgOf, onB_true, offs, allB, hm, beqT rfl, Nat.eq_of_beq_eq_true ht]
theorem xfit_x {t : Nat} {ls : List Nat} {f : Ix → Nat} (ht : Nat.beq t 213 = true) (hl : sameL ls errL = true) : fitS [] (xArg (f [])) (.v (.vx t ls f)) := by
  have hl := sameL_ok hl
  have ht := Nat.eq_of_beq_eq_true ht
  subst hl; subst ht
  unfold xArg
  cases hk : nthL errL (f []) with
  | none => simp only [fitS, fitT, allB, hk]
  | some l => simp only [numA, fitS, fitT, fitVX, onB_true, offs, allB, hk, beqT rfl, atO', sgOf, isToR, and_self]
theorem xS_ok {f : FuncId} {fn : Func} {body : Code} (h1 : Tryd.prog.funcs[f]? = some fn) (h2 : fn.body = some body) (runs : ∀ (H : List Ent) (k : Nat), RunsTo Tryd.prog f [.code body] (envOf [xArg k] fn.ntmps) (Sx.look (numC H)) 54 (.v (.vi .i64 fun _ => xnum k)) (Sx.look []) (54 + 50)) :
    ∀ args H x e d y, xS args H x = .ok e d y → OkL d → (∀ a ∈ args, ∀ l ∈ a.labs, l < x.nl) → WFh (Sx.look H) x.nl → gtop Tryd.prog ≤ x.nl → CallOK Tryd.prog f args H x.nl e y.nl := by
  intro args H x e d y h hd h3 h4 h5
  unfold xS at h
  split at h
  · obtain ⟨e4, h⟩ := chk_bind h
    obtain ⟨x9, n9, h⟩ := bump_bind h
    obtain ⟨rfl, rfl, rfl⟩ := pure_ok h
    rw [n9]
    exact xS_core h1 h2 runs H x.nl _ 16 e4 (show fitS [] (.v .ve0) (.v .ve0) from trivial) h4 h5 (h3 _ (by simp))
  · rename_i t ls f
    obtain ⟨e1, h⟩ := chk_bind h
    obtain ⟨e4, h⟩ := chk_bind h
    obtain ⟨x9, n9, h⟩ := bump_bind h
    obtain ⟨rfl, rfl, rfl⟩ := pure_ok h
    rw [n9]
    simp only [Bool.and_eq_true] at e1
    exact xS_core h1 h2 runs H x.nl _ (f []) e4 (xfit_x e1.1 e1.2) h4 h5 (h3 _ (by simp))
  · rename_i t l m
    obtain ⟨e1, h⟩ := chk_bind h
    obtain ⟨e4, h⟩ := chk_bind h
    obtain ⟨k, hk, h⟩ := opt_bind h
    obtain ⟨x9, n9, h⟩ := bump_bind h
    obtain ⟨rfl, rfl, rfl⟩ := pure_ok h
    rw [n9]
    simp only [Bool.and_eq_true] at e1
    exact xS_core h1 h2 runs H x.nl _ k e4 (xfit_e hk e1.1 (Nat.eq_of_beq_eq_true e1.2)) h4 h5 (h3 _ (by simp))
  · exact (fail_ok h).elim
theorem xnb_0_p0 (H : List Ent) :
    isEnd (evTill Tryd.prog sumsI 600 99 900 110 [.code (bodyOf Tryd.f110)] (envOf [numA 27] Tryd.f110.ntmps) (numC H) ⟨[.t, .t, .t, .t], 54⟩) (endP ([]) (.v (.vi .i64 fun _ => 1)) [] 104) =
    (OkL [] ∧ (1 : Int) = IntKind.i64.wrap ((0 : Int) + (1 : Int)) ∧ True) := by kernel_rfl

set_option maxHeartbeats 4000000 in
theorem xnb_0 (H : List Ent)  :
    RunsTo Tryd.prog 110 [.code (bodyOf Tryd.f110)] (envOf [numA 27] Tryd.f110.ntmps) (Sx.look (numC H)) 54 (.v (.vi .i64 fun _ => 1)) (Sx.look []) 104 := by
  exact runs_last baseI (Sx.Ends.of (xnb_0_p0 H) ⟨okn, by first | rfl | exact ⟨rfl, rfl⟩ | decide, trivial⟩) (by kernel_rfl) rfl gtopE (Nat.le_refl _)

theorem xnb_1_p0 (H : List Ent) :
    isEnd (evTill Tryd.prog sumsI 600 99 900 110 [.code (bodyOf Tryd.f110)] (envOf [numA 26] Tryd.f110.ntmps) (numC H) ⟨[.t, .t, .t, .f, .t, .t, .t, .t], 54⟩) (endP ([]) (.v (.vi .i64 fun _ => 2)) [] 104) =
    (OkL [] ∧ (2 : Int) = IntKind.i64.wrap (IntKind.i64.wrap ((0 : Int) + (1 : Int)) + (1 : Int)) ∧ True) := by kernel_rfl

set_option maxHeartbeats 4000000 in
theorem xnb_1 (H : List Ent)  :
    RunsTo Tryd.prog 110 [.code (bodyOf Tryd.f110)] (envOf [numA 26] Tryd.f110.ntmps) (Sx.look (numC H)) 54 (.v (.vi .i64 fun _ => 2)) (Sx.look []) 104 := by
  exact runs_last baseI (Sx.Ends.of (xnb_1_p0 H) ⟨okn, by first | rfl | exact ⟨rfl, rfl⟩ | decide, trivial⟩) (by kernel_rfl) rfl gtopE (Nat.le_refl _)

theorem xnb_2_p0 (H : List Ent) :
    isEnd (evTill Tryd.prog sumsI 600 99 900 110 [.code (bodyOf Tryd.f110)] (envOf [numA 28] Tryd.f110.ntmps) (numC H) ⟨[.t, .t, .t, .f, .t, .t, .t, .f, .t, .t, .t, .t], 54⟩) (endP ([]) (.v (.vi .i64 fun _ => 3)) [] 104) =
    (OkL [] ∧ (3 : Int) = IntKind.i64.wrap (IntKind.i64.wrap (IntKind.i64.wrap ((0 : Int) + (1 : Int)) + (1 : Int)) + (1 : Int)) ∧ True) := by kernel_rfl

set_option maxHeartbeats 4000000 in
theorem xnb_2 (H : List Ent)  :
    RunsTo Tryd.prog 110 [.code (bodyOf Tryd.f110)] (envOf [numA 28] Tryd.f110.ntmps) (Sx.look (numC H)) 54 (.v (.vi .i64 fun _ => 3)) (Sx.look []) 104 := by
  exact runs_last baseI (Sx.Ends.of (xnb_2_p0 H) ⟨okn, by first | rfl | exact ⟨rfl, rfl⟩ | decide, trivial⟩) (by kernel_rfl) rfl gtopE (Nat.le_refl _)

theorem xnb_3_p0 (H : List Ent) :
    isEnd (evTill Tryd.prog sumsI 600 99 900 110 [.code (bodyOf Tryd.f110)] (envOf [numA 23] Tryd.f110.ntmps) (numC H) ⟨[.t, .t, .t, .f, .t, .t, .t, .f, .t, .t, .t, .f, .t, .t, .t, .t], 54⟩) (endP ([]) (.v (.vi .i64 fun _ => 4)) [] 104) =
    (OkL [] ∧ (4 : Int) = IntKind.i64.wrap (IntKind.i64.wrap (IntKind.i64.wrap (IntKind.i64.wrap ((0 : Int) + (1 : Int)) + (1 : Int)) + (1 : Int)) + (1 : Int)) ∧ True) := by kernel_rfl

set_option maxHeartbeats 4000000 in
theorem xnb_3 (H : List Ent)  :
    RunsTo Tryd.prog 110 [.code (bodyOf Tryd.f110)] (envOf [numA 23] Tryd.f110.ntmps) (Sx.look (numC H)) 54 (.v (.vi .i64 fun _ => 4)) (Sx.look []) 104 := by
  exact runs_last baseI (Sx.Ends.of (xnb_3_p0 H) ⟨okn, by first | rfl | exact ⟨rfl, rfl⟩ | decide, trivial⟩) (by kernel_rfl) rfl gtopE (Nat.le_refl _)

theorem xnb_4_p0 (H : List Ent) :
    isEnd (evTill Tryd.prog sumsI 600 99 900 110 [.code (bodyOf Tryd.f110)] (envOf [numA 29] Tryd.f110.ntmps) (numC H) ⟨[.t, .t, .t, .f, .t, .t, .t, .f, .t, .t, .t, .f, .t, .t, .t, .f, .t, .t, .t, .t], 54⟩) (endP ([]) (.v (.vi .i64 fun _ => 5)) [] 104) =
    (OkL [] ∧ (5 : Int) = IntKind.i64.wrap (IntKind.i64.wrap (IntKind.i64.wrap (IntKind.i64.wrap (IntKind.i64.wrap ((0 : Int) + (1 : Int)) + (1 : Int)) + (1 : Int)) + (1 : Int)) + (1 : Int)) ∧ True) := by kernel_rfl

set_option maxHeartbeats 4000000 in
theorem xnb_4 (H : List Ent)  :
    RunsTo Tryd.prog 110 [.code (bodyOf Tryd.f110)] (envOf [numA 29] Tryd.f110.ntmps) (Sx.look (numC H)) 54 (.v (.vi .i64 fun _ => 5)) (Sx.look []) 104 := by
  exact runs_last baseI (Sx.Ends.of (xnb_4_p0 H) ⟨okn, by first | rfl | exact ⟨rfl, rfl⟩ | decide, trivial⟩) (by kernel_rfl) rfl gtopE (Nat.le_refl _)

theorem xnb_5_p0 (H : List Ent) :
    isEnd (evTill Tryd.prog sumsI 600 99 900 110 [.code (bodyOf Tryd.f110)] (envOf [numA 25] Tryd.f110.ntmps) (numC H) ⟨[.t, .t, .t, .f, .t, .t, .t, .f, .t, .t, .t, .f, .t, .t, .t, .f, .t, .t, .t, .f, .t, .t, .t, .t], 54⟩) (endP ([]) (.v (.vi .i64 fun _ => 6)) [] 104) =
    (OkL [] ∧ (6 : Int) = IntKind.i64.wrap (IntKind.i64.wrap (IntKind.i64.wrap (IntKind.i64.wrap (IntKind.i64.wrap (IntKind.i64.wrap ((0 : Int) + (1 : Int)) + (1 : Int)) + (1 : Int)) + (1 : Int)) + (1 : Int)) + (1 : Int)) ∧ True) := by kernel_rfl

set_option maxHeartbeats 4000000 in
theorem xnb_5 (H : List Ent)  :
    RunsTo Tryd.prog 110 [.code (bodyOf Tryd.f110)] (envOf [numA 25] Tryd.f110.ntmps) (Sx.look (numC H)) 54 (.v (.vi .i64 fun _ => 6)) (Sx.look []) 104 := by
  exact runs_last baseI (Sx.Ends.of (xnb_5_p0 H) ⟨okn, by first | rfl | exact ⟨rfl, rfl⟩ | decide, trivial⟩) (by kernel_rfl) rfl gtopE (Nat.le_refl _)

theorem xnb_6_p0 (H : List Ent) :
    isEnd (evTill Tryd.prog sumsI 600 99 900 110 [.code (bodyOf Tryd.f110)] (envOf [numA 30] Tryd.f110.ntmps) (numC H) ⟨[.t, .t, .t, .f, .t, .t, .t, .f, .t, .t, .t, .f, .t, .t, .t, .f, .t, .t, .t, .f, .t, .t, .t, .f, .t, .t, .t, .t], 54⟩) (endP ([]) (.v (.vi .i64 fun _ => 7)) [] 104) =
    (OkL [] ∧ (7 : Int) = IntKind.i64.wrap (IntKind.i64.wrap (IntKind.i64.wrap (IntKind.i64.wrap (IntKind.i64.wrap (IntKind.i64.wrap (IntKind.i64.wrap ((0 : Int) + (1 : Int)) + (1 : Int)) + (1 : Int)) + (1 : Int)) + (1 : Int)) + (1 : Int)) + (1 : Int)) ∧ True) := by kernel_rfl

set_option maxHeartbeats 4000000 in
theorem xnb_6 (H : List Ent)  :
    RunsTo Tryd.prog 110 [.code (bodyOf Tryd.f110)] (envOf [numA 30] Tryd.f110.ntmps) (Sx.look (numC H)) 54 (.v (.vi .i64 fun _ => 7)) (Sx.look []) 104 := by
  exact runs_last baseI (Sx.Ends.of (xnb_6_p0 H) ⟨okn, by first | rfl | exact ⟨rfl, rfl⟩ | decide, trivial⟩) (by kernel_rfl) rfl gtopE (Nat.le_refl _)

theorem xnb_7_p0 (H : List Ent) :
    isEnd (evTill Tryd.prog sumsI 600 99 900 110 [.code (bodyOf Tryd.f110)] (envOf [numA 31] Tryd.f110.ntmps) (numC H) ⟨[.t, .t, .t, .f, .t, .t, .t, .f, .t, .t, .t, .f, .t, .t, .t, .f, .t, .t, .t, .f, .t, .t, .t, .f, .t, .t, .t, .f, .t, .t, .t, .t], 54⟩) (endP ([]) (.v (.vi .i64 fun _ => 8)) [] 104) =
    (OkL [] ∧ (8 : Int) = IntKind.i64.wrap (IntKind.i64.wrap (IntKind.i64.wrap (IntKind.i64.wrap (IntKind.i64.wrap (IntKind.i64.wrap (IntKind.i64.wrap (IntKind.i64.wrap ((0 : Int) + (1 : Int)) + (1 : Int)) + (1 : Int)) + (1 : Int)) + (1 : Int)) + (1 : Int)) + (1 : Int)) + (1 : Int)) ∧ True) := by kernel_rfl

set_option maxHeartbeats 4000000 in
theorem xnb_7 (H : List Ent)  :
    RunsTo Tryd.prog 110 [.code (bodyOf Tryd.f110)] (envOf [numA 31] Tryd.f110.ntmps) (Sx.look (numC H)) 54 (.v (.vi .i64 fun _ => 8)) (Sx.look []) 104 := by
  exact runs_last baseI (Sx.Ends.of (xnb_7_p0 H) ⟨okn, by first | rfl | exact ⟨rfl, rfl⟩ | decide, trivial⟩) (by kernel_rfl) rfl gtopE (Nat.le_refl _)

theorem xnb_8_p0 (H : List Ent) :
    isEnd (evTill Tryd.prog sumsI 600 99 900 110 [.code (bodyOf Tryd.f110)] (envOf [numA 32] Tryd.f110.ntmps) (numC H) ⟨[.t, .t, .t, .f, .t, .t, .t, .f, .t, .t, .t, .f, .t, .t, .t, .f, .t, .t, .t, .f, .t, .t, .t, .f, .t, .t, .t, .f, .t, .t, .t, .f, .t, .t, .t, .t], 54⟩) (endP ([]) (.v (.vi .i64 fun _ => 9)) [] 104) =
    (OkL [] ∧ (9 : Int) = IntKind.i64.wrap (IntKind.i64.wrap (IntKind.i64.wrap (IntKind.i64.wrap (IntKind.i64.wrap (IntKind.i64.wrap (IntKind.i64.wrap (IntKind.i64.wrap (IntKind.i64.wrap ((0 : Int) + (1 : Int)) + (1 : Int)) + (1 : Int)) + (1 : Int)) + (1 : Int)) + (1 : Int)) + (1 : Int)) + (1 : Int)) + (1 : Int)) ∧ True) := by kernel_rfl

set_option maxHeartbeats 4000000 in
theorem xnb_8 (H : List Ent)  :
    RunsTo Tryd.prog 110 [.code (bodyOf Tryd.f110)] (envOf [numA 32] Tryd.f110.ntmps) (Sx.look (numC H)) 54 (.v (.vi .i64 fun _ => 9)) (Sx.look []) 104 := by
  exact runs_last baseI (Sx.Ends.of (xnb_8_p0 H) ⟨okn, by first | rfl | exact ⟨rfl, rfl⟩ | decide, trivial⟩) (by kernel_rfl) rfl gtopE (Nat.le_refl _)

theorem xnb_9_p0 (H : List Ent) :
    isEnd (evTill Tryd.prog sumsI 600 99 900 110 [.code (bodyOf Tryd.f110)] (envOf [numA 33] Tryd.f110.ntmps) (numC H) ⟨[.t, .t, .t, .f, .t, .t, .t, .f, .t, .t, .t, .f, .t, .t, .t, .f, .t, .t, .t, .f, .t, .t, .t, .f, .t, .t, .t, .f, .t, .t, .t, .f, .t, .t, .t, .f, .t, .t, .t, .t], 54⟩) (endP ([]) (.v (.vi .i64 fun _ => 10)) [] 104) =
    (OkL [] ∧ (10 : Int) = IntKind.i64.wrap (IntKind.i64.wrap (IntKind.i64.wrap (IntKind.i64.wrap (IntKind.i64.wrap (IntKind.i64.wrap (IntKind.i64.wrap (IntKind.i64.wrap (IntKind.i64.wrap (IntKind.i64.wrap ((0 : Int) + (1 : Int)) + (1 : Int)) + (1 : Int)) + (1 : Int)) + (1 : Int)) + (1 : Int)) + (1 : Int)) + (1 : Int)) + (1 : Int)) + (1 : Int)) ∧ True) := by kernel_rfl

set_option maxHeartbeats 4000000 in
theorem xnb_9 (H : List Ent)  :
    RunsTo Tryd.prog 110 [.code (bodyOf Tryd.f110)] (envOf [numA 33] Tryd.f110.ntmps) (Sx.look (numC H)) 54 (.v (.vi .i64 fun _ => 10)) (Sx.look []) 104 := by
  exact runs_last baseI (Sx.Ends.of (xnb_9_p0 H) ⟨okn, by first | rfl | exact ⟨rfl, rfl⟩ | decide, trivial⟩) (by kernel_rfl) rfl gtopE (Nat.le_refl _)

theorem xnb_10_p0 (H : List Ent) :
    isEnd (evTill Tryd.prog sumsI 600 99 900 110 [.code (bodyOf Tryd.f110)] (envOf [numA 34] Tryd.f110.ntmps) (numC H) ⟨[.t, .t, .t, .f, .t, .t, .t, .f, .t, .t, .t, .f, .t, .t, .t, .f, .t, .t, .t, .f, .t, .t, .t, .f, .t, .t, .t, .f, .t, .t, .t, .f, .t, .t, .t, .f, .t, .t, .t, .f, .t, .t, .t, .t], 54⟩) (endP ([]) (.v (.vi .i64 fun _ => 11)) [] 104) =
    (OkL [] ∧ (11 : Int) = IntKind.i64.wrap (IntKind.i64.wrap (IntKind.i64.wrap (IntKind.i64.wrap (IntKind.i64.wrap (IntKind.i64.wrap (IntKind.i64.wrap (IntKind.i64.wrap (IntKind.i64.wrap (IntKind.i64.wrap (IntKind.i64.wrap ((0 : Int) + (1 : Int)) + (1 : Int)) + (1 : Int)) + (1 : Int)) + (1 : Int)) + (1 : Int)) + (1 : Int)) + (1 : Int)) + (1 : Int)) + (1 : Int)) + (1 : Int)) ∧ True) := by kernel_rfl

set_option maxHeartbeats 4000000 in
theorem xnb_10 (H : List Ent)  :
    RunsTo Tryd.prog 110 [.code (bodyOf Tryd.f110)] (envOf [numA 34] Tryd.f110.ntmps) (Sx.look (numC H)) 54 (.v (.vi .i64 fun _ => 11)) (Sx.look []) 104 := by
  exact runs_last baseI (Sx.Ends.of (xnb_10_p0 H) ⟨okn, by first | rfl | exact ⟨rfl, rfl⟩ | decide, trivial⟩) (by kernel_rfl) rfl gtopE (Nat.le_refl _)

theorem xnb_11_p0 (H : List Ent) :
    isEnd (evTill Tryd.prog sumsI 600 99 900 110 [.code (bodyOf Tryd.f110)] (envOf [numA 35] Tryd.f110.ntmps) (numC H) ⟨[.t, .t, .t, .f, .t, .t, .t, .f, .t, .t, .t, .f, .t, .t, .t, .f, .t, .t, .t, .f, .t, .t, .t, .f, .t, .t, .t, .f, .t, .t, .t, .f, .t, .t, .t, .f, .t, .t, .t, .f, .t, .t, .t, .f, .t, .t, .t, .t], 54⟩) (endP ([]) (.v (.vi .i64 fun _ => 12)) [] 104) =
    (OkL [] ∧ (12 : Int) = IntKind.i64.wrap (IntKind.i64.wrap (IntKind.i64.wrap (IntKind.i64.wrap (IntKind.i64.wrap (IntKind.i64.wrap (IntKind.i64.wrap (IntKind.i64.wrap (IntKind.i64.wrap (IntKind.i64.wrap (IntKind.i64.wrap (IntKind.i64.wrap ((0 : Int) + (1 : Int)) + (1 : Int)) + (1 : Int)) + (1 : Int)) + (1 : Int)) + (1 : Int)) + (1 : Int)) + (1 : Int)) + (1 : Int)) + (1 : Int)) + (1 : Int)) + (1 : Int)) ∧ True) := by kernel_rfl

set_option maxHeartbeats 4000000 in
theorem xnb_11 (H : List Ent)  :
    RunsTo Tryd.prog 110 [.code (bodyOf Tryd.f110)] (envOf [numA 35] Tryd.f110.ntmps) (Sx.look (numC H)) 54 (.v (.vi .i64 fun _ => 12)) (Sx.look []) 104 := by
  exact runs_last baseI (Sx.Ends.of (xnb_11_p0 H) ⟨okn, by first | rfl | exact ⟨rfl, rfl⟩ | decide, trivial⟩) (by kernel_rfl) rfl gtopE (Nat.le_refl _)

theorem xnb_12_p0 (H : List Ent) :
    isEnd (evTill Tryd.prog sumsI 600 99 900 110 [.code (bodyOf Tryd.f110)] (envOf [numA 36] Tryd.f110.ntmps) (numC H) ⟨[.t, .t, .t, .f, .t, .t, .t, .f, .t, .t, .t, .f, .t, .t, .t, .f, .t, .t, .t, .f, .t, .t, .t, .f, .t, .t, .t, .f, .t, .t, .t, .f, .t, .t, .t, .f, .t, .t, .t, .f, .t, .t, .t, .f, .t, .t, .t, .f, .t, .t, .t, .t], 54⟩) (endP ([]) (.v (.vi .i64 fun _ => 13)) [] 104) =
    (OkL [] ∧ (13 : Int) = IntKind.i64.wrap (IntKind.i64.wrap (IntKind.i64.wrap (IntKind.i64.wrap (IntKind.i64.wrap (IntKind.i64.wrap (IntKind.i64.wrap (IntKind.i64.wrap (IntKind.i64.wrap (IntKind.i64.wrap (IntKind.i64.wrap (IntKind.i64.wrap (IntKind.i64.wrap ((0 : Int) + (1 : Int)) + (1 : Int)) + (1 : Int)) + (1 : Int)) + (1 : Int)) + (1 : Int)) + (1 : Int)) + (1 : Int)) + (1 : Int)) + (1 : Int)) + (1 : Int)) + (1 : Int)) + (1 : Int)) ∧ True) := by kernel_rfl

set_option maxHeartbeats 4000000 in
theorem xnb_12 (H : List Ent)  :
    RunsTo Tryd.prog 110 [.code (bodyOf Tryd.f110)] (envOf [numA 36] Tryd.f110.ntmps) (Sx.look (numC H)) 54 (.v (.vi .i64 fun _ => 13)) (Sx.look []) 104 := by
  exact runs_last baseI (Sx.Ends.of (xnb_12_p0 H) ⟨okn, by first | rfl | exact ⟨rfl, rfl⟩ | decide, trivial⟩) (by kernel_rfl) rfl gtopE (Nat.le_refl _)

theorem xnb_13_p0 (H : List Ent) :
    isEnd (evTill Tryd.prog sumsI 600 99 900 110 [.code (bodyOf Tryd.f110)] (envOf [numA 37] Tryd.f110.ntmps) (numC H) ⟨[.t, .t, .t, .f, .t, .t, .t, .f, .t, .t, .t, .f, .t, .t, .t, .f, .t, .t, .t, .f, .t, .t, .t, .f, .t, .t, .t, .f, .t, .t, .t, .f, .t, .t, .t, .f, .t, .t, .t, .f, .t, .t, .t, .f, .t, .t, .t, .f, .t, .t, .t, .f, .t, .t, .t, .t], 54⟩) (endP ([]) (.v (.vi .i64 fun _ => 14)) [] 104) =
    (OkL [] ∧ (14 : Int) = IntKind.i64.wrap (IntKind.i64.wrap (IntKind.i64.wrap (IntKind.i64.wrap (IntKind.i64.wrap (IntKind.i64.wrap (IntKind.i64.wrap (IntKind.i64.wrap (IntKind.i64.wrap (IntKind.i64.wrap (IntKind.i64.wrap (IntKind.i64.wrap (IntKind.i64.wrap (IntKind.i64.wrap ((0 : Int) + (1 : Int)) + (1 : Int)) + (1 : Int)) + (1 : Int)) + (1 : Int)) + (1 : Int)) + (1 : Int)) + (1 : Int)) + (1 : Int)) + (1 : Int)) + (1 : Int)) + (1 : Int)) + (1 : Int)) + (1 : Int)) ∧ True) := by kernel_rfl

set_option maxHeartbeats 4000000 in
theorem xnb_13 (H : List Ent)  :
    RunsTo Tryd.prog 110 [.code (bodyOf Tryd.f110)] (envOf [numA 37] Tryd.f110.ntmps) (Sx.look (numC H)) 54 (.v (.vi .i64 fun _ => 14)) (Sx.look []) 104 := by
  exact runs_last baseI (Sx.Ends.of (xnb_13_p0 H) ⟨okn, by first | rfl | exact ⟨rfl, rfl⟩ | decide, trivial⟩) (by kernel_rfl) rfl gtopE (Nat.le_refl _)

theorem xnb_14_p0 (H : List Ent) :
    isEnd (evTill Tryd.prog sumsI 600 99 900 110 [.code (bodyOf Tryd.f110)] (envOf [numA 38] Tryd.f110.ntmps) (numC H) ⟨[.t, .t, .t, .f, .t, .t, .t, .f, .t, .t, .t, .f, .t, .t, .t, .f, .t, .t, .t, .f, .t, .t, .t, .f, .t, .t, .t, .f, .t, .t, .t, .f, .t, .t, .t, .f, .t, .t, .t, .f, .t, .t, .t, .f, .t, .t, .t, .f, .t, .t, .t, .f, .t, .t, .t, .f, .t, .t, .t, .t], 54⟩) (endP ([]) (.v (.vi .i64 fun _ => 15)) [] 104) =
    (OkL [] ∧ (15 : Int) = IntKind.i64.wrap (IntKind.i64.wrap (IntKind.i64.wrap (IntKind.i64.wrap (IntKind.i64.wrap (IntKind.i64.wrap (IntKind.i64.wrap (IntKind.i64.wrap (IntKind.i64.wrap (IntKind.i64.wrap (IntKind.i64.wrap (IntKind.i64.wrap (IntKind.i64.wrap (IntKind.i64.wrap (IntKind.i64.wrap ((0 : Int) + (1 : Int)) + (1 : Int)) + (1 : Int)) + (1 : Int)) + (1 : Int)) + (1 : Int)) + (1 : Int)) + (1 : Int)) + (1 : Int)) + (1 : Int)) + (1 : Int)) + (1 : Int)) + (1 : Int)) + (1 : Int)) + (1 : Int)) ∧ True) := by kernel_rfl

set_option maxHeartbeats 4000000 in
theorem xnb_14 (H : List Ent)  :
    RunsTo Tryd.prog 110 [.code (bodyOf Tryd.f110)] (envOf [numA 38] Tryd.f110.ntmps) (Sx.look (numC H)) 54 (.v (.vi .i64 fun _ => 15)) (Sx.look []) 104 := by
  exact runs_last baseI (Sx.Ends.of (xnb_14_p0 H) ⟨okn, by first | rfl | exact ⟨rfl, rfl⟩ | decide, trivial⟩) (by kernel_rfl) rfl gtopE (Nat.le_refl _)

theorem xnb_15_p0 (H : List Ent) :
    isEnd (evTill Tryd.prog sumsI 600 99 900 110 [.code (bodyOf Tryd.f110)] (envOf [numA 24] Tryd.f110.ntmps) (numC H) ⟨[.t, .t, .t, .f, .t, .t, .t, .f, .t, .t, .t, .f, .t, .t, .t, .f, .t, .t, .t, .f, .t, .t, .t, .f, .t, .t, .t, .f, .t, .t, .t, .f, .t, .t, .t, .f, .t, .t, .t, .f, .t, .t, .t, .f, .t, .t, .t, .f, .t, .t, .t, .f, .t, .t, .t, .f, .t, .t, .t, .f, .t, .t, .t, .t], 54⟩) (endP ([]) (.v (.vi .i64 fun _ => 16)) [] 104) =
    (OkL [] ∧ (16 : Int) = IntKind.i64.wrap (IntKind.i64.wrap (IntKind.i64.wrap (IntKind.i64.wrap (IntKind.i64.wrap (IntKind.i64.wrap (IntKind.i64.wrap (IntKind.i64.wrap (IntKind.i64.wrap (IntKind.i64.wrap (IntKind.i64.wrap (IntKind.i64.wrap (IntKind.i64.wrap (IntKind.i64.wrap (IntKind.i64.wrap (IntKind.i64.wrap ((0 : Int) + (1 : Int)) + (1 : Int)) + (1 : Int)) + (1 : Int)) + (1 : Int)) + (1 : Int)) + (1 : Int)) + (1 : Int)) + (1 : Int)) + (1 : Int)) + (1 : Int)) + (1 : Int)) + (1 : Int)) + (1 : Int)) + (1 : Int)) + (1 : Int)) ∧ True) := by kernel_rfl

set_option maxHeartbeats 4000000 in
theorem xnb_15 (H : List Ent)  :
    RunsTo Tryd.prog 110 [.code (bodyOf Tryd.f110)] (envOf [numA 24] Tryd.f110.ntmps) (Sx.look (numC H)) 54 (.v (.vi .i64 fun _ => 16)) (Sx.look []) 104 := by
  exact runs_last baseI (Sx.Ends.of (xnb_15_p0 H) ⟨okn, by first | rfl | exact ⟨rfl, rfl⟩ | decide, trivial⟩) (by kernel_rfl) rfl gtopE (Nat.le_refl _)

theorem xnb_nil_p0 (H : List Ent) :
    isEnd (evTill Tryd.prog [] 600 99 900 110 [.code (bodyOf Tryd.f110)] (envOf [.v .ve0] Tryd.f110.ntmps) (numC H) ⟨[.t, .t, .t, .t, .f, .t, .t, .t, .t, .f, .t, .t, .t, .t, .f, .t, .t, .t, .t, .f, .t, .t, .t, .t, .f, .t, .t, .t, .t, .f, .t, .t, .t, .t, .f, .t, .t, .t, .t, .f, .t, .t, .t, .t, .f, .t, .t, .t, .t, .f, .t, .t, .t, .t, .f, .t, .t, .t, .t, .f, .t, .t, .t, .t, .f, .t, .t, .t, .t, .f, .t, .t, .t, .t, .f, .t, .t, .t, .t, .f, .f], 54⟩) (endP ([]) (.v (.vi .i64 fun _ => 0)) [] 104) =
    (OkL [] ∧ (0 : Int) = IntKind.i64.wrap ((-1 : Int) + (1 : Int)) ∧ True) := by kernel_rfl

set_option maxHeartbeats 4000000 in
theorem xnb_nil (H : List Ent)  :
    RunsTo Tryd.prog 110 [.code (bodyOf Tryd.f110)] (envOf [.v .ve0] Tryd.f110.ntmps) (Sx.look (numC H)) 54 (.v (.vi .i64 fun _ => 0)) (Sx.look []) 104 := by
  exact runs_last baseN0 (Sx.Ends.of (xnb_nil_p0 H) ⟨okn, by first | rfl | exact ⟨rfl, rfl⟩ | decide, trivial⟩) (by kernel_rfl) rfl gtopE (Nat.le_refl _)

theorem xnb_runs (H : List Ent) (k : Nat) : RunsTo Tryd.prog 110 [.code (bodyOf Tryd.f110)] (envOf [xArg k] Tryd.f110.ntmps) (Sx.look (numC H)) 54 (.v (.vi .i64 fun _ => xnum k)) (Sx.look []) 104 := by
  rcases Nat.lt_or_ge k 16 with h | h
  · match k, h with
    | 0, _ => exact xnb_0 H
    | 1, _ => exact xnb_1 H
    | 2, _ => exact xnb_2 H
    | 3, _ => exact xnb_3 H
    | 4, _ => exact xnb_4 H
    | 5, _ => exact xnb_5 H
    | 6, _ => exact xnb_6 H
    | 7, _ => exact xnb_7 H
    | 8, _ => exact xnb_8 H
    | 9, _ => exact xnb_9 H
    | 10, _ => exact xnb_10 H
    | 11, _ => exact xnb_11 H
    | 12, _ => exact xnb_12 H
    | 13, _ => exact xnb_13 H
    | 14, _ => exact xnb_14 H
    | 15, _ => exact xnb_15 H
    | j + 16, q => exact absurd q (by omega)
  · rw [show xArg k = .v .ve0 by unfold xArg; rw [nthL_none.2 (show errL.length ≤ k from h)], show xnum k = 0 from if_neg (by omega)]
    exact xnb_nil H
theorem xnb_ok : ∀ args H x e d y, xS args H x = .ok e d y → OkL d → (∀ a ∈ args, ∀ l ∈ a.labs, l < x.nl) → WFh (Sx.look H) x.nl → gtop Tryd.prog ≤ x.nl → CallOK Tryd.prog 110 args H x.nl e y.nl :=
  xS_ok Tryd.func110 (by kernel_rfl) (xnb_runs)
end Go.Proofs.YtaleenklamognaaDoor

