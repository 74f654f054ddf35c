/- Scripts by name. -/
import Derived.Test.YtankmgnjkcgpaaaDoorSyCp
import Derived.Test.YtankmgnjkcgpaaaDoorRows
import Derived.Test.YtankmgnjkcgpaaaDoorSyX
import Derived.WalkKit
import Derived.LaidEql
import Derived.Stop.Asserts
import Derived.RowKitTokens
import Derived.Test.YtankmgnjkcgpaaaDoorSyKit
import Derived.Test.YtankmgnjkcgpaaaDoorSyPc
import Derived.Test.YtankmgnjkcgpaaaDoorSyBd
import Derived.Test.YtankmgnjkcgpaaaDoorProg
import Derived.Test.YtankmgnjkcgpaaaDoorSyIt
import Derived.Shelf.Strings.Builder1
import Derived.Shelf.Strings.Builder2
import Derived.Shelf.Strings.OnBuilder
import Derived.Shelf.Small.Utf8
import Derived.Shelf.Small.Strs
import Derived.Shelf.Strconv.Itoa0
import Derived.Shelf.Strconv.Itoa1
import Derived.Shelf.LaysM
import Derived.Shelf.Strconv.Itoa2
import Derived.Shelf.Strconv.Clone
import Derived.Shelf.Strconv.SyntaxError
import Derived.Shelf.LaysC
import Derived.Shelf.Strconv.ToError
import Derived.Shelf.Strconv.RangeError
import Derived.Shelf.Strconv.ToErrorRange
import Derived.Shelf.Strings.Search1
import Derived.Shelf.Strings.Search2
import Derived.Shelf.Strings.Search3
import Derived.Shelf.Strings.Count
import Derived.Shelf.Strings.Shaped
import Derived.Shelf.Bits.Mul64
import Derived.Shelf.Unicode.DecodeSlow
set_option linter.unusedVariables false
namespace Go.Sx
theorem sc1 {P : Prop} (h : P := by first | (show _ ∧ _; ((try simp only [List.headD_cons, hT])); (repeat' apply And.intro); (all_goals first | exact True.intro | with_reducible rfl | rfl | omega | (intro k hk; exact absurd hk (Nat.not_lt_zero _)) | (clear E'; simp_all [ev0]; done) | (intros; rfl))) | (((try simp only [List.headD_cons, hT]); first | done | rfl | omega | assumption | exact ⟨rfl, rfl, rfl, hl⟩ | (simp (disch := omega) only [SS, E', List.headD_cons, List.length_cons, List.length_nil]; first | done | omega | assumption) | (clear E'; simp_all; done) | (clear E'; simp_all; omega)))) : P := h
end Go.Sx

set_option linter.unusedSimpArgs false
set_option linter.unusedVariables false
set_option maxRecDepth 100000
namespace Go.Proofs.YtankmgnjkcgpaaaDoor
open Go.RowKit Go.Extern.Stop Go.Stop Go.Extern

/-! ### CLOSED FACTS: what 'reflectlite.TypeOf(target).Comparable()' gives at such a target -/
theorem es_isTypeOf (v : Value) (w : World) : (Extern.ReflectliteType.typeOf #[.iface 194 v]).run Tryd.prog w = .ok (.iface 132 (.agg #[.pointer (some ⟨24, 194, none⟩)])) w := by kernel_rfl
theorem es_isComparable (w : World) : ((Extern.ReflectliteType.method fun t => do Rtype.noPackHeld "Comparable" t; (fun a => Value.bool a.comparable) <$> typeInfo t) #[.agg #[.pointer (some ⟨24, 194, none⟩)]]).run Tryd.prog w = .ok (.bool true) w := by kernel_rfl
theorem es_isMethodComparable (v : Value) (w : World) : (Go.method 327 132 v "Comparable").run Tryd.prog w = .ok (156, v) w := by kernel_rfl
theorem es_isComp : (Tryd.prog.info? 194).map (·.comparable) = some true := by kernel_rfl
theorem es_isSize : (Tryd.prog.info? 196).map (·.size) = some 1 := by kernel_rfl

/-! ### CLOSED FACTS ON THE METHOD SETS: what errors.is's assertions find -/
theorem es_noIsE (v : Value) (xT : TypeId) (w : World) : (Instr.typeAssert (.iface 194 v) xT 134 true).run Tryd.prog w = .ok (.tuple #[.nilIface, .bool false]) w := run_typeAssert_lacksB Tryd.underlying134 (by kernel_rfl) (by kernel_rfl) v xT w
theorem es_noUnwrapE (v : Value) (xT : TypeId) (w : World) : (Instr.typeAssert (.iface 194 v) xT 137 true).run Tryd.prog w = .ok (.tuple #[.nilIface, .bool false]) w := run_typeAssert_lacksB Tryd.underlying137 (by kernel_rfl) (by kernel_rfl) v xT w
theorem es_noUnwrapsE (v : Value) (xT : TypeId) (w : World) : (Instr.typeAssert (.iface 194 v) xT 139 true).run Tryd.prog w = .ok (.tuple #[.nilIface, .bool false]) w := run_typeAssert_lacksB Tryd.underlying139 (by kernel_rfl) (by kernel_rfl) v xT w

theorem is_same (a : Addr) (w : World) :
    Calls Tryd.prog 53 #[.iface 194 (.pointer (some a)), .iface 194 (.pointer (some a))] w fun e w' => e = .returned (.bool true) ∧ w' = w := by
  obtain ⟨i, hi, hcmp⟩ := Option.map_eq_some_iff.1 es_isComp
  obtain ⟨j, hj, hjs⟩ := Option.map_eq_some_iff.1 es_isSize
  have h8 := @run_callFunc_extern Tryd.prog 72 _ Extern.ReflectliteType.typeOf Tryd.func72 (by kernel_rfl) (by kernel_rfl) (by kernel_rfl) (by kernel_rfl)
  have h32 := @run_callFunc_extern Tryd.prog 156 _ (Extern.ReflectliteType.method fun t => do Rtype.noPackHeld "Comparable" t; pure (.bool (← typeInfo t).comparable)) Tryd.func156 (by kernel_rfl) (by kernel_rfl) (by kernel_rfl) (by kernel_rfl)
  have tT := es_isTypeOf
  have cT := es_isComparable
  have mR := es_isMethodComparable
  have heq := run_eql_iface_ptr_same (P := Tryd.prog) w a Tryd.underlying26 Tryd.underlying194 hi hcmp hj
  go_enter Tryd.func53, Tryd.ntmps53
  go_wp2
  refine wp_loop_rounds 1 ?_
  rw [rounds_succ]
  go_wp2
  go_ret
  exact ⟨rfl, rfl⟩

theorem is_other (a b : Addr) (ca cb : Array Value) (ta tb : TypeId) (w : World) (hne : a ≠ b) (ha : w.heap[a.block]? = some (.cells ca ta (0, 0))) (hb : w.heap[b.block]? = some (.cells cb tb (0, 0))) :
    Calls Tryd.prog 53 #[.iface 194 (.pointer (some a)), .iface 194 (.pointer (some b))] w fun e w' => e = .returned (.bool false) ∧ w' = w := by
  obtain ⟨i, hi, hcmp⟩ := Option.map_eq_some_iff.1 es_isComp
  obtain ⟨j, hj, hjs⟩ := Option.map_eq_some_iff.1 es_isSize
  have h8 := @run_callFunc_extern Tryd.prog 72 _ Extern.ReflectliteType.typeOf Tryd.func72 (by kernel_rfl) (by kernel_rfl) (by kernel_rfl) (by kernel_rfl)
  have h32 := @run_callFunc_extern Tryd.prog 156 _ (Extern.ReflectliteType.method fun t => do Rtype.noPackHeld "Comparable" t; pure (.bool (← typeInfo t).comparable)) Tryd.func156 (by kernel_rfl) (by kernel_rfl) (by kernel_rfl) (by kernel_rfl)
  have tT := es_isTypeOf
  have cT := es_isComparable
  have mR := es_isMethodComparable
  have nE := es_noIsE
  have uE := es_noUnwrapE
  have vE := es_noUnwrapsE
  have heq := run_eql_iface_ptr_other (P := Tryd.prog) w Tryd.underlying26 Tryd.underlying194 hi hcmp hj (by rw [hjs]; decide) hne ha hb
  go_enter Tryd.func53, Tryd.ntmps53
  go_wp2
  refine wp_loop_rounds 1 ?_
  rw [rounds_succ]
  go_wp2
  go_ret
  exact ⟨rfl, rfl⟩


open Go.Sx

def errAt (H : List Ent) (l : Nat) (m : Ix → Nat) (p : List Stp) : M Unit := do
  chk (Nat.ble 24 l)
  chk (Nat.blt l 48)
  chk (Nat.beq (m []) 0)
  chk p.isEmpty
  let e ← opt (Sx.look H l)
  chk (noFam e.fam)
  chk (Nat.blt 0 e.t.size)

theorem errAt_ok {H : List Ent} {l : Nat} {m : Ix → Nat} {p : List Stp} {x y : Aux} {u : Unit} {d : Conds} (h : errAt H l m p x = .ok u d y) :
    d = [] ∧ x = y ∧ 24 ≤ l ∧ l < 48 ∧ m [] = 0 ∧ p = [] ∧ ∃ e, Sx.look H l = some e ∧ e.fam = none ∧ e.t.size ≠ 0 := by
  unfold errAt at h
  obtain ⟨e1, h⟩ := chk_bind h
  obtain ⟨e2, h⟩ := chk_bind h
  obtain ⟨e3, h⟩ := chk_bind h
  obtain ⟨e4, h⟩ := chk_bind h
  obtain ⟨e, he, h⟩ := opt_bind h
  obtain ⟨e5, h⟩ := chk_bind h
  obtain ⟨e6, h7, h8⟩ := chk_ok h
  refine ⟨h7, h8, by rwa [Nat.ble_eq] at e1, by rwa [Nat.blt_eq] at e2, Nat.eq_of_beq_eq_true e3, List.isEmpty_iff.1 e4, e, he, noFam_ok e5, ?_⟩
  rw [Nat.blt_eq] at e6
  omega

def isS : Summ := fun args H =>
  match args with
  | [.v (.ve t1 (.vp l1 m1 p1)), .v (.ve t2 (.vp l2 m2 p2))] => do
    chk (Nat.beq t1 194)
    chk (Nat.beq t2 194)
    errAt H l1 m1 p1
    errAt H l2 m2 p2
    pure ⟨.v (.vb fun _ => Nat.beq l1 l2), [], [], [l1, l2]⟩
  | _ => M.fail

theorem isS_ok : ∀ args H x e d y, isS args H x = .ok e d y → OkL d → (∀ a ∈ args, ∀ l ∈ a.labs, l < x.nl) → WFh (Sx.look H) x.nl → gtop Tryd.prog ≤ x.nl → CallOK Tryd.prog 53 args H x.nl e y.nl := by
  intro args H x e d y h hd h3 h4 h5
  unfold isS at h
  split at h
  · rename_i t1 l1 m1 p1 t2 l2 m2 p2
    obtain ⟨e1, h⟩ := chk_bind h
    obtain ⟨e2, h⟩ := chk_bind h
    have e1 := Nat.eq_of_beq_eq_true e1
    have e2 := Nat.eq_of_beq_eq_true e2
    obtain ⟨_, c1, y1, c2, g1, h6, hcc⟩ := bind_ok h
    obtain ⟨rfl, rfl, a1, a2, a3, a4, en1, a5, a6, a7⟩ := errAt_ok g1
    obtain ⟨_, c3, y3, c4, g2, h7, hcd⟩ := bind_ok h6
    obtain ⟨rfl, rfl, b1, b2, b3, b4, en2, b5, b6, b7⟩ := errAt_ok g2
    obtain ⟨rfl, rfl, rfl⟩ := pure_ok h7
    subst e1; subst e2; subst a4; subst b4
    refine ⟨Nat.le_refl _, fun ρ w av hlen hav hG hHp => ?_⟩
    match av, hlen with
    | [u, v], _ =>
      have hu := hav 0 _ u rfl rfl rfl
      have hv := hav 1 _ v rfl rfl rfl
      have hgs : Tryd.prog.globals.size = 24 := by kernel_rfl
      have thawed : ∀ (l : Nat) (en : Ent), 24 ≤ l → l < 48 → Sx.look H l = some en → en.fam = none → en.t.size ≠ 0 → l ∈ [l1, l2] → Thawed w (ρ l 0).blk := by
        intro l en k1 k2 k3 k4 k5 k6
        have hh := hHp.hp l k6 en k3
        unfold Ent.holds at hh
        simp only [k4] at hh
        rw [look_lab k3] at hh
        have ht := hG.thaw (l - 24) (by rw [hgs]; omega)
        rw [hgs, show 24 + (l - 24) = l by omega] at ht
        exact (hh.2.2 ht.2).2.2.2 ht.1 (by rw [Tr.cells_length]; exact k5)
      have vu : u = .iface 194 (.pointer (some ⟨(ρ l1 0).blk, (ρ l1 0).base, none⟩)) := by rw [hu]; simp [SV.val, Tr.val, offs, a3]
      have vv : v = .iface 194 (.pointer (some ⟨(ρ l2 0).blk, (ρ l2 0).base, none⟩)) := by rw [hv]; simp [SV.val, Tr.val, offs, b3]
      subst vu; subst vv
      have fin : ∀ {b : Bool}, b = Nat.beq l1 l2 → (Calls Tryd.prog 53 #[.iface 194 (.pointer (some ⟨(ρ l1 0).blk, (ρ l1 0).base, none⟩)), .iface 194 (.pointer (some ⟨(ρ l2 0).blk, (ρ l2 0).base, none⟩))] w fun e w' => e = .returned (.bool b) ∧ w' = w) →
          Calls Tryd.prog 53 #[.iface 194 (.pointer (some ⟨(ρ l1 0).blk, (ρ l1 0).base, none⟩)), .iface 194 (.pointer (some ⟨(ρ l2 0).blk, (ρ l2 0).base, none⟩))] w fun en w' => ∃ ρ' v, en = .returned v ∧ ((SV.v (.vb fun _ => Nat.beq l1 l2)).isJ = false → v = (SV.v (.vb fun _ => Nat.beq l1 l2)).val ρ') ∧ EffOK ρ ρ' x.nl x.nl H ⟨.v (.vb fun _ => Nat.beq l1 l2), [], [], [l1, l2]⟩ w w' := by
        intro b hb hc
        refine hc.mono fun en w' ⟨h1, h2⟩ => ⟨ρ, _, h1, fun _ => by rw [hb]; rfl, ?_⟩
        rw [h2]; exact EffOK.pure
      by_cases hl : l1 = l2
      · subst hl
        exact fin (b := true) (beqT rfl).symm (is_same _ w)
      · obtain ⟨c1, t1, q1⟩ := thawed l1 en1 a1 a2 a5 a6 a7 (by simp)
        obtain ⟨c2, t2, q2⟩ := thawed l2 en2 b1 b2 b5 b6 b7 (by simp)
        refine fin (b := false) (beqF hl).symm (is_other _ _ c1 c2 t1 t2 w ?_ q1 q2)
        intro he
        have := hG.apart (l1 - 24) (l2 - 24) (by rw [hgs]; omega) (by rw [hgs]; omega) (by omega)
        rw [hgs, show 24 + (l1 - 24) = l1 by omega, show 24 + (l2 - 24) = l2 by omega] at this
        simp only [Addr.mk.injEq, and_true] at he
        exact this he
  · exact (fail_ok h).elim

end Go.Proofs.YtankmgnjkcgpaaaDoor

set_option linter.unusedSimpArgs false
set_option linter.unusedVariables false
set_option maxRecDepth 100000
namespace Go.Proofs.YtankmgnjkcgpaaaDoor
open Go.Sx

def errG : List Nat := [0, 1, 2, 3, 4, 5, 6, 7, 8, 9, 10, 11, 12, 13, 14, 15]
def numC (H : List Ent) : List Ent := sentEnts 24 194 (textsIn 24 H errG)
def numA (l : Nat) : SV := .v (.ve 194 (.vp l (fun _ => 0) []))
def sumsI : List (FuncId × Summ) := [(53, isS)]

theorem goodN : PGood Tryd.prog := good_of (by kernel_rfl) (by kernel_rfl)
theorem gtopE : gtop Tryd.prog ≤ 56 := of_decide_eq_true (by kernel_rfl)
theorem baseI : Base0 Tryd.prog sumsI := (Base0.nil goodN).cons Tryd.func53 (by kernel_rfl) isS_ok
end Go.Proofs.YtankmgnjkcgpaaaDoor

set_option linter.unusedSimpArgs false
set_option linter.unusedVariables false
set_option maxRecDepth 100000
namespace Go.Proofs.YtankmgnjkcgpaaaDoor
open Go.Sx

end Go.Proofs.YtankmgnjkcgpaaaDoor

set_option linter.unusedSimpArgs false
set_option linter.unusedVariables false
set_option maxRecDepth 100000
namespace Go.Proofs.YtankmgnjkcgpaaaDoor
open Go.Sx

def errL : List Nat := [24, 27, 28, 26, 25, 29, 30, 31, 32, 33, 34, 35, 36, 37, 38, 39]
def xnum (k : Nat) : Int := if k < 16 then (k : Int) + 1 else 0
def xArg (k : Nat) : SV := match nthL errL k with | some l => numA l | none => .v .ve0
theorem baseN0 : Base0 Tryd.prog [] := Base0.nil goodN
def xS : Summ := fun args H =>
  match args with
  | [.v .ve0] => do
    chk (errsIn 24 194 H errG)
    bump 50
    pure ⟨.v (.vi .i64 fun _ => xnum 16), [], [], errLabs 24 errG⟩
  | [.v (.vx t ls f)] => do
    chk (Nat.beq t 194 && sameL ls errL)
    chk (errsIn 24 194 H errG)
    bump 50
    pure ⟨.v (.vi .i64 fun _ => xnum (f [])), [], [], errLabs 24 errG⟩
  | [.v (.ve t (.vp l m []))] => do
    chk (Nat.beq t 194 && Nat.beq (m []) 0)
    chk (errsIn 24 194 H errG)
    let k ← opt (idxL l errL 0)
    bump 50
    pure ⟨.v (.vi .i64 fun _ => xnum k), [], [], errLabs 24 errG⟩
  | _ => M.fail
theorem xS_core {f : FuncId} {fn : Func} {body : Code} (h1 : Tryd.prog.funcs[f]? = some fn) (h2 : fn.body = some body) (runs : ∀ (H : List Ent) (k : Nat), RunsTo Tryd.prog f [.code body] (envOf [xArg k] fn.ntmps) (Sx.look (numC H)) 56 (.v (.vi .i64 fun _ => xnum k)) (Sx.look []) (56 + 50))
    (H : List Ent) (nl : Nat) (a : SV) (k : Nat) (e4 : errsIn 24 194 H errG = true) (hf : fitS [] (xArg k) a) (hw : WFh (Sx.look H) nl) (hg : gtop Tryd.prog ≤ nl) (hl : ∀ l ∈ a.labs, l < nl) :
    CallOK Tryd.prog f [a] H nl ⟨.v (.vi .i64 fun _ => xnum k), [], [], errLabs 24 errG⟩ (nl + 50) := by
  have hs := srcs_sent (G := 24) (tp := 194) (H := H) errG
  have hx : below 56 (labsSV [xArg k]) = true := by
    unfold xArg
    cases hk : nthL errL k with
    | none => rfl
    | some l =>
      have hm := nthL_mem hk
      simp only [errL, List.mem_cons, List.not_mem_nil, or_false] at hm
      rcases hm with rfl | rfl | rfl | rfl | rfl | rfl | rfl | rfl | rfl | rfl | rfl | rfl | rfl | rfl | rfl | rfl <;> rfl
  have hu := useC_ok (σ := []) (args := [a]) (H := H) (nl := nl) h1 (body := body) h2 (cargs := [xArg k]) (C := numC H) (C' := []) (n := 56) (n' := 56 + 50) (runs H k) (by kernel_rfl) rfl
    ⟨hf, trivial⟩ (errs_fitH e4) (by kernel_rfl) rfl rfl rfl
  unfold effC at hu
  rw [show srcsOf [] (numC H) = errLabs 24 errG from hs] at hu
  exact hu
theorem xfit_e {l k t : Nat} {m : Ix → Nat} (h : idxL l errL 0 = some k) (ht : Nat.beq t 194 = true) (hm : m [] = 0) : fitS [] (xArg k) (.v (.ve t (.vp l m []))) := by
  obtain ⟨i, rfl, hi⟩ := idxL_ok h
  rw [Nat.zero_add]
  unfold xArg
  rw [hi]
  simp only [numA, fitS, fitT, fitP, sgOf, onB_true, offs, allB, hm, beqT rfl, Nat.eq_of_beq_eq_true ht]
theorem xfit_x {t : Nat} {ls : List Nat} {f : Ix → Nat} (ht : Nat.beq t 194 = true) (hl : sameL ls errL = true) : fitS [] (xArg (f [])) (.v (.vx t ls f)) := by
  have hl := sameL_ok hl
  have ht := Nat.eq_of_beq_eq_true ht
  subst hl; subst ht
  unfold xArg
  cases hk : nthL errL (f []) with
  | none => simp only [fitS, fitT, allB, hk]
  | some l => simp only [numA, fitS, fitT, fitVX, onB_true, offs, allB, hk, beqT rfl, atO', sgOf, isToR, and_self]
theorem xS_ok {f : FuncId} {fn : Func} {body : Code} (h1 : Tryd.prog.funcs[f]? = some fn) (h2 : fn.body = some body) (runs : ∀ (H : List Ent) (k : Nat), RunsTo Tryd.prog f [.code body] (envOf [xArg k] fn.ntmps) (Sx.look (numC H)) 56 (.v (.vi .i64 fun _ => xnum k)) (Sx.look []) (56 + 50)) :
    ∀ args H x e d y, xS args H x = .ok e d y → OkL d → (∀ a ∈ args, ∀ l ∈ a.labs, l < x.nl) → WFh (Sx.look H) x.nl → gtop Tryd.prog ≤ x.nl → CallOK Tryd.prog f args H x.nl e y.nl := by
  intro args H x e d y h hd h3 h4 h5
  unfold xS at h
  split at h
  · obtain ⟨e4, h⟩ := chk_bind h
    obtain ⟨x9, n9, h⟩ := bump_bind h
    obtain ⟨rfl, rfl, rfl⟩ := pure_ok h
    rw [n9]
    exact xS_core h1 h2 runs H x.nl _ 16 e4 (show fitS [] (.v .ve0) (.v .ve0) from trivial) h4 h5 (h3 _ (by simp))
  · rename_i t ls f
    obtain ⟨e1, h⟩ := chk_bind h
    obtain ⟨e4, h⟩ := chk_bind h
    obtain ⟨x9, n9, h⟩ := bump_bind h
    obtain ⟨rfl, rfl, rfl⟩ := pure_ok h
    rw [n9]
    simp only [Bool.and_eq_true] at e1
    exact xS_core h1 h2 runs H x.nl _ (f []) e4 (xfit_x e1.1 e1.2) h4 h5 (h3 _ (by simp))
  · rename_i t l m
    obtain ⟨e1, h⟩ := chk_bind h
    obtain ⟨e4, h⟩ := chk_bind h
    obtain ⟨k, hk, h⟩ := opt_bind h
    obtain ⟨x9, n9, h⟩ := bump_bind h
    obtain ⟨rfl, rfl, rfl⟩ := pure_ok h
    rw [n9]
    simp only [Bool.and_eq_true] at e1
    exact xS_core h1 h2 runs H x.nl _ k e4 (xfit_e hk e1.1 (Nat.eq_of_beq_eq_true e1.2)) h4 h5 (h3 _ (by simp))
  · exact (fail_ok h).elim
theorem xnum_0_p0 (H : List Ent) :
    isEnd (evTill Tryd.prog sumsI 600 99 900 20 [.code (bodyOf Tryd.f20)] (envOf [numA 24] Tryd.f20.ntmps) (numC H) ⟨[.f, .t, .t, .t, .t], 56⟩) (endP ([]) (.v (.vi .i64 fun _ => 1)) [] 106) =
    (OkL [] ∧ (1 : Int) = IntKind.i64.wrap ((0 : Int) + (1 : Int)) ∧ True) := by kernel_rfl

set_option maxHeartbeats 4000000 in
theorem xnum_0 (H : List Ent)  :
    RunsTo Tryd.prog 20 [.code (bodyOf Tryd.f20)] (envOf [numA 24] Tryd.f20.ntmps) (Sx.look (numC H)) 56 (.v (.vi .i64 fun _ => 1)) (Sx.look []) 106 := by
  exact runs_last baseI (Sx.Ends.of (xnum_0_p0 H) ⟨okn, by first | rfl | exact ⟨rfl, rfl⟩ | decide, trivial⟩) (by kernel_rfl) rfl gtopE (Nat.le_refl _)

theorem xnum_1_p0 (H : List Ent) :
    isEnd (evTill Tryd.prog sumsI 600 99 900 20 [.code (bodyOf Tryd.f20)] (envOf [numA 27] Tryd.f20.ntmps) (numC H) ⟨[.f, .t, .t, .t, .f, .t, .t, .t, .t], 56⟩) (endP ([]) (.v (.vi .i64 fun _ => 2)) [] 106) =
    (OkL [] ∧ (2 : Int) = IntKind.i64.wrap (IntKind.i64.wrap ((0 : Int) + (1 : Int)) + (1 : Int)) ∧ True) := by kernel_rfl

set_option maxHeartbeats 4000000 in
theorem xnum_1 (H : List Ent)  :
    RunsTo Tryd.prog 20 [.code (bodyOf Tryd.f20)] (envOf [numA 27] Tryd.f20.ntmps) (Sx.look (numC H)) 56 (.v (.vi .i64 fun _ => 2)) (Sx.look []) 106 := by
  exact runs_last baseI (Sx.Ends.of (xnum_1_p0 H) ⟨okn, by first | rfl | exact ⟨rfl, rfl⟩ | decide, trivial⟩) (by kernel_rfl) rfl gtopE (Nat.le_refl _)

theorem xnum_2_p0 (H : List Ent) :
    isEnd (evTill Tryd.prog sumsI 600 99 900 20 [.code (bodyOf Tryd.f20)] (envOf [numA 28] Tryd.f20.ntmps) (numC H) ⟨[.f, .t, .t, .t, .f, .t, .t, .t, .f, .t, .t, .t, .t], 56⟩) (endP ([]) (.v (.vi .i64 fun _ => 3)) [] 106) =
    (OkL [] ∧ (3 : Int) = IntKind.i64.wrap (IntKind.i64.wrap (IntKind.i64.wrap ((0 : Int) + (1 : Int)) + (1 : Int)) + (1 : Int)) ∧ True) := by kernel_rfl

set_option maxHeartbeats 4000000 in
theorem xnum_2 (H : List Ent)  :
    RunsTo Tryd.prog 20 [.code (bodyOf Tryd.f20)] (envOf [numA 28] Tryd.f20.ntmps) (Sx.look (numC H)) 56 (.v (.vi .i64 fun _ => 3)) (Sx.look []) 106 := by
  exact runs_last baseI (Sx.Ends.of (xnum_2_p0 H) ⟨okn, by first | rfl | exact ⟨rfl, rfl⟩ | decide, trivial⟩) (by kernel_rfl) rfl gtopE (Nat.le_refl _)

theorem xnum_3_p0 (H : List Ent) :
    isEnd (evTill Tryd.prog sumsI 600 99 900 20 [.code (bodyOf Tryd.f20)] (envOf [numA 26] Tryd.f20.ntmps) (numC H) ⟨[.f, .t, .t, .t, .f, .t, .t, .t, .f, .t, .t, .t, .f, .t, .t, .t, .t], 56⟩) (endP ([]) (.v (.vi .i64 fun _ => 4)) [] 106) =
    (OkL [] ∧ (4 : Int) = IntKind.i64.wrap (IntKind.i64.wrap (IntKind.i64.wrap (IntKind.i64.wrap ((0 : Int) + (1 : Int)) + (1 : Int)) + (1 : Int)) + (1 : Int)) ∧ True) := by kernel_rfl

set_option maxHeartbeats 4000000 in
theorem xnum_3 (H : List Ent)  :
    RunsTo Tryd.prog 20 [.code (bodyOf Tryd.f20)] (envOf [numA 26] Tryd.f20.ntmps) (Sx.look (numC H)) 56 (.v (.vi .i64 fun _ => 4)) (Sx.look []) 106 := by
  exact runs_last baseI (Sx.Ends.of (xnum_3_p0 H) ⟨okn, by first | rfl | exact ⟨rfl, rfl⟩ | decide, trivial⟩) (by kernel_rfl) rfl gtopE (Nat.le_refl _)

theorem xnum_4_p0 (H : List Ent) :
    isEnd (evTill Tryd.prog sumsI 600 99 900 20 [.code (bodyOf Tryd.f20)] (envOf [numA 25] Tryd.f20.ntmps) (numC H) ⟨[.f, .t, .t, .t, .f, .t, .t, .t, .f, .t, .t, .t, .f, .t, .t, .t, .f, .t, .t, .t, .t], 56⟩) (endP ([]) (.v (.vi .i64 fun _ => 5)) [] 106) =
    (OkL [] ∧ (5 : Int) = IntKind.i64.wrap (IntKind.i64.wrap (IntKind.i64.wrap (IntKind.i64.wrap (IntKind.i64.wrap ((0 : Int) + (1 : Int)) + (1 : Int)) + (1 : Int)) + (1 : Int)) + (1 : Int)) ∧ True) := by kernel_rfl

set_option maxHeartbeats 4000000 in
theorem xnum_4 (H : List Ent)  :
    RunsTo Tryd.prog 20 [.code (bodyOf Tryd.f20)] (envOf [numA 25] Tryd.f20.ntmps) (Sx.look (numC H)) 56 (.v (.vi .i64 fun _ => 5)) (Sx.look []) 106 := by
  exact runs_last baseI (Sx.Ends.of (xnum_4_p0 H) ⟨okn, by first | rfl | exact ⟨rfl, rfl⟩ | decide, trivial⟩) (by kernel_rfl) rfl gtopE (Nat.le_refl _)

theorem xnum_5_p0 (H : List Ent) :
    isEnd (evTill Tryd.prog sumsI 600 99 900 20 [.code (bodyOf Tryd.f20)] (envOf [numA 29] Tryd.f20.ntmps) (numC H) ⟨[.f, .t, .t, .t, .f, .t, .t, .t, .f, .t, .t, .t, .f, .t, .t, .t, .f, .t, .t, .t, .f, .t, .t, .t, .t], 56⟩) (endP ([]) (.v (.vi .i64 fun _ => 6)) [] 106) =
    (OkL [] ∧ (6 : Int) = IntKind.i64.wrap (IntKind.i64.wrap (IntKind.i64.wrap (IntKind.i64.wrap (IntKind.i64.wrap (IntKind.i64.wrap ((0 : Int) + (1 : Int)) + (1 : Int)) + (1 : Int)) + (1 : Int)) + (1 : Int)) + (1 : Int)) ∧ True) := by kernel_rfl

set_option maxHeartbeats 4000000 in
theorem xnum_5 (H : List Ent)  :
    RunsTo Tryd.prog 20 [.code (bodyOf Tryd.f20)] (envOf [numA 29] Tryd.f20.ntmps) (Sx.look (numC H)) 56 (.v (.vi .i64 fun _ => 6)) (Sx.look []) 106 := by
  exact runs_last baseI (Sx.Ends.of (xnum_5_p0 H) ⟨okn, by first | rfl | exact ⟨rfl, rfl⟩ | decide, trivial⟩) (by kernel_rfl) rfl gtopE (Nat.le_refl _)

theorem xnum_6_p0 (H : List Ent) :
    isEnd (evTill Tryd.prog sumsI 600 99 900 20 [.code (bodyOf Tryd.f20)] (envOf [numA 30] Tryd.f20.ntmps) (numC H) ⟨[.f, .t, .t, .t, .f, .t, .t, .t, .f, .t, .t, .t, .f, .t, .t, .t, .f, .t, .t, .t, .f, .t, .t, .t, .f, .t, .t, .t, .t], 56⟩) (endP ([]) (.v (.vi .i64 fun _ => 7)) [] 106) =
    (OkL [] ∧ (7 : Int) = IntKind.i64.wrap (IntKind.i64.wrap (IntKind.i64.wrap (IntKind.i64.wrap (IntKind.i64.wrap (IntKind.i64.wrap (IntKind.i64.wrap ((0 : Int) + (1 : Int)) + (1 : Int)) + (1 : Int)) + (1 : Int)) + (1 : Int)) + (1 : Int)) + (1 : Int)) ∧ True) := by kernel_rfl

set_option maxHeartbeats 4000000 in
theorem xnum_6 (H : List Ent)  :
    RunsTo Tryd.prog 20 [.code (bodyOf Tryd.f20)] (envOf [numA 30] Tryd.f20.ntmps) (Sx.look (numC H)) 56 (.v (.vi .i64 fun _ => 7)) (Sx.look []) 106 := by
  exact runs_last baseI (Sx.Ends.of (xnum_6_p0 H) ⟨okn, by first | rfl | exact ⟨rfl, rfl⟩ | decide, trivial⟩) (by kernel_rfl) rfl gtopE (Nat.le_refl _)

theorem xnum_7_p0 (H : List Ent) :
    isEnd (evTill Tryd.prog sumsI 600 99 900 20 [.code (bodyOf Tryd.f20)] (envOf [numA 31] Tryd.f20.ntmps) (numC H) ⟨[.f, .t, .t, .t, .f, .t, .t, .t, .f, .t, .t, .t, .f, .t, .t, .t, .f, .t, .t, .t, .f, .t, .t, .t, .f, .t, .t, .t, .f, .t, .t, .t, .t], 56⟩) (endP ([]) (.v (.vi .i64 fun _ => 8)) [] 106) =
    (OkL [] ∧ (8 : Int) = IntKind.i64.wrap (IntKind.i64.wrap (IntKind.i64.wrap (IntKind.i64.wrap (IntKind.i64.wrap (IntKind.i64.wrap (IntKind.i64.wrap (IntKind.i64.wrap ((0 : Int) + (1 : Int)) + (1 : Int)) + (1 : Int)) + (1 : Int)) + (1 : Int)) + (1 : Int)) + (1 : Int)) + (1 : Int)) ∧ True) := by kernel_rfl

set_option maxHeartbeats 4000000 in
theorem xnum_7 (H : List Ent)  :
    RunsTo Tryd.prog 20 [.code (bodyOf Tryd.f20)] (envOf [numA 31] Tryd.f20.ntmps) (Sx.look (numC H)) 56 (.v (.vi .i64 fun _ => 8)) (Sx.look []) 106 := by
  exact runs_last baseI (Sx.Ends.of (xnum_7_p0 H) ⟨okn, by first | rfl | exact ⟨rfl, rfl⟩ | decide, trivial⟩) (by kernel_rfl) rfl gtopE (Nat.le_refl _)

theorem xnum_8_p0 (H : List Ent) :
    isEnd (evTill Tryd.prog sumsI 600 99 900 20 [.code (bodyOf Tryd.f20)] (envOf [numA 32] Tryd.f20.ntmps) (numC H) ⟨[.f, .t, .t, .t, .f, .t, .t, .t, .f, .t, .t, .t, .f, .t, .t, .t, .f, .t, .t, .t, .f, .t, .t, .t, .f, .t, .t, .t, .f, .t, .t, .t, .f, .t, .t, .t, .t], 56⟩) (endP ([]) (.v (.vi .i64 fun _ => 9)) [] 106) =
    (OkL [] ∧ (9 : Int) = IntKind.i64.wrap (IntKind.i64.wrap (IntKind.i64.wrap (IntKind.i64.wrap (IntKind.i64.wrap (IntKind.i64.wrap (IntKind.i64.wrap (IntKind.i64.wrap (IntKind.i64.wrap ((0 : Int) + (1 : Int)) + (1 : Int)) + (1 : Int)) + (1 : Int)) + (1 : Int)) + (1 : Int)) + (1 : Int)) + (1 : Int)) + (1 : Int)) ∧ True) := by kernel_rfl

set_option maxHeartbeats 4000000 in
theorem xnum_8 (H : List Ent)  :
    RunsTo Tryd.prog 20 [.code (bodyOf Tryd.f20)] (envOf [numA 32] Tryd.f20.ntmps) (Sx.look (numC H)) 56 (.v (.vi .i64 fun _ => 9)) (Sx.look []) 106 := by
  exact runs_last baseI (Sx.Ends.of (xnum_8_p0 H) ⟨okn, by first | rfl | exact ⟨rfl, rfl⟩ | decide, trivial⟩) (by kernel_rfl) rfl gtopE (Nat.le_refl _)

theorem xnum_9_p0 (H : List Ent) :
    isEnd (evTill Tryd.prog sumsI 600 99 900 20 [.code (bodyOf Tryd.f20)] (envOf [numA 33] Tryd.f20.ntmps) (numC H) ⟨[.f, .t, .t, .t, .f, .t, .t, .t, .f, .t, .t, .t, .f, .t, .t, .t, .f, .t, .t, .t, .f, .t, .t, .t, .f, .t, .t, .t, .f, .t, .t, .t, .f, .t, .t, .t, .f, .t, .t, .t, .t], 56⟩) (endP ([]) (.v (.vi .i64 fun _ => 10)) [] 106) =
    (OkL [] ∧ (10 : Int) = IntKind.i64.wrap (IntKind.i64.wrap (IntKind.i64.wrap (IntKind.i64.wrap (IntKind.i64.wrap (IntKind.i64.wrap (IntKind.i64.wrap (IntKind.i64.wrap (IntKind.i64.wrap (IntKind.i64.wrap ((0 : Int) + (1 : Int)) + (1 : Int)) + (1 : Int)) + (1 : Int)) + (1 : Int)) + (1 : Int)) + (1 : Int)) + (1 : Int)) + (1 : Int)) + (1 : Int)) ∧ True) := by kernel_rfl

set_option maxHeartbeats 4000000 in
theorem xnum_9 (H : List Ent)  :
    RunsTo Tryd.prog 20 [.code (bodyOf Tryd.f20)] (envOf [numA 33] Tryd.f20.ntmps) (Sx.look (numC H)) 56 (.v (.vi .i64 fun _ => 10)) (Sx.look []) 106 := by
  exact runs_last baseI (Sx.Ends.of (xnum_9_p0 H) ⟨okn, by first | rfl | exact ⟨rfl, rfl⟩ | decide, trivial⟩) (by kernel_rfl) rfl gtopE (Nat.le_refl _)

theorem xnum_10_p0 (H : List Ent) :
    isEnd (evTill Tryd.prog sumsI 600 99 900 20 [.code (bodyOf Tryd.f20)] (envOf [numA 34] Tryd.f20.ntmps) (numC H) ⟨[.f, .t, .t, .t, .f, .t, .t, .t, .f, .t, .t, .t, .f, .t, .t, .t, .f, .t, .t, .t, .f, .t, .t, .t, .f, .t, .t, .t, .f, .t, .t, .t, .f, .t, .t, .t, .f, .t, .t, .t, .f, .t, .t, .t, .t], 56⟩) (endP ([]) (.v (.vi .i64 fun _ => 11)) [] 106) =
    (OkL [] ∧ (11 : Int) = IntKind.i64.wrap (IntKind.i64.wrap (IntKind.i64.wrap (IntKind.i64.wrap (IntKind.i64.wrap (IntKind.i64.wrap (IntKind.i64.wrap (IntKind.i64.wrap (IntKind.i64.wrap (IntKind.i64.wrap (IntKind.i64.wrap ((0 : Int) + (1 : Int)) + (1 : Int)) + (1 : Int)) + (1 : Int)) + (1 : Int)) + (1 : Int)) + (1 : Int)) + (1 : Int)) + (1 : Int)) + (1 : Int)) + (1 : Int)) ∧ True) := by kernel_rfl

set_option maxHeartbeats 4000000 in
theorem xnum_10 (H : List Ent)  :
    RunsTo Tryd.prog 20 [.code (bodyOf Tryd.f20)] (envOf [numA 34] Tryd.f20.ntmps) (Sx.look (numC H)) 56 (.v (.vi .i64 fun _ => 11)) (Sx.look []) 106 := by
  exact runs_last baseI (Sx.Ends.of (xnum_10_p0 H) ⟨okn, by first | rfl | exact ⟨rfl, rfl⟩ | decide, trivial⟩) (by kernel_rfl) rfl gtopE (Nat.le_refl _)

theorem xnum_11_p0 (H : List Ent) :
    isEnd (evTill Tryd.prog sumsI 600 99 900 20 [.code (bodyOf Tryd.f20)] (envOf [numA 35] Tryd.f20.ntmps) (numC H) ⟨[.f, .t, .t, .t, .f, .t, .t, .t, .f, .t, .t, .t, .f, .t, .t, .t, .f, .t, .t, .t, .f, .t, .t, .t, .f, .t, .t, .t, .f, .t, .t, .t, .f, .t, .t, .t, .f, .t, .t, .t, .f, .t, .t, .t, .f, .t, .t, .t, .t], 56⟩) (endP ([]) (.v (.vi .i64 fun _ => 12)) [] 106) =
    (OkL [] ∧ (12 : Int) = IntKind.i64.wrap (IntKind.i64.wrap (IntKind.i64.wrap (IntKind.i64.wrap (IntKind.i64.wrap (IntKind.i64.wrap (IntKind.i64.wrap (IntKind.i64.wrap (IntKind.i64.wrap (IntKind.i64.wrap (IntKind.i64.wrap (IntKind.i64.wrap ((0 : Int) + (1 : Int)) + (1 : Int)) + (1 : Int)) + (1 : Int)) + (1 : Int)) + (1 : Int)) + (1 : Int)) + (1 : Int)) + (1 : Int)) + (1 : Int)) + (1 : Int)) + (1 : Int)) ∧ True) := by kernel_rfl

set_option maxHeartbeats 4000000 in
theorem xnum_11 (H : List Ent)  :
    RunsTo Tryd.prog 20 [.code (bodyOf Tryd.f20)] (envOf [numA 35] Tryd.f20.ntmps) (Sx.look (numC H)) 56 (.v (.vi .i64 fun _ => 12)) (Sx.look []) 106 := by
  exact runs_last baseI (Sx.Ends.of (xnum_11_p0 H) ⟨okn, by first | rfl | exact ⟨rfl, rfl⟩ | decide, trivial⟩) (by kernel_rfl) rfl gtopE (Nat.le_refl _)

theorem xnum_12_p0 (H : List Ent) :
    isEnd (evTill Tryd.prog sumsI 600 99 900 20 [.code (bodyOf Tryd.f20)] (envOf [numA 36] Tryd.f20.ntmps) (numC H) ⟨[.f, .t, .t, .t, .f, .t, .t, .t, .f, .t, .t, .t, .f, .t, .t, .t, .f, .t, .t, .t, .f, .t, .t, .t, .f, .t, .t, .t, .f, .t, .t, .t, .f, .t, .t, .t, .f, .t, .t, .t, .f, .t, .t, .t, .f, .t, .t, .t, .f, .t, .t, .t, .t], 56⟩) (endP ([]) (.v (.vi .i64 fun _ => 13)) [] 106) =
    (OkL [] ∧ (13 : Int) = IntKind.i64.wrap (IntKind.i64.wrap (IntKind.i64.wrap (IntKind.i64.wrap (IntKind.i64.wrap (IntKind.i64.wrap (IntKind.i64.wrap (IntKind.i64.wrap (IntKind.i64.wrap (IntKind.i64.wrap (IntKind.i64.wrap (IntKind.i64.wrap (IntKind.i64.wrap ((0 : Int) + (1 : Int)) + (1 : Int)) + (1 : Int)) + (1 : Int)) + (1 : Int)) + (1 : Int)) + (1 : Int)) + (1 : Int)) + (1 : Int)) + (1 : Int)) + (1 : Int)) + (1 : Int)) + (1 : Int)) ∧ True) := by kernel_rfl

set_option maxHeartbeats 4000000 in
theorem xnum_12 (H : List Ent)  :
    RunsTo Tryd.prog 20 [.code (bodyOf Tryd.f20)] (envOf [numA 36] Tryd.f20.ntmps) (Sx.look (numC H)) 56 (.v (.vi .i64 fun _ => 13)) (Sx.look []) 106 := by
  exact runs_last baseI (Sx.Ends.of (xnum_12_p0 H) ⟨okn, by first | rfl | exact ⟨rfl, rfl⟩ | decide, trivial⟩) (by kernel_rfl) rfl gtopE (Nat.le_refl _)

theorem xnum_13_p0 (H : List Ent) :
    isEnd (evTill Tryd.prog sumsI 600 99 900 20 [.code (bodyOf Tryd.f20)] (envOf [numA 37] Tryd.f20.ntmps) (numC H) ⟨[.f, .t, .t, .t, .f, .t, .t, .t, .f, .t, .t, .t, .f, .t, .t, .t, .f, .t, .t, .t, .f, .t, .t, .t, .f, .t, .t, .t, .f, .t, .t, .t, .f, .t, .t, .t, .f, .t, .t, .t, .f, .t, .t, .t, .f, .t, .t, .t, .f, .t, .t, .t, .f, .t, .t, .t, .t], 56⟩) (endP ([]) (.v (.vi .i64 fun _ => 14)) [] 106) =
    (OkL [] ∧ (14 : Int) = IntKind.i64.wrap (IntKind.i64.wrap (IntKind.i64.wrap (IntKind.i64.wrap (IntKind.i64.wrap (IntKind.i64.wrap (IntKind.i64.wrap (IntKind.i64.wrap (IntKind.i64.wrap (IntKind.i64.wrap (IntKind.i64.wrap (IntKind.i64.wrap (IntKind.i64.wrap (IntKind.i64.wrap ((0 : Int) + (1 : Int)) + (1 : Int)) + (1 : Int)) + (1 : Int)) + (1 : Int)) + (1 : Int)) + (1 : Int)) + (1 : Int)) + (1 : Int)) + (1 : Int)) + (1 : Int)) + (1 : Int)) + (1 : Int)) + (1 : Int)) ∧ True) := by kernel_rfl

set_option maxHeartbeats 4000000 in
theorem xnum_13 (H : List Ent)  :
    RunsTo Tryd.prog 20 [.code (bodyOf Tryd.f20)] (envOf [numA 37] Tryd.f20.ntmps) (Sx.look (numC H)) 56 (.v (.vi .i64 fun _ => 14)) (Sx.look []) 106 := by
  exact runs_last baseI (Sx.Ends.of (xnum_13_p0 H) ⟨okn, by first | rfl | exact ⟨rfl, rfl⟩ | decide, trivial⟩) (by kernel_rfl) rfl gtopE (Nat.le_refl _)

theorem xnum_14_p0 (H : List Ent) :
    isEnd (evTill Tryd.prog sumsI 600 99 900 20 [.code (bodyOf Tryd.f20)] (envOf [numA 38] Tryd.f20.ntmps) (numC H) ⟨[.f, .t, .t, .t, .f, .t, .t, .t, .f, .t, .t, .t, .f, .t, .t, .t, .f, .t, .t, .t, .f, .t, .t, .t, .f, .t, .t, .t, .f, .t, .t, .t, .f, .t, .t, .t, .f, .t, .t, .t, .f, .t, .t, .t, .f, .t, .t, .t, .f, .t, .t, .t, .f, .t, .t, .t, .f, .t, .t, .t, .t], 56⟩) (endP ([]) (.v (.vi .i64 fun _ => 15)) [] 106) =
    (OkL [] ∧ (15 : Int) = IntKind.i64.wrap (IntKind.i64.wrap (IntKind.i64.wrap (IntKind.i64.wrap (IntKind.i64.wrap (IntKind.i64.wrap (IntKind.i64.wrap (IntKind.i64.wrap (IntKind.i64.wrap (IntKind.i64.wrap (IntKind.i64.wrap (IntKind.i64.wrap (IntKind.i64.wrap (IntKind.i64.wrap (IntKind.i64.wrap ((0 : Int) + (1 : Int)) + (1 : Int)) + (1 : Int)) + (1 : Int)) + (1 : Int)) + (1 : Int)) + (1 : Int)) + (1 : Int)) + (1 : Int)) + (1 : Int)) + (1 : Int)) + (1 : Int)) + (1 : Int)) + (1 : Int)) + (1 : Int)) ∧ True) := by kernel_rfl

set_option maxHeartbeats 4000000 in
theorem xnum_14 (H : List Ent)  :
    RunsTo Tryd.prog 20 [.code (bodyOf Tryd.f20)] (envOf [numA 38] Tryd.f20.ntmps) (Sx.look (numC H)) 56 (.v (.vi .i64 fun _ => 15)) (Sx.look []) 106 := by
  exact runs_last baseI (Sx.Ends.of (xnum_14_p0 H) ⟨okn, by first | rfl | exact ⟨rfl, rfl⟩ | decide, trivial⟩) (by kernel_rfl) rfl gtopE (Nat.le_refl _)

theorem xnum_15_p0 (H : List Ent) :
    isEnd (evTill Tryd.prog sumsI 600 99 900 20 [.code (bodyOf Tryd.f20)] (envOf [numA 39] Tryd.f20.ntmps) (numC H) ⟨[.f, .t, .t, .t, .f, .t, .t, .t, .f, .t, .t, .t, .f, .t, .t, .t, .f, .t, .t, .t, .f, .t, .t, .t, .f, .t, .t, .t, .f, .t, .t, .t, .f, .t, .t, .t, .f, .t, .t, .t, .f, .t, .t, .t, .f, .t, .t, .t, .f, .t, .t, .t, .f, .t, .t, .t, .f, .t, .t, .t, .f, .t, .t, .t, .t], 56⟩) (endP ([]) (.v (.vi .i64 fun _ => 16)) [] 106) =
    (OkL [] ∧ (16 : Int) = IntKind.i64.wrap (IntKind.i64.wrap (IntKind.i64.wrap (IntKind.i64.wrap (IntKind.i64.wrap (IntKind.i64.wrap (IntKind.i64.wrap (IntKind.i64.wrap (IntKind.i64.wrap (IntKind.i64.wrap (IntKind.i64.wrap (IntKind.i64.wrap (IntKind.i64.wrap (IntKind.i64.wrap (IntKind.i64.wrap (IntKind.i64.wrap ((0 : Int) + (1 : Int)) + (1 : Int)) + (1 : Int)) + (1 : Int)) + (1 : Int)) + (1 : Int)) + (1 : Int)) + (1 : Int)) + (1 : Int)) + (1 : Int)) + (1 : Int)) + (1 : Int)) + (1 : Int)) + (1 : Int)) + (1 : Int)) + (1 : Int)) ∧ True) := by kernel_rfl

set_option maxHeartbeats 4000000 in
theorem xnum_15 (H : List Ent)  :
    RunsTo Tryd.prog 20 [.code (bodyOf Tryd.f20)] (envOf [numA 39] Tryd.f20.ntmps) (Sx.look (numC H)) 56 (.v (.vi .i64 fun _ => 16)) (Sx.look []) 106 := by
  exact runs_last baseI (Sx.Ends.of (xnum_15_p0 H) ⟨okn, by first | rfl | exact ⟨rfl, rfl⟩ | decide, trivial⟩) (by kernel_rfl) rfl gtopE (Nat.le_refl _)

theorem xnum_nil_p0 (H : List Ent) :
    isEnd (evTill Tryd.prog [] 600 99 900 20 [.code (bodyOf Tryd.f20)] (envOf [.v .ve0] Tryd.f20.ntmps) (numC H) ⟨[.t], 56⟩) (endP ([]) (.v (.vi .i64 fun _ => 0)) [] 106) =
    (OkL [] ∧ (0 : Int) = (0 : Int) ∧ True) := by kernel_rfl

set_option maxHeartbeats 4000000 in
theorem xnum_nil (H : List Ent)  :
    RunsTo Tryd.prog 20 [.code (bodyOf Tryd.f20)] (envOf [.v .ve0] Tryd.f20.ntmps) (Sx.look (numC H)) 56 (.v (.vi .i64 fun _ => 0)) (Sx.look []) 106 := by
  exact runs_last baseN0 (Sx.Ends.of (xnum_nil_p0 H) ⟨okn, by first | rfl | exact ⟨rfl, rfl⟩ | decide, trivial⟩) (by kernel_rfl) rfl gtopE (Nat.le_refl _)

theorem xnum_runs (H : List Ent) (k : Nat) : RunsTo Tryd.prog 20 [.code (bodyOf Tryd.f20)] (envOf [xArg k] Tryd.f20.ntmps) (Sx.look (numC H)) 56 (.v (.vi .i64 fun _ => xnum k)) (Sx.look []) 106 := by
  rcases Nat.lt_or_ge k 16 with h | h
  · match k, h with
    | 0, _ => exact xnum_0 H
    | 1, _ => exact xnum_1 H
    | 2, _ => exact xnum_2 H
    | 3, _ => exact xnum_3 H
    | 4, _ => exact xnum_4 H
    | 5, _ => exact xnum_5 H
    | 6, _ => exact xnum_6 H
    | 7, _ => exact xnum_7 H
    | 8, _ => exact xnum_8 H
    | 9, _ => exact xnum_9 H
    | 10, _ => exact xnum_10 H
    | 11, _ => exact xnum_11 H
    | 12, _ => exact xnum_12 H
    | 13, _ => exact xnum_13 H
    | 14, _ => exact xnum_14 H
    | 15, _ => exact xnum_15 H
    | j + 16, q => exact absurd q (by omega)
  · rw [show xArg k = .v .ve0 by unfold xArg; rw [nthL_none.2 (show errL.length ≤ k from h)], show xnum k = 0 from if_neg (by omega)]
    exact xnum_nil H
theorem xnum_ok : ∀ args H x e d y, xS args H x = .ok e d y → OkL d → (∀ a ∈ args, ∀ l ∈ a.labs, l < x.nl) → WFh (Sx.look H) x.nl → gtop Tryd.prog ≤ x.nl → CallOK Tryd.prog 20 args H x.nl e y.nl :=
  xS_ok Tryd.func20 (by kernel_rfl) (xnum_runs)
end Go.Proofs.YtankmgnjkcgpaaaDoor

set_option linter.unusedVariables false
set_option maxRecDepth 100000
namespace Go.Proofs.YtankmgnjkcgpaaaDoor
open Go.Sx Go.Shelf
def bdRen : Ren := ⟨fun | 169 => 79 | 240 => 93 | 276 => 110 | n => n, fun | 37 => 30 | 70 => 119 | 72 => 121 | 127 => 149 | 164 => 168 | n => n, fun | n => n⟩
theorem bdLays240 : Go.Proofs.Lays.n240 Tryd.prog bdRen := {
  mixed := by kernel_rfl
  f240 := Tryd.func93.trans (congrArg some (by kernel_rfl))
  f276 := Tryd.func110.trans (congrArg some (by kernel_rfl))
  t0 := Tryd.underlying0
  a0 := Tryd.isAgg0
  z0 := Tryd.sizeOf0
  v0 := Tryd.zeroValue0
  t4 := Tryd.underlying4
  a4 := Tryd.isAgg4
  z4 := Tryd.sizeOf4
  v4 := Tryd.zeroValue4
  t9 := Tryd.underlying9
  a9 := Tryd.isAgg9
  z9 := Tryd.sizeOf9
  v9 := Tryd.zeroValue9
  t20 := Tryd.underlying20
  a20 := Tryd.isAgg20
  z20 := Tryd.sizeOf20
  v20 := Tryd.zeroValue20
  t70 := Tryd.underlying119
  a70 := Tryd.isAgg119
  z70 := Tryd.sizeOf119
  v70 := Tryd.zeroValue119
  t72 := Tryd.underlying121
  a72 := Tryd.isAgg121
  z72 := Tryd.sizeOf121
  v72 := Tryd.zeroValue121
  t164 := Tryd.underlying168
  a164 := Tryd.isAgg168
  z164 := Tryd.sizeOf168
  v164 := Tryd.zeroValue168 }
theorem bdLays169 : Go.Proofs.Lays.n169 Tryd.prog bdRen := {
  mixed := by kernel_rfl
  f169 := Tryd.func79.trans (congrArg some (by kernel_rfl))
  t0 := Tryd.underlying0
  a0 := Tryd.isAgg0
  z0 := Tryd.sizeOf0
  v0 := Tryd.zeroValue0
  t3 := Tryd.underlying3
  a3 := Tryd.isAgg3
  z3 := Tryd.sizeOf3
  v3 := Tryd.zeroValue3
  t9 := Tryd.underlying9
  a9 := Tryd.isAgg9
  z9 := Tryd.sizeOf9
  v9 := Tryd.zeroValue9
  t37 := Tryd.underlying30
  a37 := Tryd.isAgg30
  z37 := Tryd.sizeOf30
  v37 := Tryd.zeroValue30
  t70 := Tryd.underlying119
  a70 := Tryd.isAgg119
  z70 := Tryd.sizeOf119
  v70 := Tryd.zeroValue119
  t72 := Tryd.underlying121
  a72 := Tryd.isAgg121
  z72 := Tryd.sizeOf121
  v72 := Tryd.zeroValue121
  t127 := Tryd.underlying149
  a127 := Tryd.isAgg149
  z127 := Tryd.sizeOf149
  v127 := Tryd.zeroValue149 }
theorem bdExtra : Go.Proofs.Builder.Extra Tryd.prog bdRen := {
  sizeBuilder := by kernel_rfl
  liesBuilder := by kernel_rfl
  t5 := Tryd.underlying5
  a5 := Tryd.isAgg5
  z5 := Tryd.sizeOf5
  v5 := Tryd.zeroValue5
  infoByte := by kernel_rfl
  cellsByte := by kernel_rfl
  sizeByte := by kernel_rfl
  neB5 := by decide }
theorem bdCk : ∀ args H x e d y, bldCk 121 args H x = .ok e d y → OkL d → (∀ a ∈ args, ∀ l ∈ a.labs, l < x.nl) → WFh (Sx.look H) x.nl → gtop Tryd.prog ≤ x.nl → CallOK Tryd.prog 93 args H x.nl e y.nl := by
  have h := bldCk_ok bdLays240 bdExtra.toX72
  rw [show bdRen.t 72 = 121 by kernel_rfl, show bdRen.f 240 = 93 by kernel_rfl] at h
  exact h
theorem bdStr : ∀ args H x e d y, bldStr 121 5 args H x = .ok e d y → OkL d → (∀ a ∈ args, ∀ l ∈ a.labs, l < x.nl) → WFh (Sx.look H) x.nl → gtop Tryd.prog ≤ x.nl → CallOK Tryd.prog 79 args H x.nl e y.nl := by
  have h := bldStr_ok bdLays169 bdExtra
  rw [show bdRen.t 72 = 121 by kernel_rfl, show bdRen.t 5 = 5 by kernel_rfl, show bdRen.f 169 = 79 by kernel_rfl] at h
  exact h
end Go.Proofs.YtankmgnjkcgpaaaDoor

set_option linter.unusedVariables false
set_option maxRecDepth 100000
namespace Go.Proofs.YtankmgnjkcgpaaaDoor
open Go.Sx Go.Shelf
def itRen : Ren := ⟨fun | 129 => 121 | 283 => 106 | 285 => 108 | n => n, fun | 37 => 30 | 46 => 39 | 51 => 152 | 53 => 155 | n => n, fun | n => n⟩
theorem itLays129 : Go.Proofs.Lays.n129 Tryd.prog itRen := {
  mixed := by kernel_rfl
  f129 := Tryd.func121.trans (congrArg some (by kernel_rfl))
  t3 := Tryd.underlying3
  a3 := Tryd.isAgg3
  z3 := Tryd.sizeOf3
  v3 := Tryd.zeroValue3
  t4 := Tryd.underlying4
  a4 := Tryd.isAgg4
  z4 := Tryd.sizeOf4
  v4 := Tryd.zeroValue4
  t5 := Tryd.underlying5
  a5 := Tryd.isAgg5
  z5 := Tryd.sizeOf5
  v5 := Tryd.zeroValue5
  t9 := Tryd.underlying9
  a9 := Tryd.isAgg9
  z9 := Tryd.sizeOf9
  v9 := Tryd.zeroValue9
  t46 := Tryd.underlying39
  a46 := Tryd.isAgg39
  z46 := Tryd.sizeOf39
  v46 := Tryd.zeroValue39
  t53 := Tryd.underlying155
  a53 := Tryd.isAgg155
  z53 := Tryd.sizeOf155
  v53 := Tryd.zeroValue155 }
theorem itLays283 : Go.Proofs.Lays.n283 Tryd.prog itRen := {
  mixed := by kernel_rfl
  f283 := Tryd.func106.trans (congrArg some (by kernel_rfl))
  t3 := Tryd.underlying3
  a3 := Tryd.isAgg3
  z3 := Tryd.sizeOf3
  v3 := Tryd.zeroValue3
  t4 := Tryd.underlying4
  a4 := Tryd.isAgg4
  z4 := Tryd.sizeOf4
  v4 := Tryd.zeroValue4
  t9 := Tryd.underlying9
  a9 := Tryd.isAgg9
  z9 := Tryd.sizeOf9
  v9 := Tryd.zeroValue9 }
theorem itLays285 : Go.Proofs.Lays.n285 Tryd.prog itRen := {
  mixed := by kernel_rfl
  f285 := Tryd.func108.trans (congrArg some (by kernel_rfl))
  t0 := Tryd.underlying0
  a0 := Tryd.isAgg0
  z0 := Tryd.sizeOf0
  v0 := Tryd.zeroValue0
  t3 := Tryd.underlying3
  a3 := Tryd.isAgg3
  z3 := Tryd.sizeOf3
  v3 := Tryd.zeroValue3
  t4 := Tryd.underlying4
  a4 := Tryd.isAgg4
  z4 := Tryd.sizeOf4
  v4 := Tryd.zeroValue4
  t5 := Tryd.underlying5
  a5 := Tryd.isAgg5
  z5 := Tryd.sizeOf5
  v5 := Tryd.zeroValue5
  t9 := Tryd.underlying9
  a9 := Tryd.isAgg9
  z9 := Tryd.sizeOf9
  v9 := Tryd.zeroValue9
  t37 := Tryd.underlying30
  a37 := Tryd.isAgg30
  z37 := Tryd.sizeOf30
  v37 := Tryd.zeroValue30
  t51 := Tryd.underlying152
  a51 := Tryd.isAgg152
  z51 := Tryd.sizeOf152
  v51 := Tryd.zeroValue152
  t53 := Tryd.underlying155
  a53 := Tryd.isAgg155
  z53 := Tryd.sizeOf155
  v53 := Tryd.zeroValue155 }
theorem lenOK : ∀ args H x e d y, lenB args H x = .ok e d y → OkL d → (∀ a ∈ args, ∀ l ∈ a.labs, l < x.nl) → WFh (Sx.look H) x.nl → gtop Tryd.prog ≤ x.nl → CallOK Tryd.prog 121 args H x.nl e y.nl := by
  have h := lenB_ok itLays129
  rw [show itRen.f 129 = 121 by kernel_rfl] at h
  exact h
theorem smlOK : ∀ args H x e d y, smlB args H x = .ok e d y → OkL d → (∀ a ∈ args, ∀ l ∈ a.labs, l < x.nl) → WFh (Sx.look H) x.nl → gtop Tryd.prog ≤ x.nl → CallOK Tryd.prog 106 args H x.nl e y.nl := by
  have h := smlB_ok itLays283
  rw [show itRen.f 283 = 106 by kernel_rfl] at h
  exact h
theorem fmtOK : ∀ args H x e d y, fmtB args H x = .ok e d y → OkL d → (∀ a ∈ args, ∀ l ∈ a.labs, l < x.nl) → WFh (Sx.look H) x.nl → gtop Tryd.prog ≤ x.nl → CallOK Tryd.prog 108 args H x.nl e y.nl := by
  have h := fmtB_ok itLays285
  rw [show itRen.f 285 = 108 by kernel_rfl] at h
  exact h
end Go.Proofs.YtankmgnjkcgpaaaDoor

namespace Go.Proofs
open Go.Shelf
def Tryd.lays156_ren : Go.Shelf.Ren := ⟨fun | 156 => 80 | 165 => 94 | 166 => 95 | 169 => 79 | 240 => 93 | 241 => 111 | 276 => 110 | 277 => 82 | n => n, fun | 31 => 22 | 9 => 9 | 3 => 3 | 4 => 4 | 0 => 0 | 20 => 20 | 72 => 121 | 76 => 150 | 70 => 119 | 37 => 30 | 75 => 26 | 127 => 149 | 164 => 168 | 5 => 5 | 80 => 123 | n => n, fun | n => n⟩
theorem Tryd.lays156 : Go.Proofs.Lays.n156 Tryd.prog Tryd.lays156_ren := {
  mixed := by kernel_rfl
  f156 := Tryd.func80.trans (congrArg some (by kernel_rfl))
  f165 := Tryd.func94.trans (congrArg some (by kernel_rfl))
  f166 := Tryd.func95.trans (congrArg some (by kernel_rfl))
  f169 := Tryd.func79.trans (congrArg some (by kernel_rfl))
  f240 := Tryd.func93.trans (congrArg some (by kernel_rfl))
  f241 := Tryd.func111.trans (congrArg some (by kernel_rfl))
  f276 := Tryd.func110.trans (congrArg some (by kernel_rfl))
  f277 := Tryd.func82.trans (congrArg some (by kernel_rfl))
  t0 := Tryd.underlying0
  a0 := Tryd.isAgg0
  z0 := Tryd.sizeOf0
  v0 := Tryd.zeroValue0
  t3 := Tryd.underlying3
  a3 := Tryd.isAgg3
  z3 := Tryd.sizeOf3
  v3 := Tryd.zeroValue3
  t4 := Tryd.underlying4
  a4 := Tryd.isAgg4
  z4 := Tryd.sizeOf4
  v4 := Tryd.zeroValue4
  t9 := Tryd.underlying9
  a9 := Tryd.isAgg9
  z9 := Tryd.sizeOf9
  v9 := Tryd.zeroValue9
  t20 := Tryd.underlying20
  a20 := Tryd.isAgg20
  z20 := Tryd.sizeOf20
  v20 := Tryd.zeroValue20
  t31 := Tryd.underlying22
  a31 := Tryd.isAgg22
  z31 := Tryd.sizeOf22
  v31 := Tryd.zeroValue22
  t37 := Tryd.underlying30
  a37 := Tryd.isAgg30
  z37 := Tryd.sizeOf30
  v37 := Tryd.zeroValue30
  t70 := Tryd.underlying119
  a70 := Tryd.isAgg119
  z70 := Tryd.sizeOf119
  v70 := Tryd.zeroValue119
  t72 := Tryd.underlying121
  a72 := Tryd.isAgg121
  z72 := Tryd.sizeOf121
  v72 := Tryd.zeroValue121
  t75 := Tryd.underlying26
  a75 := Tryd.isAgg26
  z75 := Tryd.sizeOf26
  v75 := Tryd.zeroValue26
  t76 := Tryd.underlying150
  a76 := Tryd.isAgg150
  z76 := Tryd.sizeOf150
  v76 := Tryd.zeroValue150
  t127 := Tryd.underlying149
  a127 := Tryd.isAgg149
  z127 := Tryd.sizeOf149
  v127 := Tryd.zeroValue149
  t164 := Tryd.underlying168
  a164 := Tryd.isAgg168
  z164 := Tryd.sizeOf168
  v164 := Tryd.zeroValue168 }
theorem Tryd.Builder_Extra_156 : Builder.Extra Tryd.prog Tryd.lays156_ren := {
  sizeBuilder := by kernel_rfl
  liesBuilder := by kernel_rfl
  t5 := Tryd.underlying5
  a5 := Tryd.isAgg5
  z5 := Tryd.sizeOf5
  v5 := Tryd.zeroValue5
  infoByte := by kernel_rfl
  cellsByte := by kernel_rfl
  sizeByte := by kernel_rfl
  neB5 := by decide }
open Go.RowKit in
theorem Tryd.strings_Join_none (a : Option Addr) (c : Nat) (sep : ByteArray) (w : World) :
    Calls Tryd.prog 80 #[.slice a 0 c, .string sep] w fun e w' => e = .returned (.string ⟨#[]⟩) ∧ w' = w := Any.strings_Join_none Tryd.lays156 Tryd.Builder_Extra_156 a c sep w
open Go.RowKit in
theorem Tryd.strings_Join (bk o c : Nat) (xs : List ByteArray) (sep : ByteArray) (w : World) (hcells : ∀ (j : Nat) x, xs[j]? = some x → w.cell? ⟨bk, o + j, none⟩ = some (.string x)) (hbk : bk < w.heap.size) (hN : xs.length ≤ 140737488355328) (hcap : xs.length ≤ c) (hlen : (Lib.join (xs.map (·.data.toList)) sep.data.toList).length ≤ 140737488355328) :
    Calls Tryd.prog 80 #[.slice (some ⟨bk, o, none⟩) xs.length c, .string sep] w fun e w' => e = .returned (.string ⟨(Lib.join (xs.map (·.data.toList)) sep.data.toList).toArray⟩) ∧ Below w.heap.size w w' := Any.strings_Join Tryd.lays156 Tryd.Builder_Extra_156 bk o c xs sep w hcells hbk hN hcap hlen
def Tryd.laysC245_ren : Go.Shelf.Ren := ⟨fun | 245 => 115 | 279 => 128 | 280 => 129 | 281 => 130 | 282 => 131 | 316 => 135 | 171 => 60 | 205 => 136 | 243 => 77 | 246 => 92 | 283 => 106 | 284 => 107 | 285 => 108 | 286 => 109 | 129 => 121 | 317 => 120 | 318 => 122 | 319 => 123 | 320 => 124 | 337 => 133 | 338 => 134 | n => n, fun | 9 => 9 | 3 => 3 | 75 => 26 | 167 => 180 | 4 => 4 | 168 => 183 | 210 => 190 | 37 => 30 | 0 => 0 | 127 => 149 | 145 => 196 | 143 => 194 | 2 => 2 | 171 => 163 | 53 => 155 | 5 => 5 | 173 => 166 | 212 => 173 | 51 => 152 | 20 => 20 | 213 => 174 | 46 => 39 | 232 => 192 | 233 => 193 | 80 => 123 | n => n, fun | 15 => 20 | 16 => 21 | 17 => 17 | 18 => 22 | 19 => 23 | n => n⟩
theorem Tryd.laysC245 : Go.Proofs.LaysC.n245 Tryd.prog Tryd.laysC245_ren := {
  mixed := by kernel_rfl
  f129 := Tryd.func121.trans (congrArg some (by kernel_rfl))
  f171 := Tryd.func60.trans (congrArg some (by kernel_rfl))
  f205 := Tryd.func136.trans (congrArg some (by kernel_rfl))
  f243 := Tryd.func77.trans (congrArg some (by kernel_rfl))
  f245 := Tryd.func115.trans (congrArg some (by kernel_rfl))
  f246 := Tryd.func92.trans (congrArg some (by kernel_rfl))
  f279 := Tryd.func128.trans (congrArg some (by kernel_rfl))
  f280 := Tryd.func129.trans (congrArg some (by kernel_rfl))
  f281 := Tryd.func130.trans (congrArg some (by kernel_rfl))
  f282 := Tryd.func131.trans (congrArg some (by kernel_rfl))
  f283 := Tryd.func106.trans (congrArg some (by kernel_rfl))
  f284 := Tryd.func107.trans (congrArg some (by kernel_rfl))
  f285 := Tryd.func108.trans (congrArg some (by kernel_rfl))
  f286 := Tryd.func109.trans (congrArg some (by kernel_rfl))
  f316 := Tryd.func135.trans (congrArg some (by kernel_rfl))
  f317 := Tryd.func120.trans (congrArg some (by kernel_rfl))
  f318 := Tryd.func122.trans (congrArg some (by kernel_rfl))
  f319 := Tryd.func123.trans (congrArg some (by kernel_rfl))
  f320 := Tryd.func124.trans (congrArg some (by kernel_rfl))
  f337 := Tryd.func133.trans (congrArg some (by kernel_rfl))
  f338 := Tryd.func134.trans (congrArg some (by kernel_rfl))
  t0 := Tryd.underlying0
  a0 := Tryd.isAgg0
  z0 := Tryd.sizeOf0
  v0 := Tryd.zeroValue0
  t2 := Tryd.underlying2
  a2 := Tryd.isAgg2
  z2 := Tryd.sizeOf2
  v2 := Tryd.zeroValue2
  t3 := Tryd.underlying3
  a3 := Tryd.isAgg3
  z3 := Tryd.sizeOf3
  v3 := Tryd.zeroValue3
  t4 := Tryd.underlying4
  a4 := Tryd.isAgg4
  z4 := Tryd.sizeOf4
  v4 := Tryd.zeroValue4
  t5 := Tryd.underlying5
  a5 := Tryd.isAgg5
  z5 := Tryd.sizeOf5
  v5 := Tryd.zeroValue5
  t9 := Tryd.underlying9
  a9 := Tryd.isAgg9
  z9 := Tryd.sizeOf9
  v9 := Tryd.zeroValue9
  t20 := Tryd.underlying20
  a20 := Tryd.isAgg20
  z20 := Tryd.sizeOf20
  v20 := Tryd.zeroValue20
  t37 := Tryd.underlying30
  a37 := Tryd.isAgg30
  z37 := Tryd.sizeOf30
  v37 := Tryd.zeroValue30
  t46 := Tryd.underlying39
  a46 := Tryd.isAgg39
  z46 := Tryd.sizeOf39
  v46 := Tryd.zeroValue39
  t51 := Tryd.underlying152
  a51 := Tryd.isAgg152
  z51 := Tryd.sizeOf152
  v51 := Tryd.zeroValue152
  t53 := Tryd.underlying155
  a53 := Tryd.isAgg155
  z53 := Tryd.sizeOf155
  v53 := Tryd.zeroValue155
  t75 := Tryd.underlying26
  a75 := Tryd.isAgg26
  z75 := Tryd.sizeOf26
  v75 := Tryd.zeroValue26
  t127 := Tryd.underlying149
  a127 := Tryd.isAgg149
  z127 := Tryd.sizeOf149
  v127 := Tryd.zeroValue149
  t143 := Tryd.underlying194
  a143 := Tryd.isAgg194
  z143 := Tryd.sizeOf194
  v143 := Tryd.zeroValue194
  t145 := Tryd.underlying196
  a145 := Tryd.isAgg196
  z145 := Tryd.sizeOf196
  v145 := Tryd.zeroValue196
  t167 := Tryd.underlying180
  a167 := Tryd.isAgg180
  z167 := Tryd.sizeOf180
  v167 := Tryd.zeroValue180
  t168 := Tryd.underlying183
  a168 := Tryd.isAgg183
  z168 := Tryd.sizeOf183
  v168 := Tryd.zeroValue183
  t171 := Tryd.underlying163
  a171 := Tryd.isAgg163
  z171 := Tryd.sizeOf163
  v171 := Tryd.zeroValue163
  t173 := Tryd.underlying166
  a173 := Tryd.isAgg166
  z173 := Tryd.sizeOf166
  v173 := Tryd.zeroValue166
  t210 := Tryd.underlying190
  a210 := Tryd.isAgg190
  z210 := Tryd.sizeOf190
  v210 := Tryd.zeroValue190
  t212 := Tryd.underlying173
  a212 := Tryd.isAgg173
  z212 := Tryd.sizeOf173
  v212 := Tryd.zeroValue173
  t213 := Tryd.underlying174
  a213 := Tryd.isAgg174
  z213 := Tryd.sizeOf174
  t232 := Tryd.underlying192
  a232 := Tryd.isAgg192
  z232 := Tryd.sizeOf192
  v232 := Tryd.zeroValue192
  t233 := Tryd.underlying193
  a233 := Tryd.isAgg193
  z233 := Tryd.sizeOf193
  v233 := Tryd.zeroValue193
  g15 := by kernel_rfl
  g16 := by kernel_rfl
  g17 := by kernel_rfl
  g18 := by kernel_rfl
  g19 := by kernel_rfl
  t80 := Tryd.underlying123
  a80 := Tryd.isAgg123
  z80 := Tryd.sizeOf123
  v80 := Tryd.zeroValue123
  i0 := by kernel_rfl
  i2 := by kernel_rfl
  i3 := by kernel_rfl
  i4 := by kernel_rfl
  i5 := by kernel_rfl
  i9 := by kernel_rfl
  i20 := by kernel_rfl
  i37 := by kernel_rfl
  i46 := by kernel_rfl
  i51 := by kernel_rfl
  i53 := by kernel_rfl
  i75 := by kernel_rfl
  i80 := by kernel_rfl
  i127 := by kernel_rfl
  i143 := by kernel_rfl
  i145 := by kernel_rfl
  i167 := by kernel_rfl
  i168 := by kernel_rfl
  i171 := by kernel_rfl
  i173 := by kernel_rfl
  i210 := by kernel_rfl
  i212 := by kernel_rfl
  i232 := by kernel_rfl
  i233 := by kernel_rfl
  m15 := by kernel_rfl
  m16 := by kernel_rfl
  m17 := by kernel_rfl
  m18 := by kernel_rfl
  m19 := by kernel_rfl
  c0 := by kernel_rfl
  c2 := by kernel_rfl
  c3 := by kernel_rfl
  c4 := by kernel_rfl
  c5 := by kernel_rfl
  c9 := by kernel_rfl
  c20 := by kernel_rfl
  c37 := by kernel_rfl
  c46 := by kernel_rfl
  c51 := by kernel_rfl
  c53 := by kernel_rfl
  c75 := by kernel_rfl
  c80 := by kernel_rfl
  c127 := by kernel_rfl
  c143 := by kernel_rfl
  c145 := by kernel_rfl
  c167 := by kernel_rfl
  c168 := by kernel_rfl
  c171 := by kernel_rfl
  c173 := by kernel_rfl
  c210 := by kernel_rfl
  c212 := by kernel_rfl
  c213 := by kernel_rfl
  c232 := by kernel_rfl
  c233 := by kernel_rfl }
open Go.RowKit in
theorem Tryd.strconv_toError_syntax (fn s : ByteArray) (base bits : Int) (ev : Value) (w : World) (hlim : s.size ≤ 281474976710656) (hv : w.cell? ⟨20, 0, none⟩ = some ev) (hev : ev = .nilIface ∨ ∃ te pe, ev = .iface te pe) :
    Calls Tryd.prog 115 #[.string fn, .string s, .int .i64 base, .int .i64 bits, .iface 180 (.int .i64 2)] w fun e w' => ∃ N, e = .returned (.iface 183 (.pointer (some ⟨N, 0, none⟩))) ∧ w.heap.size ≤ N ∧ w'.heap[N]? = some (.cells #[.string fn, .string s, ev] 190 (0, 0)) ∧ Below w.heap.size w w' := Any.strconv_toError_syntax Tryd.laysC245 fn s base bits ev w hlim hv hev
open Go.RowKit in
theorem Tryd.strconv_toError_range (fn s : ByteArray) (base bits : Int) (ev : Value) (w : World) (hlim : s.size ≤ 281474976710656) (hv : w.cell? ⟨21, 0, none⟩ = some ev) (hev : ev = .nilIface ∨ ∃ te pe, ev = .iface te pe) :
    Calls Tryd.prog 115 #[.string fn, .string s, .int .i64 base, .int .i64 bits, .iface 180 (.int .i64 1)] w fun e w' => ∃ N, e = .returned (.iface 183 (.pointer (some ⟨N, 0, none⟩))) ∧ w.heap.size ≤ N ∧ w'.heap[N]? = some (.cells #[.string fn, .string s, ev] 190 (0, 0)) ∧ Below w.heap.size w w' := Any.strconv_toError_range Tryd.laysC245 fn s base bits ev w hlim hv hev
end Go.Proofs

set_option linter.unusedSimpArgs false
set_option linter.unusedVariables false
namespace Go.Proofs.YtankmgnjkcgpaaaDoor
open Go.Sx

def rowS (f : Ix → List UInt8) (is : Ix) (st n : Nat) : List (List UInt8) := (List.range n).map fun j => f (is ++ [st + j])

def joinS (xs : List (List UInt8)) (sep : List UInt8) : List UInt8 := Lib.join xs sep

def joinSumm : Summ := fun args H =>
  match args with
  | [.v (.vl lab mem sz cuts len), .v (.vs sep)] => do
    chk (Nat.beq sz 1)
    let (n, t, is) ← rowOf H lab (mem []) sz
    need (Nat.ble (sum cuts + len []) n)
    match t with
    | .vs f => do
      need (Nat.ble (len []) 1000)
      need (Nat.ble (joinS (rowS f is (sum cuts) (len [])) (sep [])).length 100000)
      pure ⟨.v (.vs fun _ => joinS (rowS f is (sum cuts) (len [])) (sep [])), [], [], [lab]⟩
    | _ => M.fail
  | [.v .vl0, .v (.vs sep)] => pure (.val (.v (.vs fun _ => [])))
  | _ => M.fail

theorem below_eff {ρ : Con} {n : Nat} {H : List Ent} {v : SV} {rd : List Nat} {w w' : World} (h : RowKit.Below w.heap.size w w') : EffOK ρ ρ n n H ⟨v, [], [], rd⟩ w w' :=
  ⟨fun _ _ => rfl, fun x hx => (by cases hx), ⟨h.os, h.tape, h.output, h.size, fun k hk _ => h.block k hk⟩, fun x hx => (by cases hx), fun x hx => by cases hx⟩

theorem joinSumm_ok : ∀ args H x e d y, joinSumm args H x = .ok e d y → OkL d → (∀ a ∈ args, ∀ l ∈ a.labs, l < x.nl) → WFh (Sx.look H) x.nl → gtop Tryd.prog ≤ x.nl → CallOK Tryd.prog 80 args H x.nl e y.nl := by
  intro args H x e d y h hd hal hwf hg
  unfold joinSumm at h
  split at h
  · rename_i lab mem sz cuts len sep
    obtain ⟨_, c1, y1, c2, h1, h2, rfl⟩ := bind_ok h
    obtain ⟨hsz, rfl, rfl⟩ := chk_ok h1
    have hsz := Nat.eq_of_beq_eq_true hsz
    subst hsz
    obtain ⟨⟨n, t, is⟩, c3, y3, c4, h3, h4, rfl⟩ := bind_ok h2
    obtain ⟨hn1, en, hl, hw, ht, hts, hz, hlies, _⟩ := rowOf_ok h3
    simp only at h4
    obtain ⟨_, c5, y5, c6, h5, h6, rfl⟩ := bind_ok h4
    obtain ⟨hle, hn2⟩ := need_ok h5
    split at h6
    · rename_i f
      obtain ⟨_, c7, y7, c8, h7, h8, rfl⟩ := bind_ok h6
      obtain ⟨hk1, hn3⟩ := need_ok h7
      obtain ⟨_, c9, y9, c10, h9, h10, rfl⟩ := bind_ok h8
      obtain ⟨hk2, hn4⟩ := need_ok h9
      obtain ⟨rfl, rfl, rfl⟩ := pure_ok h10
      simp only [OkL_append] at hd
      have hle : sum cuts + len [] ≤ n := by simpa [Nat.ble_eq] using hle (by simp_all)
      have hk1 : len [] ≤ 1000 := by simpa [Nat.ble_eq] using hk1 (by simp_all)
      have hk2 : (joinS (rowS f is (sum cuts) (len [])) (sep [])).length ≤ 100000 := by simpa [Nat.ble_eq] using hk2 (by simp_all)
      have hd3 : OkL c3 := by simp_all
      have hnl : y9.nl = x.nl := hn4.trans (hn3.trans (hn2.trans hn1))
      refine ⟨by omega, fun ρ w av hlen hav hG hHp => ?_⟩
      rw [hnl]
      have hL := hlies hd3 ρ w (hHp.hp lab (by simp) en hl)
      match av, hlen with
      | [v0, v1], _ =>
        have e0 := hav 0 _ v0 rfl rfl rfl
        have e1 := hav 1 _ v1 rfl rfl rfl
        subst e0; subst e1
        have hsep : SV.val ρ (.v (.vs sep)) = .string ⟨(sep []).toArray⟩ := rfl
        have key : ∀ (bk o c : Nat), bk < w.heap.size → len [] ≤ c → (∀ j, j < len [] → w.cell? ⟨bk, o + j, none⟩ = some (.string ⟨(f (is ++ [sum cuts + j])).toArray⟩)) →
            Calls Tryd.prog 80 #[.slice (some ⟨bk, o, none⟩) (len []) c, .string ⟨(sep []).toArray⟩] w fun en w' => en = .returned (.string ⟨(joinS (rowS f is (sum cuts) (len [])) (sep [])).toArray⟩) ∧ RowKit.Below w.heap.size w w' := by
          intro bk o c hbk hc hcell
          have hmap : (((rowS f is (sum cuts) (len [])).map fun s => (⟨s.toArray⟩ : ByteArray)).map (·.data.toList)) = rowS f is (sum cuts) (len []) := by
            rw [List.map_map]
            conv => rhs; rw [← List.map_id (rowS f is (sum cuts) (len []))]
            rfl
          have hl2 : ((rowS f is (sum cuts) (len [])).map fun s => (⟨s.toArray⟩ : ByteArray)).length = len [] := by simp [rowS]
          have hj := Tryd.strings_Join bk o c ((rowS f is (sum cuts) (len [])).map fun s => ⟨s.toArray⟩) ⟨(sep []).toArray⟩ w (fun j x hx => by
              simp only [rowS, List.getElem?_map] at hx
              have hlt : j < len [] := by
                rcases Nat.lt_or_ge j (len []) with h | h
                · exact h
                · rw [List.getElem?_eq_none (by simpa using h)] at hx; cases hx
              rw [List.getElem?_range hlt] at hx
              simp only [Option.map_some, Option.some.injEq] at hx
              rw [hcell j hlt, ← hx]) hbk (by rw [hl2]; omega) (by rw [hl2]; exact hc) (by rw [hmap]; exact Nat.le_trans hk2 (by omega))
          rw [hl2, hmap] at hj
          exact hj
        cases hnil : (ρ lab (mem [])).isNil with
        | true =>
          have h0 := row_nil hts hz (hL.2.1 hnil)
          have hl0 : len [] = 0 := by omega
          have hval : SV.val ρ (.v (.vl lab mem 1 cuts len)) = .slice (ρ lab (mem [])).adr 0 0 := by simp [SV.val, Tr.val, hnil, hl0]
          rw [hval, hsep]
          refine (Tryd.strings_Join_none _ 0 ⟨(sep []).toArray⟩ w).mono ?_
          rintro e w' ⟨rfl, rfl⟩
          refine ⟨ρ, _, rfl, fun _ => ?_, below_eff (RowKit.Below.refl _ _)⟩
          simp [SV.val, Tr.val, rowS, hl0, joinS, Lib.join]
        | false =>
          have hval : SV.val ρ (.v (.vl lab mem 1 cuts len)) = .slice (some ⟨(ρ lab (mem [])).blk, (ρ lab (mem [])).base + rsOf (ρ lab (mem [])).room cuts 0 * 1, none⟩) (len []) ((ρ lab (mem [])).room - sum cuts) := by simp [SV.val, Tr.val, hnil]
          rw [hval, hsep]
          rcases Nat.eq_zero_or_pos (len []) with h0 | h0
          · rw [h0]
            refine (Tryd.strings_Join_none _ _ ⟨(sep []).toArray⟩ w).mono ?_
            rintro e w' ⟨rfl, rfl⟩
            refine ⟨ρ, _, rfl, fun _ => ?_, below_eff (RowKit.Below.refl _ _)⟩
            simp [SV.val, Tr.val, rowS, joinS, Lib.join]
          · obtain ⟨_, g2, g3⟩ := hL.row hts hz (show sum cuts < n by omega)
            have hnr : n ≤ (ρ lab (mem [])).room := by
              obtain ⟨_, _, g⟩ := hL.row hts hz (k := 0) (by omega)
              exact g
            have hcell : ∀ j, j < len [] → w.cell? ⟨(ρ lab (mem [])).blk, (ρ lab (mem [])).base + rsOf (ρ lab (mem [])).room cuts 0 * 1 + j, none⟩ = some (.string ⟨(f (is ++ [sum cuts + j])).toArray⟩) := by
              intro j hj
              obtain ⟨pre, post, hc, hp⟩ := row_part (n := n) (t := .vs f) ρ is hts hle
              rw [hc] at hL
              rw [rsOf_sum _ cuts 0 (by omega)]
              refine hL.mid hnil hp ?_
              have e := List.flatMap_singleton' ([] : List Nat)
              simp only [Tr.cells, Tr.val]
              rw [← List.map_eq_flatMap, List.getElem?_map, List.getElem?_range hj]
              rfl
            have hbk : (ρ lab (mem [])).blk < w.heap.size := cell_lt (hcell 0 h0)
            refine (key _ _ _ hbk (by omega) hcell).mono ?_
            rintro e w' ⟨rfl, hb⟩
            exact ⟨ρ, _, rfl, fun _ => rfl, below_eff hb⟩
    · exact (fail_ok h6).elim
  · rename_i sep
    obtain ⟨rfl, rfl, rfl⟩ := pure_ok h
    refine ⟨by omega, fun ρ w av hlen hav hG hHp => ?_⟩
    match av, hlen with
    | [v0, v1], _ =>
      have e0 := hav 0 _ v0 rfl rfl rfl
      have e1 := hav 1 _ v1 rfl rfl rfl
      subst e0; subst e1
      refine (Tryd.strings_Join_none none 0 ⟨(sep []).toArray⟩ w).mono ?_
      rintro e w' ⟨rfl, rfl⟩
      exact ⟨ρ, _, rfl, fun _ => rfl, below_eff (RowKit.Below.refl _ _)⟩
  · exact (fail_ok h).elim

def tErrG (c : Int) : Nat := if c = 2 then 20 else 21
def tErrSumm : Summ := fun args H =>
  match args with
  | [.v (.vs fn), .v (.vs s), .v (.vi k1 b), .v (.vi k2 q), .v (.ve t (.vi k c))] => do
    chk (sameK k1 .i64 && (sameK k2 .i64 && (sameK k .i64 && Nat.beq t 180)))
    chk (decide (c [] = 1) || decide (c [] = 2))
    need (Nat.ble (s []).length 1000000)
    let e ← opt (Sx.look H (tErrG (c [])))
    chk e.fam.isNone
    match e.t with
    | .ve te u => do
      let l ← newLab
      pure ⟨.v (.ve 183 (.vp l (fun _ => 0) [])), [], [], [tErrG (c [])]⟩
    | _ => M.fail
  | _ => M.fail

theorem tErr_core {g : Nat} {c : Int} (hg : ∀ (fn s : ByteArray) (base bits : Int) (ev : Value) (w : World), s.size ≤ 281474976710656 → w.cell? ⟨g, 0, none⟩ = some ev → (ev = .nilIface ∨ ∃ te pe, ev = .iface te pe) →
      Calls Tryd.prog 115 #[.string fn, .string s, .int .i64 base, .int .i64 bits, .iface 180 (.int .i64 c)] w fun e w' => ∃ N, e = .returned (.iface 183 (.pointer (some ⟨N, 0, none⟩))) ∧ w.heap.size ≤ N ∧ w'.heap[N]? = some (.cells #[.string fn, .string s, ev] 190 (0, 0)) ∧ RowKit.Below w.heap.size w w')
    (hgl : g < Tryd.prog.globals.size) {H : List Ent} {n : Nat} (hn : gtop Tryd.prog ≤ n) {fn s : Ix → List UInt8} {b q : Ix → Int} {f : Ix → Int} (hc : f [] = c) (hs : (s []).length ≤ 1000000) {e : Ent} {te : Nat} {u : Tr} (he : Sx.look H g = some e) (hf : e.fam = none) (ht : e.t = .ve te u) :
    CallOK Tryd.prog 115 [.v (.vs fn), .v (.vs s), .v (.vi .i64 b), .v (.vi .i64 q), .v (.ve 180 (.vi .i64 f))] H n ⟨.v (.ve 183 (.vp n (fun _ => 0) [])), [], [], [g]⟩ (n + 1) := by
  refine ⟨by omega, fun ρ w av hlen hav hG hHp => ?_⟩
  have hh := hHp.hp g (by simp) e he
  have hlab := look_lab he
  unfold Ent.holds at hh
  simp only [hf, hlab, ht, Tr.cells] at hh
  have hcell : w.cell? ⟨g, 0, none⟩ = some ((Tr.ve te u).val ρ []) := by
    obtain ⟨g1, g2⟩ := hG.at_ g hgl
    have g3 : (ρ g 0).isNil = false := by
      cases hq : (ρ g 0).isNil with
      | false => rfl
      | true => exact absurd (hh.2.1 hq) (by simp)
    have := (hh.2.2 g3).1 0 _ rfl
    rw [g1, g2] at this
    exact this
  match av, hlen with
  | [v0, v1, v2, v3, v4], _ =>
    have e0 := hav 0 _ v0 rfl rfl rfl
    have e1 := hav 1 _ v1 rfl rfl rfl
    have e2 := hav 2 _ v2 rfl rfl rfl
    have e3 := hav 3 _ v3 rfl rfl rfl
    have e4 := hav 4 _ v4 rfl rfl rfl
    subst e0; subst e1; subst e2; subst e3; subst e4
    subst hc
    refine (hg ⟨(fn []).toArray⟩ ⟨(s []).toArray⟩ (b []) (q []) _ w (by show (s []).toArray.size ≤ _; simp; omega) hcell (.inr ⟨_, _, rfl⟩)).mono ?_
    rintro en w' ⟨N, rfl, h1, h2, h3⟩
    refine ⟨fun k m => if k = n then ⟨N, 0, 1, 1, false, none, false⟩ else ρ k m, _, rfl, fun _ => ?_, ⟨fun l hl => ?_, fun x hx => (by cases hx), ⟨h3.os, h3.tape, h3.output, h3.size, fun k hk _ => h3.block k hk⟩, fun x hx => (by cases hx), fun x hx => by cases hx⟩⟩
    · simp [SV.val, Tr.val, offs]
    · funext m
      rw [if_neg (by omega)]

theorem tErr_ok : ∀ args H x e d y, tErrSumm args H x = .ok e d y → OkL d → (∀ a ∈ args, ∀ l ∈ a.labs, l < x.nl) → WFh (Sx.look H) x.nl → gtop Tryd.prog ≤ x.nl → CallOK Tryd.prog 115 args H x.nl e y.nl := by
  intro args H x e d y h hd hal hwf hg
  unfold tErrSumm at h
  split at h
  · rename_i fn s k1 b k2 q t k c
    obtain ⟨_, c1, y1, c2, h1, h2, rfl⟩ := bind_ok h
    obtain ⟨hk, rfl, rfl⟩ := chk_ok h1
    simp only [Bool.and_eq_true] at hk
    obtain ⟨k1e, k2e, k3e, hte⟩ := hk
    have k1e := sameK_ok k1e
    have k2e := sameK_ok k2e
    have k3e := sameK_ok k3e
    have hte := Nat.eq_of_beq_eq_true hte
    subst k1e; subst k2e; subst k3e; subst hte
    obtain ⟨_, c3, y3, c4, h3, h4, rfl⟩ := bind_ok h2
    obtain ⟨hc, rfl, rfl⟩ := chk_ok h3
    obtain ⟨_, c5, y5, c6, h5, h6, rfl⟩ := bind_ok h4
    obtain ⟨hs, n5⟩ := need_ok h5
    obtain ⟨en, c7, y7, c8, h7, h8, rfl⟩ := bind_ok h6
    obtain ⟨hl, rfl, rfl⟩ := opt_ok h7
    obtain ⟨_, c9, y9, c10, h9, h10, rfl⟩ := bind_ok h8
    obtain ⟨hf, rfl, rfl⟩ := chk_ok h9
    have hf : en.fam = none := by simpa using hf
    revert h10
    generalize hu : en.t = tt
    intro h10
    split at h10
    · rename_i te u
      have ht := hu
      obtain ⟨l, c11, y11, c12, h11, h12, rfl⟩ := bind_ok h10
      obtain ⟨rfl, rfl, rfl⟩ := newLab_ok h11
      obtain ⟨rfl, rfl, rfl⟩ := pure_ok h12
      simp only [OkL_append] at hd
      have hs : (s []).length ≤ 1000000 := by simpa [Nat.ble_eq] using hs (by simp_all)
      simp only [n5]
      rw [Bool.or_eq_true, decide_eq_true_eq, decide_eq_true_eq] at hc
      rcases hc with hc | hc
      · have hg' : tErrG (c []) = 21 := if_neg (by omega)
        rw [hg'] at hl ⊢
        exact tErr_core (g := 21) (c := 1) Tryd.strconv_toError_range (of_decide_eq_true (by kernel_rfl)) hg hc hs hl hf ht
      · have hg' : tErrG (c []) = 20 := if_pos hc
        rw [hg'] at hl ⊢
        exact tErr_core (g := 20) (c := 2) Tryd.strconv_toError_syntax (of_decide_eq_true (by kernel_rfl)) hg hc hs hl hf ht
    · exact (fail_ok h10).elim
  · exact (fail_ok h).elim

end Go.Proofs.YtankmgnjkcgpaaaDoor

