/- Errors: what errors.Is answers of two errors of package api. -/
import Derived.Test.YtankmgnjkcgpaaaDoorRows
import Derived.Test.YtankmgnjkcgpaaaDoorSyX
import Derived.WalkKit
import Derived.LaidEql
import Derived.Stop.Asserts
import Derived.RowKitTokens
import Derived.Test.YtankmgnjkcgpaaaDoorSyKit
import Derived.Test.YtankmgnjkcgpaaaDoorSyPc
import Derived.Test.YtankmgnjkcgpaaaDoorSyBd
import Derived.Test.YtankmgnjkcgpaaaDoorProg
import Derived.Test.YtankmgnjkcgpaaaDoorSyIt
set_option linter.unusedSimpArgs false
set_option linter.unusedVariables false
set_option maxRecDepth 100000
namespace Go.Proofs.YtankmgnjkcgpaaaDoor
open Go.RowKit Go.Extern.Stop Go.Stop Go.Extern

/-! ### CLOSED FACTS: what 'reflectlite.TypeOf(target).Comparable()' gives at such a target -/
/-! ### CLOSED FACTS ON THE METHOD SETS: what errors.is's assertions find -/
open Go.Sx

def errAt (H : List Ent) (l : Nat) (m : Ix → Nat) (p : List Stp) : M Unit := do
  chk (Nat.ble 24 l)
  chk (Nat.blt l 48)
  chk (Nat.beq (m []) 0)
  chk p.isEmpty
  let e ← opt (Sx.look H l)
  chk (noFam e.fam)
  chk (Nat.blt 0 e.t.size)

def isS : Summ := fun args H =>
  match args with
  | [.v (.ve t1 (.vp l1 m1 p1)), .v (.ve t2 (.vp l2 m2 p2))] => do
    chk (Nat.beq t1 194)
    chk (Nat.beq t2 194)
    errAt H l1 m1 p1
    errAt H l2 m2 p2
    pure ⟨.v (.vb fun _ => Nat.beq l1 l2), [], [], [l1, l2]⟩
  | _ => M.fail

end Go.Proofs.YtankmgnjkcgpaaaDoor

set_option linter.unusedSimpArgs false
set_option linter.unusedVariables false
set_option maxRecDepth 100000
namespace Go.Proofs.YtankmgnjkcgpaaaDoor
open Go.Sx

end Go.Proofs.YtankmgnjkcgpaaaDoor

set_option linter.unusedSimpArgs false
set_option linter.unusedVariables false
set_option maxRecDepth 100000
namespace Go.Proofs.YtankmgnjkcgpaaaDoor
open Go.Sx

end Go.Proofs.YtankmgnjkcgpaaaDoor

set_option linter.unusedSimpArgs false
set_option linter.unusedVariables false
set_option maxRecDepth 100000
namespace Go.Proofs.YtankmgnjkcgpaaaDoor
open Go.Sx

def errL : List Nat := [24, 27, 28, 26, 25, 29, 30, 31, 32, 33, 34, 35, 36, 37, 38, 39]
end Go.Proofs.YtankmgnjkcgpaaaDoor

set_option linter.unusedVariables false
set_option maxRecDepth 100000
namespace Go.Proofs.YtankmgnjkcgpaaaDoor
open Go.Sx Go.Shelf
def bdRen : Ren := ⟨fun | 169 => 79 | 240 => 93 | 276 => 110 | n => n, fun | 37 => 30 | 70 => 119 | 72 => 121 | 127 => 149 | 164 => 168 | n => n, fun | n => n⟩
theorem bdLays240 : Go.Proofs.Lays.n240 Tryd.prog bdRen := {
  mixed := by kernel_rfl
  f240 := Tryd.func93.trans (congrArg some (by kernel_rfl))
  f276 := Tryd.func110.trans (congrArg some (by kernel_rfl))
  t0 := Tryd.underlying0
  a0 := Tryd.isAgg0
  z0 := Tryd.sizeOf0
  v0 := Tryd.zeroValue0
  t4 := Tryd.underlying4
  a4 := Tryd.isAgg4
  z4 := Tryd.sizeOf4
  v4 := Tryd.zeroValue4
  t9 := Tryd.underlying9
  a9 := Tryd.isAgg9
  z9 := Tryd.sizeOf9
  v9 := Tryd.zeroValue9
  t20 := Tryd.underlying20
  a20 := Tryd.isAgg20
  z20 := Tryd.sizeOf20
  v20 := Tryd.zeroValue20
  t70 := Tryd.underlying119
  a70 := Tryd.isAgg119
  z70 := Tryd.sizeOf119
  v70 := Tryd.zeroValue119
  t72 := Tryd.underlying121
  a72 := Tryd.isAgg121
  z72 := Tryd.sizeOf121
  v72 := Tryd.zeroValue121
  t164 := Tryd.underlying168
  a164 := Tryd.isAgg168
  z164 := Tryd.sizeOf168
  v164 := Tryd.zeroValue168 }
theorem bdLays169 : Go.Proofs.Lays.n169 Tryd.prog bdRen := {
  mixed := by kernel_rfl
  f169 := Tryd.func79.trans (congrArg some (by kernel_rfl))
  t0 := Tryd.underlying0
  a0 := Tryd.isAgg0
  z0 := Tryd.sizeOf0
  v0 := Tryd.zeroValue0
  t3 := Tryd.underlying3
  a3 := Tryd.isAgg3
  z3 := Tryd.sizeOf3
  v3 := Tryd.zeroValue3
  t9 := Tryd.underlying9
  a9 := Tryd.isAgg9
  z9 := Tryd.sizeOf9
  v9 := Tryd.zeroValue9
  t37 := Tryd.underlying30
  a37 := Tryd.isAgg30
  z37 := Tryd.sizeOf30
  v37 := Tryd.zeroValue30
  t70 := Tryd.underlying119
  a70 := Tryd.isAgg119
  z70 := Tryd.sizeOf119
  v70 := Tryd.zeroValue119
  t72 := Tryd.underlying121
  a72 := Tryd.isAgg121
  z72 := Tryd.sizeOf121
  v72 := Tryd.zeroValue121
  t127 := Tryd.underlying149
  a127 := Tryd.isAgg149
  z127 := Tryd.sizeOf149
  v127 := Tryd.zeroValue149 }
theorem bdExtra : Go.Proofs.Builder.Extra Tryd.prog bdRen := {
  sizeBuilder := by kernel_rfl
  liesBuilder := by kernel_rfl
  t5 := Tryd.underlying5
  a5 := Tryd.isAgg5
  z5 := Tryd.sizeOf5
  v5 := Tryd.zeroValue5
  infoByte := by kernel_rfl
  cellsByte := by kernel_rfl
  sizeByte := by kernel_rfl
  neB5 := by decide }
theorem bdCk : ∀ args H x e d y, bldCk 121 args H x = .ok e d y → OkL d → (∀ a ∈ args, ∀ l ∈ a.labs, l < x.nl) → WFh (Sx.look H) x.nl → gtop Tryd.prog ≤ x.nl → CallOK Tryd.prog 93 args H x.nl e y.nl := by
  have h := bldCk_ok bdLays240 bdExtra.toX72
  rw [show bdRen.t 72 = 121 by kernel_rfl, show bdRen.f 240 = 93 by kernel_rfl] at h
  exact h
theorem bdStr : ∀ args H x e d y, bldStr 121 5 args H x = .ok e d y → OkL d → (∀ a ∈ args, ∀ l ∈ a.labs, l < x.nl) → WFh (Sx.look H) x.nl → gtop Tryd.prog ≤ x.nl → CallOK Tryd.prog 79 args H x.nl e y.nl := by
  have h := bldStr_ok bdLays169 bdExtra
  rw [show bdRen.t 72 = 121 by kernel_rfl, show bdRen.t 5 = 5 by kernel_rfl, show bdRen.f 169 = 79 by kernel_rfl] at h
  exact h
end Go.Proofs.YtankmgnjkcgpaaaDoor

set_option linter.unusedVariables false
set_option maxRecDepth 100000
namespace Go.Proofs.YtankmgnjkcgpaaaDoor
open Go.Sx Go.Shelf
def itRen : Ren := ⟨fun | 129 => 121 | 283 => 106 | 285 => 108 | n => n, fun | 37 => 30 | 46 => 39 | 51 => 152 | 53 => 155 | n => n, fun | n => n⟩
theorem itLays129 : Go.Proofs.Lays.n129 Tryd.prog itRen := {
  mixed := by kernel_rfl
  f129 := Tryd.func121.trans (congrArg some (by kernel_rfl))
  t3 := Tryd.underlying3
  a3 := Tryd.isAgg3
  z3 := Tryd.sizeOf3
  v3 := Tryd.zeroValue3
  t4 := Tryd.underlying4
  a4 := Tryd.isAgg4
  z4 := Tryd.sizeOf4
  v4 := Tryd.zeroValue4
  t5 := Tryd.underlying5
  a5 := Tryd.isAgg5
  z5 := Tryd.sizeOf5
  v5 := Tryd.zeroValue5
  t9 := Tryd.underlying9
  a9 := Tryd.isAgg9
  z9 := Tryd.sizeOf9
  v9 := Tryd.zeroValue9
  t46 := Tryd.underlying39
  a46 := Tryd.isAgg39
  z46 := Tryd.sizeOf39
  v46 := Tryd.zeroValue39
  t53 := Tryd.underlying155
  a53 := Tryd.isAgg155
  z53 := Tryd.sizeOf155
  v53 := Tryd.zeroValue155 }
theorem itLays283 : Go.Proofs.Lays.n283 Tryd.prog itRen := {
  mixed := by kernel_rfl
  f283 := Tryd.func106.trans (congrArg some (by kernel_rfl))
  t3 := Tryd.underlying3
  a3 := Tryd.isAgg3
  z3 := Tryd.sizeOf3
  v3 := Tryd.zeroValue3
  t4 := Tryd.underlying4
  a4 := Tryd.isAgg4
  z4 := Tryd.sizeOf4
  v4 := Tryd.zeroValue4
  t9 := Tryd.underlying9
  a9 := Tryd.isAgg9
  z9 := Tryd.sizeOf9
  v9 := Tryd.zeroValue9 }
theorem itLays285 : Go.Proofs.Lays.n285 Tryd.prog itRen := {
  mixed := by kernel_rfl
  f285 := Tryd.func108.trans (congrArg some (by kernel_rfl))
  t0 := Tryd.underlying0
  a0 := Tryd.isAgg0
  z0 := Tryd.sizeOf0
  v0 := Tryd.zeroValue0
  t3 := Tryd.underlying3
  a3 := Tryd.isAgg3
  z3 := Tryd.sizeOf3
  v3 := Tryd.zeroValue3
  t4 := Tryd.underlying4
  a4 := Tryd.isAgg4
  z4 := Tryd.sizeOf4
  v4 := Tryd.zeroValue4
  t5 := Tryd.underlying5
  a5 := Tryd.isAgg5
  z5 := Tryd.sizeOf5
  v5 := Tryd.zeroValue5
  t9 := Tryd.underlying9
  a9 := Tryd.isAgg9
  z9 := Tryd.sizeOf9
  v9 := Tryd.zeroValue9
  t37 := Tryd.underlying30
  a37 := Tryd.isAgg30
  z37 := Tryd.sizeOf30
  v37 := Tryd.zeroValue30
  t51 := Tryd.underlying152
  a51 := Tryd.isAgg152
  z51 := Tryd.sizeOf152
  v51 := Tryd.zeroValue152
  t53 := Tryd.underlying155
  a53 := Tryd.isAgg155
  z53 := Tryd.sizeOf155
  v53 := Tryd.zeroValue155 }
theorem lenOK : ∀ args H x e d y, lenB args H x = .ok e d y → OkL d → (∀ a ∈ args, ∀ l ∈ a.labs, l < x.nl) → WFh (Sx.look H) x.nl → gtop Tryd.prog ≤ x.nl → CallOK Tryd.prog 121 args H x.nl e y.nl := by
  have h := lenB_ok itLays129
  rw [show itRen.f 129 = 121 by kernel_rfl] at h
  exact h
theorem smlOK : ∀ args H x e d y, smlB args H x = .ok e d y → OkL d → (∀ a ∈ args, ∀ l ∈ a.labs, l < x.nl) → WFh (Sx.look H) x.nl → gtop Tryd.prog ≤ x.nl → CallOK Tryd.prog 106 args H x.nl e y.nl := by
  have h := smlB_ok itLays283
  rw [show itRen.f 283 = 106 by kernel_rfl] at h
  exact h
theorem fmtOK : ∀ args H x e d y, fmtB args H x = .ok e d y → OkL d → (∀ a ∈ args, ∀ l ∈ a.labs, l < x.nl) → WFh (Sx.look H) x.nl → gtop Tryd.prog ≤ x.nl → CallOK Tryd.prog 108 args H x.nl e y.nl := by
  have h := fmtB_ok itLays285
  rw [show itRen.f 285 = 108 by kernel_rfl] at h
  exact h
end Go.Proofs.YtankmgnjkcgpaaaDoor

