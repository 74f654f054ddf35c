/- NawsBack: the walk. -/
import Derived.Test.YtdmkdmaofgjelaaDoorNbC
set_option linter.unusedSimpArgs false
set_option linter.unusedVariables false
set_option maxRecDepth 100000
namespace Go.Proofs.YtdmkdmaofgjelaaDoor
open Go.Sx

def pr (a b : Int) : SV := .agg (.tc (.vi .i64 fun _ => a) (.tc (.vi .i64 fun _ => b) .t0))
def row4 (e0 e1 e2 e3 : Int) : Ix → Int := fun is => match is with | [0] => e0 | [1] => e1 | [2] => e2 | _ => e3
def ar (e0 e1 e2 e3 : Int) : SV := .agg (.ta 4 (.vi .u8 (row4 e0 e1 e2 e3)))
def pk (x y : Int) : Int := ior .i64 (ishl .i64 (IntKind.i64.wrap x) 8) (IntKind.i64.wrap y)
def hiB (x : Int) : Int := IntKind.u8.wrap (ishr .i64 x 8)
def loB (x : Int) : Int := IntKind.u8.wrap x
def four (u0 u1 u2 u3 : Int) : Ix → Int := upd (upd (upd (upd (fun _ => 0) [0] u0) [1] u1) [2] u2) [3] u3
def otherB (e0 e1 e2 e3 : Int) : Bool := !(bytesOf (four (hiB (pk e0 e1)) (loB (pk e0 e1)) (hiB (pk e2 e3)) (loB (pk e2 e3))) [] 0 4 == bytesOf (row4 e0 e1 e2 e3) [] 0 4)
def fits (a b c d : Int) : Bool := fitL a c == fitL c a && (fitL b d == fitL d b && true)
def back (a b : Int) : Bool := pk (four (hiB a) (loB a) (hiB b) (loB b) [0]) (four (hiB a) (loB a) (hiB b) (loB b) [1]) == a && (pk (four (hiB a) (loB a) (hiB b) (loB b) [2]) (four (hiB a) (loB a) (hiB b) (loB b) [3]) == b && true)
def selfs (a b : Int) : Bool := fitL a a == a && (fitL b b == b && true)
def zeros (a b : Int) : Bool := fitL a 0 == a && (fitL b 0 == b && true)

theorem way1 (a b c d e0 e1 e2 e3 : Int) : isRet (evFn Tryd.prog sums 400 3 Tryd.f3 [pr a b, pr c d, ar e0 e1 e2 e3] [] [.t, .f, .t, .t, .t, .t, .f, .f, .f, .t, .t, .t, .t, .t, .t, .t, .t, .t, .t, .s true, .s false, .t, .t, .f, .f, .t, .t, .s false, .s false, .s true, .s false, .s true, .s false, .t, .t, .f, .f, .t, .t, .t, .t, .t, .t, .t, .t, .t, .t, .t, .t, .t, .t, .t, .t, .s true, .s true] 200) (fun v d => OkL d ∧ v.isJ = false ∧ ∀ ρ, v.val ρ = .bool true) =
    (OkL [(rightB (pk e0 e1), true), (!rightB (pk e2 e3), false), (otherB e0 e1 e2 e3, false), (!fits a b c d, false), (rightB a, true), (!rightB b, false), (rightB a, true), (!rightB b, false), (back a b, true), (selfs a b, true)] ∧
      false = false ∧ ∀ ρ : Con, Value.bool (zeros a b) = .bool true) := by kernel_rfl

theorem way2 (a b c d e0 e1 e2 e3 : Int) : isRet (evFn Tryd.prog sums 400 3 Tryd.f3 [pr a b, pr c d, ar e0 e1 e2 e3] [] [.t, .f, .t, .t, .t, .t, .f, .f, .f, .t, .t, .t, .t, .t, .t, .t, .t, .t, .t, .s true, .s false, .t, .t, .f, .f, .t, .t, .s false, .s false, .s true, .s true] 200) (fun v d => OkL d ∧ v.isJ = false ∧ ∀ ρ, v.val ρ = .bool true) =
    (OkL [(rightB (pk e0 e1), true), (!rightB (pk e2 e3), false), (otherB e0 e1 e2 e3, false), (!fits a b c d, false), (rightB a, true), (!rightB b, true)] ∧
      false = false ∧ ∀ ρ : Con, Value.bool (fits a b c d) = .bool true) := by kernel_rfl

theorem way3 (a b c d e0 e1 e2 e3 : Int) : isRet (evFn Tryd.prog sums 400 3 Tryd.f3 [pr a b, pr c d, ar e0 e1 e2 e3] [] [.t, .f, .t, .t, .t, .t, .f, .f, .f, .t, .t, .t, .t, .t, .t, .t, .t, .t, .t, .s true, .s false, .t, .t, .f, .f, .t, .t, .s false, .s false, .s false, .t] 200) (fun v d => OkL d ∧ v.isJ = false ∧ ∀ ρ, v.val ρ = .bool true) =
    (OkL [(rightB (pk e0 e1), true), (!rightB (pk e2 e3), false), (otherB e0 e1 e2 e3, false), (!fits a b c d, false), (rightB a, false)] ∧
      false = false ∧ ∀ ρ : Con, Value.bool (fits a b c d) = .bool true) := by kernel_rfl

end Go.Proofs.YtdmkdmaofgjelaaDoor
