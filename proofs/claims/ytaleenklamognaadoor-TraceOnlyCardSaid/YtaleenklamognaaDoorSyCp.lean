/- The engine: short words for printed steps. -/
import Derived.Test.YtaleenklamognaaDoorSyPl
set_option linter.unusedSimpArgs false
set_option linter.unusedVariables false
namespace Go.Sx

def hI : Nat → Nat → List Hint
  | 0, _ => []
  | k + 1, n => (match n % 4 with
    | 0 => .s false
    | 1 => .s true
    | 2 => .f
    | _ => .t) :: hI k (n / 4)

end Go.Sx
