/- The engine: short words for printed steps. -/
import Derived.Test.YtankmgnjkcgpaaaDoorSyPl
set_option linter.unusedSimpArgs false
set_option linter.unusedVariables false
namespace Go.Sx

end Go.Sx
