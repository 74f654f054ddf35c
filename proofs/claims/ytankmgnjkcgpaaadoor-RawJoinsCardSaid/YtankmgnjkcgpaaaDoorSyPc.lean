/- The engine, part 39: what is known of the numbers in an argument's row. -/
import Derived.Test.YtankmgnjkcgpaaaDoorSyPb
set_option linter.unusedSimpArgs false
set_option linter.unusedVariables false
namespace Go.Sx

end Go.Sx
