/- Printed walks: A31e. -/
import Derived.Test.YtddohdppmejjoaaA31d
set_option linter.unusedVariables false
set_option linter.unusedSimpArgs false
namespace Go.Mine
open Go.RowKit
end Go.Mine
