/- Printed walks: A32r. -/
import Derived.Test.YtddohdppmejjoaaA32m
set_option linter.unusedVariables false
set_option linter.unusedSimpArgs false
namespace Go.Mine
open Go.RowKit
end Go.Mine
