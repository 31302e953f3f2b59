/- Printed walks: Apat. -/
import Derived.Test.YtddohdppmejjoaaAmk
set_option linter.unusedVariables false
set_option linter.unusedSimpArgs false
namespace Go.Mine
open Go.RowKit
end Go.Mine
