/- Printed walks: A18. -/
import Derived.Test.YtljpjekifbamfaaA18a
set_option linter.unusedVariables false
set_option linter.unusedSimpArgs false
namespace Go.Mine
open Go.RowKit
end Go.Mine
