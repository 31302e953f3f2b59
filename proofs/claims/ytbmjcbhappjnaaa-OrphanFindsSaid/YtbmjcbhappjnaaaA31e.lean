/- Printed walks: A31e. -/
import Derived.Test.YtbmjcbhappjnaaaA31d
set_option linter.unusedVariables false
set_option linter.unusedSimpArgs false
namespace Go.Mine
open Go.RowKit
end Go.Mine
