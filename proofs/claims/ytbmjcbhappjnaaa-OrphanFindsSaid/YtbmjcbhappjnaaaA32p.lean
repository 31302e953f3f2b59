/- Printed walks: A32p. -/
import Derived.Test.YtbmjcbhappjnaaaA32a
set_option linter.unusedVariables false
set_option linter.unusedSimpArgs false
namespace Go.Mine
open Go.RowKit
end Go.Mine
