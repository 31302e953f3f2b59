/- Printed walks: A32w. -/
import Derived.Test.YtbmjcbhappjnaaaA32m
import Derived.Test.YtbmjcbhappjnaaaA32p
import Derived.Test.YtbmjcbhappjnaaaA18a
set_option linter.unusedVariables false
set_option linter.unusedSimpArgs false
namespace Go.Mine
open Go.RowKit
end Go.Mine
