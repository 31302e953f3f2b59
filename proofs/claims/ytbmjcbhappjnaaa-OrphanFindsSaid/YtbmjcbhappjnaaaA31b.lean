/- Printed walks: A31a. -/
import Derived.Test.YtbmjcbhappjnaaaAmk
import Derived.Test.YtbmjcbhappjnaaaA31u
set_option linter.unusedVariables false
set_option linter.unusedSimpArgs false
namespace Go.Mine
open Go.RowKit
end Go.Mine
/- Printed walks: A31b. -/
set_option linter.unusedVariables false
set_option linter.unusedSimpArgs false
namespace Go.Mine
open Go.RowKit
end Go.Mine
