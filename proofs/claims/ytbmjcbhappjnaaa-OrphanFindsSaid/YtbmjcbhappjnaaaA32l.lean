/- Printed walks: A32w. -/
import Derived.Test.YtbmjcbhappjnaaaA32m
import Derived.Test.YtbmjcbhappjnaaaA32p
import Derived.Test.YtbmjcbhappjnaaaA18a
import Derived.Test.YtbmjcbhappjnaaaA32a
set_option linter.unusedVariables false
set_option linter.unusedSimpArgs false
namespace Go.Mine
open Go.RowKit
end Go.Mine
/- Printed walks: A32r. -/
set_option linter.unusedVariables false
set_option linter.unusedSimpArgs false
namespace Go.Mine
open Go.RowKit
end Go.Mine
/- Printed walks: A32l. -/
set_option linter.unusedVariables false
set_option linter.unusedSimpArgs false
namespace Go.Mine
open Go.RowKit
end Go.Mine
