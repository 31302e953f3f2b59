/- Printed walks: A32m. -/
import Derived.Test.YtddohdppmejjoaaA32a
import Derived.Test.YtddohdppmejjoaaApat
import Derived.Test.YtddohdppmejjoaaDel
set_option linter.unusedVariables false
set_option linter.unusedSimpArgs false
namespace Go.Mine
open Go.RowKit
end Go.Mine
