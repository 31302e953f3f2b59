/- Plain: the references' comparisons of lists, patterns and histories. -/
import Derived.Test.YtddohdppmejjoaaA23
import Derived.Test.YtddohdppmejjoaaPl
set_option linter.unusedSimpArgs false
set_option linter.unusedVariables false
namespace Go.Mine
open Go.RowKit
end Go.Mine
