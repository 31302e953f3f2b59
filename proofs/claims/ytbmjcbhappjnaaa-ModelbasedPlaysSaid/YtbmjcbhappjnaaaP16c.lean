/- Plain: which events can come next, by the reference. -/
import Derived.Test.YtbmjcbhappjnaaaA16r
import Derived.Test.YtbmjcbhappjnaaaP17a
import Derived.Test.YtbmjcbhappjnaaaPl
import Derived.Test.YtbmjcbhappjnaaaA16c
set_option linter.unusedSimpArgs false
set_option linter.unusedVariables false
namespace Go.Mine
open Go.RowKit
/-! the order of the events -/
end Go.Mine
/- Plain: sums of lists. -/
set_option linter.unusedSimpArgs false
set_option linter.unusedVariables false
namespace Go.Mine
open Go.RowKit
end Go.Mine
/- Plain: the reference's check of a pattern. -/
set_option linter.unusedSimpArgs false
set_option linter.unusedVariables false
namespace Go.Mine
open Go.RowKit
end Go.Mine
