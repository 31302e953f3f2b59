/- Printed walks: A32a. -/
import Derived.Test.YtddohdppmejjoaaAmk
import Derived.Test.YtddohdppmejjoaaA31u
import Derived.Test.YtddohdppmejjoaaA23
set_option linter.unusedVariables false
set_option linter.unusedSimpArgs false
namespace Go.Mine
open Go.RowKit
end Go.Mine
namespace Go.Proofs.Ytddohdppmejjoaa
open Go.RowKit Go.Mine
attribute [local irreducible] eseq ewp iter
end Go.Proofs.Ytddohdppmejjoaa
