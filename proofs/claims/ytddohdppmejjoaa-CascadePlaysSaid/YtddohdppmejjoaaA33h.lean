/- Printed walks: A33h. -/
import Derived.Test.YtddohdppmejjoaaA33g
set_option linter.unusedVariables false
set_option linter.unusedSimpArgs false
namespace Go.Mine
open Go.RowKit
end Go.Mine
namespace Go.Proofs.Ytddohdppmejjoaa
open Go.RowKit Go.Mine
attribute [local irreducible] eseq ewp iter
end Go.Proofs.Ytddohdppmejjoaa
