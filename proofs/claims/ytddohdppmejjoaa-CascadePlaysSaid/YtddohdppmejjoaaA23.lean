/- Printed walks: A23. -/
import Derived.Test.YtddohdppmejjoaaTypes
import Derived.Test.YtddohdppmejjoaaAcdat
set_option linter.unusedVariables false
set_option linter.unusedSimpArgs false
namespace Go.Mine
open Go.RowKit
end Go.Mine
namespace Go.Proofs.Ytddohdppmejjoaa
open Go.RowKit Go.Mine
attribute [local irreducible] eseq ewp iter
end Go.Proofs.Ytddohdppmejjoaa
