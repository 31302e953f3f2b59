/- Printed walks: A18a. -/
import Derived.Test.YtbmjcbhappjnaaaA16
import Derived.Test.YtbmjcbhappjnaaaPpat
set_option linter.unusedVariables false
set_option linter.unusedSimpArgs false
namespace Go.Mine
open Go.RowKit
end Go.Mine
namespace Go.Proofs.Ytbmjcbhappjnaaa
open Go.RowKit Go.Mine
attribute [local irreducible] eseq ewp iter
end Go.Proofs.Ytbmjcbhappjnaaa
/- pattern.Check, plain: a good pattern has no error. -/
set_option linter.unusedSimpArgs false
set_option linter.unusedVariables false
namespace Go.Mine
open Go.RowKit
end Go.Mine
