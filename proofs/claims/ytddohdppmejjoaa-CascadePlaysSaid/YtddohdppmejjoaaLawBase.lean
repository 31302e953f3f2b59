/- What every law's row of this seat needs. -/
import Derived.Test.YtddohdppmejjoaaTypes
import Derived.Test.YtddohdppmejjoaaRows
set_option linter.unusedSimpArgs false
namespace Go.Proofs.Ytddohdppmejjoaa
open Go.ChangeShapes Go.WideShapes Go.ChangeAt Go.RowKit Go.Mine
theorem lawOwn : ownKnob Try.prog.godebug = none := by kernel_rfl
theorem lawLaid : laidOutB Try.prog = true := by kernel_rfl
end Go.Proofs.Ytddohdppmejjoaa
