/- How the arguments of laws read: choices. -/
import Derived.Test.YtddohdppmejjoaaLawBase
set_option linter.unusedSimpArgs false
namespace Go.Proofs.Ytddohdppmejjoaa
open Go.ChangeShapes Go.WideShapes Go.ChangeAt Go.RowKit Go.Mine
theorem o_u8 : Opens Try.prog 5 Ty.u8 U8 := Opens.u8 Try.underlying5 (by kernel_rfl)
theorem o_int : Opens Try.prog 3 Ty.int I64 := Opens.int Try.underlying3 (by kernel_rfl)
end Go.Proofs.Ytddohdppmejjoaa
