/- What every law's row of this seat needs. -/
import Derived.Test.YtbmjcbhappjnaaaTypes
import Derived.Test.YtbmjcbhappjnaaaRows
set_option linter.unusedSimpArgs false
namespace Go.Proofs.Ytbmjcbhappjnaaa
open Go.ChangeShapes Go.WideShapes Go.ChangeAt Go.RowKit Go.Mine
theorem lawOwn : ownKnob Try.prog.godebug = none := by kernel_rfl
theorem lawLaid : laidOutB Try.prog = true := by kernel_rfl
end Go.Proofs.Ytbmjcbhappjnaaa
/- How the arguments of laws read: choices. -/
set_option linter.unusedSimpArgs false
namespace Go.Proofs.Ytbmjcbhappjnaaa
open Go.ChangeShapes Go.WideShapes Go.ChangeAt Go.RowKit Go.Mine
theorem o_u8 : Opens Try.prog 5 Ty.u8 U8 := Opens.u8 Try.underlying5 (by kernel_rfl)
theorem o_int : Opens Try.prog 3 Ty.int I64 := Opens.int Try.underlying3 (by kernel_rfl)
end Go.Proofs.Ytbmjcbhappjnaaa
