/- How the arguments of laws read: acts. -/
import Derived.Test.YtbmjcbhappjnaaaOpens
import Derived.Test.YtbmjcbhappjnaaaActs
set_option linter.unusedSimpArgs false
namespace Go.Proofs.Ytbmjcbhappjnaaa
open Go.ChangeShapes Go.WideShapes Go.ChangeAt Go.RowKit Go.Mine
theorem o_act : Opens Try.prog 80 deedTy (fun a => I64 a.kind ∧ I64 a.proc ∧ I64 a.other) :=
  (Opens.via (T := Ty.int.pair (Ty.int.pair Ty.int)) (f := fun a : Deed => (a.kind, a.proc, a.other)) (g := fun p => (⟨p.1, p.2.1, p.2.2⟩ : Deed)) (Opens.struct Try.underlying80 (by kernel_rfl) (OpensF.cons rfl o_int (OpensF.cons rfl o_int (OpensF.one rfl o_int)))) (fun _ => rfl)).weak fun _ h => h
end Go.Proofs.Ytbmjcbhappjnaaa
