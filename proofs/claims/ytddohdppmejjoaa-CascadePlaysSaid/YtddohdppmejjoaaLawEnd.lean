/- The end of a law's proof (for seats without Opens32). -/
import Derived.Test.YtddohdppmejjoaaOpens
set_option linter.unusedSimpArgs false
namespace Go.Proofs.Ytddohdppmejjoaa
open Go.ChangeShapes Go.WideShapes Go.ChangeAt Go.RowKit Go.Mine
theorem lawEnd {f : Nat} {args : List Value} {w : World} (h : Gives Try.prog f args w fun u w1 => ∃ R1 : Nat → Prop, u = .bool true ∧ Sep (fun _ => False) (fun k => k < w.heap.size) R1 w w1 []) : Gives Try.prog f args w fun v w' => v = .bool true ∧ Below w.heap.size w w' :=
  h.mono fun _ _ ⟨_, e, hS⟩ => ⟨e, hS.stepBF⟩
end Go.Proofs.Ytddohdppmejjoaa
