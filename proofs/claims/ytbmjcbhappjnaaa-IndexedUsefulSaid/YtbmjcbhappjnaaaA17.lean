/- Printed walks: A17. -/
import Derived.Test.YtbmjcbhappjnaaaA16
set_option linter.unusedVariables false
set_option linter.unusedSimpArgs false
namespace Go.Mine
open Go.RowKit
end Go.Mine
namespace Go.Proofs.Ytbmjcbhappjnaaa
open Go.RowKit Go.Mine
attribute [local irreducible] eseq ewp iter
instance : TKey Try.prog 127 Pt.key_ where
  eq a b := by
    rw [show decide (a = b) = (((a.proc == b.proc) && ((a.index == b.index) && true))) from by obtain ⟨_, _⟩ := a; obtain ⟨_, _⟩ := b; rw [Bool.eq_iff_iff]; simp]
    exact eqT127
  chk e a w := by
    have h0 : PartV Try.prog 3 #[.int .i64 a.proc, .int .i64 a.index] 0 (.int .i64 a.proc) := PartV.cell rfl
    have h1 : PartV Try.prog 3 #[.int .i64 a.proc, .int .i64 a.index] 1 (.int .i64 a.index) := PartV.cell rfl
    exact chk2 (n := 9998) Try.underlying127 rfl rfl h0 h1 Try.underlying3 Try.underlying3
  now := ⟨_, Try.underlying127, fun a b => rfl⟩
  bits a := by simp [Pt.key_, Pt.cells_, Instr.sameBits]
end Go.Proofs.Ytbmjcbhappjnaaa
