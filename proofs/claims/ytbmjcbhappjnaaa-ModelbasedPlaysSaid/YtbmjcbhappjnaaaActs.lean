/- The acts of a script, in memory. -/
import Derived.Test.YtbmjcbhappjnaaaData
set_option linter.unusedSimpArgs false
namespace Go.Mine
open Go.RowKit

section
variable {w : World} {S : Nat → Prop} {b o : Nat} {a : Deed}
def Deed.cells (a : Deed) : List Value := [.int .i64 a.kind, .int .i64 a.proc, .int .i64 a.other]
theorem deedR {cs : List Value} : deedTy.R w S cs a ↔ cs = a.cells := by
  constructor
  · rintro ⟨c1, c2, rfl, rfl, c3, c4, rfl, rfl, rfl⟩; rfl
  · rintro rfl; exact ⟨_, _, rfl, rfl, _, _, rfl, rfl, rfl⟩
theorem ActL (h : El deedTy w S b o a) : CellsAt w b o [.int .i64 a.kind, .int .i64 a.proc, .int .i64 a.other] := by
  obtain ⟨cs, h1, h2⟩ := h.cells
  rw [deedR.1 h2] at h1; exact h1
end

end Go.Mine
