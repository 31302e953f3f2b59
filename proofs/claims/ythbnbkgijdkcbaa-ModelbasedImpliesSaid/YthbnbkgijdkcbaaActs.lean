/- The acts of a script, in memory. -/
import Derived.Test.YthbnbkgijdkcbaaData
set_option linter.unusedSimpArgs false
namespace Go.Mine
open Go.RowKit

structure Deed where
  kind : Int
  proc : Int
  other : Int
deriving DecidableEq
instance : Inhabited Deed := ⟨⟨0, 0, 0⟩⟩
def deedTy : Ty Deed := (Ty.int.pair (Ty.int.pair Ty.int)).via fun a => (a.kind, a.proc, a.other)
section
variable {w : World} {S : Nat → Prop} {b o : Nat} {a : Deed}
theorem deedVia (h : El deedTy w S b o a) : El (Ty.int.pair (Ty.int.pair Ty.int)) w S b o (a.kind, a.proc, a.other) := ⟨h.mem, h.lt, h.cells⟩
theorem ActF0 (h : El deedTy w S b o a) : El Ty.int w S b (o + 0) a.kind := (deedVia h).fst
theorem ActF1 (h : El deedTy w S b o a) : El Ty.int w S b (o + 1) a.proc := (deedVia h).snd.fst
theorem ActF2 (h : El deedTy w S b o a) : El Ty.int w S b (o + 2) a.other := (deedVia h).snd.snd
def Deed.cells (a : Deed) : List Value := [.int .i64 a.kind, .int .i64 a.proc, .int .i64 a.other]
theorem deedR {cs : List Value} : deedTy.R w S cs a ↔ cs = a.cells := by
  constructor
  · rintro ⟨c1, c2, rfl, rfl, c3, c4, rfl, rfl, rfl⟩; rfl
  · rintro rfl; exact ⟨_, _, rfl, rfl, _, _, rfl, rfl, rfl⟩
theorem ActL (h : El deedTy w S b o a) : CellsAt w b o [.int .i64 a.kind, .int .i64 a.proc, .int .i64 a.other] := by
  obtain ⟨cs, h1, h2⟩ := h.cells
  rw [deedR.1 h2] at h1; exact h1
end

theorem deedR' : ∀ w S cs x, deedTy.R w S cs x ↔ cs = x.cells := fun _ _ _ _ => deedR
end Go.Mine
