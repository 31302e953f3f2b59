/- Plain data of the patterns, and how it lies in memory. -/
import Derived.Test.YtbmjcbhappjnaaaTypes
import Derived.Test.YtbmjcbhappjnaaaAcdat
set_option linter.unusedSimpArgs false
namespace Go.Mine
open Go.RowKit

section
variable {w : World} {S : Nat → Prop} {b o : Nat} {a : Arc}
theorem arcVia (h : El arcTy w S b o a) : El (Ty.int.pair (Ty.int.pair (Ty.int.pair Ty.int))) w S b o (a.fr, a.ix, a.to, a.rcv) := ⟨h.mem, h.lt, h.cells⟩
theorem ArcF0 (h : El arcTy w S b o a) : El Ty.int w S b (o + 0) a.fr := (arcVia h).fst
theorem ArcF1 (h : El arcTy w S b o a) : El Ty.int w S b (o + 1) a.ix := (arcVia h).snd.fst
theorem ArcF2 (h : El arcTy w S b o a) : El Ty.int w S b (o + 2) a.to := (arcVia h).snd.snd.fst
theorem ArcF3 (h : El arcTy w S b o a) : El Ty.int w S b (o + 3) a.rcv := (arcVia h).snd.snd.snd
def Arc.cells (a : Arc) : List Value := [.int .i64 a.fr, .int .i64 a.ix, .int .i64 a.to, .int .i64 a.rcv]
theorem arcR {cs : List Value} : arcTy.R w S cs a ↔ cs = a.cells := by
  constructor
  · rintro ⟨c1, c2, rfl, rfl, c3, c4, rfl, rfl, c5, c6, rfl, rfl, rfl⟩; rfl
  · rintro rfl; exact ⟨_, _, rfl, rfl, _, _, rfl, rfl, _, _, rfl, rfl, rfl⟩
theorem ArcL (h : El arcTy w S b o a) : CellsAt w b o [.int .i64 a.fr, .int .i64 a.ix, .int .i64 a.to, .int .i64 a.rcv] := by
  obtain ⟨cs, h1, h2⟩ := h.cells
  rw [arcR.1 h2] at h1; exact h1
end
def maxN : Nat := 1000000000
end Go.Mine
/- The acts of a script, in memory. -/
set_option linter.unusedSimpArgs false
namespace Go.Mine
open Go.RowKit

section
variable {w : World} {S : Nat → Prop} {b o : Nat} {a : Deed}
theorem deedVia (h : El deedTy w S b o a) : El (Ty.int.pair (Ty.int.pair Ty.int)) w S b o (a.kind, a.proc, a.other) := ⟨h.mem, h.lt, h.cells⟩
theorem ActF0 (h : El deedTy w S b o a) : El Ty.int w S b (o + 0) a.kind := (deedVia h).fst
theorem ActF1 (h : El deedTy w S b o a) : El Ty.int w S b (o + 1) a.proc := (deedVia h).snd.fst
theorem ActF2 (h : El deedTy w S b o a) : El Ty.int w S b (o + 2) a.other := (deedVia h).snd.snd
def Deed.cells (a : Deed) : List Value := [.int .i64 a.kind, .int .i64 a.proc, .int .i64 a.other]
theorem deedR {cs : List Value} : deedTy.R w S cs a ↔ cs = a.cells := by
  constructor
  · rintro ⟨c1, c2, rfl, rfl, c3, c4, rfl, rfl, rfl⟩; rfl
  · rintro rfl; exact ⟨_, _, rfl, rfl, _, _, rfl, rfl, rfl⟩
theorem ActL (h : El deedTy w S b o a) : CellsAt w b o [.int .i64 a.kind, .int .i64 a.proc, .int .i64 a.other] := by
  obtain ⟨cs, h1, h2⟩ := h.cells
  rw [deedR.1 h2] at h1; exact h1
end

theorem deedR' : ∀ w S cs x, deedTy.R w S cs x ↔ cs = x.cells := fun _ _ _ _ => deedR
end Go.Mine
