/- Plain data of the patterns, and how it lies in memory. -/
import Derived.Test.YtbmjcbhappjnaaaTypes
import Derived.Test.YtbmjcbhappjnaaaAcdat
set_option linter.unusedSimpArgs false
namespace Go.Mine
open Go.RowKit

section
variable {w : World} {S : Nat → Prop} {b o : Nat} {a : Arc}
theorem arcVia (h : El arcTy w S b o a) : El (Ty.int.pair (Ty.int.pair (Ty.int.pair Ty.int))) w S b o (a.fr, a.ix, a.to, a.rcv) := ⟨h.mem, h.lt, h.cells⟩
theorem ArcF2 (h : El arcTy w S b o a) : El Ty.int w S b (o + 2) a.to := (arcVia h).snd.snd.fst
def Arc.cells (a : Arc) : List Value := [.int .i64 a.fr, .int .i64 a.ix, .int .i64 a.to, .int .i64 a.rcv]
theorem arcR {cs : List Value} : arcTy.R w S cs a ↔ cs = a.cells := by
  constructor
  · rintro ⟨c1, c2, rfl, rfl, c3, c4, rfl, rfl, c5, c6, rfl, rfl, rfl⟩; rfl
  · rintro rfl; exact ⟨_, _, rfl, rfl, _, _, rfl, rfl, _, _, rfl, rfl, rfl⟩
end
end Go.Mine
