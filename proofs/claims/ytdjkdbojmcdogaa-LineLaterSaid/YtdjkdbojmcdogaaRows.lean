/-
  No cell of these rows narrows 'for every input' (looked for: loops, veiled, ifaces, maps, wideKeys, modest, calm, conditions, laid).
  DERIVED. THE GIVEN ROWS OF THIS SEAT. 8 by the template 'for every input the law returns true; each argument reads behind the call as it read before'; 0 by the template 'total and deterministic' (their statements: YtdjkdbojmcdogaaTotals.lean).
  GIVEN WITH THE SEED: the statements are not yours to turn. If you find one false, say at which input.
  Laid BY PROGRAM, IN A SANDBOX (cutbox-rows.mjs): the forced cells as the released guide's own fill.sh prints them over the translation cb178ec36e56a3b7… (all of the seat's roots in one cut). By AI agents, Wed Nov 11 2026. No macro, syntax, notation, axiom, sorry.
-/
import Derived.Test.YtdjkdbojmcdogaaChecked
import GoSem.Claim
import GoSem.ClaimJoined
import GoSem.ClaimMapViews
import Derived.JoinedTies
import Derived.KernelRfl
namespace Go.Proofs.Ytdjkdbojmcdogaa
/- THE CELL 'sum', in the pinned program and in every row, IS THE sha256 OF THE DUMP (.gsa) THAT YtdjkdbojmcdogaaProg.lean LOADS. Nothing in Lean hashes anything: it is a label: what it is worth is what the hold of that sum in a sandbox is worth. -/
noncomputable def Try.pinned : Pinned := { name := "ytdjkdbojmcdogaa", sum := "cb178ec36e56a3b71b9f802790b227531b926c1e477a1f758e137dacb60e54dd", checked := Try.checked }
namespace Rows
def none {H : Type} : Left H := { results := [], args := [] }

/-- 'rollbacknetlaw22.LineSets': WHATEVER THE INPUT: true; the input reads as it did. -/
def lineSetsSpec : ChangeSpec := { name := "lineSets", fn := fun _ => fun
  | [d1, d2] => { results := [.lit (.bool true)], args := [d1, d2] }
  | _ => none }
def lineSetsRow : OpenClaim := { program := "ytdjkdbojmcdogaa", sum := "cb178ec36e56a3b71b9f802790b227531b926c1e477a1f758e137dacb60e54dd", func := "rollbacknet/rollbacknetlaw22.LineSets", spec := "lineSets", unfollowed := true, recurses := true, apart := false }
def LineSetsSaid : Prop := lineSetsRow.holds Try.pinned (OpenSpec.ofChange lineSetsSpec)

/-- ITS FALSE NEIGHBOUR: 'it returns false'. Refute it at one input. -/
def lineSetsWrong : ChangeSpec := { name := "lineSets", fn := fun _ => fun
  | [d1, d2] => { results := [.lit (.bool false)], args := [d1, d2] }
  | _ => none }
def LineSetsWrongFalsely : Prop := lineSetsRow.holds Try.pinned (OpenSpec.ofChange lineSetsWrong)

/-- 'rollbacknetlaw22.LineMore': WHATEVER THE INPUT: true; the input reads as it did. -/
def lineMoreSpec : ChangeSpec := { name := "lineMore", fn := fun _ => fun
  | [d1, d2, d3] => { results := [.lit (.bool true)], args := [d1, d2, d3] }
  | _ => none }
def lineMoreRow : OpenClaim := { program := "ytdjkdbojmcdogaa", sum := "cb178ec36e56a3b71b9f802790b227531b926c1e477a1f758e137dacb60e54dd", func := "rollbacknet/rollbacknetlaw22.LineMore", spec := "lineMore", unfollowed := true, recurses := true, apart := false }
def LineMoreSaid : Prop := lineMoreRow.holds Try.pinned (OpenSpec.ofChange lineMoreSpec)

/-- ITS FALSE NEIGHBOUR: 'it returns false'. Refute it at one input. -/
def lineMoreWrong : ChangeSpec := { name := "lineMore", fn := fun _ => fun
  | [d1, d2, d3] => { results := [.lit (.bool false)], args := [d1, d2, d3] }
  | _ => none }
def LineMoreWrongFalsely : Prop := lineMoreRow.holds Try.pinned (OpenSpec.ofChange lineMoreWrong)

/-- 'rollbacknetlaw22.LineFails': WHATEVER THE INPUT: true; the input reads as it did. -/
def lineFailsSpec : ChangeSpec := { name := "lineFails", fn := fun _ => fun
  | [d1, d2, d3] => { results := [.lit (.bool true)], args := [d1, d2, d3] }
  | _ => none }
def lineFailsRow : OpenClaim := { program := "ytdjkdbojmcdogaa", sum := "cb178ec36e56a3b71b9f802790b227531b926c1e477a1f758e137dacb60e54dd", func := "rollbacknet/rollbacknetlaw22.LineFails", spec := "lineFails", unfollowed := true, recurses := true, apart := false }
def LineFailsSaid : Prop := lineFailsRow.holds Try.pinned (OpenSpec.ofChange lineFailsSpec)

/-- ITS FALSE NEIGHBOUR: 'it returns false'. Refute it at one input. -/
def lineFailsWrong : ChangeSpec := { name := "lineFails", fn := fun _ => fun
  | [d1, d2, d3] => { results := [.lit (.bool false)], args := [d1, d2, d3] }
  | _ => none }
def LineFailsWrongFalsely : Prop := lineFailsRow.holds Try.pinned (OpenSpec.ofChange lineFailsWrong)

/-- 'rollbacknetlaw22.LineMeets': WHATEVER THE INPUT: true; the input reads as it did. -/
def lineMeetsSpec : ChangeSpec := { name := "lineMeets", fn := fun _ => fun
  | [d1, d2, d3] => { results := [.lit (.bool true)], args := [d1, d2, d3] }
  | _ => none }
def lineMeetsRow : OpenClaim := { program := "ytdjkdbojmcdogaa", sum := "cb178ec36e56a3b71b9f802790b227531b926c1e477a1f758e137dacb60e54dd", func := "rollbacknet/rollbacknetlaw22.LineMeets", spec := "lineMeets", unfollowed := true, recurses := true, apart := false }
def LineMeetsSaid : Prop := lineMeetsRow.holds Try.pinned (OpenSpec.ofChange lineMeetsSpec)

/-- ITS FALSE NEIGHBOUR: 'it returns false'. Refute it at one input. -/
def lineMeetsWrong : ChangeSpec := { name := "lineMeets", fn := fun _ => fun
  | [d1, d2, d3] => { results := [.lit (.bool false)], args := [d1, d2, d3] }
  | _ => none }
def LineMeetsWrongFalsely : Prop := lineMeetsRow.holds Try.pinned (OpenSpec.ofChange lineMeetsWrong)

/-- 'rollbacknetlaw22.LineFinds': WHATEVER THE INPUT: true; the input reads as it did. -/
def lineFindsSpec : ChangeSpec := { name := "lineFinds", fn := fun _ => fun
  | [d1, d2] => { results := [.lit (.bool true)], args := [d1, d2] }
  | _ => none }
def lineFindsRow : OpenClaim := { program := "ytdjkdbojmcdogaa", sum := "cb178ec36e56a3b71b9f802790b227531b926c1e477a1f758e137dacb60e54dd", func := "rollbacknet/rollbacknetlaw22.LineFinds", spec := "lineFinds", unfollowed := true, recurses := true, apart := false }
def LineFindsSaid : Prop := lineFindsRow.holds Try.pinned (OpenSpec.ofChange lineFindsSpec)

/-- ITS FALSE NEIGHBOUR: 'it returns false'. Refute it at one input. -/
def lineFindsWrong : ChangeSpec := { name := "lineFinds", fn := fun _ => fun
  | [d1, d2] => { results := [.lit (.bool false)], args := [d1, d2] }
  | _ => none }
def LineFindsWrongFalsely : Prop := lineFindsRow.holds Try.pinned (OpenSpec.ofChange lineFindsWrong)

/-- 'rollbacknetlaw22.LineBrute': WHATEVER THE INPUT: true; the input reads as it did. -/
def lineBruteSpec : ChangeSpec := { name := "lineBrute", fn := fun _ => fun
  | [d1, d2] => { results := [.lit (.bool true)], args := [d1, d2] }
  | _ => none }
def lineBruteRow : OpenClaim := { program := "ytdjkdbojmcdogaa", sum := "cb178ec36e56a3b71b9f802790b227531b926c1e477a1f758e137dacb60e54dd", func := "rollbacknet/rollbacknetlaw22.LineBrute", spec := "lineBrute", unfollowed := true, recurses := true, apart := false }
def LineBruteSaid : Prop := lineBruteRow.holds Try.pinned (OpenSpec.ofChange lineBruteSpec)

/-- ITS FALSE NEIGHBOUR: 'it returns false'. Refute it at one input. -/
def lineBruteWrong : ChangeSpec := { name := "lineBrute", fn := fun _ => fun
  | [d1, d2] => { results := [.lit (.bool false)], args := [d1, d2] }
  | _ => none }
def LineBruteWrongFalsely : Prop := lineBruteRow.holds Try.pinned (OpenSpec.ofChange lineBruteWrong)

/-- 'rollbacknetlaw22.LineLater': WHATEVER THE INPUT: true; the input reads as it did. -/
def lineLaterSpec : ChangeSpec := { name := "lineLater", fn := fun _ => fun
  | [d1, d2, d3] => { results := [.lit (.bool true)], args := [d1, d2, d3] }
  | _ => none }
def lineLaterRow : OpenClaim := { program := "ytdjkdbojmcdogaa", sum := "cb178ec36e56a3b71b9f802790b227531b926c1e477a1f758e137dacb60e54dd", func := "rollbacknet/rollbacknetlaw22.LineLater", spec := "lineLater", unfollowed := true, recurses := true, apart := false }
def LineLaterSaid : Prop := lineLaterRow.holds Try.pinned (OpenSpec.ofChange lineLaterSpec)

/-- ITS FALSE NEIGHBOUR: 'it returns false'. Refute it at one input. -/
def lineLaterWrong : ChangeSpec := { name := "lineLater", fn := fun _ => fun
  | [d1, d2, d3] => { results := [.lit (.bool false)], args := [d1, d2, d3] }
  | _ => none }
def LineLaterWrongFalsely : Prop := lineLaterRow.holds Try.pinned (OpenSpec.ofChange lineLaterWrong)

/-- 'rollbacknetlaw22.LineGraph': WHATEVER THE INPUT: true; the input reads as it did. -/
def lineGraphSpec : ChangeSpec := { name := "lineGraph", fn := fun _ => fun
  | [d1, d2] => { results := [.lit (.bool true)], args := [d1, d2] }
  | _ => none }
def lineGraphRow : OpenClaim := { program := "ytdjkdbojmcdogaa", sum := "cb178ec36e56a3b71b9f802790b227531b926c1e477a1f758e137dacb60e54dd", func := "rollbacknet/rollbacknetlaw22.LineGraph", spec := "lineGraph", unfollowed := true, recurses := true, apart := false }
def LineGraphSaid : Prop := lineGraphRow.holds Try.pinned (OpenSpec.ofChange lineGraphSpec)

/-- ITS FALSE NEIGHBOUR: 'it returns false'. Refute it at one input. -/
def lineGraphWrong : ChangeSpec := { name := "lineGraph", fn := fun _ => fun
  | [d1, d2] => { results := [.lit (.bool false)], args := [d1, d2] }
  | _ => none }
def LineGraphWrongFalsely : Prop := lineGraphRow.holds Try.pinned (OpenSpec.ofChange lineGraphWrong)

/- THE SECOND FORM. 'bulk': how many values and letters a reading holds, each counted each time it is reached (what is shared counts as often as it is met; a slice's spare places count too). A statement '..UptoSaid' is the law's where the arguments, and the package variables that the reading takes, are together of bulk at most 1048576: NARROWER than '..Said'. Prove '..Said' where nothing that the law and all that it calls make is longer than what came in: it says more and counts as full. Else prove '..UptoSaid'. A law counts once. -/
mutual
def uptoBulk {H : Type} : DataW H → Nat
  | .lit (.string bytes) => bytes.length + 1
  | .lit _ => 1
  | .nil => 1
  | .ptr d => uptoBulk d + 1
  | .slice elems spare => uptoBulkAll elems + uptoBulkAll spare + 1
  | .agg parts => uptoBulkAll parts + 1
  | .iface _ d => uptoBulk d + 1
  | .map entries => uptoBulkEntries entries + 1
  | .held _ => 1
def uptoBulkAll {H : Type} : List (DataW H) → Nat
  | [] => 0
  | d :: r => uptoBulk d + uptoBulkAll r
def uptoBulkEntries {H : Type} : List (Lit × DataW H) → Nat
  | [] => 0
  | x :: r => uptoBulkEntry x + uptoBulkEntries r
def uptoBulkEntry {H : Type} : Lit × DataW H → Nat
  | (.string bytes, d) => bytes.length + uptoBulk d + 1
  | (_, d) => uptoBulk d + 1
 end
def uptoSmall : (H : Type) → List (DataW H) → Bool := fun _ ds => decide (uptoBulkAll ds ≤ 1048576)
def OpenSpec.upto (s : _root_.Go.ChangeSpec) : _root_.Go.OpenSpec := { _root_.Go.OpenSpec.ofChange s with cond := some uptoSmall }

/-- 'rollbacknetlaw22.LineSets', WHERE WHAT IT READS IS OF BULK AT MOST 1048576: true; the input reads as it did. -/
def lineSetsUptoRow : OpenClaim := { program := "ytdjkdbojmcdogaa", sum := "cb178ec36e56a3b71b9f802790b227531b926c1e477a1f758e137dacb60e54dd", func := "rollbacknet/rollbacknetlaw22.LineSets", spec := "lineSets", unfollowed := true, recurses := true, apart := false, narrowed := true }
def LineSetsUptoSaid : Prop := lineSetsUptoRow.holds Try.pinned (OpenSpec.upto lineSetsSpec)

/-- 'rollbacknetlaw22.LineMore', WHERE WHAT IT READS IS OF BULK AT MOST 1048576: true; the input reads as it did. -/
def lineMoreUptoRow : OpenClaim := { program := "ytdjkdbojmcdogaa", sum := "cb178ec36e56a3b71b9f802790b227531b926c1e477a1f758e137dacb60e54dd", func := "rollbacknet/rollbacknetlaw22.LineMore", spec := "lineMore", unfollowed := true, recurses := true, apart := false, narrowed := true }
def LineMoreUptoSaid : Prop := lineMoreUptoRow.holds Try.pinned (OpenSpec.upto lineMoreSpec)

/-- 'rollbacknetlaw22.LineFails', WHERE WHAT IT READS IS OF BULK AT MOST 1048576: true; the input reads as it did. -/
def lineFailsUptoRow : OpenClaim := { program := "ytdjkdbojmcdogaa", sum := "cb178ec36e56a3b71b9f802790b227531b926c1e477a1f758e137dacb60e54dd", func := "rollbacknet/rollbacknetlaw22.LineFails", spec := "lineFails", unfollowed := true, recurses := true, apart := false, narrowed := true }
def LineFailsUptoSaid : Prop := lineFailsUptoRow.holds Try.pinned (OpenSpec.upto lineFailsSpec)

/-- 'rollbacknetlaw22.LineMeets', WHERE WHAT IT READS IS OF BULK AT MOST 1048576: true; the input reads as it did. -/
def lineMeetsUptoRow : OpenClaim := { program := "ytdjkdbojmcdogaa", sum := "cb178ec36e56a3b71b9f802790b227531b926c1e477a1f758e137dacb60e54dd", func := "rollbacknet/rollbacknetlaw22.LineMeets", spec := "lineMeets", unfollowed := true, recurses := true, apart := false, narrowed := true }
def LineMeetsUptoSaid : Prop := lineMeetsUptoRow.holds Try.pinned (OpenSpec.upto lineMeetsSpec)

/-- 'rollbacknetlaw22.LineFinds', WHERE WHAT IT READS IS OF BULK AT MOST 1048576: true; the input reads as it did. -/
def lineFindsUptoRow : OpenClaim := { program := "ytdjkdbojmcdogaa", sum := "cb178ec36e56a3b71b9f802790b227531b926c1e477a1f758e137dacb60e54dd", func := "rollbacknet/rollbacknetlaw22.LineFinds", spec := "lineFinds", unfollowed := true, recurses := true, apart := false, narrowed := true }
def LineFindsUptoSaid : Prop := lineFindsUptoRow.holds Try.pinned (OpenSpec.upto lineFindsSpec)

/-- 'rollbacknetlaw22.LineBrute', WHERE WHAT IT READS IS OF BULK AT MOST 1048576: true; the input reads as it did. -/
def lineBruteUptoRow : OpenClaim := { program := "ytdjkdbojmcdogaa", sum := "cb178ec36e56a3b71b9f802790b227531b926c1e477a1f758e137dacb60e54dd", func := "rollbacknet/rollbacknetlaw22.LineBrute", spec := "lineBrute", unfollowed := true, recurses := true, apart := false, narrowed := true }
def LineBruteUptoSaid : Prop := lineBruteUptoRow.holds Try.pinned (OpenSpec.upto lineBruteSpec)

/-- 'rollbacknetlaw22.LineLater', WHERE WHAT IT READS IS OF BULK AT MOST 1048576: true; the input reads as it did. -/
def lineLaterUptoRow : OpenClaim := { program := "ytdjkdbojmcdogaa", sum := "cb178ec36e56a3b71b9f802790b227531b926c1e477a1f758e137dacb60e54dd", func := "rollbacknet/rollbacknetlaw22.LineLater", spec := "lineLater", unfollowed := true, recurses := true, apart := false, narrowed := true }
def LineLaterUptoSaid : Prop := lineLaterUptoRow.holds Try.pinned (OpenSpec.upto lineLaterSpec)

/-- 'rollbacknetlaw22.LineGraph', WHERE WHAT IT READS IS OF BULK AT MOST 1048576: true; the input reads as it did. -/
def lineGraphUptoRow : OpenClaim := { program := "ytdjkdbojmcdogaa", sum := "cb178ec36e56a3b71b9f802790b227531b926c1e477a1f758e137dacb60e54dd", func := "rollbacknet/rollbacknetlaw22.LineGraph", spec := "lineGraph", unfollowed := true, recurses := true, apart := false, narrowed := true }
def LineGraphUptoSaid : Prop := lineGraphUptoRow.holds Try.pinned (OpenSpec.upto lineGraphSpec)

end Rows
end Go.Proofs.Ytdjkdbojmcdogaa
