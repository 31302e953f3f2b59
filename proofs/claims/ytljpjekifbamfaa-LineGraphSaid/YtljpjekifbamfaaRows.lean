/-
  No cell of these rows narrows 'for every input' (looked for: loops, veiled, ifaces, maps, wideKeys, modest, calm, conditions, laid).
  DERIVED. THE GIVEN ROWS OF THIS SEAT. 7 by the template 'for every input the law returns true; each argument reads behind the call as it read before'; 0 by the template 'total and deterministic' (their statements: YtljpjekifbamfaaTotals.lean).
  GIVEN WITH THE SEED: the statements are not yours to turn. If you find one false, say at which input.
  Laid BY PROGRAM, IN A SANDBOX (cutbox-rows.mjs): the forced cells as the released guide's own fill.sh prints them over the translation 0be744344dc02943… (all of the seat's roots in one cut). By AI agents, Wed Nov 11 2026. No macro, syntax, notation, axiom, sorry.
-/
import Derived.Test.YtljpjekifbamfaaChecked
import GoSem.Claim
import GoSem.ClaimJoined
import GoSem.ClaimMapViews
import Derived.JoinedTies
import Derived.KernelRfl
namespace Go.Proofs.Ytljpjekifbamfaa
/- THE CELL 'sum', in the pinned program and in every row, IS THE sha256 OF THE DUMP (.gsa) THAT YtljpjekifbamfaaProg.lean LOADS. Nothing in Lean hashes anything: it is a label: what it is worth is what the hold of that sum in a sandbox is worth. -/
noncomputable def Try.pinned : Pinned := { name := "ytljpjekifbamfaa", sum := "0be744344dc02943a7cc23158d0ae2b470cff67df9591886664c6d302d6f44cc", checked := Try.checked }
namespace Rows
def none {H : Type} : Left H := { results := [], args := [] }

/-- 'rollbacknetlaw20.RgraphEdges': WHATEVER THE INPUT: true; the input reads as it did. -/
def rgraphEdgesSpec : ChangeSpec := { name := "rgraphEdges", fn := fun _ => fun
  | [d] => { results := [.lit (.bool true)], args := [d] }
  | _ => none }
def rgraphEdgesRow : OpenClaim := { program := "ytljpjekifbamfaa", sum := "0be744344dc02943a7cc23158d0ae2b470cff67df9591886664c6d302d6f44cc", func := "rollbacknet/rollbacknetlaw20.RgraphEdges", spec := "rgraphEdges", unfollowed := true, recurses := true, apart := false }
def RgraphEdgesSaid : Prop := rgraphEdgesRow.holds Try.pinned (OpenSpec.ofChange rgraphEdgesSpec)

/-- ITS FALSE NEIGHBOUR: 'it returns false'. Refute it at one input. -/
def rgraphEdgesWrong : ChangeSpec := { name := "rgraphEdges", fn := fun _ => fun
  | [d] => { results := [.lit (.bool false)], args := [d] }
  | _ => none }
def RgraphEdgesWrongFalsely : Prop := rgraphEdgesRow.holds Try.pinned (OpenSpec.ofChange rgraphEdgesWrong)

/-- 'rollbacknetlaw20.RgraphReaches': WHATEVER THE INPUT: true; the input reads as it did. -/
def rgraphReachesSpec : ChangeSpec := { name := "rgraphReaches", fn := fun _ => fun
  | [d1, d2] => { results := [.lit (.bool true)], args := [d1, d2] }
  | _ => none }
def rgraphReachesRow : OpenClaim := { program := "ytljpjekifbamfaa", sum := "0be744344dc02943a7cc23158d0ae2b470cff67df9591886664c6d302d6f44cc", func := "rollbacknet/rollbacknetlaw20.RgraphReaches", spec := "rgraphReaches", unfollowed := true, recurses := true, apart := false }
def RgraphReachesSaid : Prop := rgraphReachesRow.holds Try.pinned (OpenSpec.ofChange rgraphReachesSpec)

/-- ITS FALSE NEIGHBOUR: 'it returns false'. Refute it at one input. -/
def rgraphReachesWrong : ChangeSpec := { name := "rgraphReaches", fn := fun _ => fun
  | [d1, d2] => { results := [.lit (.bool false)], args := [d1, d2] }
  | _ => none }
def RgraphReachesWrongFalsely : Prop := rgraphReachesRow.holds Try.pinned (OpenSpec.ofChange rgraphReachesWrong)

/-- 'rollbacknetlaw20.RgraphClosed': WHATEVER THE INPUT: true; the input reads as it did. -/
def rgraphClosedSpec : ChangeSpec := { name := "rgraphClosed", fn := fun _ => fun
  | [d1, d2] => { results := [.lit (.bool true)], args := [d1, d2] }
  | _ => none }
def rgraphClosedRow : OpenClaim := { program := "ytljpjekifbamfaa", sum := "0be744344dc02943a7cc23158d0ae2b470cff67df9591886664c6d302d6f44cc", func := "rollbacknet/rollbacknetlaw20.RgraphClosed", spec := "rgraphClosed", unfollowed := true, recurses := true, apart := false }
def RgraphClosedSaid : Prop := rgraphClosedRow.holds Try.pinned (OpenSpec.ofChange rgraphClosedSpec)

/-- ITS FALSE NEIGHBOUR: 'it returns false'. Refute it at one input. -/
def rgraphClosedWrong : ChangeSpec := { name := "rgraphClosed", fn := fun _ => fun
  | [d1, d2] => { results := [.lit (.bool false)], args := [d1, d2] }
  | _ => none }
def RgraphClosedWrongFalsely : Prop := rgraphClosedRow.holds Try.pinned (OpenSpec.ofChange rgraphClosedWrong)

/-- 'rollbacknetlaw20.RgraphDomino': WHATEVER THE INPUT: true; the input reads as it did. -/
def rgraphDominoSpec : ChangeSpec := { name := "rgraphDomino", fn := fun _ => fun
  | [d1, d2] => { results := [.lit (.bool true)], args := [d1, d2] }
  | _ => none }
def rgraphDominoRow : OpenClaim := { program := "ytljpjekifbamfaa", sum := "0be744344dc02943a7cc23158d0ae2b470cff67df9591886664c6d302d6f44cc", func := "rollbacknet/rollbacknetlaw20.RgraphDomino", spec := "rgraphDomino", unfollowed := true, recurses := true, apart := false }
def RgraphDominoSaid : Prop := rgraphDominoRow.holds Try.pinned (OpenSpec.ofChange rgraphDominoSpec)

/-- ITS FALSE NEIGHBOUR: 'it returns false'. Refute it at one input. -/
def rgraphDominoWrong : ChangeSpec := { name := "rgraphDomino", fn := fun _ => fun
  | [d1, d2] => { results := [.lit (.bool false)], args := [d1, d2] }
  | _ => none }
def RgraphDominoWrongFalsely : Prop := rgraphDominoRow.holds Try.pinned (OpenSpec.ofChange rgraphDominoWrong)

/-- 'rollbacknetlaw20.RgraphMeets': WHATEVER THE INPUT: true; the input reads as it did. -/
def rgraphMeetsSpec : ChangeSpec := { name := "rgraphMeets", fn := fun _ => fun
  | [d1, d2] => { results := [.lit (.bool true)], args := [d1, d2] }
  | _ => none }
def rgraphMeetsRow : OpenClaim := { program := "ytljpjekifbamfaa", sum := "0be744344dc02943a7cc23158d0ae2b470cff67df9591886664c6d302d6f44cc", func := "rollbacknet/rollbacknetlaw20.RgraphMeets", spec := "rgraphMeets", unfollowed := true, recurses := true, apart := false }
def RgraphMeetsSaid : Prop := rgraphMeetsRow.holds Try.pinned (OpenSpec.ofChange rgraphMeetsSpec)

/-- ITS FALSE NEIGHBOUR: 'it returns false'. Refute it at one input. -/
def rgraphMeetsWrong : ChangeSpec := { name := "rgraphMeets", fn := fun _ => fun
  | [d1, d2] => { results := [.lit (.bool false)], args := [d1, d2] }
  | _ => none }
def RgraphMeetsWrongFalsely : Prop := rgraphMeetsRow.holds Try.pinned (OpenSpec.ofChange rgraphMeetsWrong)

/-- 'rollbacknetlaw20.RgraphCuts': WHATEVER THE INPUT: true; the input reads as it did. -/
def rgraphCutsSpec : ChangeSpec := { name := "rgraphCuts", fn := fun _ => fun
  | [d1, d2] => { results := [.lit (.bool true)], args := [d1, d2] }
  | _ => none }
def rgraphCutsRow : OpenClaim := { program := "ytljpjekifbamfaa", sum := "0be744344dc02943a7cc23158d0ae2b470cff67df9591886664c6d302d6f44cc", func := "rollbacknet/rollbacknetlaw20.RgraphCuts", spec := "rgraphCuts", unfollowed := true, recurses := true, apart := false }
def RgraphCutsSaid : Prop := rgraphCutsRow.holds Try.pinned (OpenSpec.ofChange rgraphCutsSpec)

/-- ITS FALSE NEIGHBOUR: 'it returns false'. Refute it at one input. -/
def rgraphCutsWrong : ChangeSpec := { name := "rgraphCuts", fn := fun _ => fun
  | [d1, d2] => { results := [.lit (.bool false)], args := [d1, d2] }
  | _ => none }
def RgraphCutsWrongFalsely : Prop := rgraphCutsRow.holds Try.pinned (OpenSpec.ofChange rgraphCutsWrong)

/-- 'rollbacknetlaw22.LineGraph': WHATEVER THE INPUT: true; the input reads as it did. -/
def lineGraphSpec : ChangeSpec := { name := "lineGraph", fn := fun _ => fun
  | [d1, d2] => { results := [.lit (.bool true)], args := [d1, d2] }
  | _ => none }
def lineGraphRow : OpenClaim := { program := "ytljpjekifbamfaa", sum := "0be744344dc02943a7cc23158d0ae2b470cff67df9591886664c6d302d6f44cc", func := "rollbacknet/rollbacknetlaw22.LineGraph", spec := "lineGraph", unfollowed := true, recurses := true, apart := false }
def LineGraphSaid : Prop := lineGraphRow.holds Try.pinned (OpenSpec.ofChange lineGraphSpec)

/-- ITS FALSE NEIGHBOUR: 'it returns false'. Refute it at one input. -/
def lineGraphWrong : ChangeSpec := { name := "lineGraph", fn := fun _ => fun
  | [d1, d2] => { results := [.lit (.bool false)], args := [d1, d2] }
  | _ => none }
def LineGraphWrongFalsely : Prop := lineGraphRow.holds Try.pinned (OpenSpec.ofChange lineGraphWrong)

/- THE SECOND FORM. 'bulk': how many values and letters a reading holds, each counted each time it is reached (what is shared counts as often as it is met; a slice's spare places count too). A statement '..UptoSaid' is the law's where the arguments, and the package variables that the reading takes, are together of bulk at most 1048576: NARROWER than '..Said'. Prove '..Said' where nothing that the law and all that it calls make is longer than what came in: it says more and counts as full. Else prove '..UptoSaid'. A law counts once. -/
mutual
def uptoBulk {H : Type} : DataW H → Nat
  | .lit (.string bytes) => bytes.length + 1
  | .lit _ => 1
  | .nil => 1
  | .ptr d => uptoBulk d + 1
  | .slice elems spare => uptoBulkAll elems + uptoBulkAll spare + 1
  | .agg parts => uptoBulkAll parts + 1
  | .iface _ d => uptoBulk d + 1
  | .map entries => uptoBulkEntries entries + 1
  | .held _ => 1
def uptoBulkAll {H : Type} : List (DataW H) → Nat
  | [] => 0
  | d :: r => uptoBulk d + uptoBulkAll r
def uptoBulkEntries {H : Type} : List (Lit × DataW H) → Nat
  | [] => 0
  | x :: r => uptoBulkEntry x + uptoBulkEntries r
def uptoBulkEntry {H : Type} : Lit × DataW H → Nat
  | (.string bytes, d) => bytes.length + uptoBulk d + 1
  | (_, d) => uptoBulk d + 1
 end
def uptoSmall : (H : Type) → List (DataW H) → Bool := fun _ ds => decide (uptoBulkAll ds ≤ 1048576)
def OpenSpec.upto (s : _root_.Go.ChangeSpec) : _root_.Go.OpenSpec := { _root_.Go.OpenSpec.ofChange s with cond := some uptoSmall }

/-- 'rollbacknetlaw20.RgraphEdges', WHERE WHAT IT READS IS OF BULK AT MOST 1048576: true; the input reads as it did. -/
def rgraphEdgesUptoRow : OpenClaim := { program := "ytljpjekifbamfaa", sum := "0be744344dc02943a7cc23158d0ae2b470cff67df9591886664c6d302d6f44cc", func := "rollbacknet/rollbacknetlaw20.RgraphEdges", spec := "rgraphEdges", unfollowed := true, recurses := true, apart := false, narrowed := true }
def RgraphEdgesUptoSaid : Prop := rgraphEdgesUptoRow.holds Try.pinned (OpenSpec.upto rgraphEdgesSpec)

/-- 'rollbacknetlaw20.RgraphReaches', WHERE WHAT IT READS IS OF BULK AT MOST 1048576: true; the input reads as it did. -/
def rgraphReachesUptoRow : OpenClaim := { program := "ytljpjekifbamfaa", sum := "0be744344dc02943a7cc23158d0ae2b470cff67df9591886664c6d302d6f44cc", func := "rollbacknet/rollbacknetlaw20.RgraphReaches", spec := "rgraphReaches", unfollowed := true, recurses := true, apart := false, narrowed := true }
def RgraphReachesUptoSaid : Prop := rgraphReachesUptoRow.holds Try.pinned (OpenSpec.upto rgraphReachesSpec)

/-- 'rollbacknetlaw20.RgraphClosed', WHERE WHAT IT READS IS OF BULK AT MOST 1048576: true; the input reads as it did. -/
def rgraphClosedUptoRow : OpenClaim := { program := "ytljpjekifbamfaa", sum := "0be744344dc02943a7cc23158d0ae2b470cff67df9591886664c6d302d6f44cc", func := "rollbacknet/rollbacknetlaw20.RgraphClosed", spec := "rgraphClosed", unfollowed := true, recurses := true, apart := false, narrowed := true }
def RgraphClosedUptoSaid : Prop := rgraphClosedUptoRow.holds Try.pinned (OpenSpec.upto rgraphClosedSpec)

/-- 'rollbacknetlaw20.RgraphDomino', WHERE WHAT IT READS IS OF BULK AT MOST 1048576: true; the input reads as it did. -/
def rgraphDominoUptoRow : OpenClaim := { program := "ytljpjekifbamfaa", sum := "0be744344dc02943a7cc23158d0ae2b470cff67df9591886664c6d302d6f44cc", func := "rollbacknet/rollbacknetlaw20.RgraphDomino", spec := "rgraphDomino", unfollowed := true, recurses := true, apart := false, narrowed := true }
def RgraphDominoUptoSaid : Prop := rgraphDominoUptoRow.holds Try.pinned (OpenSpec.upto rgraphDominoSpec)

/-- 'rollbacknetlaw20.RgraphMeets', WHERE WHAT IT READS IS OF BULK AT MOST 1048576: true; the input reads as it did. -/
def rgraphMeetsUptoRow : OpenClaim := { program := "ytljpjekifbamfaa", sum := "0be744344dc02943a7cc23158d0ae2b470cff67df9591886664c6d302d6f44cc", func := "rollbacknet/rollbacknetlaw20.RgraphMeets", spec := "rgraphMeets", unfollowed := true, recurses := true, apart := false, narrowed := true }
def RgraphMeetsUptoSaid : Prop := rgraphMeetsUptoRow.holds Try.pinned (OpenSpec.upto rgraphMeetsSpec)

/-- 'rollbacknetlaw20.RgraphCuts', WHERE WHAT IT READS IS OF BULK AT MOST 1048576: true; the input reads as it did. -/
def rgraphCutsUptoRow : OpenClaim := { program := "ytljpjekifbamfaa", sum := "0be744344dc02943a7cc23158d0ae2b470cff67df9591886664c6d302d6f44cc", func := "rollbacknet/rollbacknetlaw20.RgraphCuts", spec := "rgraphCuts", unfollowed := true, recurses := true, apart := false, narrowed := true }
def RgraphCutsUptoSaid : Prop := rgraphCutsUptoRow.holds Try.pinned (OpenSpec.upto rgraphCutsSpec)

/-- 'rollbacknetlaw22.LineGraph', WHERE WHAT IT READS IS OF BULK AT MOST 1048576: true; the input reads as it did. -/
def lineGraphUptoRow : OpenClaim := { program := "ytljpjekifbamfaa", sum := "0be744344dc02943a7cc23158d0ae2b470cff67df9591886664c6d302d6f44cc", func := "rollbacknet/rollbacknetlaw22.LineGraph", spec := "lineGraph", unfollowed := true, recurses := true, apart := false, narrowed := true }
def LineGraphUptoSaid : Prop := lineGraphUptoRow.holds Try.pinned (OpenSpec.upto lineGraphSpec)

end Rows
end Go.Proofs.Ytljpjekifbamfaa
