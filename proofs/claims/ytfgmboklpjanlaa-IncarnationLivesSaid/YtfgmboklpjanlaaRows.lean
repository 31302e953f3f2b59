/-
  No cell of these rows narrows 'for every input' (looked for: loops, veiled, ifaces, maps, wideKeys, modest, calm, conditions, laid).
  DERIVED. THE GIVEN ROWS OF THIS SEAT. 6 by the template 'for every input the law returns true; each argument reads behind the call as it read before'; 0 by the template 'total and deterministic' (their statements: YtfgmboklpjanlaaTotals.lean).
  GIVEN WITH THE SEED: the statements are not yours to turn. If you find one false, say at which input.
  Laid BY PROGRAM, IN A SANDBOX (cutbox-rows.mjs): the forced cells as the released guide's own fill.sh prints them over the translation fd7594c6d2dc0141… (all of the seat's roots in one cut). By AI agents, Wed Nov 11 2026. No macro, syntax, notation, axiom, sorry.
-/
import Derived.Test.YtfgmboklpjanlaaChecked
import GoSem.Claim
import GoSem.ClaimJoined
import GoSem.ClaimMapViews
import Derived.JoinedTies
import Derived.KernelRfl
namespace Go.Proofs.Ytfgmboklpjanlaa
/- THE CELL 'sum', in the pinned program and in every row, IS THE sha256 OF THE DUMP (.gsa) THAT YtfgmboklpjanlaaProg.lean LOADS. Nothing in Lean hashes anything: it is a label: what it is worth is what the hold of that sum in a sandbox is worth. -/
noncomputable def Try.pinned : Pinned := { name := "ytfgmboklpjanlaa", sum := "fd7594c6d2dc0141d4c3ea7445638e89aeee2210228d57bad338aa2cf4373718", checked := Try.checked }
namespace Rows
def none {H : Type} : Left H := { results := [], args := [] }

/-- 'rollbacknetlaw31.IncarnationUndone': WHATEVER THE INPUT: true; the input reads as it did. -/
def incarnationUndoneSpec : ChangeSpec := { name := "incarnationUndone", fn := fun _ => fun
  | [d1, d2, d3, d4] => { results := [.lit (.bool true)], args := [d1, d2, d3, d4] }
  | _ => none }
def incarnationUndoneRow : OpenClaim := { program := "ytfgmboklpjanlaa", sum := "fd7594c6d2dc0141d4c3ea7445638e89aeee2210228d57bad338aa2cf4373718", func := "rollbacknet/rollbacknetlaw31.IncarnationUndone", spec := "incarnationUndone", unfollowed := true, recurses := true, apart := false }
def IncarnationUndoneSaid : Prop := incarnationUndoneRow.holds Try.pinned (OpenSpec.ofChange incarnationUndoneSpec)

/-- ITS FALSE NEIGHBOUR: 'it returns false'. Refute it at one input. -/
def incarnationUndoneWrong : ChangeSpec := { name := "incarnationUndone", fn := fun _ => fun
  | [d1, d2, d3, d4] => { results := [.lit (.bool false)], args := [d1, d2, d3, d4] }
  | _ => none }
def IncarnationUndoneWrongFalsely : Prop := incarnationUndoneRow.holds Try.pinned (OpenSpec.ofChange incarnationUndoneWrong)

/-- 'rollbacknetlaw31.IncarnationReduces': WHATEVER THE INPUT: true; the input reads as it did. -/
def incarnationReducesSpec : ChangeSpec := { name := "incarnationReduces", fn := fun _ => fun
  | [d1, d2, d3, d4] => { results := [.lit (.bool true)], args := [d1, d2, d3, d4] }
  | _ => none }
def incarnationReducesRow : OpenClaim := { program := "ytfgmboklpjanlaa", sum := "fd7594c6d2dc0141d4c3ea7445638e89aeee2210228d57bad338aa2cf4373718", func := "rollbacknet/rollbacknetlaw31.IncarnationReduces", spec := "incarnationReduces", unfollowed := true, recurses := true, apart := false }
def IncarnationReducesSaid : Prop := incarnationReducesRow.holds Try.pinned (OpenSpec.ofChange incarnationReducesSpec)

/-- ITS FALSE NEIGHBOUR: 'it returns false'. Refute it at one input. -/
def incarnationReducesWrong : ChangeSpec := { name := "incarnationReduces", fn := fun _ => fun
  | [d1, d2, d3, d4] => { results := [.lit (.bool false)], args := [d1, d2, d3, d4] }
  | _ => none }
def IncarnationReducesWrongFalsely : Prop := incarnationReducesRow.holds Try.pinned (OpenSpec.ofChange incarnationReducesWrong)

/-- 'rollbacknetlaw31.IncarnationGrows': WHATEVER THE INPUT: true; the input reads as it did. -/
def incarnationGrowsSpec : ChangeSpec := { name := "incarnationGrows", fn := fun _ => fun
  | [d1, d2, d3, d4, d5] => { results := [.lit (.bool true)], args := [d1, d2, d3, d4, d5] }
  | _ => none }
def incarnationGrowsRow : OpenClaim := { program := "ytfgmboklpjanlaa", sum := "fd7594c6d2dc0141d4c3ea7445638e89aeee2210228d57bad338aa2cf4373718", func := "rollbacknet/rollbacknetlaw31.IncarnationGrows", spec := "incarnationGrows", unfollowed := true, recurses := true, apart := false }
def IncarnationGrowsSaid : Prop := incarnationGrowsRow.holds Try.pinned (OpenSpec.ofChange incarnationGrowsSpec)

/-- ITS FALSE NEIGHBOUR: 'it returns false'. Refute it at one input. -/
def incarnationGrowsWrong : ChangeSpec := { name := "incarnationGrows", fn := fun _ => fun
  | [d1, d2, d3, d4, d5] => { results := [.lit (.bool false)], args := [d1, d2, d3, d4, d5] }
  | _ => none }
def IncarnationGrowsWrongFalsely : Prop := incarnationGrowsRow.holds Try.pinned (OpenSpec.ofChange incarnationGrowsWrong)

/-- 'rollbacknetlaw31.IncarnationAsks': WHATEVER THE INPUT: true; the input reads as it did. -/
def incarnationAsksSpec : ChangeSpec := { name := "incarnationAsks", fn := fun _ => fun
  | [d1, d2, d3, d4, d5] => { results := [.lit (.bool true)], args := [d1, d2, d3, d4, d5] }
  | _ => none }
def incarnationAsksRow : OpenClaim := { program := "ytfgmboklpjanlaa", sum := "fd7594c6d2dc0141d4c3ea7445638e89aeee2210228d57bad338aa2cf4373718", func := "rollbacknet/rollbacknetlaw31.IncarnationAsks", spec := "incarnationAsks", unfollowed := true, recurses := true, apart := false }
def IncarnationAsksSaid : Prop := incarnationAsksRow.holds Try.pinned (OpenSpec.ofChange incarnationAsksSpec)

/-- ITS FALSE NEIGHBOUR: 'it returns false'. Refute it at one input. -/
def incarnationAsksWrong : ChangeSpec := { name := "incarnationAsks", fn := fun _ => fun
  | [d1, d2, d3, d4, d5] => { results := [.lit (.bool false)], args := [d1, d2, d3, d4, d5] }
  | _ => none }
def IncarnationAsksWrongFalsely : Prop := incarnationAsksRow.holds Try.pinned (OpenSpec.ofChange incarnationAsksWrong)

/-- 'rollbacknetlaw31.IncarnationSame': WHATEVER THE INPUT: true; the input reads as it did. -/
def incarnationSameSpec : ChangeSpec := { name := "incarnationSame", fn := fun _ => fun
  | [d] => { results := [.lit (.bool true)], args := [d] }
  | _ => none }
def incarnationSameRow : OpenClaim := { program := "ytfgmboklpjanlaa", sum := "fd7594c6d2dc0141d4c3ea7445638e89aeee2210228d57bad338aa2cf4373718", func := "rollbacknet/rollbacknetlaw31.IncarnationSame", spec := "incarnationSame", unfollowed := true, recurses := true, apart := false }
def IncarnationSameSaid : Prop := incarnationSameRow.holds Try.pinned (OpenSpec.ofChange incarnationSameSpec)

/-- ITS FALSE NEIGHBOUR: 'it returns false'. Refute it at one input. -/
def incarnationSameWrong : ChangeSpec := { name := "incarnationSame", fn := fun _ => fun
  | [d] => { results := [.lit (.bool false)], args := [d] }
  | _ => none }
def IncarnationSameWrongFalsely : Prop := incarnationSameRow.holds Try.pinned (OpenSpec.ofChange incarnationSameWrong)

/-- 'rollbacknetlaw31.IncarnationLives': WHATEVER THE INPUT: true; the input reads as it did. -/
def incarnationLivesSpec : ChangeSpec := { name := "incarnationLives", fn := fun _ => fun
  | [d] => { results := [.lit (.bool true)], args := [d] }
  | _ => none }
def incarnationLivesRow : OpenClaim := { program := "ytfgmboklpjanlaa", sum := "fd7594c6d2dc0141d4c3ea7445638e89aeee2210228d57bad338aa2cf4373718", func := "rollbacknet/rollbacknetlaw31.IncarnationLives", spec := "incarnationLives", unfollowed := true, recurses := true, apart := false }
def IncarnationLivesSaid : Prop := incarnationLivesRow.holds Try.pinned (OpenSpec.ofChange incarnationLivesSpec)

/-- ITS FALSE NEIGHBOUR: 'it returns false'. Refute it at one input. -/
def incarnationLivesWrong : ChangeSpec := { name := "incarnationLives", fn := fun _ => fun
  | [d] => { results := [.lit (.bool false)], args := [d] }
  | _ => none }
def IncarnationLivesWrongFalsely : Prop := incarnationLivesRow.holds Try.pinned (OpenSpec.ofChange incarnationLivesWrong)

/- THE SECOND FORM. 'bulk': how many values and letters a reading holds, each counted each time it is reached (what is shared counts as often as it is met; a slice's spare places count too). A statement '..UptoSaid' is the law's where the arguments, and the package variables that the reading takes, are together of bulk at most 1048576: NARROWER than '..Said'. Prove '..Said' where nothing that the law and all that it calls make is longer than what came in: it says more and counts as full. Else prove '..UptoSaid'. A law counts once. -/
mutual
def uptoBulk {H : Type} : DataW H → Nat
  | .lit (.string bytes) => bytes.length + 1
  | .lit _ => 1
  | .nil => 1
  | .ptr d => uptoBulk d + 1
  | .slice elems spare => uptoBulkAll elems + uptoBulkAll spare + 1
  | .agg parts => uptoBulkAll parts + 1
  | .iface _ d => uptoBulk d + 1
  | .map entries => uptoBulkEntries entries + 1
  | .held _ => 1
def uptoBulkAll {H : Type} : List (DataW H) → Nat
  | [] => 0
  | d :: r => uptoBulk d + uptoBulkAll r
def uptoBulkEntries {H : Type} : List (Lit × DataW H) → Nat
  | [] => 0
  | x :: r => uptoBulkEntry x + uptoBulkEntries r
def uptoBulkEntry {H : Type} : Lit × DataW H → Nat
  | (.string bytes, d) => bytes.length + uptoBulk d + 1
  | (_, d) => uptoBulk d + 1
 end
def uptoSmall : (H : Type) → List (DataW H) → Bool := fun _ ds => decide (uptoBulkAll ds ≤ 1048576)
def OpenSpec.upto (s : _root_.Go.ChangeSpec) : _root_.Go.OpenSpec := { _root_.Go.OpenSpec.ofChange s with cond := some uptoSmall }

/-- 'rollbacknetlaw31.IncarnationUndone', WHERE WHAT IT READS IS OF BULK AT MOST 1048576: true; the input reads as it did. -/
def incarnationUndoneUptoRow : OpenClaim := { program := "ytfgmboklpjanlaa", sum := "fd7594c6d2dc0141d4c3ea7445638e89aeee2210228d57bad338aa2cf4373718", func := "rollbacknet/rollbacknetlaw31.IncarnationUndone", spec := "incarnationUndone", unfollowed := true, recurses := true, apart := false, narrowed := true }
def IncarnationUndoneUptoSaid : Prop := incarnationUndoneUptoRow.holds Try.pinned (OpenSpec.upto incarnationUndoneSpec)

/-- 'rollbacknetlaw31.IncarnationReduces', WHERE WHAT IT READS IS OF BULK AT MOST 1048576: true; the input reads as it did. -/
def incarnationReducesUptoRow : OpenClaim := { program := "ytfgmboklpjanlaa", sum := "fd7594c6d2dc0141d4c3ea7445638e89aeee2210228d57bad338aa2cf4373718", func := "rollbacknet/rollbacknetlaw31.IncarnationReduces", spec := "incarnationReduces", unfollowed := true, recurses := true, apart := false, narrowed := true }
def IncarnationReducesUptoSaid : Prop := incarnationReducesUptoRow.holds Try.pinned (OpenSpec.upto incarnationReducesSpec)

/-- 'rollbacknetlaw31.IncarnationGrows', WHERE WHAT IT READS IS OF BULK AT MOST 1048576: true; the input reads as it did. -/
def incarnationGrowsUptoRow : OpenClaim := { program := "ytfgmboklpjanlaa", sum := "fd7594c6d2dc0141d4c3ea7445638e89aeee2210228d57bad338aa2cf4373718", func := "rollbacknet/rollbacknetlaw31.IncarnationGrows", spec := "incarnationGrows", unfollowed := true, recurses := true, apart := false, narrowed := true }
def IncarnationGrowsUptoSaid : Prop := incarnationGrowsUptoRow.holds Try.pinned (OpenSpec.upto incarnationGrowsSpec)

/-- 'rollbacknetlaw31.IncarnationAsks', WHERE WHAT IT READS IS OF BULK AT MOST 1048576: true; the input reads as it did. -/
def incarnationAsksUptoRow : OpenClaim := { program := "ytfgmboklpjanlaa", sum := "fd7594c6d2dc0141d4c3ea7445638e89aeee2210228d57bad338aa2cf4373718", func := "rollbacknet/rollbacknetlaw31.IncarnationAsks", spec := "incarnationAsks", unfollowed := true, recurses := true, apart := false, narrowed := true }
def IncarnationAsksUptoSaid : Prop := incarnationAsksUptoRow.holds Try.pinned (OpenSpec.upto incarnationAsksSpec)

/-- 'rollbacknetlaw31.IncarnationSame', WHERE WHAT IT READS IS OF BULK AT MOST 1048576: true; the input reads as it did. -/
def incarnationSameUptoRow : OpenClaim := { program := "ytfgmboklpjanlaa", sum := "fd7594c6d2dc0141d4c3ea7445638e89aeee2210228d57bad338aa2cf4373718", func := "rollbacknet/rollbacknetlaw31.IncarnationSame", spec := "incarnationSame", unfollowed := true, recurses := true, apart := false, narrowed := true }
def IncarnationSameUptoSaid : Prop := incarnationSameUptoRow.holds Try.pinned (OpenSpec.upto incarnationSameSpec)

/-- 'rollbacknetlaw31.IncarnationLives', WHERE WHAT IT READS IS OF BULK AT MOST 1048576: true; the input reads as it did. -/
def incarnationLivesUptoRow : OpenClaim := { program := "ytfgmboklpjanlaa", sum := "fd7594c6d2dc0141d4c3ea7445638e89aeee2210228d57bad338aa2cf4373718", func := "rollbacknet/rollbacknetlaw31.IncarnationLives", spec := "incarnationLives", unfollowed := true, recurses := true, apart := false, narrowed := true }
def IncarnationLivesUptoSaid : Prop := incarnationLivesUptoRow.holds Try.pinned (OpenSpec.upto incarnationLivesSpec)

end Rows
end Go.Proofs.Ytfgmboklpjanlaa
