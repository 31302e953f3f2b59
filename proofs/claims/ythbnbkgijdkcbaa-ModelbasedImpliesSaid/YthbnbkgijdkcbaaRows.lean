/-
  No cell of these rows narrows 'for every input' (looked for: loops, veiled, ifaces, maps, wideKeys, modest, calm, conditions, laid).
  DERIVED. THE GIVEN ROWS OF THIS SEAT. 8 by the template 'for every input the law returns true; each argument reads behind the call as it read before'; 0 by the template 'total and deterministic' (their statements: YthbnbkgijdkcbaaTotals.lean).
  GIVEN WITH THE SEED: the statements are not yours to turn. If you find one false, say at which input.
  Laid BY PROGRAM, IN A SANDBOX (cutbox-rows.mjs): the forced cells as the released guide's own fill.sh prints them over the translation a78f33f76265e1c5… (all of the seat's roots in one cut). By AI agents, Wed Nov 11 2026. No macro, syntax, notation, axiom, sorry.
-/
import Derived.Test.YthbnbkgijdkcbaaChecked
import GoSem.Claim
import GoSem.ClaimJoined
import GoSem.ClaimMapViews
import Derived.JoinedTies
import Derived.KernelRfl
namespace Go.Proofs.Ythbnbkgijdkcbaa
/- THE CELL 'sum', in the pinned program and in every row, IS THE sha256 OF THE DUMP (.gsa) THAT YthbnbkgijdkcbaaProg.lean LOADS. Nothing in Lean hashes anything: it is a label: what it is worth is what the hold of that sum in a sandbox is worth. -/
noncomputable def Try.pinned : Pinned := { name := "ythbnbkgijdkcbaa", sum := "a78f33f76265e1c502d7cd34f1ccdf64fb756c1f3d9c7af6ecca29bea6e7b1d2", checked := Try.checked }
namespace Rows
def none {H : Type} : Left H := { results := [], args := [] }

/-- 'rollbacknetlaw26.ModelbasedMerges': WHATEVER THE INPUT: true; the input reads as it did. -/
def modelbasedMergesSpec : ChangeSpec := { name := "modelbasedMerges", fn := fun _ => fun
  | [d1, d2, d3] => { results := [.lit (.bool true)], args := [d1, d2, d3] }
  | _ => none }
def modelbasedMergesRow : OpenClaim := { program := "ythbnbkgijdkcbaa", sum := "a78f33f76265e1c502d7cd34f1ccdf64fb756c1f3d9c7af6ecca29bea6e7b1d2", func := "rollbacknet/rollbacknetlaw26.ModelbasedMerges", spec := "modelbasedMerges", unfollowed := true, recurses := true, plainKeys := false, apart := false }
def ModelbasedMergesSaid : Prop := modelbasedMergesRow.holds Try.pinned (OpenSpec.ofChange modelbasedMergesSpec)

/-- ITS FALSE NEIGHBOUR: 'it returns false'. Refute it at one input. -/
def modelbasedMergesWrong : ChangeSpec := { name := "modelbasedMerges", fn := fun _ => fun
  | [d1, d2, d3] => { results := [.lit (.bool false)], args := [d1, d2, d3] }
  | _ => none }
def ModelbasedMergesWrongFalsely : Prop := modelbasedMergesRow.holds Try.pinned (OpenSpec.ofChange modelbasedMergesWrong)

/-- 'rollbacknetlaw26.ModelbasedPlays': WHATEVER THE INPUT: true; the input reads as it did. -/
def modelbasedPlaysSpec : ChangeSpec := { name := "modelbasedPlays", fn := fun _ => fun
  | [d1, d2, d3, d4] => { results := [.lit (.bool true)], args := [d1, d2, d3, d4] }
  | _ => none }
def modelbasedPlaysRow : OpenClaim := { program := "ythbnbkgijdkcbaa", sum := "a78f33f76265e1c502d7cd34f1ccdf64fb756c1f3d9c7af6ecca29bea6e7b1d2", func := "rollbacknet/rollbacknetlaw26.ModelbasedPlays", spec := "modelbasedPlays", unfollowed := true, recurses := true, plainKeys := false, apart := false }
def ModelbasedPlaysSaid : Prop := modelbasedPlaysRow.holds Try.pinned (OpenSpec.ofChange modelbasedPlaysSpec)

/-- ITS FALSE NEIGHBOUR: 'it returns false'. Refute it at one input. -/
def modelbasedPlaysWrong : ChangeSpec := { name := "modelbasedPlays", fn := fun _ => fun
  | [d1, d2, d3, d4] => { results := [.lit (.bool false)], args := [d1, d2, d3, d4] }
  | _ => none }
def ModelbasedPlaysWrongFalsely : Prop := modelbasedPlaysRow.holds Try.pinned (OpenSpec.ofChange modelbasedPlaysWrong)

/-- 'rollbacknetlaw26.ModelbasedFirst': WHATEVER THE INPUT: true; the input reads as it did. -/
def modelbasedFirstSpec : ChangeSpec := { name := "modelbasedFirst", fn := fun _ => fun
  | [d] => { results := [.lit (.bool true)], args := [d] }
  | _ => none }
def modelbasedFirstRow : OpenClaim := { program := "ythbnbkgijdkcbaa", sum := "a78f33f76265e1c502d7cd34f1ccdf64fb756c1f3d9c7af6ecca29bea6e7b1d2", func := "rollbacknet/rollbacknetlaw26.ModelbasedFirst", spec := "modelbasedFirst", unfollowed := true, recurses := true, plainKeys := false, apart := false }
def ModelbasedFirstSaid : Prop := modelbasedFirstRow.holds Try.pinned (OpenSpec.ofChange modelbasedFirstSpec)

/-- ITS FALSE NEIGHBOUR: 'it returns false'. Refute it at one input. -/
def modelbasedFirstWrong : ChangeSpec := { name := "modelbasedFirst", fn := fun _ => fun
  | [d] => { results := [.lit (.bool false)], args := [d] }
  | _ => none }
def ModelbasedFirstWrongFalsely : Prop := modelbasedFirstRow.holds Try.pinned (OpenSpec.ofChange modelbasedFirstWrong)

/-- 'rollbacknetlaw26.ModelbasedForces': WHATEVER THE INPUT: true; the input reads as it did. -/
def modelbasedForcesSpec : ChangeSpec := { name := "modelbasedForces", fn := fun _ => fun
  | [d1, d2, d3, d4, d5] => { results := [.lit (.bool true)], args := [d1, d2, d3, d4, d5] }
  | _ => none }
def modelbasedForcesRow : OpenClaim := { program := "ythbnbkgijdkcbaa", sum := "a78f33f76265e1c502d7cd34f1ccdf64fb756c1f3d9c7af6ecca29bea6e7b1d2", func := "rollbacknet/rollbacknetlaw26.ModelbasedForces", spec := "modelbasedForces", unfollowed := true, recurses := true, plainKeys := false, apart := false }
def ModelbasedForcesSaid : Prop := modelbasedForcesRow.holds Try.pinned (OpenSpec.ofChange modelbasedForcesSpec)

/-- ITS FALSE NEIGHBOUR: 'it returns false'. Refute it at one input. -/
def modelbasedForcesWrong : ChangeSpec := { name := "modelbasedForces", fn := fun _ => fun
  | [d1, d2, d3, d4, d5] => { results := [.lit (.bool false)], args := [d1, d2, d3, d4, d5] }
  | _ => none }
def ModelbasedForcesWrongFalsely : Prop := modelbasedForcesRow.holds Try.pinned (OpenSpec.ofChange modelbasedForcesWrong)

/-- 'rollbacknetlaw26.ModelbasedImplies': WHATEVER THE INPUT: true; the input reads as it did. -/
def modelbasedImpliesSpec : ChangeSpec := { name := "modelbasedImplies", fn := fun _ => fun
  | [d1, d2, d3, d4] => { results := [.lit (.bool true)], args := [d1, d2, d3, d4] }
  | _ => none }
def modelbasedImpliesRow : OpenClaim := { program := "ythbnbkgijdkcbaa", sum := "a78f33f76265e1c502d7cd34f1ccdf64fb756c1f3d9c7af6ecca29bea6e7b1d2", func := "rollbacknet/rollbacknetlaw26.ModelbasedImplies", spec := "modelbasedImplies", unfollowed := true, recurses := true, plainKeys := false, apart := false }
def ModelbasedImpliesSaid : Prop := modelbasedImpliesRow.holds Try.pinned (OpenSpec.ofChange modelbasedImpliesSpec)

/-- ITS FALSE NEIGHBOUR: 'it returns false'. Refute it at one input. -/
def modelbasedImpliesWrong : ChangeSpec := { name := "modelbasedImplies", fn := fun _ => fun
  | [d1, d2, d3, d4] => { results := [.lit (.bool false)], args := [d1, d2, d3, d4] }
  | _ => none }
def ModelbasedImpliesWrongFalsely : Prop := modelbasedImpliesRow.holds Try.pinned (OpenSpec.ofChange modelbasedImpliesWrong)

/-- 'rollbacknetlaw26.ModelbasedDepends': WHATEVER THE INPUT: true; the input reads as it did. -/
def modelbasedDependsSpec : ChangeSpec := { name := "modelbasedDepends", fn := fun _ => fun
  | [d] => { results := [.lit (.bool true)], args := [d] }
  | _ => none }
def modelbasedDependsRow : OpenClaim := { program := "ythbnbkgijdkcbaa", sum := "a78f33f76265e1c502d7cd34f1ccdf64fb756c1f3d9c7af6ecca29bea6e7b1d2", func := "rollbacknet/rollbacknetlaw26.ModelbasedDepends", spec := "modelbasedDepends", unfollowed := true, recurses := true, plainKeys := false, apart := false }
def ModelbasedDependsSaid : Prop := modelbasedDependsRow.holds Try.pinned (OpenSpec.ofChange modelbasedDependsSpec)

/-- ITS FALSE NEIGHBOUR: 'it returns false'. Refute it at one input. -/
def modelbasedDependsWrong : ChangeSpec := { name := "modelbasedDepends", fn := fun _ => fun
  | [d] => { results := [.lit (.bool false)], args := [d] }
  | _ => none }
def ModelbasedDependsWrongFalsely : Prop := modelbasedDependsRow.holds Try.pinned (OpenSpec.ofChange modelbasedDependsWrong)

/-- 'rollbacknetlaw26.ModelbasedUseful': WHATEVER THE INPUT: true; the input reads as it did. -/
def modelbasedUsefulSpec : ChangeSpec := { name := "modelbasedUseful", fn := fun _ => fun
  | [d] => { results := [.lit (.bool true)], args := [d] }
  | _ => none }
def modelbasedUsefulRow : OpenClaim := { program := "ythbnbkgijdkcbaa", sum := "a78f33f76265e1c502d7cd34f1ccdf64fb756c1f3d9c7af6ecca29bea6e7b1d2", func := "rollbacknet/rollbacknetlaw26.ModelbasedUseful", spec := "modelbasedUseful", unfollowed := true, recurses := true, plainKeys := false, apart := false }
def ModelbasedUsefulSaid : Prop := modelbasedUsefulRow.holds Try.pinned (OpenSpec.ofChange modelbasedUsefulSpec)

/-- ITS FALSE NEIGHBOUR: 'it returns false'. Refute it at one input. -/
def modelbasedUsefulWrong : ChangeSpec := { name := "modelbasedUseful", fn := fun _ => fun
  | [d] => { results := [.lit (.bool false)], args := [d] }
  | _ => none }
def ModelbasedUsefulWrongFalsely : Prop := modelbasedUsefulRow.holds Try.pinned (OpenSpec.ofChange modelbasedUsefulWrong)

/-- 'rollbacknetlaw26.ModelbasedTracks': WHATEVER THE INPUT: true; the input reads as it did. -/
def modelbasedTracksSpec : ChangeSpec := { name := "modelbasedTracks", fn := fun _ => fun
  | [d] => { results := [.lit (.bool true)], args := [d] }
  | _ => none }
def modelbasedTracksRow : OpenClaim := { program := "ythbnbkgijdkcbaa", sum := "a78f33f76265e1c502d7cd34f1ccdf64fb756c1f3d9c7af6ecca29bea6e7b1d2", func := "rollbacknet/rollbacknetlaw26.ModelbasedTracks", spec := "modelbasedTracks", unfollowed := true, recurses := true, plainKeys := false, apart := false }
def ModelbasedTracksSaid : Prop := modelbasedTracksRow.holds Try.pinned (OpenSpec.ofChange modelbasedTracksSpec)

/-- ITS FALSE NEIGHBOUR: 'it returns false'. Refute it at one input. -/
def modelbasedTracksWrong : ChangeSpec := { name := "modelbasedTracks", fn := fun _ => fun
  | [d] => { results := [.lit (.bool false)], args := [d] }
  | _ => none }
def ModelbasedTracksWrongFalsely : Prop := modelbasedTracksRow.holds Try.pinned (OpenSpec.ofChange modelbasedTracksWrong)

/- THE SECOND FORM. 'bulk': how many values and letters a reading holds, each counted each time it is reached (what is shared counts as often as it is met; a slice's spare places count too). A statement '..UptoSaid' is the law's where the arguments, and the package variables that the reading takes, are together of bulk at most 1048576: NARROWER than '..Said'. Prove '..Said' where nothing that the law and all that it calls make is longer than what came in: it says more and counts as full. Else prove '..UptoSaid'. A law counts once. -/
mutual
def uptoBulk {H : Type} : DataW H → Nat
  | .lit (.string bytes) => bytes.length + 1
  | .lit _ => 1
  | .nil => 1
  | .ptr d => uptoBulk d + 1
  | .slice elems spare => uptoBulkAll elems + uptoBulkAll spare + 1
  | .agg parts => uptoBulkAll parts + 1
  | .iface _ d => uptoBulk d + 1
  | .map entries => uptoBulkEntries entries + 1
  | .held _ => 1
def uptoBulkAll {H : Type} : List (DataW H) → Nat
  | [] => 0
  | d :: r => uptoBulk d + uptoBulkAll r
def uptoBulkEntries {H : Type} : List (Lit × DataW H) → Nat
  | [] => 0
  | x :: r => uptoBulkEntry x + uptoBulkEntries r
def uptoBulkEntry {H : Type} : Lit × DataW H → Nat
  | (.string bytes, d) => bytes.length + uptoBulk d + 1
  | (_, d) => uptoBulk d + 1
 end
def uptoSmall : (H : Type) → List (DataW H) → Bool := fun _ ds => decide (uptoBulkAll ds ≤ 1048576)
def OpenSpec.upto (s : _root_.Go.ChangeSpec) : _root_.Go.OpenSpec := { _root_.Go.OpenSpec.ofChange s with cond := some uptoSmall }

/-- 'rollbacknetlaw26.ModelbasedMerges', WHERE WHAT IT READS IS OF BULK AT MOST 1048576: true; the input reads as it did. -/
def modelbasedMergesUptoRow : OpenClaim := { program := "ythbnbkgijdkcbaa", sum := "a78f33f76265e1c502d7cd34f1ccdf64fb756c1f3d9c7af6ecca29bea6e7b1d2", func := "rollbacknet/rollbacknetlaw26.ModelbasedMerges", spec := "modelbasedMerges", unfollowed := true, recurses := true, plainKeys := false, apart := false, narrowed := true }
def ModelbasedMergesUptoSaid : Prop := modelbasedMergesUptoRow.holds Try.pinned (OpenSpec.upto modelbasedMergesSpec)

/-- 'rollbacknetlaw26.ModelbasedPlays', WHERE WHAT IT READS IS OF BULK AT MOST 1048576: true; the input reads as it did. -/
def modelbasedPlaysUptoRow : OpenClaim := { program := "ythbnbkgijdkcbaa", sum := "a78f33f76265e1c502d7cd34f1ccdf64fb756c1f3d9c7af6ecca29bea6e7b1d2", func := "rollbacknet/rollbacknetlaw26.ModelbasedPlays", spec := "modelbasedPlays", unfollowed := true, recurses := true, plainKeys := false, apart := false, narrowed := true }
def ModelbasedPlaysUptoSaid : Prop := modelbasedPlaysUptoRow.holds Try.pinned (OpenSpec.upto modelbasedPlaysSpec)

/-- 'rollbacknetlaw26.ModelbasedFirst', WHERE WHAT IT READS IS OF BULK AT MOST 1048576: true; the input reads as it did. -/
def modelbasedFirstUptoRow : OpenClaim := { program := "ythbnbkgijdkcbaa", sum := "a78f33f76265e1c502d7cd34f1ccdf64fb756c1f3d9c7af6ecca29bea6e7b1d2", func := "rollbacknet/rollbacknetlaw26.ModelbasedFirst", spec := "modelbasedFirst", unfollowed := true, recurses := true, plainKeys := false, apart := false, narrowed := true }
def ModelbasedFirstUptoSaid : Prop := modelbasedFirstUptoRow.holds Try.pinned (OpenSpec.upto modelbasedFirstSpec)

/-- 'rollbacknetlaw26.ModelbasedForces', WHERE WHAT IT READS IS OF BULK AT MOST 1048576: true; the input reads as it did. -/
def modelbasedForcesUptoRow : OpenClaim := { program := "ythbnbkgijdkcbaa", sum := "a78f33f76265e1c502d7cd34f1ccdf64fb756c1f3d9c7af6ecca29bea6e7b1d2", func := "rollbacknet/rollbacknetlaw26.ModelbasedForces", spec := "modelbasedForces", unfollowed := true, recurses := true, plainKeys := false, apart := false, narrowed := true }
def ModelbasedForcesUptoSaid : Prop := modelbasedForcesUptoRow.holds Try.pinned (OpenSpec.upto modelbasedForcesSpec)

/-- 'rollbacknetlaw26.ModelbasedImplies', WHERE WHAT IT READS IS OF BULK AT MOST 1048576: true; the input reads as it did. -/
def modelbasedImpliesUptoRow : OpenClaim := { program := "ythbnbkgijdkcbaa", sum := "a78f33f76265e1c502d7cd34f1ccdf64fb756c1f3d9c7af6ecca29bea6e7b1d2", func := "rollbacknet/rollbacknetlaw26.ModelbasedImplies", spec := "modelbasedImplies", unfollowed := true, recurses := true, plainKeys := false, apart := false, narrowed := true }
def ModelbasedImpliesUptoSaid : Prop := modelbasedImpliesUptoRow.holds Try.pinned (OpenSpec.upto modelbasedImpliesSpec)

/-- 'rollbacknetlaw26.ModelbasedDepends', WHERE WHAT IT READS IS OF BULK AT MOST 1048576: true; the input reads as it did. -/
def modelbasedDependsUptoRow : OpenClaim := { program := "ythbnbkgijdkcbaa", sum := "a78f33f76265e1c502d7cd34f1ccdf64fb756c1f3d9c7af6ecca29bea6e7b1d2", func := "rollbacknet/rollbacknetlaw26.ModelbasedDepends", spec := "modelbasedDepends", unfollowed := true, recurses := true, plainKeys := false, apart := false, narrowed := true }
def ModelbasedDependsUptoSaid : Prop := modelbasedDependsUptoRow.holds Try.pinned (OpenSpec.upto modelbasedDependsSpec)

/-- 'rollbacknetlaw26.ModelbasedUseful', WHERE WHAT IT READS IS OF BULK AT MOST 1048576: true; the input reads as it did. -/
def modelbasedUsefulUptoRow : OpenClaim := { program := "ythbnbkgijdkcbaa", sum := "a78f33f76265e1c502d7cd34f1ccdf64fb756c1f3d9c7af6ecca29bea6e7b1d2", func := "rollbacknet/rollbacknetlaw26.ModelbasedUseful", spec := "modelbasedUseful", unfollowed := true, recurses := true, plainKeys := false, apart := false, narrowed := true }
def ModelbasedUsefulUptoSaid : Prop := modelbasedUsefulUptoRow.holds Try.pinned (OpenSpec.upto modelbasedUsefulSpec)

/-- 'rollbacknetlaw26.ModelbasedTracks', WHERE WHAT IT READS IS OF BULK AT MOST 1048576: true; the input reads as it did. -/
def modelbasedTracksUptoRow : OpenClaim := { program := "ythbnbkgijdkcbaa", sum := "a78f33f76265e1c502d7cd34f1ccdf64fb756c1f3d9c7af6ecca29bea6e7b1d2", func := "rollbacknet/rollbacknetlaw26.ModelbasedTracks", spec := "modelbasedTracks", unfollowed := true, recurses := true, plainKeys := false, apart := false, narrowed := true }
def ModelbasedTracksUptoSaid : Prop := modelbasedTracksUptoRow.holds Try.pinned (OpenSpec.upto modelbasedTracksSpec)

end Rows
end Go.Proofs.Ythbnbkgijdkcbaa
