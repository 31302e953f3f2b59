/-
  No cell of these rows narrows 'for every input' (looked for: loops, veiled, ifaces, maps, wideKeys, modest, calm, conditions, laid).
  DERIVED. THE GIVEN ROWS OF THIS SEAT. 9 by the template 'for every input the law returns true; each argument reads behind the call as it read before'; 0 by the template 'total and deterministic' (their statements: YtbmjcbhappjnaaaTotals.lean).
  GIVEN WITH THE SEED: the statements are not yours to turn. If you find one false, say at which input.
  Laid BY PROGRAM, IN A SANDBOX (cutbox-rows.mjs): the forced cells as the released guide's own fill.sh prints them over the translation 2339b4e60a5bcd0f… (all of the seat's roots in one cut). By AI agents, Wed Nov 11 2026. No macro, syntax, notation, axiom, sorry.
-/
import Derived.Test.YtbmjcbhappjnaaaChecked
import GoSem.Claim
import GoSem.ClaimJoined
import GoSem.ClaimMapViews
import Derived.JoinedTies
import Derived.KernelRfl
namespace Go.Proofs.Ytbmjcbhappjnaaa
/- THE CELL 'sum', in the pinned program and in every row, IS THE sha256 OF THE DUMP (.gsa) THAT YtbmjcbhappjnaaaProg.lean LOADS. Nothing in Lean hashes anything: it is a label: what it is worth is what the hold of that sum in a sandbox is worth. -/
noncomputable def Try.pinned : Pinned := { name := "ytbmjcbhappjnaaa", sum := "2339b4e60a5bcd0fb80bbfffbe9293b58973c1c8ceb812a49945ed68f51169a4", checked := Try.checked }
namespace Rows
def none {H : Type} : Left H := { results := [], args := [] }

/-- 'rollbacknetlaw26.ModelbasedPlays': WHATEVER THE INPUT: true; the input reads as it did. -/
def modelbasedPlaysSpec : ChangeSpec := { name := "modelbasedPlays", fn := fun _ => fun
  | [d1, d2, d3, d4] => { results := [.lit (.bool true)], args := [d1, d2, d3, d4] }
  | _ => none }
def modelbasedPlaysRow : OpenClaim := { program := "ytbmjcbhappjnaaa", sum := "2339b4e60a5bcd0fb80bbfffbe9293b58973c1c8ceb812a49945ed68f51169a4", func := "rollbacknet/rollbacknetlaw26.ModelbasedPlays", spec := "modelbasedPlays", unfollowed := true, recurses := true, plainKeys := false, apart := false }
def ModelbasedPlaysSaid : Prop := modelbasedPlaysRow.holds Try.pinned (OpenSpec.ofChange modelbasedPlaysSpec)

/-- ITS FALSE NEIGHBOUR: 'it returns false'. Refute it at one input. -/
def modelbasedPlaysWrong : ChangeSpec := { name := "modelbasedPlays", fn := fun _ => fun
  | [d1, d2, d3, d4] => { results := [.lit (.bool false)], args := [d1, d2, d3, d4] }
  | _ => none }
def ModelbasedPlaysWrongFalsely : Prop := modelbasedPlaysRow.holds Try.pinned (OpenSpec.ofChange modelbasedPlaysWrong)

/-- 'rollbacknetlaw26.ModelbasedFirst': WHATEVER THE INPUT: true; the input reads as it did. -/
def modelbasedFirstSpec : ChangeSpec := { name := "modelbasedFirst", fn := fun _ => fun
  | [d] => { results := [.lit (.bool true)], args := [d] }
  | _ => none }
def modelbasedFirstRow : OpenClaim := { program := "ytbmjcbhappjnaaa", sum := "2339b4e60a5bcd0fb80bbfffbe9293b58973c1c8ceb812a49945ed68f51169a4", func := "rollbacknet/rollbacknetlaw26.ModelbasedFirst", spec := "modelbasedFirst", unfollowed := true, recurses := true, plainKeys := false, apart := false }
def ModelbasedFirstSaid : Prop := modelbasedFirstRow.holds Try.pinned (OpenSpec.ofChange modelbasedFirstSpec)

/-- ITS FALSE NEIGHBOUR: 'it returns false'. Refute it at one input. -/
def modelbasedFirstWrong : ChangeSpec := { name := "modelbasedFirst", fn := fun _ => fun
  | [d] => { results := [.lit (.bool false)], args := [d] }
  | _ => none }
def ModelbasedFirstWrongFalsely : Prop := modelbasedFirstRow.holds Try.pinned (OpenSpec.ofChange modelbasedFirstWrong)

/-- 'rollbacknetlaw25.IndexedLines': WHATEVER THE INPUT: true; the input reads as it did. -/
def indexedLinesSpec : ChangeSpec := { name := "indexedLines", fn := fun _ => fun
  | [d1, d2] => { results := [.lit (.bool true)], args := [d1, d2] }
  | _ => none }
def indexedLinesRow : OpenClaim := { program := "ytbmjcbhappjnaaa", sum := "2339b4e60a5bcd0fb80bbfffbe9293b58973c1c8ceb812a49945ed68f51169a4", func := "rollbacknet/rollbacknetlaw25.IndexedLines", spec := "indexedLines", unfollowed := true, recurses := true, plainKeys := false, apart := false }
def IndexedLinesSaid : Prop := indexedLinesRow.holds Try.pinned (OpenSpec.ofChange indexedLinesSpec)

/-- ITS FALSE NEIGHBOUR: 'it returns false'. Refute it at one input. -/
def indexedLinesWrong : ChangeSpec := { name := "indexedLines", fn := fun _ => fun
  | [d1, d2] => { results := [.lit (.bool false)], args := [d1, d2] }
  | _ => none }
def IndexedLinesWrongFalsely : Prop := indexedLinesRow.holds Try.pinned (OpenSpec.ofChange indexedLinesWrong)

/-- 'rollbacknetlaw32.OrphanClocks': WHATEVER THE INPUT: true; the input reads as it did. -/
def orphanClocksSpec : ChangeSpec := { name := "orphanClocks", fn := fun _ => fun
  | [d] => { results := [.lit (.bool true)], args := [d] }
  | _ => none }
def orphanClocksRow : OpenClaim := { program := "ytbmjcbhappjnaaa", sum := "2339b4e60a5bcd0fb80bbfffbe9293b58973c1c8ceb812a49945ed68f51169a4", func := "rollbacknet/rollbacknetlaw32.OrphanClocks", spec := "orphanClocks", unfollowed := true, recurses := true, plainKeys := false, apart := false }
def OrphanClocksSaid : Prop := orphanClocksRow.holds Try.pinned (OpenSpec.ofChange orphanClocksSpec)

/-- ITS FALSE NEIGHBOUR: 'it returns false'. Refute it at one input. -/
def orphanClocksWrong : ChangeSpec := { name := "orphanClocks", fn := fun _ => fun
  | [d] => { results := [.lit (.bool false)], args := [d] }
  | _ => none }
def OrphanClocksWrongFalsely : Prop := orphanClocksRow.holds Try.pinned (OpenSpec.ofChange orphanClocksWrong)

/-- 'rollbacknetlaw26.ModelbasedDepends': WHATEVER THE INPUT: true; the input reads as it did. -/
def modelbasedDependsSpec : ChangeSpec := { name := "modelbasedDepends", fn := fun _ => fun
  | [d] => { results := [.lit (.bool true)], args := [d] }
  | _ => none }
def modelbasedDependsRow : OpenClaim := { program := "ytbmjcbhappjnaaa", sum := "2339b4e60a5bcd0fb80bbfffbe9293b58973c1c8ceb812a49945ed68f51169a4", func := "rollbacknet/rollbacknetlaw26.ModelbasedDepends", spec := "modelbasedDepends", unfollowed := true, recurses := true, plainKeys := false, apart := false }
def ModelbasedDependsSaid : Prop := modelbasedDependsRow.holds Try.pinned (OpenSpec.ofChange modelbasedDependsSpec)

/-- ITS FALSE NEIGHBOUR: 'it returns false'. Refute it at one input. -/
def modelbasedDependsWrong : ChangeSpec := { name := "modelbasedDepends", fn := fun _ => fun
  | [d] => { results := [.lit (.bool false)], args := [d] }
  | _ => none }
def ModelbasedDependsWrongFalsely : Prop := modelbasedDependsRow.holds Try.pinned (OpenSpec.ofChange modelbasedDependsWrong)

/-- 'rollbacknetlaw32.OrphanFinds': WHATEVER THE INPUT: true; the input reads as it did. -/
def orphanFindsSpec : ChangeSpec := { name := "orphanFinds", fn := fun _ => fun
  | [d] => { results := [.lit (.bool true)], args := [d] }
  | _ => none }
def orphanFindsRow : OpenClaim := { program := "ytbmjcbhappjnaaa", sum := "2339b4e60a5bcd0fb80bbfffbe9293b58973c1c8ceb812a49945ed68f51169a4", func := "rollbacknet/rollbacknetlaw32.OrphanFinds", spec := "orphanFinds", unfollowed := true, recurses := true, plainKeys := false, apart := false }
def OrphanFindsSaid : Prop := orphanFindsRow.holds Try.pinned (OpenSpec.ofChange orphanFindsSpec)

/-- ITS FALSE NEIGHBOUR: 'it returns false'. Refute it at one input. -/
def orphanFindsWrong : ChangeSpec := { name := "orphanFinds", fn := fun _ => fun
  | [d] => { results := [.lit (.bool false)], args := [d] }
  | _ => none }
def OrphanFindsWrongFalsely : Prop := orphanFindsRow.holds Try.pinned (OpenSpec.ofChange orphanFindsWrong)

/-- 'rollbacknetlaw25.IndexedUseful': WHATEVER THE INPUT: true; the input reads as it did. -/
def indexedUsefulSpec : ChangeSpec := { name := "indexedUseful", fn := fun _ => fun
  | [d] => { results := [.lit (.bool true)], args := [d] }
  | _ => none }
def indexedUsefulRow : OpenClaim := { program := "ytbmjcbhappjnaaa", sum := "2339b4e60a5bcd0fb80bbfffbe9293b58973c1c8ceb812a49945ed68f51169a4", func := "rollbacknet/rollbacknetlaw25.IndexedUseful", spec := "indexedUseful", unfollowed := true, recurses := true, plainKeys := false, apart := false }
def IndexedUsefulSaid : Prop := indexedUsefulRow.holds Try.pinned (OpenSpec.ofChange indexedUsefulSpec)

/-- ITS FALSE NEIGHBOUR: 'it returns false'. Refute it at one input. -/
def indexedUsefulWrong : ChangeSpec := { name := "indexedUseful", fn := fun _ => fun
  | [d] => { results := [.lit (.bool false)], args := [d] }
  | _ => none }
def IndexedUsefulWrongFalsely : Prop := indexedUsefulRow.holds Try.pinned (OpenSpec.ofChange indexedUsefulWrong)

/-- 'rollbacknetlaw26.ModelbasedUseful': WHATEVER THE INPUT: true; the input reads as it did. -/
def modelbasedUsefulSpec : ChangeSpec := { name := "modelbasedUseful", fn := fun _ => fun
  | [d] => { results := [.lit (.bool true)], args := [d] }
  | _ => none }
def modelbasedUsefulRow : OpenClaim := { program := "ytbmjcbhappjnaaa", sum := "2339b4e60a5bcd0fb80bbfffbe9293b58973c1c8ceb812a49945ed68f51169a4", func := "rollbacknet/rollbacknetlaw26.ModelbasedUseful", spec := "modelbasedUseful", unfollowed := true, recurses := true, plainKeys := false, apart := false }
def ModelbasedUsefulSaid : Prop := modelbasedUsefulRow.holds Try.pinned (OpenSpec.ofChange modelbasedUsefulSpec)

/-- ITS FALSE NEIGHBOUR: 'it returns false'. Refute it at one input. -/
def modelbasedUsefulWrong : ChangeSpec := { name := "modelbasedUseful", fn := fun _ => fun
  | [d] => { results := [.lit (.bool false)], args := [d] }
  | _ => none }
def ModelbasedUsefulWrongFalsely : Prop := modelbasedUsefulRow.holds Try.pinned (OpenSpec.ofChange modelbasedUsefulWrong)

/-- 'rollbacknetlaw26.ModelbasedTracks': WHATEVER THE INPUT: true; the input reads as it did. -/
def modelbasedTracksSpec : ChangeSpec := { name := "modelbasedTracks", fn := fun _ => fun
  | [d] => { results := [.lit (.bool true)], args := [d] }
  | _ => none }
def modelbasedTracksRow : OpenClaim := { program := "ytbmjcbhappjnaaa", sum := "2339b4e60a5bcd0fb80bbfffbe9293b58973c1c8ceb812a49945ed68f51169a4", func := "rollbacknet/rollbacknetlaw26.ModelbasedTracks", spec := "modelbasedTracks", unfollowed := true, recurses := true, plainKeys := false, apart := false }
def ModelbasedTracksSaid : Prop := modelbasedTracksRow.holds Try.pinned (OpenSpec.ofChange modelbasedTracksSpec)

/-- ITS FALSE NEIGHBOUR: 'it returns false'. Refute it at one input. -/
def modelbasedTracksWrong : ChangeSpec := { name := "modelbasedTracks", fn := fun _ => fun
  | [d] => { results := [.lit (.bool false)], args := [d] }
  | _ => none }
def ModelbasedTracksWrongFalsely : Prop := modelbasedTracksRow.holds Try.pinned (OpenSpec.ofChange modelbasedTracksWrong)

/- THE SECOND FORM. 'bulk': how many values and letters a reading holds, each counted each time it is reached (what is shared counts as often as it is met; a slice's spare places count too). A statement '..UptoSaid' is the law's where the arguments, and the package variables that the reading takes, are together of bulk at most 1048576: NARROWER than '..Said'. Prove '..Said' where nothing that the law and all that it calls make is longer than what came in: it says more and counts as full. Else prove '..UptoSaid'. A law counts once. -/
mutual
def uptoBulk {H : Type} : DataW H → Nat
  | .lit (.string bytes) => bytes.length + 1
  | .lit _ => 1
  | .nil => 1
  | .ptr d => uptoBulk d + 1
  | .slice elems spare => uptoBulkAll elems + uptoBulkAll spare + 1
  | .agg parts => uptoBulkAll parts + 1
  | .iface _ d => uptoBulk d + 1
  | .map entries => uptoBulkEntries entries + 1
  | .held _ => 1
def uptoBulkAll {H : Type} : List (DataW H) → Nat
  | [] => 0
  | d :: r => uptoBulk d + uptoBulkAll r
def uptoBulkEntries {H : Type} : List (Lit × DataW H) → Nat
  | [] => 0
  | x :: r => uptoBulkEntry x + uptoBulkEntries r
def uptoBulkEntry {H : Type} : Lit × DataW H → Nat
  | (.string bytes, d) => bytes.length + uptoBulk d + 1
  | (_, d) => uptoBulk d + 1
 end
def uptoSmall : (H : Type) → List (DataW H) → Bool := fun _ ds => decide (uptoBulkAll ds ≤ 1048576)
def OpenSpec.upto (s : _root_.Go.ChangeSpec) : _root_.Go.OpenSpec := { _root_.Go.OpenSpec.ofChange s with cond := some uptoSmall }

/-- 'rollbacknetlaw26.ModelbasedPlays', WHERE WHAT IT READS IS OF BULK AT MOST 1048576: true; the input reads as it did. -/
def modelbasedPlaysUptoRow : OpenClaim := { program := "ytbmjcbhappjnaaa", sum := "2339b4e60a5bcd0fb80bbfffbe9293b58973c1c8ceb812a49945ed68f51169a4", func := "rollbacknet/rollbacknetlaw26.ModelbasedPlays", spec := "modelbasedPlays", unfollowed := true, recurses := true, plainKeys := false, apart := false, narrowed := true }
def ModelbasedPlaysUptoSaid : Prop := modelbasedPlaysUptoRow.holds Try.pinned (OpenSpec.upto modelbasedPlaysSpec)

/-- 'rollbacknetlaw26.ModelbasedFirst', WHERE WHAT IT READS IS OF BULK AT MOST 1048576: true; the input reads as it did. -/
def modelbasedFirstUptoRow : OpenClaim := { program := "ytbmjcbhappjnaaa", sum := "2339b4e60a5bcd0fb80bbfffbe9293b58973c1c8ceb812a49945ed68f51169a4", func := "rollbacknet/rollbacknetlaw26.ModelbasedFirst", spec := "modelbasedFirst", unfollowed := true, recurses := true, plainKeys := false, apart := false, narrowed := true }
def ModelbasedFirstUptoSaid : Prop := modelbasedFirstUptoRow.holds Try.pinned (OpenSpec.upto modelbasedFirstSpec)

/-- 'rollbacknetlaw25.IndexedLines', WHERE WHAT IT READS IS OF BULK AT MOST 1048576: true; the input reads as it did. -/
def indexedLinesUptoRow : OpenClaim := { program := "ytbmjcbhappjnaaa", sum := "2339b4e60a5bcd0fb80bbfffbe9293b58973c1c8ceb812a49945ed68f51169a4", func := "rollbacknet/rollbacknetlaw25.IndexedLines", spec := "indexedLines", unfollowed := true, recurses := true, plainKeys := false, apart := false, narrowed := true }
def IndexedLinesUptoSaid : Prop := indexedLinesUptoRow.holds Try.pinned (OpenSpec.upto indexedLinesSpec)

/-- 'rollbacknetlaw32.OrphanClocks', WHERE WHAT IT READS IS OF BULK AT MOST 1048576: true; the input reads as it did. -/
def orphanClocksUptoRow : OpenClaim := { program := "ytbmjcbhappjnaaa", sum := "2339b4e60a5bcd0fb80bbfffbe9293b58973c1c8ceb812a49945ed68f51169a4", func := "rollbacknet/rollbacknetlaw32.OrphanClocks", spec := "orphanClocks", unfollowed := true, recurses := true, plainKeys := false, apart := false, narrowed := true }
def OrphanClocksUptoSaid : Prop := orphanClocksUptoRow.holds Try.pinned (OpenSpec.upto orphanClocksSpec)

/-- 'rollbacknetlaw26.ModelbasedDepends', WHERE WHAT IT READS IS OF BULK AT MOST 1048576: true; the input reads as it did. -/
def modelbasedDependsUptoRow : OpenClaim := { program := "ytbmjcbhappjnaaa", sum := "2339b4e60a5bcd0fb80bbfffbe9293b58973c1c8ceb812a49945ed68f51169a4", func := "rollbacknet/rollbacknetlaw26.ModelbasedDepends", spec := "modelbasedDepends", unfollowed := true, recurses := true, plainKeys := false, apart := false, narrowed := true }
def ModelbasedDependsUptoSaid : Prop := modelbasedDependsUptoRow.holds Try.pinned (OpenSpec.upto modelbasedDependsSpec)

/-- 'rollbacknetlaw32.OrphanFinds', WHERE WHAT IT READS IS OF BULK AT MOST 1048576: true; the input reads as it did. -/
def orphanFindsUptoRow : OpenClaim := { program := "ytbmjcbhappjnaaa", sum := "2339b4e60a5bcd0fb80bbfffbe9293b58973c1c8ceb812a49945ed68f51169a4", func := "rollbacknet/rollbacknetlaw32.OrphanFinds", spec := "orphanFinds", unfollowed := true, recurses := true, plainKeys := false, apart := false, narrowed := true }
def OrphanFindsUptoSaid : Prop := orphanFindsUptoRow.holds Try.pinned (OpenSpec.upto orphanFindsSpec)

/-- 'rollbacknetlaw25.IndexedUseful', WHERE WHAT IT READS IS OF BULK AT MOST 1048576: true; the input reads as it did. -/
def indexedUsefulUptoRow : OpenClaim := { program := "ytbmjcbhappjnaaa", sum := "2339b4e60a5bcd0fb80bbfffbe9293b58973c1c8ceb812a49945ed68f51169a4", func := "rollbacknet/rollbacknetlaw25.IndexedUseful", spec := "indexedUseful", unfollowed := true, recurses := true, plainKeys := false, apart := false, narrowed := true }
def IndexedUsefulUptoSaid : Prop := indexedUsefulUptoRow.holds Try.pinned (OpenSpec.upto indexedUsefulSpec)

/-- 'rollbacknetlaw26.ModelbasedUseful', WHERE WHAT IT READS IS OF BULK AT MOST 1048576: true; the input reads as it did. -/
def modelbasedUsefulUptoRow : OpenClaim := { program := "ytbmjcbhappjnaaa", sum := "2339b4e60a5bcd0fb80bbfffbe9293b58973c1c8ceb812a49945ed68f51169a4", func := "rollbacknet/rollbacknetlaw26.ModelbasedUseful", spec := "modelbasedUseful", unfollowed := true, recurses := true, plainKeys := false, apart := false, narrowed := true }
def ModelbasedUsefulUptoSaid : Prop := modelbasedUsefulUptoRow.holds Try.pinned (OpenSpec.upto modelbasedUsefulSpec)

/-- 'rollbacknetlaw26.ModelbasedTracks', WHERE WHAT IT READS IS OF BULK AT MOST 1048576: true; the input reads as it did. -/
def modelbasedTracksUptoRow : OpenClaim := { program := "ytbmjcbhappjnaaa", sum := "2339b4e60a5bcd0fb80bbfffbe9293b58973c1c8ceb812a49945ed68f51169a4", func := "rollbacknet/rollbacknetlaw26.ModelbasedTracks", spec := "modelbasedTracks", unfollowed := true, recurses := true, plainKeys := false, apart := false, narrowed := true }
def ModelbasedTracksUptoSaid : Prop := modelbasedTracksUptoRow.holds Try.pinned (OpenSpec.upto modelbasedTracksSpec)

end Rows
end Go.Proofs.Ytbmjcbhappjnaaa
