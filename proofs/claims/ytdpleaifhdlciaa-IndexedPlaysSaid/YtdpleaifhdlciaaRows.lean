/-
  No cell of these rows narrows 'for every input' (looked for: loops, veiled, ifaces, maps, wideKeys, modest, calm, conditions, laid).
  DERIVED. THE GIVEN ROWS OF THIS SEAT. 8 by the template 'for every input the law returns true; each argument reads behind the call as it read before'; 0 by the template 'total and deterministic' (their statements: YtdpleaifhdlciaaTotals.lean).
  GIVEN WITH THE SEED: the statements are not yours to turn. If you find one false, say at which input.
  Laid BY PROGRAM, IN A SANDBOX (cutbox-rows.mjs): the forced cells as the released guide's own fill.sh prints them over the translation 8bcf5e198aeed7f6… (all of the seat's roots in one cut). By AI agents, Wed Nov 11 2026. No macro, syntax, notation, axiom, sorry.
-/
import Derived.Test.YtdpleaifhdlciaaChecked
import GoSem.Claim
import GoSem.ClaimJoined
import GoSem.ClaimMapViews
import Derived.JoinedTies
import Derived.KernelRfl
namespace Go.Proofs.Ytdpleaifhdlciaa
/- THE CELL 'sum', in the pinned program and in every row, IS THE sha256 OF THE DUMP (.gsa) THAT YtdpleaifhdlciaaProg.lean LOADS. Nothing in Lean hashes anything: it is a label: what it is worth is what the hold of that sum in a sandbox is worth. -/
noncomputable def Try.pinned : Pinned := { name := "ytdpleaifhdlciaa", sum := "8bcf5e198aeed7f6432d5a142b153a2dd18aa19fc6377858e1d061ff476b2b20", checked := Try.checked }
namespace Rows
def none {H : Type} : Left H := { results := [], args := [] }

/-- 'rollbacknetlaw25.IndexedForces': WHATEVER THE INPUT: true; the input reads as it did. -/
def indexedForcesSpec : ChangeSpec := { name := "indexedForces", fn := fun _ => fun
  | [d1, d2] => { results := [.lit (.bool true)], args := [d1, d2] }
  | _ => none }
def indexedForcesRow : OpenClaim := { program := "ytdpleaifhdlciaa", sum := "8bcf5e198aeed7f6432d5a142b153a2dd18aa19fc6377858e1d061ff476b2b20", func := "rollbacknet/rollbacknetlaw25.IndexedForces", spec := "indexedForces", plainKeys := false, apart := false }
def IndexedForcesSaid : Prop := indexedForcesRow.holds Try.pinned (OpenSpec.ofChange indexedForcesSpec)

/-- ITS FALSE NEIGHBOUR: 'it returns false'. Refute it at one input. -/
def indexedForcesWrong : ChangeSpec := { name := "indexedForces", fn := fun _ => fun
  | [d1, d2] => { results := [.lit (.bool false)], args := [d1, d2] }
  | _ => none }
def IndexedForcesWrongFalsely : Prop := indexedForcesRow.holds Try.pinned (OpenSpec.ofChange indexedForcesWrong)

/-- 'rollbacknetlaw25.IndexedPlays': WHATEVER THE INPUT: true; the input reads as it did. -/
def indexedPlaysSpec : ChangeSpec := { name := "indexedPlays", fn := fun _ => fun
  | [d1, d2, d3] => { results := [.lit (.bool true)], args := [d1, d2, d3] }
  | _ => none }
def indexedPlaysRow : OpenClaim := { program := "ytdpleaifhdlciaa", sum := "8bcf5e198aeed7f6432d5a142b153a2dd18aa19fc6377858e1d061ff476b2b20", func := "rollbacknet/rollbacknetlaw25.IndexedPlays", spec := "indexedPlays", plainKeys := false, apart := false }
def IndexedPlaysSaid : Prop := indexedPlaysRow.holds Try.pinned (OpenSpec.ofChange indexedPlaysSpec)

/-- ITS FALSE NEIGHBOUR: 'it returns false'. Refute it at one input. -/
def indexedPlaysWrong : ChangeSpec := { name := "indexedPlays", fn := fun _ => fun
  | [d1, d2, d3] => { results := [.lit (.bool false)], args := [d1, d2, d3] }
  | _ => none }
def IndexedPlaysWrongFalsely : Prop := indexedPlaysRow.holds Try.pinned (OpenSpec.ofChange indexedPlaysWrong)

/-- 'rollbacknetlaw25.IndexedAscends': WHATEVER THE INPUT: true; the input reads as it did. -/
def indexedAscendsSpec : ChangeSpec := { name := "indexedAscends", fn := fun _ => fun
  | [d] => { results := [.lit (.bool true)], args := [d] }
  | _ => none }
def indexedAscendsRow : OpenClaim := { program := "ytdpleaifhdlciaa", sum := "8bcf5e198aeed7f6432d5a142b153a2dd18aa19fc6377858e1d061ff476b2b20", func := "rollbacknet/rollbacknetlaw25.IndexedAscends", spec := "indexedAscends", plainKeys := false, apart := false }
def IndexedAscendsSaid : Prop := indexedAscendsRow.holds Try.pinned (OpenSpec.ofChange indexedAscendsSpec)

/-- ITS FALSE NEIGHBOUR: 'it returns false'. Refute it at one input. -/
def indexedAscendsWrong : ChangeSpec := { name := "indexedAscends", fn := fun _ => fun
  | [d] => { results := [.lit (.bool false)], args := [d] }
  | _ => none }
def IndexedAscendsWrongFalsely : Prop := indexedAscendsRow.holds Try.pinned (OpenSpec.ofChange indexedAscendsWrong)

/-- 'rollbacknetlaw25.IndexedRises': WHATEVER THE INPUT: true; the input reads as it did. -/
def indexedRisesSpec : ChangeSpec := { name := "indexedRises", fn := fun _ => fun
  | [d] => { results := [.lit (.bool true)], args := [d] }
  | _ => none }
def indexedRisesRow : OpenClaim := { program := "ytdpleaifhdlciaa", sum := "8bcf5e198aeed7f6432d5a142b153a2dd18aa19fc6377858e1d061ff476b2b20", func := "rollbacknet/rollbacknetlaw25.IndexedRises", spec := "indexedRises", plainKeys := false, apart := false }
def IndexedRisesSaid : Prop := indexedRisesRow.holds Try.pinned (OpenSpec.ofChange indexedRisesSpec)

/-- ITS FALSE NEIGHBOUR: 'it returns false'. Refute it at one input. -/
def indexedRisesWrong : ChangeSpec := { name := "indexedRises", fn := fun _ => fun
  | [d] => { results := [.lit (.bool false)], args := [d] }
  | _ => none }
def IndexedRisesWrongFalsely : Prop := indexedRisesRow.holds Try.pinned (OpenSpec.ofChange indexedRisesWrong)

/-- 'rollbacknetlaw25.IndexedQuiet': WHATEVER THE INPUT: true; the input reads as it did. -/
def indexedQuietSpec : ChangeSpec := { name := "indexedQuiet", fn := fun _ => fun
  | [d] => { results := [.lit (.bool true)], args := [d] }
  | _ => none }
def indexedQuietRow : OpenClaim := { program := "ytdpleaifhdlciaa", sum := "8bcf5e198aeed7f6432d5a142b153a2dd18aa19fc6377858e1d061ff476b2b20", func := "rollbacknet/rollbacknetlaw25.IndexedQuiet", spec := "indexedQuiet", plainKeys := false, apart := false }
def IndexedQuietSaid : Prop := indexedQuietRow.holds Try.pinned (OpenSpec.ofChange indexedQuietSpec)

/-- ITS FALSE NEIGHBOUR: 'it returns false'. Refute it at one input. -/
def indexedQuietWrong : ChangeSpec := { name := "indexedQuiet", fn := fun _ => fun
  | [d] => { results := [.lit (.bool false)], args := [d] }
  | _ => none }
def IndexedQuietWrongFalsely : Prop := indexedQuietRow.holds Try.pinned (OpenSpec.ofChange indexedQuietWrong)

/-- 'rollbacknetlaw25.IndexedRenames': WHATEVER THE INPUT: true; the input reads as it did. -/
def indexedRenamesSpec : ChangeSpec := { name := "indexedRenames", fn := fun _ => fun
  | [d1, d2] => { results := [.lit (.bool true)], args := [d1, d2] }
  | _ => none }
def indexedRenamesRow : OpenClaim := { program := "ytdpleaifhdlciaa", sum := "8bcf5e198aeed7f6432d5a142b153a2dd18aa19fc6377858e1d061ff476b2b20", func := "rollbacknet/rollbacknetlaw25.IndexedRenames", spec := "indexedRenames", plainKeys := false, apart := false }
def IndexedRenamesSaid : Prop := indexedRenamesRow.holds Try.pinned (OpenSpec.ofChange indexedRenamesSpec)

/-- ITS FALSE NEIGHBOUR: 'it returns false'. Refute it at one input. -/
def indexedRenamesWrong : ChangeSpec := { name := "indexedRenames", fn := fun _ => fun
  | [d1, d2] => { results := [.lit (.bool false)], args := [d1, d2] }
  | _ => none }
def IndexedRenamesWrongFalsely : Prop := indexedRenamesRow.holds Try.pinned (OpenSpec.ofChange indexedRenamesWrong)

/-- 'rollbacknetlaw25.IndexedLines': WHATEVER THE INPUT: true; the input reads as it did. -/
def indexedLinesSpec : ChangeSpec := { name := "indexedLines", fn := fun _ => fun
  | [d1, d2] => { results := [.lit (.bool true)], args := [d1, d2] }
  | _ => none }
def indexedLinesRow : OpenClaim := { program := "ytdpleaifhdlciaa", sum := "8bcf5e198aeed7f6432d5a142b153a2dd18aa19fc6377858e1d061ff476b2b20", func := "rollbacknet/rollbacknetlaw25.IndexedLines", spec := "indexedLines", unfollowed := true, recurses := true, plainKeys := false, apart := false }
def IndexedLinesSaid : Prop := indexedLinesRow.holds Try.pinned (OpenSpec.ofChange indexedLinesSpec)

/-- ITS FALSE NEIGHBOUR: 'it returns false'. Refute it at one input. -/
def indexedLinesWrong : ChangeSpec := { name := "indexedLines", fn := fun _ => fun
  | [d1, d2] => { results := [.lit (.bool false)], args := [d1, d2] }
  | _ => none }
def IndexedLinesWrongFalsely : Prop := indexedLinesRow.holds Try.pinned (OpenSpec.ofChange indexedLinesWrong)

/-- 'rollbacknetlaw25.IndexedUseful': WHATEVER THE INPUT: true; the input reads as it did. -/
def indexedUsefulSpec : ChangeSpec := { name := "indexedUseful", fn := fun _ => fun
  | [d] => { results := [.lit (.bool true)], args := [d] }
  | _ => none }
def indexedUsefulRow : OpenClaim := { program := "ytdpleaifhdlciaa", sum := "8bcf5e198aeed7f6432d5a142b153a2dd18aa19fc6377858e1d061ff476b2b20", func := "rollbacknet/rollbacknetlaw25.IndexedUseful", spec := "indexedUseful", unfollowed := true, recurses := true, plainKeys := false, apart := false }
def IndexedUsefulSaid : Prop := indexedUsefulRow.holds Try.pinned (OpenSpec.ofChange indexedUsefulSpec)

/-- ITS FALSE NEIGHBOUR: 'it returns false'. Refute it at one input. -/
def indexedUsefulWrong : ChangeSpec := { name := "indexedUseful", fn := fun _ => fun
  | [d] => { results := [.lit (.bool false)], args := [d] }
  | _ => none }
def IndexedUsefulWrongFalsely : Prop := indexedUsefulRow.holds Try.pinned (OpenSpec.ofChange indexedUsefulWrong)

/- THE SECOND FORM. 'bulk': how many values and letters a reading holds, each counted each time it is reached (what is shared counts as often as it is met; a slice's spare places count too). A statement '..UptoSaid' is the law's where the arguments, and the package variables that the reading takes, are together of bulk at most 1048576: NARROWER than '..Said'. Prove '..Said' where nothing that the law and all that it calls make is longer than what came in: it says more and counts as full. Else prove '..UptoSaid'. A law counts once. -/
mutual
def uptoBulk {H : Type} : DataW H → Nat
  | .lit (.string bytes) => bytes.length + 1
  | .lit _ => 1
  | .nil => 1
  | .ptr d => uptoBulk d + 1
  | .slice elems spare => uptoBulkAll elems + uptoBulkAll spare + 1
  | .agg parts => uptoBulkAll parts + 1
  | .iface _ d => uptoBulk d + 1
  | .map entries => uptoBulkEntries entries + 1
  | .held _ => 1
def uptoBulkAll {H : Type} : List (DataW H) → Nat
  | [] => 0
  | d :: r => uptoBulk d + uptoBulkAll r
def uptoBulkEntries {H : Type} : List (Lit × DataW H) → Nat
  | [] => 0
  | x :: r => uptoBulkEntry x + uptoBulkEntries r
def uptoBulkEntry {H : Type} : Lit × DataW H → Nat
  | (.string bytes, d) => bytes.length + uptoBulk d + 1
  | (_, d) => uptoBulk d + 1
 end
def uptoSmall : (H : Type) → List (DataW H) → Bool := fun _ ds => decide (uptoBulkAll ds ≤ 1048576)
def OpenSpec.upto (s : _root_.Go.ChangeSpec) : _root_.Go.OpenSpec := { _root_.Go.OpenSpec.ofChange s with cond := some uptoSmall }

/-- 'rollbacknetlaw25.IndexedForces', WHERE WHAT IT READS IS OF BULK AT MOST 1048576: true; the input reads as it did. -/
def indexedForcesUptoRow : OpenClaim := { program := "ytdpleaifhdlciaa", sum := "8bcf5e198aeed7f6432d5a142b153a2dd18aa19fc6377858e1d061ff476b2b20", func := "rollbacknet/rollbacknetlaw25.IndexedForces", spec := "indexedForces", plainKeys := false, apart := false, narrowed := true }
def IndexedForcesUptoSaid : Prop := indexedForcesUptoRow.holds Try.pinned (OpenSpec.upto indexedForcesSpec)

/-- 'rollbacknetlaw25.IndexedPlays', WHERE WHAT IT READS IS OF BULK AT MOST 1048576: true; the input reads as it did. -/
def indexedPlaysUptoRow : OpenClaim := { program := "ytdpleaifhdlciaa", sum := "8bcf5e198aeed7f6432d5a142b153a2dd18aa19fc6377858e1d061ff476b2b20", func := "rollbacknet/rollbacknetlaw25.IndexedPlays", spec := "indexedPlays", plainKeys := false, apart := false, narrowed := true }
def IndexedPlaysUptoSaid : Prop := indexedPlaysUptoRow.holds Try.pinned (OpenSpec.upto indexedPlaysSpec)

/-- 'rollbacknetlaw25.IndexedAscends', WHERE WHAT IT READS IS OF BULK AT MOST 1048576: true; the input reads as it did. -/
def indexedAscendsUptoRow : OpenClaim := { program := "ytdpleaifhdlciaa", sum := "8bcf5e198aeed7f6432d5a142b153a2dd18aa19fc6377858e1d061ff476b2b20", func := "rollbacknet/rollbacknetlaw25.IndexedAscends", spec := "indexedAscends", plainKeys := false, apart := false, narrowed := true }
def IndexedAscendsUptoSaid : Prop := indexedAscendsUptoRow.holds Try.pinned (OpenSpec.upto indexedAscendsSpec)

/-- 'rollbacknetlaw25.IndexedRises', WHERE WHAT IT READS IS OF BULK AT MOST 1048576: true; the input reads as it did. -/
def indexedRisesUptoRow : OpenClaim := { program := "ytdpleaifhdlciaa", sum := "8bcf5e198aeed7f6432d5a142b153a2dd18aa19fc6377858e1d061ff476b2b20", func := "rollbacknet/rollbacknetlaw25.IndexedRises", spec := "indexedRises", plainKeys := false, apart := false, narrowed := true }
def IndexedRisesUptoSaid : Prop := indexedRisesUptoRow.holds Try.pinned (OpenSpec.upto indexedRisesSpec)

/-- 'rollbacknetlaw25.IndexedQuiet', WHERE WHAT IT READS IS OF BULK AT MOST 1048576: true; the input reads as it did. -/
def indexedQuietUptoRow : OpenClaim := { program := "ytdpleaifhdlciaa", sum := "8bcf5e198aeed7f6432d5a142b153a2dd18aa19fc6377858e1d061ff476b2b20", func := "rollbacknet/rollbacknetlaw25.IndexedQuiet", spec := "indexedQuiet", plainKeys := false, apart := false, narrowed := true }
def IndexedQuietUptoSaid : Prop := indexedQuietUptoRow.holds Try.pinned (OpenSpec.upto indexedQuietSpec)

/-- 'rollbacknetlaw25.IndexedRenames', WHERE WHAT IT READS IS OF BULK AT MOST 1048576: true; the input reads as it did. -/
def indexedRenamesUptoRow : OpenClaim := { program := "ytdpleaifhdlciaa", sum := "8bcf5e198aeed7f6432d5a142b153a2dd18aa19fc6377858e1d061ff476b2b20", func := "rollbacknet/rollbacknetlaw25.IndexedRenames", spec := "indexedRenames", plainKeys := false, apart := false, narrowed := true }
def IndexedRenamesUptoSaid : Prop := indexedRenamesUptoRow.holds Try.pinned (OpenSpec.upto indexedRenamesSpec)

/-- 'rollbacknetlaw25.IndexedLines', WHERE WHAT IT READS IS OF BULK AT MOST 1048576: true; the input reads as it did. -/
def indexedLinesUptoRow : OpenClaim := { program := "ytdpleaifhdlciaa", sum := "8bcf5e198aeed7f6432d5a142b153a2dd18aa19fc6377858e1d061ff476b2b20", func := "rollbacknet/rollbacknetlaw25.IndexedLines", spec := "indexedLines", unfollowed := true, recurses := true, plainKeys := false, apart := false, narrowed := true }
def IndexedLinesUptoSaid : Prop := indexedLinesUptoRow.holds Try.pinned (OpenSpec.upto indexedLinesSpec)

/-- 'rollbacknetlaw25.IndexedUseful', WHERE WHAT IT READS IS OF BULK AT MOST 1048576: true; the input reads as it did. -/
def indexedUsefulUptoRow : OpenClaim := { program := "ytdpleaifhdlciaa", sum := "8bcf5e198aeed7f6432d5a142b153a2dd18aa19fc6377858e1d061ff476b2b20", func := "rollbacknet/rollbacknetlaw25.IndexedUseful", spec := "indexedUseful", unfollowed := true, recurses := true, plainKeys := false, apart := false, narrowed := true }
def IndexedUsefulUptoSaid : Prop := indexedUsefulUptoRow.holds Try.pinned (OpenSpec.upto indexedUsefulSpec)

end Rows
end Go.Proofs.Ytdpleaifhdlciaa
