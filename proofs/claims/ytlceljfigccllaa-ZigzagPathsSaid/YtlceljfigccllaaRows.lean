/-
  No cell of these rows narrows 'for every input' (looked for: loops, veiled, ifaces, maps, wideKeys, modest, calm, conditions, laid).
  DERIVED. THE GIVEN ROWS OF THIS SEAT. 12 by the template 'for every input the law returns true; each argument reads behind the call as it read before'; 0 by the template 'total and deterministic' (their statements: YtlceljfigccllaaTotals.lean).
  GIVEN WITH THE SEED: the statements are not yours to turn. If you find one false, say at which input.
  Laid BY PROGRAM, IN A SANDBOX (cutbox-rows.mjs): the forced cells as the released guide's own fill.sh prints them over the translation 8d16aaf50513ed25… (all of the seat's roots in one cut). By AI agents, Wed Nov 11 2026. No macro, syntax, notation, axiom, sorry.
-/
import Derived.Test.YtlceljfigccllaaChecked
import GoSem.Claim
import GoSem.ClaimJoined
import GoSem.ClaimMapViews
import Derived.JoinedTies
import Derived.KernelRfl
namespace Go.Proofs.Ytlceljfigccllaa
/- THE CELL 'sum', in the pinned program and in every row, IS THE sha256 OF THE DUMP (.gsa) THAT YtlceljfigccllaaProg.lean LOADS. Nothing in Lean hashes anything: it is a label: what it is worth is what the hold of that sum in a sandbox is worth. -/
noncomputable def Try.pinned : Pinned := { name := "ytlceljfigccllaa", sum := "8d16aaf50513ed25e1acf08eecbc9590bac633a9d6c67b5d2d4bb5ee2aa0b642", checked := Try.checked }
namespace Rows
def none {H : Type} : Left H := { results := [], args := [] }

/-- 'rollbacknetlaw21.ZigzagPaths': WHATEVER THE INPUT: true; the input reads as it did. -/
def zigzagPathsSpec : ChangeSpec := { name := "zigzagPaths", fn := fun _ => fun
  | [d] => { results := [.lit (.bool true)], args := [d] }
  | _ => none }
def zigzagPathsRow : OpenClaim := { program := "ytlceljfigccllaa", sum := "8d16aaf50513ed25e1acf08eecbc9590bac633a9d6c67b5d2d4bb5ee2aa0b642", func := "rollbacknet/rollbacknetlaw21.ZigzagPaths", spec := "zigzagPaths", unfollowed := true, recurses := true, plainKeys := false, apart := false }
def ZigzagPathsSaid : Prop := zigzagPathsRow.holds Try.pinned (OpenSpec.ofChange zigzagPathsSpec)

/-- ITS FALSE NEIGHBOUR: 'it returns false'. Refute it at one input. -/
def zigzagPathsWrong : ChangeSpec := { name := "zigzagPaths", fn := fun _ => fun
  | [d] => { results := [.lit (.bool false)], args := [d] }
  | _ => none }
def ZigzagPathsWrongFalsely : Prop := zigzagPathsRow.holds Try.pinned (OpenSpec.ofChange zigzagPathsWrong)

/-- 'rollbacknetlaw21.ZigzagCausal': WHATEVER THE INPUT: true; the input reads as it did. -/
def zigzagCausalSpec : ChangeSpec := { name := "zigzagCausal", fn := fun _ => fun
  | [d] => { results := [.lit (.bool true)], args := [d] }
  | _ => none }
def zigzagCausalRow : OpenClaim := { program := "ytlceljfigccllaa", sum := "8d16aaf50513ed25e1acf08eecbc9590bac633a9d6c67b5d2d4bb5ee2aa0b642", func := "rollbacknet/rollbacknetlaw21.ZigzagCausal", spec := "zigzagCausal", unfollowed := true, recurses := true, plainKeys := false, apart := false }
def ZigzagCausalSaid : Prop := zigzagCausalRow.holds Try.pinned (OpenSpec.ofChange zigzagCausalSpec)

/-- ITS FALSE NEIGHBOUR: 'it returns false'. Refute it at one input. -/
def zigzagCausalWrong : ChangeSpec := { name := "zigzagCausal", fn := fun _ => fun
  | [d] => { results := [.lit (.bool false)], args := [d] }
  | _ => none }
def ZigzagCausalWrongFalsely : Prop := zigzagCausalRow.holds Try.pinned (OpenSpec.ofChange zigzagCausalWrong)

/-- 'rollbacknetlaw21.ZigzagBrute': WHATEVER THE INPUT: true; the input reads as it did. -/
def zigzagBruteSpec : ChangeSpec := { name := "zigzagBrute", fn := fun _ => fun
  | [d1, d2] => { results := [.lit (.bool true)], args := [d1, d2] }
  | _ => none }
def zigzagBruteRow : OpenClaim := { program := "ytlceljfigccllaa", sum := "8d16aaf50513ed25e1acf08eecbc9590bac633a9d6c67b5d2d4bb5ee2aa0b642", func := "rollbacknet/rollbacknetlaw21.ZigzagBrute", spec := "zigzagBrute", unfollowed := true, recurses := true, plainKeys := false, apart := false }
def ZigzagBruteSaid : Prop := zigzagBruteRow.holds Try.pinned (OpenSpec.ofChange zigzagBruteSpec)

/-- ITS FALSE NEIGHBOUR: 'it returns false'. Refute it at one input. -/
def zigzagBruteWrong : ChangeSpec := { name := "zigzagBrute", fn := fun _ => fun
  | [d1, d2] => { results := [.lit (.bool false)], args := [d1, d2] }
  | _ => none }
def ZigzagBruteWrongFalsely : Prop := zigzagBruteRow.holds Try.pinned (OpenSpec.ofChange zigzagBruteWrong)

/-- 'rollbacknetlaw21.ZigzagUseless': WHATEVER THE INPUT: true; the input reads as it did. -/
def zigzagUselessSpec : ChangeSpec := { name := "zigzagUseless", fn := fun _ => fun
  | [d1, d2] => { results := [.lit (.bool true)], args := [d1, d2] }
  | _ => none }
def zigzagUselessRow : OpenClaim := { program := "ytlceljfigccllaa", sum := "8d16aaf50513ed25e1acf08eecbc9590bac633a9d6c67b5d2d4bb5ee2aa0b642", func := "rollbacknet/rollbacknetlaw21.ZigzagUseless", spec := "zigzagUseless", unfollowed := true, recurses := true, plainKeys := false, apart := false }
def ZigzagUselessSaid : Prop := zigzagUselessRow.holds Try.pinned (OpenSpec.ofChange zigzagUselessSpec)

/-- ITS FALSE NEIGHBOUR: 'it returns false'. Refute it at one input. -/
def zigzagUselessWrong : ChangeSpec := { name := "zigzagUseless", fn := fun _ => fun
  | [d1, d2] => { results := [.lit (.bool false)], args := [d1, d2] }
  | _ => none }
def ZigzagUselessWrongFalsely : Prop := zigzagUselessRow.holds Try.pinned (OpenSpec.ofChange zigzagUselessWrong)

/-- 'rollbacknetlaw21.ZigzagTracks': WHATEVER THE INPUT: true; the input reads as it did. -/
def zigzagTracksSpec : ChangeSpec := { name := "zigzagTracks", fn := fun _ => fun
  | [d1, d2] => { results := [.lit (.bool true)], args := [d1, d2] }
  | _ => none }
def zigzagTracksRow : OpenClaim := { program := "ytlceljfigccllaa", sum := "8d16aaf50513ed25e1acf08eecbc9590bac633a9d6c67b5d2d4bb5ee2aa0b642", func := "rollbacknet/rollbacknetlaw21.ZigzagTracks", spec := "zigzagTracks", unfollowed := true, recurses := true, plainKeys := false, apart := false }
def ZigzagTracksSaid : Prop := zigzagTracksRow.holds Try.pinned (OpenSpec.ofChange zigzagTracksSpec)

/-- ITS FALSE NEIGHBOUR: 'it returns false'. Refute it at one input. -/
def zigzagTracksWrong : ChangeSpec := { name := "zigzagTracks", fn := fun _ => fun
  | [d1, d2] => { results := [.lit (.bool false)], args := [d1, d2] }
  | _ => none }
def ZigzagTracksWrongFalsely : Prop := zigzagTracksRow.holds Try.pinned (OpenSpec.ofChange zigzagTracksWrong)

/-- 'rollbacknetlaw21.ZigzagExtends': WHATEVER THE INPUT: true; the input reads as it did. -/
def zigzagExtendsSpec : ChangeSpec := { name := "zigzagExtends", fn := fun _ => fun
  | [d1, d2, d3] => { results := [.lit (.bool true)], args := [d1, d2, d3] }
  | _ => none }
def zigzagExtendsRow : OpenClaim := { program := "ytlceljfigccllaa", sum := "8d16aaf50513ed25e1acf08eecbc9590bac633a9d6c67b5d2d4bb5ee2aa0b642", func := "rollbacknet/rollbacknetlaw21.ZigzagExtends", spec := "zigzagExtends", unfollowed := true, recurses := true, plainKeys := false, apart := false }
def ZigzagExtendsSaid : Prop := zigzagExtendsRow.holds Try.pinned (OpenSpec.ofChange zigzagExtendsSpec)

/-- ITS FALSE NEIGHBOUR: 'it returns false'. Refute it at one input. -/
def zigzagExtendsWrong : ChangeSpec := { name := "zigzagExtends", fn := fun _ => fun
  | [d1, d2, d3] => { results := [.lit (.bool false)], args := [d1, d2, d3] }
  | _ => none }
def ZigzagExtendsWrongFalsely : Prop := zigzagExtendsRow.holds Try.pinned (OpenSpec.ofChange zigzagExtendsWrong)

/-- 'rollbacknetlaw21.ZigzagTheorem': WHATEVER THE INPUT: true; the input reads as it did. -/
def zigzagTheoremSpec : ChangeSpec := { name := "zigzagTheorem", fn := fun _ => fun
  | [d1, d2] => { results := [.lit (.bool true)], args := [d1, d2] }
  | _ => none }
def zigzagTheoremRow : OpenClaim := { program := "ytlceljfigccllaa", sum := "8d16aaf50513ed25e1acf08eecbc9590bac633a9d6c67b5d2d4bb5ee2aa0b642", func := "rollbacknet/rollbacknetlaw21.ZigzagTheorem", spec := "zigzagTheorem", unfollowed := true, recurses := true, plainKeys := false, apart := false }
def ZigzagTheoremSaid : Prop := zigzagTheoremRow.holds Try.pinned (OpenSpec.ofChange zigzagTheoremSpec)

/-- ITS FALSE NEIGHBOUR: 'it returns false'. Refute it at one input. -/
def zigzagTheoremWrong : ChangeSpec := { name := "zigzagTheorem", fn := fun _ => fun
  | [d1, d2] => { results := [.lit (.bool false)], args := [d1, d2] }
  | _ => none }
def ZigzagTheoremWrongFalsely : Prop := zigzagTheoremRow.holds Try.pinned (OpenSpec.ofChange zigzagTheoremWrong)

/-- 'rollbacknetlaw32.OrphanClocks': WHATEVER THE INPUT: true; the input reads as it did. -/
def orphanClocksSpec : ChangeSpec := { name := "orphanClocks", fn := fun _ => fun
  | [d] => { results := [.lit (.bool true)], args := [d] }
  | _ => none }
def orphanClocksRow : OpenClaim := { program := "ytlceljfigccllaa", sum := "8d16aaf50513ed25e1acf08eecbc9590bac633a9d6c67b5d2d4bb5ee2aa0b642", func := "rollbacknet/rollbacknetlaw32.OrphanClocks", spec := "orphanClocks", unfollowed := true, recurses := true, plainKeys := false, apart := false }
def OrphanClocksSaid : Prop := orphanClocksRow.holds Try.pinned (OpenSpec.ofChange orphanClocksSpec)

/-- ITS FALSE NEIGHBOUR: 'it returns false'. Refute it at one input. -/
def orphanClocksWrong : ChangeSpec := { name := "orphanClocks", fn := fun _ => fun
  | [d] => { results := [.lit (.bool false)], args := [d] }
  | _ => none }
def OrphanClocksWrongFalsely : Prop := orphanClocksRow.holds Try.pinned (OpenSpec.ofChange orphanClocksWrong)

/-- 'rollbacknetlaw26.ModelbasedDepends': WHATEVER THE INPUT: true; the input reads as it did. -/
def modelbasedDependsSpec : ChangeSpec := { name := "modelbasedDepends", fn := fun _ => fun
  | [d] => { results := [.lit (.bool true)], args := [d] }
  | _ => none }
def modelbasedDependsRow : OpenClaim := { program := "ytlceljfigccllaa", sum := "8d16aaf50513ed25e1acf08eecbc9590bac633a9d6c67b5d2d4bb5ee2aa0b642", func := "rollbacknet/rollbacknetlaw26.ModelbasedDepends", spec := "modelbasedDepends", unfollowed := true, recurses := true, plainKeys := false, apart := false }
def ModelbasedDependsSaid : Prop := modelbasedDependsRow.holds Try.pinned (OpenSpec.ofChange modelbasedDependsSpec)

/-- ITS FALSE NEIGHBOUR: 'it returns false'. Refute it at one input. -/
def modelbasedDependsWrong : ChangeSpec := { name := "modelbasedDepends", fn := fun _ => fun
  | [d] => { results := [.lit (.bool false)], args := [d] }
  | _ => none }
def ModelbasedDependsWrongFalsely : Prop := modelbasedDependsRow.holds Try.pinned (OpenSpec.ofChange modelbasedDependsWrong)

/-- 'rollbacknetlaw25.IndexedUseful': WHATEVER THE INPUT: true; the input reads as it did. -/
def indexedUsefulSpec : ChangeSpec := { name := "indexedUseful", fn := fun _ => fun
  | [d] => { results := [.lit (.bool true)], args := [d] }
  | _ => none }
def indexedUsefulRow : OpenClaim := { program := "ytlceljfigccllaa", sum := "8d16aaf50513ed25e1acf08eecbc9590bac633a9d6c67b5d2d4bb5ee2aa0b642", func := "rollbacknet/rollbacknetlaw25.IndexedUseful", spec := "indexedUseful", unfollowed := true, recurses := true, plainKeys := false, apart := false }
def IndexedUsefulSaid : Prop := indexedUsefulRow.holds Try.pinned (OpenSpec.ofChange indexedUsefulSpec)

/-- ITS FALSE NEIGHBOUR: 'it returns false'. Refute it at one input. -/
def indexedUsefulWrong : ChangeSpec := { name := "indexedUseful", fn := fun _ => fun
  | [d] => { results := [.lit (.bool false)], args := [d] }
  | _ => none }
def IndexedUsefulWrongFalsely : Prop := indexedUsefulRow.holds Try.pinned (OpenSpec.ofChange indexedUsefulWrong)

/-- 'rollbacknetlaw26.ModelbasedUseful': WHATEVER THE INPUT: true; the input reads as it did. -/
def modelbasedUsefulSpec : ChangeSpec := { name := "modelbasedUseful", fn := fun _ => fun
  | [d] => { results := [.lit (.bool true)], args := [d] }
  | _ => none }
def modelbasedUsefulRow : OpenClaim := { program := "ytlceljfigccllaa", sum := "8d16aaf50513ed25e1acf08eecbc9590bac633a9d6c67b5d2d4bb5ee2aa0b642", func := "rollbacknet/rollbacknetlaw26.ModelbasedUseful", spec := "modelbasedUseful", unfollowed := true, recurses := true, plainKeys := false, apart := false }
def ModelbasedUsefulSaid : Prop := modelbasedUsefulRow.holds Try.pinned (OpenSpec.ofChange modelbasedUsefulSpec)

/-- ITS FALSE NEIGHBOUR: 'it returns false'. Refute it at one input. -/
def modelbasedUsefulWrong : ChangeSpec := { name := "modelbasedUseful", fn := fun _ => fun
  | [d] => { results := [.lit (.bool false)], args := [d] }
  | _ => none }
def ModelbasedUsefulWrongFalsely : Prop := modelbasedUsefulRow.holds Try.pinned (OpenSpec.ofChange modelbasedUsefulWrong)

/-- 'rollbacknetlaw26.ModelbasedTracks': WHATEVER THE INPUT: true; the input reads as it did. -/
def modelbasedTracksSpec : ChangeSpec := { name := "modelbasedTracks", fn := fun _ => fun
  | [d] => { results := [.lit (.bool true)], args := [d] }
  | _ => none }
def modelbasedTracksRow : OpenClaim := { program := "ytlceljfigccllaa", sum := "8d16aaf50513ed25e1acf08eecbc9590bac633a9d6c67b5d2d4bb5ee2aa0b642", func := "rollbacknet/rollbacknetlaw26.ModelbasedTracks", spec := "modelbasedTracks", unfollowed := true, recurses := true, plainKeys := false, apart := false }
def ModelbasedTracksSaid : Prop := modelbasedTracksRow.holds Try.pinned (OpenSpec.ofChange modelbasedTracksSpec)

/-- ITS FALSE NEIGHBOUR: 'it returns false'. Refute it at one input. -/
def modelbasedTracksWrong : ChangeSpec := { name := "modelbasedTracks", fn := fun _ => fun
  | [d] => { results := [.lit (.bool false)], args := [d] }
  | _ => none }
def ModelbasedTracksWrongFalsely : Prop := modelbasedTracksRow.holds Try.pinned (OpenSpec.ofChange modelbasedTracksWrong)

/- THE SECOND FORM. 'bulk': how many values and letters a reading holds, each counted each time it is reached (what is shared counts as often as it is met; a slice's spare places count too). A statement '..UptoSaid' is the law's where the arguments, and the package variables that the reading takes, are together of bulk at most 1048576: NARROWER than '..Said'. Prove '..Said' where nothing that the law and all that it calls make is longer than what came in: it says more and counts as full. Else prove '..UptoSaid'. A law counts once. -/
mutual
def uptoBulk {H : Type} : DataW H → Nat
  | .lit (.string bytes) => bytes.length + 1
  | .lit _ => 1
  | .nil => 1
  | .ptr d => uptoBulk d + 1
  | .slice elems spare => uptoBulkAll elems + uptoBulkAll spare + 1
  | .agg parts => uptoBulkAll parts + 1
  | .iface _ d => uptoBulk d + 1
  | .map entries => uptoBulkEntries entries + 1
  | .held _ => 1
def uptoBulkAll {H : Type} : List (DataW H) → Nat
  | [] => 0
  | d :: r => uptoBulk d + uptoBulkAll r
def uptoBulkEntries {H : Type} : List (Lit × DataW H) → Nat
  | [] => 0
  | x :: r => uptoBulkEntry x + uptoBulkEntries r
def uptoBulkEntry {H : Type} : Lit × DataW H → Nat
  | (.string bytes, d) => bytes.length + uptoBulk d + 1
  | (_, d) => uptoBulk d + 1
 end
def uptoSmall : (H : Type) → List (DataW H) → Bool := fun _ ds => decide (uptoBulkAll ds ≤ 1048576)
def OpenSpec.upto (s : _root_.Go.ChangeSpec) : _root_.Go.OpenSpec := { _root_.Go.OpenSpec.ofChange s with cond := some uptoSmall }

/-- 'rollbacknetlaw21.ZigzagPaths', WHERE WHAT IT READS IS OF BULK AT MOST 1048576: true; the input reads as it did. -/
def zigzagPathsUptoRow : OpenClaim := { program := "ytlceljfigccllaa", sum := "8d16aaf50513ed25e1acf08eecbc9590bac633a9d6c67b5d2d4bb5ee2aa0b642", func := "rollbacknet/rollbacknetlaw21.ZigzagPaths", spec := "zigzagPaths", unfollowed := true, recurses := true, plainKeys := false, apart := false, narrowed := true }
def ZigzagPathsUptoSaid : Prop := zigzagPathsUptoRow.holds Try.pinned (OpenSpec.upto zigzagPathsSpec)

/-- 'rollbacknetlaw21.ZigzagCausal', WHERE WHAT IT READS IS OF BULK AT MOST 1048576: true; the input reads as it did. -/
def zigzagCausalUptoRow : OpenClaim := { program := "ytlceljfigccllaa", sum := "8d16aaf50513ed25e1acf08eecbc9590bac633a9d6c67b5d2d4bb5ee2aa0b642", func := "rollbacknet/rollbacknetlaw21.ZigzagCausal", spec := "zigzagCausal", unfollowed := true, recurses := true, plainKeys := false, apart := false, narrowed := true }
def ZigzagCausalUptoSaid : Prop := zigzagCausalUptoRow.holds Try.pinned (OpenSpec.upto zigzagCausalSpec)

/-- 'rollbacknetlaw21.ZigzagBrute', WHERE WHAT IT READS IS OF BULK AT MOST 1048576: true; the input reads as it did. -/
def zigzagBruteUptoRow : OpenClaim := { program := "ytlceljfigccllaa", sum := "8d16aaf50513ed25e1acf08eecbc9590bac633a9d6c67b5d2d4bb5ee2aa0b642", func := "rollbacknet/rollbacknetlaw21.ZigzagBrute", spec := "zigzagBrute", unfollowed := true, recurses := true, plainKeys := false, apart := false, narrowed := true }
def ZigzagBruteUptoSaid : Prop := zigzagBruteUptoRow.holds Try.pinned (OpenSpec.upto zigzagBruteSpec)

/-- 'rollbacknetlaw21.ZigzagUseless', WHERE WHAT IT READS IS OF BULK AT MOST 1048576: true; the input reads as it did. -/
def zigzagUselessUptoRow : OpenClaim := { program := "ytlceljfigccllaa", sum := "8d16aaf50513ed25e1acf08eecbc9590bac633a9d6c67b5d2d4bb5ee2aa0b642", func := "rollbacknet/rollbacknetlaw21.ZigzagUseless", spec := "zigzagUseless", unfollowed := true, recurses := true, plainKeys := false, apart := false, narrowed := true }
def ZigzagUselessUptoSaid : Prop := zigzagUselessUptoRow.holds Try.pinned (OpenSpec.upto zigzagUselessSpec)

/-- 'rollbacknetlaw21.ZigzagTracks', WHERE WHAT IT READS IS OF BULK AT MOST 1048576: true; the input reads as it did. -/
def zigzagTracksUptoRow : OpenClaim := { program := "ytlceljfigccllaa", sum := "8d16aaf50513ed25e1acf08eecbc9590bac633a9d6c67b5d2d4bb5ee2aa0b642", func := "rollbacknet/rollbacknetlaw21.ZigzagTracks", spec := "zigzagTracks", unfollowed := true, recurses := true, plainKeys := false, apart := false, narrowed := true }
def ZigzagTracksUptoSaid : Prop := zigzagTracksUptoRow.holds Try.pinned (OpenSpec.upto zigzagTracksSpec)

/-- 'rollbacknetlaw21.ZigzagExtends', WHERE WHAT IT READS IS OF BULK AT MOST 1048576: true; the input reads as it did. -/
def zigzagExtendsUptoRow : OpenClaim := { program := "ytlceljfigccllaa", sum := "8d16aaf50513ed25e1acf08eecbc9590bac633a9d6c67b5d2d4bb5ee2aa0b642", func := "rollbacknet/rollbacknetlaw21.ZigzagExtends", spec := "zigzagExtends", unfollowed := true, recurses := true, plainKeys := false, apart := false, narrowed := true }
def ZigzagExtendsUptoSaid : Prop := zigzagExtendsUptoRow.holds Try.pinned (OpenSpec.upto zigzagExtendsSpec)

/-- 'rollbacknetlaw21.ZigzagTheorem', WHERE WHAT IT READS IS OF BULK AT MOST 1048576: true; the input reads as it did. -/
def zigzagTheoremUptoRow : OpenClaim := { program := "ytlceljfigccllaa", sum := "8d16aaf50513ed25e1acf08eecbc9590bac633a9d6c67b5d2d4bb5ee2aa0b642", func := "rollbacknet/rollbacknetlaw21.ZigzagTheorem", spec := "zigzagTheorem", unfollowed := true, recurses := true, plainKeys := false, apart := false, narrowed := true }
def ZigzagTheoremUptoSaid : Prop := zigzagTheoremUptoRow.holds Try.pinned (OpenSpec.upto zigzagTheoremSpec)

/-- 'rollbacknetlaw32.OrphanClocks', WHERE WHAT IT READS IS OF BULK AT MOST 1048576: true; the input reads as it did. -/
def orphanClocksUptoRow : OpenClaim := { program := "ytlceljfigccllaa", sum := "8d16aaf50513ed25e1acf08eecbc9590bac633a9d6c67b5d2d4bb5ee2aa0b642", func := "rollbacknet/rollbacknetlaw32.OrphanClocks", spec := "orphanClocks", unfollowed := true, recurses := true, plainKeys := false, apart := false, narrowed := true }
def OrphanClocksUptoSaid : Prop := orphanClocksUptoRow.holds Try.pinned (OpenSpec.upto orphanClocksSpec)

/-- 'rollbacknetlaw26.ModelbasedDepends', WHERE WHAT IT READS IS OF BULK AT MOST 1048576: true; the input reads as it did. -/
def modelbasedDependsUptoRow : OpenClaim := { program := "ytlceljfigccllaa", sum := "8d16aaf50513ed25e1acf08eecbc9590bac633a9d6c67b5d2d4bb5ee2aa0b642", func := "rollbacknet/rollbacknetlaw26.ModelbasedDepends", spec := "modelbasedDepends", unfollowed := true, recurses := true, plainKeys := false, apart := false, narrowed := true }
def ModelbasedDependsUptoSaid : Prop := modelbasedDependsUptoRow.holds Try.pinned (OpenSpec.upto modelbasedDependsSpec)

/-- 'rollbacknetlaw25.IndexedUseful', WHERE WHAT IT READS IS OF BULK AT MOST 1048576: true; the input reads as it did. -/
def indexedUsefulUptoRow : OpenClaim := { program := "ytlceljfigccllaa", sum := "8d16aaf50513ed25e1acf08eecbc9590bac633a9d6c67b5d2d4bb5ee2aa0b642", func := "rollbacknet/rollbacknetlaw25.IndexedUseful", spec := "indexedUseful", unfollowed := true, recurses := true, plainKeys := false, apart := false, narrowed := true }
def IndexedUsefulUptoSaid : Prop := indexedUsefulUptoRow.holds Try.pinned (OpenSpec.upto indexedUsefulSpec)

/-- 'rollbacknetlaw26.ModelbasedUseful', WHERE WHAT IT READS IS OF BULK AT MOST 1048576: true; the input reads as it did. -/
def modelbasedUsefulUptoRow : OpenClaim := { program := "ytlceljfigccllaa", sum := "8d16aaf50513ed25e1acf08eecbc9590bac633a9d6c67b5d2d4bb5ee2aa0b642", func := "rollbacknet/rollbacknetlaw26.ModelbasedUseful", spec := "modelbasedUseful", unfollowed := true, recurses := true, plainKeys := false, apart := false, narrowed := true }
def ModelbasedUsefulUptoSaid : Prop := modelbasedUsefulUptoRow.holds Try.pinned (OpenSpec.upto modelbasedUsefulSpec)

/-- 'rollbacknetlaw26.ModelbasedTracks', WHERE WHAT IT READS IS OF BULK AT MOST 1048576: true; the input reads as it did. -/
def modelbasedTracksUptoRow : OpenClaim := { program := "ytlceljfigccllaa", sum := "8d16aaf50513ed25e1acf08eecbc9590bac633a9d6c67b5d2d4bb5ee2aa0b642", func := "rollbacknet/rollbacknetlaw26.ModelbasedTracks", spec := "modelbasedTracks", unfollowed := true, recurses := true, plainKeys := false, apart := false, narrowed := true }
def ModelbasedTracksUptoSaid : Prop := modelbasedTracksUptoRow.holds Try.pinned (OpenSpec.upto modelbasedTracksSpec)

end Rows
end Go.Proofs.Ytlceljfigccllaa
