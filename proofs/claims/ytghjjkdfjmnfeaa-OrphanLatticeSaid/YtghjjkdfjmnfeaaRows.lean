/-
  No cell of these rows narrows 'for every input' (looked for: loops, veiled, ifaces, maps, wideKeys, modest, calm, conditions, laid).
  DERIVED. THE GIVEN ROWS OF THIS SEAT. 8 by the template 'for every input the law returns true; each argument reads behind the call as it read before'; 0 by the template 'total and deterministic' (their statements: YtghjjkdfjmnfeaaTotals.lean).
  GIVEN WITH THE SEED: the statements are not yours to turn. If you find one false, say at which input.
  Laid BY PROGRAM, IN A SANDBOX (cutbox-rows.mjs): the forced cells as the released guide's own fill.sh prints them over the translation 5925ef8c8e89671d… (all of the seat's roots in one cut). By AI agents, Wed Nov 11 2026. No macro, syntax, notation, axiom, sorry.
-/
import Derived.Test.YtghjjkdfjmnfeaaChecked
import GoSem.Claim
import GoSem.ClaimJoined
import GoSem.ClaimMapViews
import Derived.JoinedTies
import Derived.KernelRfl
namespace Go.Proofs.Ytghjjkdfjmnfeaa
/- THE CELL 'sum', in the pinned program and in every row, IS THE sha256 OF THE DUMP (.gsa) THAT YtghjjkdfjmnfeaaProg.lean LOADS. Nothing in Lean hashes anything: it is a label: what it is worth is what the hold of that sum in a sandbox is worth. -/
noncomputable def Try.pinned : Pinned := { name := "ytghjjkdfjmnfeaa", sum := "5925ef8c8e89671d3e6645ff1f66fb514fd08aaa9d92540bf3d02d4dbbdd8bfb", checked := Try.checked }
namespace Rows
def none {H : Type} : Left H := { results := [], args := [] }

/-- 'rollbacknetlaw32.OrphanLabels': WHATEVER THE INPUT: true; the input reads as it did. -/
def orphanLabelsSpec : ChangeSpec := { name := "orphanLabels", fn := fun _ => fun
  | [d1, d2, d3] => { results := [.lit (.bool true)], args := [d1, d2, d3] }
  | _ => none }
def orphanLabelsRow : OpenClaim := { program := "ytghjjkdfjmnfeaa", sum := "5925ef8c8e89671d3e6645ff1f66fb514fd08aaa9d92540bf3d02d4dbbdd8bfb", func := "rollbacknet/rollbacknetlaw32.OrphanLabels", spec := "orphanLabels", unfollowed := true, recurses := true, plainKeys := false, apart := false }
def OrphanLabelsSaid : Prop := orphanLabelsRow.holds Try.pinned (OpenSpec.ofChange orphanLabelsSpec)

/-- ITS FALSE NEIGHBOUR: 'it returns false'. Refute it at one input. -/
def orphanLabelsWrong : ChangeSpec := { name := "orphanLabels", fn := fun _ => fun
  | [d1, d2, d3] => { results := [.lit (.bool false)], args := [d1, d2, d3] }
  | _ => none }
def OrphanLabelsWrongFalsely : Prop := orphanLabelsRow.holds Try.pinned (OpenSpec.ofChange orphanLabelsWrong)

/-- 'rollbacknetlaw32.OrphanCuts': WHATEVER THE INPUT: true; the input reads as it did. -/
def orphanCutsSpec : ChangeSpec := { name := "orphanCuts", fn := fun _ => fun
  | [d1, d2, d3] => { results := [.lit (.bool true)], args := [d1, d2, d3] }
  | _ => none }
def orphanCutsRow : OpenClaim := { program := "ytghjjkdfjmnfeaa", sum := "5925ef8c8e89671d3e6645ff1f66fb514fd08aaa9d92540bf3d02d4dbbdd8bfb", func := "rollbacknet/rollbacknetlaw32.OrphanCuts", spec := "orphanCuts", unfollowed := true, recurses := true, plainKeys := false, apart := false }
def OrphanCutsSaid : Prop := orphanCutsRow.holds Try.pinned (OpenSpec.ofChange orphanCutsSpec)

/-- ITS FALSE NEIGHBOUR: 'it returns false'. Refute it at one input. -/
def orphanCutsWrong : ChangeSpec := { name := "orphanCuts", fn := fun _ => fun
  | [d1, d2, d3] => { results := [.lit (.bool false)], args := [d1, d2, d3] }
  | _ => none }
def OrphanCutsWrongFalsely : Prop := orphanCutsRow.holds Try.pinned (OpenSpec.ofChange orphanCutsWrong)

/-- 'rollbacknetlaw32.OrphanGreatest': WHATEVER THE INPUT: true; the input reads as it did. -/
def orphanGreatestSpec : ChangeSpec := { name := "orphanGreatest", fn := fun _ => fun
  | [d] => { results := [.lit (.bool true)], args := [d] }
  | _ => none }
def orphanGreatestRow : OpenClaim := { program := "ytghjjkdfjmnfeaa", sum := "5925ef8c8e89671d3e6645ff1f66fb514fd08aaa9d92540bf3d02d4dbbdd8bfb", func := "rollbacknet/rollbacknetlaw32.OrphanGreatest", spec := "orphanGreatest", unfollowed := true, recurses := true, plainKeys := false, apart := false }
def OrphanGreatestSaid : Prop := orphanGreatestRow.holds Try.pinned (OpenSpec.ofChange orphanGreatestSpec)

/-- ITS FALSE NEIGHBOUR: 'it returns false'. Refute it at one input. -/
def orphanGreatestWrong : ChangeSpec := { name := "orphanGreatest", fn := fun _ => fun
  | [d] => { results := [.lit (.bool false)], args := [d] }
  | _ => none }
def OrphanGreatestWrongFalsely : Prop := orphanGreatestRow.holds Try.pinned (OpenSpec.ofChange orphanGreatestWrong)

/-- 'rollbacknetlaw32.OrphanTracks': WHATEVER THE INPUT: true; the input reads as it did. -/
def orphanTracksSpec : ChangeSpec := { name := "orphanTracks", fn := fun _ => fun
  | [d1, d2, d3] => { results := [.lit (.bool true)], args := [d1, d2, d3] }
  | _ => none }
def orphanTracksRow : OpenClaim := { program := "ytghjjkdfjmnfeaa", sum := "5925ef8c8e89671d3e6645ff1f66fb514fd08aaa9d92540bf3d02d4dbbdd8bfb", func := "rollbacknet/rollbacknetlaw32.OrphanTracks", spec := "orphanTracks", unfollowed := true, recurses := true, plainKeys := false, apart := false }
def OrphanTracksSaid : Prop := orphanTracksRow.holds Try.pinned (OpenSpec.ofChange orphanTracksSpec)

/-- ITS FALSE NEIGHBOUR: 'it returns false'. Refute it at one input. -/
def orphanTracksWrong : ChangeSpec := { name := "orphanTracks", fn := fun _ => fun
  | [d1, d2, d3] => { results := [.lit (.bool false)], args := [d1, d2, d3] }
  | _ => none }
def OrphanTracksWrongFalsely : Prop := orphanTracksRow.holds Try.pinned (OpenSpec.ofChange orphanTracksWrong)

/-- 'rollbacknetlaw32.OrphanAsks': WHATEVER THE INPUT: true; the input reads as it did. -/
def orphanAsksSpec : ChangeSpec := { name := "orphanAsks", fn := fun _ => fun
  | [d1, d2, d3] => { results := [.lit (.bool true)], args := [d1, d2, d3] }
  | _ => none }
def orphanAsksRow : OpenClaim := { program := "ytghjjkdfjmnfeaa", sum := "5925ef8c8e89671d3e6645ff1f66fb514fd08aaa9d92540bf3d02d4dbbdd8bfb", func := "rollbacknet/rollbacknetlaw32.OrphanAsks", spec := "orphanAsks", unfollowed := true, recurses := true, plainKeys := false, apart := false }
def OrphanAsksSaid : Prop := orphanAsksRow.holds Try.pinned (OpenSpec.ofChange orphanAsksSpec)

/-- ITS FALSE NEIGHBOUR: 'it returns false'. Refute it at one input. -/
def orphanAsksWrong : ChangeSpec := { name := "orphanAsks", fn := fun _ => fun
  | [d1, d2, d3] => { results := [.lit (.bool false)], args := [d1, d2, d3] }
  | _ => none }
def OrphanAsksWrongFalsely : Prop := orphanAsksRow.holds Try.pinned (OpenSpec.ofChange orphanAsksWrong)

/-- 'rollbacknetlaw32.OrphanClocks': WHATEVER THE INPUT: true; the input reads as it did. -/
def orphanClocksSpec : ChangeSpec := { name := "orphanClocks", fn := fun _ => fun
  | [d] => { results := [.lit (.bool true)], args := [d] }
  | _ => none }
def orphanClocksRow : OpenClaim := { program := "ytghjjkdfjmnfeaa", sum := "5925ef8c8e89671d3e6645ff1f66fb514fd08aaa9d92540bf3d02d4dbbdd8bfb", func := "rollbacknet/rollbacknetlaw32.OrphanClocks", spec := "orphanClocks", unfollowed := true, recurses := true, plainKeys := false, apart := false }
def OrphanClocksSaid : Prop := orphanClocksRow.holds Try.pinned (OpenSpec.ofChange orphanClocksSpec)

/-- ITS FALSE NEIGHBOUR: 'it returns false'. Refute it at one input. -/
def orphanClocksWrong : ChangeSpec := { name := "orphanClocks", fn := fun _ => fun
  | [d] => { results := [.lit (.bool false)], args := [d] }
  | _ => none }
def OrphanClocksWrongFalsely : Prop := orphanClocksRow.holds Try.pinned (OpenSpec.ofChange orphanClocksWrong)

/-- 'rollbacknetlaw32.OrphanLattice': WHATEVER THE INPUT: true; the input reads as it did. -/
def orphanLatticeSpec : ChangeSpec := { name := "orphanLattice", fn := fun _ => fun
  | [d] => { results := [.lit (.bool true)], args := [d] }
  | _ => none }
def orphanLatticeRow : OpenClaim := { program := "ytghjjkdfjmnfeaa", sum := "5925ef8c8e89671d3e6645ff1f66fb514fd08aaa9d92540bf3d02d4dbbdd8bfb", func := "rollbacknet/rollbacknetlaw32.OrphanLattice", spec := "orphanLattice", unfollowed := true, recurses := true, plainKeys := false, apart := false }
def OrphanLatticeSaid : Prop := orphanLatticeRow.holds Try.pinned (OpenSpec.ofChange orphanLatticeSpec)

/-- ITS FALSE NEIGHBOUR: 'it returns false'. Refute it at one input. -/
def orphanLatticeWrong : ChangeSpec := { name := "orphanLattice", fn := fun _ => fun
  | [d] => { results := [.lit (.bool false)], args := [d] }
  | _ => none }
def OrphanLatticeWrongFalsely : Prop := orphanLatticeRow.holds Try.pinned (OpenSpec.ofChange orphanLatticeWrong)

/-- 'rollbacknetlaw32.OrphanFinds': WHATEVER THE INPUT: true; the input reads as it did. -/
def orphanFindsSpec : ChangeSpec := { name := "orphanFinds", fn := fun _ => fun
  | [d] => { results := [.lit (.bool true)], args := [d] }
  | _ => none }
def orphanFindsRow : OpenClaim := { program := "ytghjjkdfjmnfeaa", sum := "5925ef8c8e89671d3e6645ff1f66fb514fd08aaa9d92540bf3d02d4dbbdd8bfb", func := "rollbacknet/rollbacknetlaw32.OrphanFinds", spec := "orphanFinds", unfollowed := true, recurses := true, plainKeys := false, apart := false }
def OrphanFindsSaid : Prop := orphanFindsRow.holds Try.pinned (OpenSpec.ofChange orphanFindsSpec)

/-- ITS FALSE NEIGHBOUR: 'it returns false'. Refute it at one input. -/
def orphanFindsWrong : ChangeSpec := { name := "orphanFinds", fn := fun _ => fun
  | [d] => { results := [.lit (.bool false)], args := [d] }
  | _ => none }
def OrphanFindsWrongFalsely : Prop := orphanFindsRow.holds Try.pinned (OpenSpec.ofChange orphanFindsWrong)

/- THE SECOND FORM. 'bulk': how many values and letters a reading holds, each counted each time it is reached (what is shared counts as often as it is met; a slice's spare places count too). A statement '..UptoSaid' is the law's where the arguments, and the package variables that the reading takes, are together of bulk at most 1048576: NARROWER than '..Said'. Prove '..Said' where nothing that the law and all that it calls make is longer than what came in: it says more and counts as full. Else prove '..UptoSaid'. A law counts once. -/
mutual
def uptoBulk {H : Type} : DataW H → Nat
  | .lit (.string bytes) => bytes.length + 1
  | .lit _ => 1
  | .nil => 1
  | .ptr d => uptoBulk d + 1
  | .slice elems spare => uptoBulkAll elems + uptoBulkAll spare + 1
  | .agg parts => uptoBulkAll parts + 1
  | .iface _ d => uptoBulk d + 1
  | .map entries => uptoBulkEntries entries + 1
  | .held _ => 1
def uptoBulkAll {H : Type} : List (DataW H) → Nat
  | [] => 0
  | d :: r => uptoBulk d + uptoBulkAll r
def uptoBulkEntries {H : Type} : List (Lit × DataW H) → Nat
  | [] => 0
  | x :: r => uptoBulkEntry x + uptoBulkEntries r
def uptoBulkEntry {H : Type} : Lit × DataW H → Nat
  | (.string bytes, d) => bytes.length + uptoBulk d + 1
  | (_, d) => uptoBulk d + 1
 end
def uptoSmall : (H : Type) → List (DataW H) → Bool := fun _ ds => decide (uptoBulkAll ds ≤ 1048576)
def OpenSpec.upto (s : _root_.Go.ChangeSpec) : _root_.Go.OpenSpec := { _root_.Go.OpenSpec.ofChange s with cond := some uptoSmall }

/-- 'rollbacknetlaw32.OrphanLabels', WHERE WHAT IT READS IS OF BULK AT MOST 1048576: true; the input reads as it did. -/
def orphanLabelsUptoRow : OpenClaim := { program := "ytghjjkdfjmnfeaa", sum := "5925ef8c8e89671d3e6645ff1f66fb514fd08aaa9d92540bf3d02d4dbbdd8bfb", func := "rollbacknet/rollbacknetlaw32.OrphanLabels", spec := "orphanLabels", unfollowed := true, recurses := true, plainKeys := false, apart := false, narrowed := true }
def OrphanLabelsUptoSaid : Prop := orphanLabelsUptoRow.holds Try.pinned (OpenSpec.upto orphanLabelsSpec)

/-- 'rollbacknetlaw32.OrphanCuts', WHERE WHAT IT READS IS OF BULK AT MOST 1048576: true; the input reads as it did. -/
def orphanCutsUptoRow : OpenClaim := { program := "ytghjjkdfjmnfeaa", sum := "5925ef8c8e89671d3e6645ff1f66fb514fd08aaa9d92540bf3d02d4dbbdd8bfb", func := "rollbacknet/rollbacknetlaw32.OrphanCuts", spec := "orphanCuts", unfollowed := true, recurses := true, plainKeys := false, apart := false, narrowed := true }
def OrphanCutsUptoSaid : Prop := orphanCutsUptoRow.holds Try.pinned (OpenSpec.upto orphanCutsSpec)

/-- 'rollbacknetlaw32.OrphanGreatest', WHERE WHAT IT READS IS OF BULK AT MOST 1048576: true; the input reads as it did. -/
def orphanGreatestUptoRow : OpenClaim := { program := "ytghjjkdfjmnfeaa", sum := "5925ef8c8e89671d3e6645ff1f66fb514fd08aaa9d92540bf3d02d4dbbdd8bfb", func := "rollbacknet/rollbacknetlaw32.OrphanGreatest", spec := "orphanGreatest", unfollowed := true, recurses := true, plainKeys := false, apart := false, narrowed := true }
def OrphanGreatestUptoSaid : Prop := orphanGreatestUptoRow.holds Try.pinned (OpenSpec.upto orphanGreatestSpec)

/-- 'rollbacknetlaw32.OrphanTracks', WHERE WHAT IT READS IS OF BULK AT MOST 1048576: true; the input reads as it did. -/
def orphanTracksUptoRow : OpenClaim := { program := "ytghjjkdfjmnfeaa", sum := "5925ef8c8e89671d3e6645ff1f66fb514fd08aaa9d92540bf3d02d4dbbdd8bfb", func := "rollbacknet/rollbacknetlaw32.OrphanTracks", spec := "orphanTracks", unfollowed := true, recurses := true, plainKeys := false, apart := false, narrowed := true }
def OrphanTracksUptoSaid : Prop := orphanTracksUptoRow.holds Try.pinned (OpenSpec.upto orphanTracksSpec)

/-- 'rollbacknetlaw32.OrphanAsks', WHERE WHAT IT READS IS OF BULK AT MOST 1048576: true; the input reads as it did. -/
def orphanAsksUptoRow : OpenClaim := { program := "ytghjjkdfjmnfeaa", sum := "5925ef8c8e89671d3e6645ff1f66fb514fd08aaa9d92540bf3d02d4dbbdd8bfb", func := "rollbacknet/rollbacknetlaw32.OrphanAsks", spec := "orphanAsks", unfollowed := true, recurses := true, plainKeys := false, apart := false, narrowed := true }
def OrphanAsksUptoSaid : Prop := orphanAsksUptoRow.holds Try.pinned (OpenSpec.upto orphanAsksSpec)

/-- 'rollbacknetlaw32.OrphanClocks', WHERE WHAT IT READS IS OF BULK AT MOST 1048576: true; the input reads as it did. -/
def orphanClocksUptoRow : OpenClaim := { program := "ytghjjkdfjmnfeaa", sum := "5925ef8c8e89671d3e6645ff1f66fb514fd08aaa9d92540bf3d02d4dbbdd8bfb", func := "rollbacknet/rollbacknetlaw32.OrphanClocks", spec := "orphanClocks", unfollowed := true, recurses := true, plainKeys := false, apart := false, narrowed := true }
def OrphanClocksUptoSaid : Prop := orphanClocksUptoRow.holds Try.pinned (OpenSpec.upto orphanClocksSpec)

/-- 'rollbacknetlaw32.OrphanLattice', WHERE WHAT IT READS IS OF BULK AT MOST 1048576: true; the input reads as it did. -/
def orphanLatticeUptoRow : OpenClaim := { program := "ytghjjkdfjmnfeaa", sum := "5925ef8c8e89671d3e6645ff1f66fb514fd08aaa9d92540bf3d02d4dbbdd8bfb", func := "rollbacknet/rollbacknetlaw32.OrphanLattice", spec := "orphanLattice", unfollowed := true, recurses := true, plainKeys := false, apart := false, narrowed := true }
def OrphanLatticeUptoSaid : Prop := orphanLatticeUptoRow.holds Try.pinned (OpenSpec.upto orphanLatticeSpec)

/-- 'rollbacknetlaw32.OrphanFinds', WHERE WHAT IT READS IS OF BULK AT MOST 1048576: true; the input reads as it did. -/
def orphanFindsUptoRow : OpenClaim := { program := "ytghjjkdfjmnfeaa", sum := "5925ef8c8e89671d3e6645ff1f66fb514fd08aaa9d92540bf3d02d4dbbdd8bfb", func := "rollbacknet/rollbacknetlaw32.OrphanFinds", spec := "orphanFinds", unfollowed := true, recurses := true, plainKeys := false, apart := false, narrowed := true }
def OrphanFindsUptoSaid : Prop := orphanFindsUptoRow.holds Try.pinned (OpenSpec.upto orphanFindsSpec)

end Rows
end Go.Proofs.Ytghjjkdfjmnfeaa
