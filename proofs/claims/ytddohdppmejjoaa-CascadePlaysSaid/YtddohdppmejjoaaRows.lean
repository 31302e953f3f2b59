/-
  No cell of these rows narrows 'for every input' (looked for: loops, veiled, ifaces, maps, wideKeys, modest, calm, conditions, laid).
  DERIVED. THE GIVEN ROWS OF THIS SEAT. 7 by the template 'for every input the law returns true; each argument reads behind the call as it read before'; 0 by the template 'total and deterministic' (their statements: YtddohdppmejjoaaTotals.lean).
  GIVEN WITH THE SEED: the statements are not yours to turn. If you find one false, say at which input.
  Laid BY PROGRAM, IN A SANDBOX (cutbox-rows.mjs): the forced cells as the released guide's own fill.sh prints them over the translation 249741bc267f2387… (all of the seat's roots in one cut). By AI agents, Wed Nov 11 2026. No macro, syntax, notation, axiom, sorry.
-/
import Derived.Test.YtddohdppmejjoaaChecked
import GoSem.Claim
import GoSem.ClaimJoined
import GoSem.ClaimMapViews
import Derived.JoinedTies
import Derived.KernelRfl
namespace Go.Proofs.Ytddohdppmejjoaa
/- THE CELL 'sum', in the pinned program and in every row, IS THE sha256 OF THE DUMP (.gsa) THAT YtddohdppmejjoaaProg.lean LOADS. Nothing in Lean hashes anything: it is a label: what it is worth is what the hold of that sum in a sandbox is worth. -/
noncomputable def Try.pinned : Pinned := { name := "ytddohdppmejjoaa", sum := "249741bc267f238787effcaf470fd0e233078f46826ca1e5548bee822135e4c0", checked := Try.checked }
namespace Rows
def none {H : Type} : Left H := { results := [], args := [] }

/-- 'rollbacknetlaw33.CascadeBegins': WHATEVER THE INPUT: true; the input reads as it did. -/
def cascadeBeginsSpec : ChangeSpec := { name := "cascadeBegins", fn := fun _ => fun
  | [d] => { results := [.lit (.bool true)], args := [d] }
  | _ => none }
def cascadeBeginsRow : OpenClaim := { program := "ytddohdppmejjoaa", sum := "249741bc267f238787effcaf470fd0e233078f46826ca1e5548bee822135e4c0", func := "rollbacknet/rollbacknetlaw33.CascadeBegins", spec := "cascadeBegins", unfollowed := true, recurses := true, apart := false }
def CascadeBeginsSaid : Prop := cascadeBeginsRow.holds Try.pinned (OpenSpec.ofChange cascadeBeginsSpec)

/-- ITS FALSE NEIGHBOUR: 'it returns false'. Refute it at one input. -/
def cascadeBeginsWrong : ChangeSpec := { name := "cascadeBegins", fn := fun _ => fun
  | [d] => { results := [.lit (.bool false)], args := [d] }
  | _ => none }
def CascadeBeginsWrongFalsely : Prop := cascadeBeginsRow.holds Try.pinned (OpenSpec.ofChange cascadeBeginsWrong)

/-- 'rollbacknetlaw33.CascadeLate': WHATEVER THE INPUT: true; the input reads as it did. -/
def cascadeLateSpec : ChangeSpec := { name := "cascadeLate", fn := fun _ => fun
  | [d] => { results := [.lit (.bool true)], args := [d] }
  | _ => none }
def cascadeLateRow : OpenClaim := { program := "ytddohdppmejjoaa", sum := "249741bc267f238787effcaf470fd0e233078f46826ca1e5548bee822135e4c0", func := "rollbacknet/rollbacknetlaw33.CascadeLate", spec := "cascadeLate", unfollowed := true, recurses := true, apart := false }
def CascadeLateSaid : Prop := cascadeLateRow.holds Try.pinned (OpenSpec.ofChange cascadeLateSpec)

/-- ITS FALSE NEIGHBOUR: 'it returns false'. Refute it at one input. -/
def cascadeLateWrong : ChangeSpec := { name := "cascadeLate", fn := fun _ => fun
  | [d] => { results := [.lit (.bool false)], args := [d] }
  | _ => none }
def CascadeLateWrongFalsely : Prop := cascadeLateRow.holds Try.pinned (OpenSpec.ofChange cascadeLateWrong)

/-- 'rollbacknetlaw33.CascadePlays': WHATEVER THE INPUT: true; the input reads as it did. -/
def cascadePlaysSpec : ChangeSpec := { name := "cascadePlays", fn := fun _ => fun
  | [d1, d2] => { results := [.lit (.bool true)], args := [d1, d2] }
  | _ => none }
def cascadePlaysRow : OpenClaim := { program := "ytddohdppmejjoaa", sum := "249741bc267f238787effcaf470fd0e233078f46826ca1e5548bee822135e4c0", func := "rollbacknet/rollbacknetlaw33.CascadePlays", spec := "cascadePlays", unfollowed := true, recurses := true, apart := false }
def CascadePlaysSaid : Prop := cascadePlaysRow.holds Try.pinned (OpenSpec.ofChange cascadePlaysSpec)

/-- ITS FALSE NEIGHBOUR: 'it returns false'. Refute it at one input. -/
def cascadePlaysWrong : ChangeSpec := { name := "cascadePlays", fn := fun _ => fun
  | [d1, d2] => { results := [.lit (.bool false)], args := [d1, d2] }
  | _ => none }
def CascadePlaysWrongFalsely : Prop := cascadePlaysRow.holds Try.pinned (OpenSpec.ofChange cascadePlaysWrong)

/-- 'rollbacknetlaw33.CascadeOrders': WHATEVER THE INPUT: true; the input reads as it did. -/
def cascadeOrdersSpec : ChangeSpec := { name := "cascadeOrders", fn := fun _ => fun
  | [d1, d2, d3] => { results := [.lit (.bool true)], args := [d1, d2, d3] }
  | _ => none }
def cascadeOrdersRow : OpenClaim := { program := "ytddohdppmejjoaa", sum := "249741bc267f238787effcaf470fd0e233078f46826ca1e5548bee822135e4c0", func := "rollbacknet/rollbacknetlaw33.CascadeOrders", spec := "cascadeOrders", unfollowed := true, recurses := true, apart := false }
def CascadeOrdersSaid : Prop := cascadeOrdersRow.holds Try.pinned (OpenSpec.ofChange cascadeOrdersSpec)

/-- ITS FALSE NEIGHBOUR: 'it returns false'. Refute it at one input. -/
def cascadeOrdersWrong : ChangeSpec := { name := "cascadeOrders", fn := fun _ => fun
  | [d1, d2, d3] => { results := [.lit (.bool false)], args := [d1, d2, d3] }
  | _ => none }
def CascadeOrdersWrongFalsely : Prop := cascadeOrdersRow.holds Try.pinned (OpenSpec.ofChange cascadeOrdersWrong)

/-- 'rollbacknetlaw33.CascadeIdle': WHATEVER THE INPUT: true; the input reads as it did. -/
def cascadeIdleSpec : ChangeSpec := { name := "cascadeIdle", fn := fun _ => fun
  | [d1, d2] => { results := [.lit (.bool true)], args := [d1, d2] }
  | _ => none }
def cascadeIdleRow : OpenClaim := { program := "ytddohdppmejjoaa", sum := "249741bc267f238787effcaf470fd0e233078f46826ca1e5548bee822135e4c0", func := "rollbacknet/rollbacknetlaw33.CascadeIdle", spec := "cascadeIdle", unfollowed := true, recurses := true, apart := false }
def CascadeIdleSaid : Prop := cascadeIdleRow.holds Try.pinned (OpenSpec.ofChange cascadeIdleSpec)

/-- ITS FALSE NEIGHBOUR: 'it returns false'. Refute it at one input. -/
def cascadeIdleWrong : ChangeSpec := { name := "cascadeIdle", fn := fun _ => fun
  | [d1, d2] => { results := [.lit (.bool false)], args := [d1, d2] }
  | _ => none }
def CascadeIdleWrongFalsely : Prop := cascadeIdleRow.holds Try.pinned (OpenSpec.ofChange cascadeIdleWrong)

/-- 'rollbacknetlaw33.CascadeSettles': WHATEVER THE INPUT: true; the input reads as it did. -/
def cascadeSettlesSpec : ChangeSpec := { name := "cascadeSettles", fn := fun _ => fun
  | [d1, d2] => { results := [.lit (.bool true)], args := [d1, d2] }
  | _ => none }
def cascadeSettlesRow : OpenClaim := { program := "ytddohdppmejjoaa", sum := "249741bc267f238787effcaf470fd0e233078f46826ca1e5548bee822135e4c0", func := "rollbacknet/rollbacknetlaw33.CascadeSettles", spec := "cascadeSettles", unfollowed := true, recurses := true, apart := false }
def CascadeSettlesSaid : Prop := cascadeSettlesRow.holds Try.pinned (OpenSpec.ofChange cascadeSettlesSpec)

/-- ITS FALSE NEIGHBOUR: 'it returns false'. Refute it at one input. -/
def cascadeSettlesWrong : ChangeSpec := { name := "cascadeSettles", fn := fun _ => fun
  | [d1, d2] => { results := [.lit (.bool false)], args := [d1, d2] }
  | _ => none }
def CascadeSettlesWrongFalsely : Prop := cascadeSettlesRow.holds Try.pinned (OpenSpec.ofChange cascadeSettlesWrong)

/-- 'rollbacknetlaw33.CascadeAgrees': WHATEVER THE INPUT: true; the input reads as it did. -/
def cascadeAgreesSpec : ChangeSpec := { name := "cascadeAgrees", fn := fun _ => fun
  | [d] => { results := [.lit (.bool true)], args := [d] }
  | _ => none }
def cascadeAgreesRow : OpenClaim := { program := "ytddohdppmejjoaa", sum := "249741bc267f238787effcaf470fd0e233078f46826ca1e5548bee822135e4c0", func := "rollbacknet/rollbacknetlaw33.CascadeAgrees", spec := "cascadeAgrees", unfollowed := true, recurses := true, apart := false }
def CascadeAgreesSaid : Prop := cascadeAgreesRow.holds Try.pinned (OpenSpec.ofChange cascadeAgreesSpec)

/-- ITS FALSE NEIGHBOUR: 'it returns false'. Refute it at one input. -/
def cascadeAgreesWrong : ChangeSpec := { name := "cascadeAgrees", fn := fun _ => fun
  | [d] => { results := [.lit (.bool false)], args := [d] }
  | _ => none }
def CascadeAgreesWrongFalsely : Prop := cascadeAgreesRow.holds Try.pinned (OpenSpec.ofChange cascadeAgreesWrong)

/- THE SECOND FORM. 'bulk': how many values and letters a reading holds, each counted each time it is reached (what is shared counts as often as it is met; a slice's spare places count too). A statement '..UptoSaid' is the law's where the arguments, and the package variables that the reading takes, are together of bulk at most 1048576: NARROWER than '..Said'. Prove '..Said' where nothing that the law and all that it calls make is longer than what came in: it says more and counts as full. Else prove '..UptoSaid'. A law counts once. -/
mutual
def uptoBulk {H : Type} : DataW H → Nat
  | .lit (.string bytes) => bytes.length + 1
  | .lit _ => 1
  | .nil => 1
  | .ptr d => uptoBulk d + 1
  | .slice elems spare => uptoBulkAll elems + uptoBulkAll spare + 1
  | .agg parts => uptoBulkAll parts + 1
  | .iface _ d => uptoBulk d + 1
  | .map entries => uptoBulkEntries entries + 1
  | .held _ => 1
def uptoBulkAll {H : Type} : List (DataW H) → Nat
  | [] => 0
  | d :: r => uptoBulk d + uptoBulkAll r
def uptoBulkEntries {H : Type} : List (Lit × DataW H) → Nat
  | [] => 0
  | x :: r => uptoBulkEntry x + uptoBulkEntries r
def uptoBulkEntry {H : Type} : Lit × DataW H → Nat
  | (.string bytes, d) => bytes.length + uptoBulk d + 1
  | (_, d) => uptoBulk d + 1
 end
def uptoSmall : (H : Type) → List (DataW H) → Bool := fun _ ds => decide (uptoBulkAll ds ≤ 1048576)
def OpenSpec.upto (s : _root_.Go.ChangeSpec) : _root_.Go.OpenSpec := { _root_.Go.OpenSpec.ofChange s with cond := some uptoSmall }

/-- 'rollbacknetlaw33.CascadeBegins', WHERE WHAT IT READS IS OF BULK AT MOST 1048576: true; the input reads as it did. -/
def cascadeBeginsUptoRow : OpenClaim := { program := "ytddohdppmejjoaa", sum := "249741bc267f238787effcaf470fd0e233078f46826ca1e5548bee822135e4c0", func := "rollbacknet/rollbacknetlaw33.CascadeBegins", spec := "cascadeBegins", unfollowed := true, recurses := true, apart := false, narrowed := true }
def CascadeBeginsUptoSaid : Prop := cascadeBeginsUptoRow.holds Try.pinned (OpenSpec.upto cascadeBeginsSpec)

/-- 'rollbacknetlaw33.CascadeLate', WHERE WHAT IT READS IS OF BULK AT MOST 1048576: true; the input reads as it did. -/
def cascadeLateUptoRow : OpenClaim := { program := "ytddohdppmejjoaa", sum := "249741bc267f238787effcaf470fd0e233078f46826ca1e5548bee822135e4c0", func := "rollbacknet/rollbacknetlaw33.CascadeLate", spec := "cascadeLate", unfollowed := true, recurses := true, apart := false, narrowed := true }
def CascadeLateUptoSaid : Prop := cascadeLateUptoRow.holds Try.pinned (OpenSpec.upto cascadeLateSpec)

/-- 'rollbacknetlaw33.CascadePlays', WHERE WHAT IT READS IS OF BULK AT MOST 1048576: true; the input reads as it did. -/
def cascadePlaysUptoRow : OpenClaim := { program := "ytddohdppmejjoaa", sum := "249741bc267f238787effcaf470fd0e233078f46826ca1e5548bee822135e4c0", func := "rollbacknet/rollbacknetlaw33.CascadePlays", spec := "cascadePlays", unfollowed := true, recurses := true, apart := false, narrowed := true }
def CascadePlaysUptoSaid : Prop := cascadePlaysUptoRow.holds Try.pinned (OpenSpec.upto cascadePlaysSpec)

/-- 'rollbacknetlaw33.CascadeOrders', WHERE WHAT IT READS IS OF BULK AT MOST 1048576: true; the input reads as it did. -/
def cascadeOrdersUptoRow : OpenClaim := { program := "ytddohdppmejjoaa", sum := "249741bc267f238787effcaf470fd0e233078f46826ca1e5548bee822135e4c0", func := "rollbacknet/rollbacknetlaw33.CascadeOrders", spec := "cascadeOrders", unfollowed := true, recurses := true, apart := false, narrowed := true }
def CascadeOrdersUptoSaid : Prop := cascadeOrdersUptoRow.holds Try.pinned (OpenSpec.upto cascadeOrdersSpec)

/-- 'rollbacknetlaw33.CascadeIdle', WHERE WHAT IT READS IS OF BULK AT MOST 1048576: true; the input reads as it did. -/
def cascadeIdleUptoRow : OpenClaim := { program := "ytddohdppmejjoaa", sum := "249741bc267f238787effcaf470fd0e233078f46826ca1e5548bee822135e4c0", func := "rollbacknet/rollbacknetlaw33.CascadeIdle", spec := "cascadeIdle", unfollowed := true, recurses := true, apart := false, narrowed := true }
def CascadeIdleUptoSaid : Prop := cascadeIdleUptoRow.holds Try.pinned (OpenSpec.upto cascadeIdleSpec)

/-- 'rollbacknetlaw33.CascadeSettles', WHERE WHAT IT READS IS OF BULK AT MOST 1048576: true; the input reads as it did. -/
def cascadeSettlesUptoRow : OpenClaim := { program := "ytddohdppmejjoaa", sum := "249741bc267f238787effcaf470fd0e233078f46826ca1e5548bee822135e4c0", func := "rollbacknet/rollbacknetlaw33.CascadeSettles", spec := "cascadeSettles", unfollowed := true, recurses := true, apart := false, narrowed := true }
def CascadeSettlesUptoSaid : Prop := cascadeSettlesUptoRow.holds Try.pinned (OpenSpec.upto cascadeSettlesSpec)

/-- 'rollbacknetlaw33.CascadeAgrees', WHERE WHAT IT READS IS OF BULK AT MOST 1048576: true; the input reads as it did. -/
def cascadeAgreesUptoRow : OpenClaim := { program := "ytddohdppmejjoaa", sum := "249741bc267f238787effcaf470fd0e233078f46826ca1e5548bee822135e4c0", func := "rollbacknet/rollbacknetlaw33.CascadeAgrees", spec := "cascadeAgrees", unfollowed := true, recurses := true, apart := false, narrowed := true }
def CascadeAgreesUptoSaid : Prop := cascadeAgreesUptoRow.holds Try.pinned (OpenSpec.upto cascadeAgreesSpec)

end Rows
end Go.Proofs.Ytddohdppmejjoaa
