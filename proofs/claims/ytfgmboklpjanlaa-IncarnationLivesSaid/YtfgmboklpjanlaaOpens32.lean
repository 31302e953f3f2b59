/- How the arguments of laws read: labels, ends, events. -/
import Derived.Test.YtfgmboklpjanlaaOpens
import Derived.Test.YtfgmboklpjanlaaAcdat
set_option linter.unusedSimpArgs false
namespace Go.Proofs.Ytfgmboklpjanlaa
open Go.ChangeShapes Go.WideShapes Go.ChangeAt Go.RowKit Go.Mine
theorem o_lab : Opens Try.prog 24 labTy (fun a => I64 a.inc ∧ I64 a.index) :=
  (Opens.via (T := Ty.int.pair Ty.int) (f := fun a : Lab => (a.inc, a.index)) (g := fun p => (⟨p.1, p.2⟩ : Lab)) (Opens.struct Try.underlying24 (by kernel_rfl) (OpensF.cons rfl o_int (OpensF.one rfl o_int))) (fun _ => rfl)).weak fun _ h => h
theorem o_end : Opens Try.prog 34 endITy (fun a => I64 a.proc ∧ I64 a.inc ∧ I64 a.index) :=
  (Opens.via (T := Ty.int.pair (Ty.int.pair Ty.int)) (f := fun a : EndI => (a.proc, a.inc, a.index)) (g := fun p => (⟨p.1, p.2.1, p.2.2⟩ : EndI)) (Opens.struct Try.underlying34 (by kernel_rfl) (OpensF.cons rfl o_int (OpensF.cons rfl o_int (OpensF.one rfl o_int)))) (fun _ => rfl)).weak fun _ h => h
theorem o_evt : Opens Try.prog 53 evtTy (fun a => I64 a.kind ∧ I64 a.inc ∧ I64 a.frm ∧ (I64 a.sent.inc ∧ I64 a.sent.index) ∧ I64 a.ord ∧ I64 a.value) :=
  (Opens.via (T := Ty.int.pair (Ty.int.pair (Ty.int.pair (labTy.pair (Ty.int.pair Ty.int))))) (f := fun a : Evt => (a.kind, a.inc, a.frm, a.sent, a.ord, a.value)) (g := fun p => (⟨p.1, p.2.1, p.2.2.1, p.2.2.2.1, p.2.2.2.2.1, p.2.2.2.2.2⟩ : Evt)) (Opens.struct Try.underlying53 (by kernel_rfl) (OpensF.cons rfl o_int (OpensF.cons rfl o_int (OpensF.cons rfl o_int (OpensF.cons rfl o_lab (OpensF.cons rfl o_int (OpensF.one rfl o_int))))))) (fun _ => rfl)).weak fun _ h => h
theorem o_lin : Opens Try.prog 39 evtTy.slice (fun xs => xs.length ≤ 9223372036854775807 ∧ ∀ x ∈ xs, I64 x.kind ∧ I64 x.inc ∧ I64 x.frm ∧ (I64 x.sent.inc ∧ I64 x.sent.index) ∧ I64 x.ord ∧ I64 x.value) := Opens.slice Try.underlying39 (by kernel_rfl) (by decide) o_evt
theorem o_ints : Opens Try.prog 43 Ty.int.slice (fun xs => xs.length ≤ 9223372036854775807 ∧ ∀ x ∈ xs, I64 x) := Opens.slice Try.underlying43 (by kernel_rfl) (by decide) o_int
theorem lawEnd {f : Nat} {args : List Value} {w : World} (h : Gives Try.prog f args w fun u w1 => ∃ R1 : Nat → Prop, u = .bool true ∧ Sep (fun _ => False) (fun k => k < w.heap.size) R1 w w1 []) : Gives Try.prog f args w fun v w' => v = .bool true ∧ Below w.heap.size w w' :=
  h.mono fun _ _ ⟨_, e, hS⟩ => ⟨e, hS.stepBF⟩
end Go.Proofs.Ytfgmboklpjanlaa
