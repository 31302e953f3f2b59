/- How the arguments of laws read: messages. -/
import Derived.Test.YtfgmboklpjanlaaOpens32
set_option linter.unusedSimpArgs false
namespace Go.Proofs.Ytfgmboklpjanlaa
open Go.ChangeShapes Go.WideShapes Go.ChangeAt Go.RowKit Go.Mine
theorem o_u32 : Opens Try.prog 80 Ty.u32 (fun _ => True) := ⟨by kernel_rfl, fun h => by obtain ⟨n, rfl, _, hw⟩ := DataW.trod_int Try.underlying80 h; exact ⟨n, rfl, trivial⟩⟩
theorem o_det : Opens Try.prog 107 detTy (fun _ => True) :=
  (Opens.via (T := Ty.int.pair (Ty.int.pair evtTy)) (f := fun a : Det => (a.proc, a.index, a.event)) (g := fun p => (⟨p.1, p.2.1, p.2.2⟩ : Det)) (Opens.struct Try.underlying107 (by kernel_rfl) (OpensF.cons rfl o_int (OpensF.cons rfl o_int (OpensF.one rfl o_evt)))) (fun _ => rfl)).weak fun _ _ => trivial
theorem o_known : Opens Try.prog 109 knownTy (fun _ => True) :=
  (Opens.via (T := detTy.pair Ty.u32) (f := fun a : Known => (a.det, a.holders)) (g := fun p => (⟨p.1, p.2⟩ : Known)) (Opens.struct Try.underlying109 (by kernel_rfl) (OpensF.cons rfl o_det (OpensF.one rfl o_u32))) (fun _ => rfl)).weak fun _ _ => trivial
theorem o_knowns : Opens Try.prog 44 knownTy.slice (fun _ => True) := (Opens.slice Try.underlying44 (by kernel_rfl) (by decide) o_known).weak fun _ _ => trivial
theorem o_msg : Opens Try.prog 46 msgTy (fun _ => True) :=
  (Opens.via (T := Ty.int.pair (Ty.int.pair (labTy.pair (Ty.int.pair (Ty.int.pair (Ty.int.pair (Ty.int.slice.pair knownTy.slice))))))) (f := fun a : Msg => (a.frm, a.to, a.sent, a.ord, a.value, a.clock, a.vector, a.known)) (g := fun p => (⟨p.1, p.2.1, p.2.2.1, p.2.2.2.1, p.2.2.2.2.1, p.2.2.2.2.2.1, p.2.2.2.2.2.2.1, p.2.2.2.2.2.2.2⟩ : Msg)) (Opens.struct Try.underlying46 (by kernel_rfl) (OpensF.cons rfl o_int (OpensF.cons rfl o_int (OpensF.cons rfl o_lab (OpensF.cons rfl o_int (OpensF.cons rfl o_int (OpensF.cons rfl o_int (OpensF.cons rfl o_ints (OpensF.one rfl o_knowns))))))))) (fun _ => rfl)).weak fun _ _ => trivial
end Go.Proofs.Ytfgmboklpjanlaa
