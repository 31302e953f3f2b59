/- 'OrphanTracks': for every input the law returns true, and each argument reads afterwards as it read before. No condition. -/
import Derived.Test.YtghjjkdfjmnfeaaOpens32
import Derived.Test.YtghjjkdfjmnfeaaOpensW
import Derived.Test.YtghjjkdfjmnfeaaP32k
set_option linter.unusedSimpArgs false
namespace Go.Proofs.Ytghjjkdfjmnfeaa
open Go.ChangeShapes Go.WideShapes Go.ChangeAt Go.RowKit Go.Mine
theorem o_linW : OpensW Try.prog 64 evtTy.slice (fun xs => xs.length ≤ 140737488351232 ∧ ∀ x ∈ xs, I64 x.kind ∧ I64 x.inc ∧ I64 x.frm ∧ (I64 x.sent.inc ∧ I64 x.sent.index) ∧ I64 x.ord ∧ I64 x.value) := OpensW.slice Try.underlying64 (by kernel_rfl) (by decide) (by decide +kernel) o_evt.toW
theorem o_intsW : OpensW Try.prog 35 Ty.int.slice (fun xs => xs.length ≤ 140737488351232 ∧ ∀ x ∈ xs, I64 x) := OpensW.slice Try.underlying35 (by kernel_rfl) (by decide) (by decide +kernel) o_int.toW
theorem rl_of {α : Type} {Q : List α → Prop} {l : List (List α)} (h : ∀ x ∈ l, x.length ≤ 140737488351232 ∧ Q x) (j : Nat) : rl l j ≤ 140737488351232 := by
  unfold rl
  cases hj : l[j]? with
  | none => simp
  | some r => exact (h r (List.mem_of_getElem? hj)).1
set_option maxRecDepth 100000 in
theorem orphanTracks_lifted (os : Os) (started : os.Started) (H : Type) (enc : TypeId × Value → H) :
    ReturnsInHanded {} Try.checked os 6 .any (Rows.orphanTracksSpec.pre6 enc Try.prog Try.f6 Rows.orphanTracksRow.domain false) (Rows.orphanTracksSpec.post enc Try.prog Try.f6 false true false false) := by
  refine returnsInHanded_of_change_sized (C := Try.checked) lawOwn started (by kernel_rfl) Try.func6
    (ChangeSpec.witness6 (enc := enc) (C := Try.checked) false ⟨#[], #[.slice none 0 0, .slice none 0 0, .slice none 0 0], []⟩ 8 (by kernel_rfl) (by kernel_rfl) (by kernel_rfl) (by kernel_rfl)) ?_
  intro W base args ds gs before hval0 hW hcnd hwt0 _
  have hval : ∀ (j : Nat) t v, Try.f6.params[j]? = some t → args[j]? = some v → Value.okWide Try.prog W .any base t v := hval0
  have hW' := hW
  obtain ⟨p, q, hA0, hV, rfl, hfz, hnd⟩ := hW
  have hA : DataW.TrodAll enc Try.prog W 0 (fun _ => true) true Try.f6.params.toList args.toList ds p := hA0
  rw [Try.params6] at hA hval
  obtain ⟨v0, vs0, d0, ds0, p0, q0, hargs0, hds0, hps0, t0, r0⟩ := trodAll_cons hA
  obtain ⟨v1, vs1, d1, ds1, p1, q1, hargs1, hds1, hps1, t1, r1⟩ := trodAll_cons r0
  obtain ⟨v2, vs2, d2, ds2, p2, q2, hargs2, hds2, hps2, t2, r2⟩ := trodAll_cons r1
  obtain ⟨rfl, -, -⟩ := trodAll_nil r2
  subst hargs2; subst hargs1
  obtain rfl : args = #[v0, v1, v2] := by cases args; simp_all
  have hwt1 : (DataW.weightsEach Try.prog (Try.f6.params.toList ++ Rows.orphanTracksSpec.plain.varTypes Try.prog) (ds ++ gs)).all (· ≤ reachBytes) = true := hwt0
  rw [Try.params6, hds0, hds1, hds2] at hwt1
  have hw0 := weightsIn hwt1 0 (t := 34) (d := d0) rfl rfl
  have hw1 := weightsIn hwt1 1 (t := 43) (d := d1) rfl rfl
  clear hds0 hps0 r0 hds1 hps1 r1 hds2 hps2 r2 hA0 hA hV
  obtain ⟨l0, a0, h0⟩ := argSliceW Try.underlying34 (by kernel_rfl) rfl (by kernel_rfl) (o_linW) (hval 0 34 v0 rfl rfl) t0 hw0
  obtain ⟨l1, a1, h1⟩ := argSliceW Try.underlying43 (by kernel_rfl) rfl (by kernel_rfl) (o_intsW) (hval 1 43 v1 rfl rfl) t1 hw1
  obtain ⟨l2, a2, h2⟩ := argSlice Try.underlying23 (by kernel_rfl) rfl (o_u8) (hval 2 23 v2 rfl rfl) t2
  refine (Gives.law (lawEnd (law32_OrphanTracks_w (Sep.all _) a0.old a1.old a2.old (tracks_ok h0.1 (rl_of h0.2) h1.1 (rl_of h1.2) h2.2)))).mono fun e W' ⟨he, hb⟩ => ?_
  subst he
  exact ⟨_, rfl, law_post rfl hW' (fun ds hd => by rw [Try.params6] at hd; match ds, hd with | [_, _, _], _ => exact ⟨rfl, rfl, rfl⟩) lawLaid (by kernel_rfl) hb rfl Try.underlying4⟩
theorem orphanTracks_holds : Rows.OrphanTracksSaid :=
  OpenClaim.holds_of_wide 6 Try.f6 rfl rfl rfl rfl rfl rfl rfl ⟨rfl, rfl, rfl, rfl, rfl⟩ rfl rfl rfl rfl rfl (by kernel_rfl) Try.func6 (by kernel_rfl)
    (of_decide_eq_true (by kernel_rfl)) (by unfold Func.isWrapper; first | (rw [if_pos (by decide +kernel)]; kernel_rfl) | (rw [if_neg (by decide +kernel)]; exact ⟨rfl, rfl⟩))
    (fun os started H enc _ => orphanTracks_lifted os started H enc)
end Go.Proofs.Ytghjjkdfjmnfeaa
