/- 'CascadePlays': for every input the law returns true, and each argument reads afterwards as it read before. No condition. -/
import Derived.Test.YtddohdppmejjoaaLawEnd
import Derived.Test.YtddohdppmejjoaaP33k
set_option linter.unusedSimpArgs false
namespace Go.Proofs.Ytddohdppmejjoaa
open Go.ChangeShapes Go.WideShapes Go.ChangeAt Go.RowKit Go.Mine
theorem o_shock : Opens Try.prog 51 shockTy (fun _ => True) :=
  (Opens.via (T := Ty.int.pair (Ty.int.pair Ty.int)) (f := fun a : Shock => (a.kind, a.proc, a.other)) (g := fun p => (⟨p.1, p.2.1, p.2.2⟩ : Shock)) (Opens.struct Try.underlying51 (by kernel_rfl) (OpensF.cons rfl o_int (OpensF.cons rfl o_int (OpensF.one rfl o_int)))) (fun _ => rfl)).weak fun _ _ => trivial
set_option maxRecDepth 100000 in
theorem cascadePlays_lifted (os : Os) (started : os.Started) (H : Type) (enc : TypeId × Value → H) :
    ReturnsInHanded {} Try.checked os 5 .any (Rows.cascadePlaysSpec.pre6 enc Try.prog Try.f5 Rows.cascadePlaysRow.domain false) (Rows.cascadePlaysSpec.post enc Try.prog Try.f5 false true false false) := by
  refine returnsInHanded_of_change (C := Try.checked) lawOwn started (by kernel_rfl) Try.func5
    (ChangeSpec.witness6 (enc := enc) (C := Try.checked) false ⟨#[], #[.slice none 0 0, .agg #[.int .i64 0, .int .i64 0, .int .i64 0]], []⟩ 8 (by kernel_rfl) (by kernel_rfl) (by kernel_rfl) (by kernel_rfl)) ?_
  intro W base args ds gs before hval0 hW hcnd _
  have hval : ∀ (j : Nat) t v, Try.f5.params[j]? = some t → args[j]? = some v → Value.okWide Try.prog W .any base t v := hval0
  have hW' := hW
  obtain ⟨p, q, hA0, hV, rfl, hfz, hnd⟩ := hW
  have hA : DataW.TrodAll enc Try.prog W 0 (fun _ => true) true Try.f5.params.toList args.toList ds p := hA0
  rw [Try.params5] at hA hval
  obtain ⟨v0, vs0, d0, ds0, p0, q0, hargs0, hds0, hps0, t0, r0⟩ := trodAll_cons hA
  obtain ⟨v1, vs1, d1, ds1, p1, q1, hargs1, hds1, hps1, t1, r1⟩ := trodAll_cons r0
  obtain ⟨rfl, -, -⟩ := trodAll_nil r1
  subst hargs1
  obtain rfl : args = #[v0, v1] := by cases args; simp_all
  clear hds0 hps0 r0 hds1 hps1 r1 hA0 hA hV
  obtain ⟨l0, a0, h0⟩ := argSlice Try.underlying34 (by kernel_rfl) rfl (o_u8) (hval 0 34 v0 rfl rfl) t0
  obtain ⟨c1, l1, rfl, a1, h1⟩ := argStruct Try.underlying51 (o_shock) (hval 1 51 v1 rfl rfl) t1
  obtain rfl := Shock_R a1
  refine (Gives.law (lawEnd (law33_CascadePlays_w (Sep.all _) a0.old (plays33 h0.2)))).mono fun e W' ⟨he, hb⟩ => ?_
  subst he
  exact ⟨_, rfl, law_post rfl hW' (fun ds hd => by rw [Try.params5] at hd; match ds, hd with | [_, _], _ => exact ⟨rfl, rfl, rfl⟩) lawLaid (by kernel_rfl) hb rfl Try.underlying4⟩
theorem cascadePlays_holds : Rows.CascadePlaysSaid :=
  OpenClaim.holds_of_wide 5 Try.f5 rfl rfl rfl rfl rfl rfl rfl ⟨rfl, rfl, rfl, rfl, rfl⟩ rfl rfl rfl rfl rfl (by kernel_rfl) Try.func5 (by kernel_rfl)
    (of_decide_eq_true (by kernel_rfl)) (by unfold Func.isWrapper; first | (rw [if_pos (by decide +kernel)]; kernel_rfl) | (rw [if_neg (by decide +kernel)]; exact ⟨rfl, rfl⟩))
    (fun os started H enc _ => cascadePlays_lifted os started H enc)
end Go.Proofs.Ytddohdppmejjoaa
