/- 'CascadeOrders': for every input the law returns true, and each argument reads afterwards as it read before. No condition. -/
import Derived.Test.YtddohdppmejjoaaLawEnd
import Derived.Test.YtddohdppmejjoaaP33i
set_option linter.unusedSimpArgs false
namespace Go.Proofs.Ytddohdppmejjoaa
open Go.ChangeShapes Go.WideShapes Go.ChangeAt Go.RowKit Go.Mine
set_option maxRecDepth 100000 in
theorem cascadeOrders_lifted (os : Os) (started : os.Started) (H : Type) (enc : TypeId × Value → H) :
    ReturnsInHanded {} Try.checked os 6 .any (Rows.cascadeOrdersSpec.pre6 enc Try.prog Try.f6 Rows.cascadeOrdersRow.domain false) (Rows.cascadeOrdersSpec.post enc Try.prog Try.f6 false true false false) := by
  refine returnsInHanded_of_change (C := Try.checked) lawOwn started (by kernel_rfl) Try.func6
    (ChangeSpec.witness6 (enc := enc) (C := Try.checked) false ⟨#[], #[.slice none 0 0, .int .u8 0, .slice none 0 0], []⟩ 8 (by kernel_rfl) (by kernel_rfl) (by kernel_rfl) (by kernel_rfl)) ?_
  intro W base args ds gs before hval0 hW hcnd _
  have hval : ∀ (j : Nat) t v, Try.f6.params[j]? = some t → args[j]? = some v → Value.okWide Try.prog W .any base t v := hval0
  have hW' := hW
  obtain ⟨p, q, hA0, hV, rfl, hfz, hnd⟩ := hW
  have hA : DataW.TrodAll enc Try.prog W 0 (fun _ => true) true Try.f6.params.toList args.toList ds p := hA0
  rw [Try.params6] at hA hval
  obtain ⟨v0, vs0, d0, ds0, p0, q0, hargs0, hds0, hps0, t0, r0⟩ := trodAll_cons hA
  obtain ⟨v1, vs1, d1, ds1, p1, q1, hargs1, hds1, hps1, t1, r1⟩ := trodAll_cons r0
  obtain ⟨v2, vs2, d2, ds2, p2, q2, hargs2, hds2, hps2, t2, r2⟩ := trodAll_cons r1
  obtain ⟨rfl, -, -⟩ := trodAll_nil r2
  subst hargs2; subst hargs1
  obtain rfl : args = #[v0, v1, v2] := by cases args; simp_all
  clear hds0 hps0 r0 hds1 hps1 r1 hds2 hps2 r2 hA0 hA hV
  obtain ⟨l0, a0, h0⟩ := argSlice Try.underlying34 (by kernel_rfl) rfl (o_u8) (hval 0 34 v0 rfl rfl) t0
  obtain ⟨a1, rfl, h1⟩ := argU8 Try.underlying5 (hval 1 5 v1 rfl rfl) t1
  obtain ⟨l2, a2, h2⟩ := argSlice Try.underlying34 (by kernel_rfl) rfl (o_u8) (hval 2 34 v2 rfl rfl) t2
  refine (Gives.law (lawEnd (law33_CascadeOrders_w (Sep.all _) a0.old a2.old (orders33 h0.2 h2.2)))).mono fun e W' ⟨he, hb⟩ => ?_
  subst he
  exact ⟨_, rfl, law_post rfl hW' (fun ds hd => by rw [Try.params6] at hd; match ds, hd with | [_, _, _], _ => exact ⟨rfl, rfl, rfl⟩) lawLaid (by kernel_rfl) hb rfl Try.underlying4⟩
theorem cascadeOrders_holds : Rows.CascadeOrdersSaid :=
  OpenClaim.holds_of_wide 6 Try.f6 rfl rfl rfl rfl rfl rfl rfl ⟨rfl, rfl, rfl, rfl, rfl⟩ rfl rfl rfl rfl rfl (by kernel_rfl) Try.func6 (by kernel_rfl)
    (of_decide_eq_true (by kernel_rfl)) (by unfold Func.isWrapper; first | (rw [if_pos (by decide +kernel)]; kernel_rfl) | (rw [if_neg (by decide +kernel)]; exact ⟨rfl, rfl⟩))
    (fun os started H enc _ => cascadeOrders_lifted os started H enc)
end Go.Proofs.Ytddohdppmejjoaa
