/- 'ModelbasedPlays': for every input the law returns true, and each argument reads afterwards as it read before. No condition. -/
import Derived.Test.YtbmjcbhappjnaaaLawEnd
import Derived.Test.YtbmjcbhappjnaaaOpensActs
import Derived.Test.YtbmjcbhappjnaaaP26p
set_option linter.unusedSimpArgs false
namespace Go.Proofs.Ytbmjcbhappjnaaa
open Go.ChangeShapes Go.WideShapes Go.ChangeAt Go.RowKit Go.Mine
set_option maxRecDepth 100000 in
theorem modelbasedPlays_lifted (os : Os) (started : os.Started) (H : Type) (enc : TypeId × Value → H) :
    ReturnsInHanded {} Try.checked os 3 .any (Rows.modelbasedPlaysSpec.pre6 enc Try.prog Try.f3 Rows.modelbasedPlaysRow.domain false) (Rows.modelbasedPlaysSpec.post enc Try.prog Try.f3 false true false false) := by
  refine returnsInHanded_of_change (C := Try.checked) lawOwn started (by kernel_rfl) Try.func3
    (ChangeSpec.witness6 (enc := enc) (C := Try.checked) false ⟨#[], #[.int .i64 0, .int .i64 0, .slice none 0 0, .slice none 0 0], []⟩ 8 (by kernel_rfl) (by kernel_rfl) (by kernel_rfl) (by kernel_rfl)) ?_
  intro W base args ds gs before hval0 hW hcnd _
  have hval : ∀ (j : Nat) t v, Try.f3.params[j]? = some t → args[j]? = some v → Value.okWide Try.prog W .any base t v := hval0
  have hW' := hW
  obtain ⟨p, q, hA0, hV, rfl, hfz, hnd⟩ := hW
  have hA : DataW.TrodAll enc Try.prog W 0 (fun _ => true) true Try.f3.params.toList args.toList ds p := hA0
  rw [Try.params3] at hA hval
  obtain ⟨v0, vs0, d0, ds0, p0, q0, hargs0, hds0, hps0, t0, r0⟩ := trodAll_cons hA
  obtain ⟨v1, vs1, d1, ds1, p1, q1, hargs1, hds1, hps1, t1, r1⟩ := trodAll_cons r0
  obtain ⟨v2, vs2, d2, ds2, p2, q2, hargs2, hds2, hps2, t2, r2⟩ := trodAll_cons r1
  obtain ⟨v3, vs3, d3, ds3, p3, q3, hargs3, hds3, hps3, t3, r3⟩ := trodAll_cons r2
  obtain ⟨rfl, -, -⟩ := trodAll_nil r3
  subst hargs3; subst hargs2; subst hargs1
  obtain rfl : args = #[v0, v1, v2, v3] := by cases args; simp_all
  clear hds0 hps0 r0 hds1 hps1 r1 hds2 hps2 r2 hds3 hps3 r3 hA0 hA hV
  obtain ⟨a0, rfl, h0⟩ := argInt Try.underlying3 (hval 0 3 v0 rfl rfl) t0
  obtain ⟨a1, rfl, h1⟩ := argInt Try.underlying3 (hval 1 3 v1 rfl rfl) t1
  obtain ⟨l2, a2, h2⟩ := argSlice Try.underlying22 (by kernel_rfl) rfl (o_act) (hval 2 22 v2 rfl rfl) t2
  obtain ⟨l3, a3, h3⟩ := argSlice Try.underlying23 (by kernel_rfl) rfl (o_u8) (hval 3 23 v3 rfl rfl) t3
  refine (Gives.law (lawEnd (law26_ModelbasedPlays_w (Sep.all _) a2.old a3.old (mbPlays h3.2)))).mono fun e W' ⟨he, hb⟩ => ?_
  subst he
  exact ⟨_, rfl, law_post rfl hW' (fun ds hd => by rw [Try.params3] at hd; match ds, hd with | [_, _, _, _], _ => exact ⟨rfl, rfl, rfl⟩) lawLaid (by kernel_rfl) hb rfl Try.underlying4⟩
theorem modelbasedPlays_holds : Rows.ModelbasedPlaysSaid :=
  OpenClaim.holds_of_wide 3 Try.f3 rfl rfl rfl rfl rfl rfl rfl ⟨rfl, rfl, rfl, rfl, rfl⟩ rfl rfl rfl rfl rfl (by kernel_rfl) Try.func3 (by kernel_rfl)
    (of_decide_eq_true (by kernel_rfl)) (by unfold Func.isWrapper; first | (rw [if_pos (by decide +kernel)]; kernel_rfl) | (rw [if_neg (by decide +kernel)]; exact ⟨rfl, rfl⟩))
    (fun os started H enc _ => modelbasedPlays_lifted os started H enc)
end Go.Proofs.Ytbmjcbhappjnaaa
