/- ZigzagTheorem, plain. -/
import Derived.Test.YtlceljfigccllaaA21lc
import Derived.Test.YtlceljfigccllaaP21k
set_option linter.unusedSimpArgs false
set_option linter.unusedVariables false
namespace Go.Mine
open Go.RowKit
theorem zigzagTheorem {a0 a1 : List Int} (h0 : ∀ x ∈ a0, U8 x) (h1 : ∀ x ∈ a1, U8 x) : law21_ZigzagTheorem 10000000 a0 a1 = some true := by
  unfold law21_ZigzagTheorem
  rw [awake21, Option.bind_some]
  simp only [Bool.not_true, Bool.false_eq_true, if_false]
  refine Ok.eq ?_
  refine (Ok.new (by omega) (by omega) h0).bind fun r hr => (pattern_g hr (m := 20) (by omega) (by omega)).bind fun P ⟨n, hn2, hn4, hp, _⟩ => ?_
  simp only [show (⟨P.1.lens, P.1.ckpts, P.1.arcs⟩ : Pat) = P.1 from rfl]
  refine (Ok.new (by omega) (by omega) h1).bind fun r2 hr2 => (ckpts_g hp (by omega) (by omega) hr2).bind fun L hL => ?_
  have hLl := hL.len; have hlen := hp.len
  refine (extension_g hp (by omega) (by omega) hL.vn (by omega)).bind fun x hx => (extendable_g hp (by omega) (by omega) hL.vn (by omega)).bind fun b hb => ?_
  have hxb : x.2 = b := by rw [Bool.eq_iff_iff, hx.ok hp (by omega) hL.vn, hb]
  subst hxb
  rw [if_neg (by simp)]
  rcases hx with ⟨e, hg, _⟩ | ⟨e, _⟩
  · rw [e]
    simp only [Bool.not_true, Bool.false_eq_true, if_false]
    have hxl := hg.1.1
    rw [show ((x.1.length : Int) != (P.1.lens.length : Int)) = false by simp; omega, orM_false, global_g hp (by omega) (by omega) hg.1 ((glob_cons hp (by omega) (by omega) hg.1).2 hg.2.1)]
    simp only [Option.bind_some, Bool.not_true, Bool.false_eq_true, if_false]
    refine Ok.bind (Q := fun t => t = .inl ()) (Ok.for_ L.1.length (fun k s => s = (k : Int)) rfl (by omega) ?_) fun t ht => by subst ht; exact Ok.ret rfl
    rintro k s hk rfl
    unfold law21_ZigzagTheorem_B1
    refine Ok.iteP (fun hkl => ?_) (fun _ => Ok.ret rfl)
    have hkl' : k < L.1.length := by omega
    have hv := hL.vn L.1[k] (List.getElem_mem _)
    rw [ati_get hkl', Option.bind_some, ati_nI hv.p0 (by have := hv.p1; omega), Option.bind_some, hg.2.2 L.1[k] (List.getElem_mem _), if_neg (by simp)]
    exact Ok.ret ⟨hkl', w64_nat (by omega)⟩
  · rw [e]
    exact Ok.ret rfl
end Go.Mine
