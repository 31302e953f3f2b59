/- ZigzagUseless, plain. -/
import Derived.Test.YtlceljfigccllaaA21le
import Derived.Test.YtlceljfigccllaaP21n
set_option linter.unusedSimpArgs false
set_option linter.unusedVariables false
namespace Go.Mine
open Go.RowKit
theorem zigzagUseless {a0 : List Int} {a1 : Int} (h0 : ∀ x ∈ a0, U8 x) (h1 : U8 a1) : law21_ZigzagUseless 10000000 a0 a1 = some true := by
  have u0 := h1.1; have u1 := h1.2
  unfold law21_ZigzagUseless
  rw [awake21, Option.bind_some]
  simp only [Bool.not_true, Bool.false_eq_true, if_false]
  refine Ok.eq ?_
  refine (Ok.new (by omega) (by omega) h0).bind fun r hr => (pattern_g hr (m := 20) (by omega) (by omega)).bind fun P ⟨n, hn2, hn4, hp, _⟩ => ?_
  simp only [show (⟨P.1.lens, P.1.ckpts, P.1.arcs⟩ : Pat) = P.1 from rfl]
  have hal := allL_len hp (by omega) n
  rw [rall_g hp (by omega) (by omega), Option.bind_some, w64_id (i := a1) (by omega) (by omega)]
  have hpos : 0 < (allL n P.1).length := List.length_pos_of_mem (mem_allL.2 (show VN n P.1 ⟨0, 0⟩ from ⟨by simp, by simp only; omega, by simp, by simp⟩))
  refine (Ok.rem (by omega)).bind fun i hi => ?_
  have hi0 : 0 ≤ i := by rw [hi]; exact Int.tmod_nonneg _ u0
  have hi1 : i < ((allL n P.1).length : Int) := by rw [hi]; exact Int.tmod_lt_of_pos _ (by omega)
  refine (Ok.at hi0 hi1).bind fun x hx => ?_
  have hv : VN n P.1 x := mem_allL.1 (List.mem_of_getElem? hx)
  have hvl : ∀ z ∈ ([⟨x.proc, x.index⟩] : List Pt), VN n P.1 z := fun z hz => by simp at hz; subst hz; exact hv
  refine (extension_g hp (by omega) (by omega) hvl (by simp)).bind fun e he => ?_
  have hok := he.ok hp (by omega) hvl
  rw [useless_g hp (by omega) (by omega), Option.bind_some]
  have hul : (uslL n P.1).length ≤ 1000 := by
    have := List.length_filter_le (fun x => zpB P.1 x x) (allL n P.1)
    show ((allL n P.1).filter fun x => zpB P.1 x x).length ≤ 1000
    omega
  have hin : x ∈ uslL n P.1 ↔ zpath P.1 x x := by
    unfold uslL; rw [List.mem_filter, zpB_iff, mem_allL]; exact ⟨fun h5 => h5.2, fun h5 => ⟨hv, h5⟩⟩
  refine Ok.bind (Q := fun t => t = true ↔ x ∈ uslL n P.1) (Ok.for_ (uslL n P.1).length (fun k s => s.2 = (k : Int) ∧ (s.1 = true ↔ x ∈ (uslL n P.1).take k)) ⟨rfl, by simp⟩ (by omega) ?_) fun t ht => ?_
  · rintro k ⟨b, j⟩ hk ⟨hj, hb⟩
    simp only at hj hb
    subst hj
    simp only [law21_ZigzagUseless_B1]
    refine Ok.iteP (fun hkl => ?_) (fun hkl => Ok.ret ?_)
    · have hkl' : k < (uslL n P.1).length := by omega
      rw [ati_get hkl', Option.bind_some, orM_some, Option.bind_some]
      refine Ok.ret ⟨hkl', w64_nat (by omega), ?_⟩
      simp only
      rw [mem_take_succ', List.getElem?_eq_getElem hkl', Option.some.injEq, Bool.or_eq_true, hb]
      refine or_congr Iff.rfl ?_
      simp only [Bool.and_true, Bool.and_eq_true, beq_iff_eq]
      constructor
      · rintro ⟨h5, h6⟩
        generalize (uslL n P.1)[k] = z at *
        obtain ⟨z1, z2⟩ := z; obtain ⟨x1, x2⟩ := x
        simp only at h5 h6
        rw [h5, h6]
      · intro h5; rw [h5]; exact ⟨rfl, rfl⟩
    · rw [show k = (uslL n P.1).length by omega, List.take_length] at hb
      exact hb
  · unfold law21_ZigzagUseless_K1
    refine Ok.ret ?_
    have : e.2 = true ↔ ¬ t = true := by
      rw [hok, ht, hin]
      constructor
      · intro h5; exact h5.2 _ (List.mem_singleton.2 rfl) _ (List.mem_singleton.2 rfl)
      · intro h5
        refine ⟨fun a ha b hb _ => ?_, fun a ha b hb => ?_⟩
        · simp at ha hb; rw [ha, hb]
        · simp at ha hb; rw [ha, hb]; exact h5
    cases h5 : e.2 <;> cases h6 : t <;> simp_all
end Go.Mine
