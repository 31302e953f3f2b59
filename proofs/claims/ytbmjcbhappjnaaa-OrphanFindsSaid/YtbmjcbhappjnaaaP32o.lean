/- Chapter 32, plain: drawn scenes. -/
import Derived.Test.YtbmjcbhappjnaaaP32n
set_option linter.unusedSimpArgs false
set_option linter.unusedVariables false
namespace Go.Mine
open Go.RowKit
theorem nI_append {xs : List Int} {x : Int} {j : Nat} : nI (xs ++ [x]) j = if j < xs.length then nI xs j else if j = xs.length then x else 0 := by
  unfold nI
  rw [Int.toNat_natCast]
  by_cases h : j < xs.length
  · rw [List.getElem?_append_left h, if_pos h]
  · rw [List.getElem?_append_right (by omega), if_neg h]
    by_cases e : j = xs.length
    · subst e; simp
    · rw [if_neg e]
      have : ([x] : List Int)[j - xs.length]? = none := by simp; omega
      rw [this]; rfl
/-- lineages that are not too long -/
def Small (l : List (List Evt)) : Prop := l.length ≤ 1000 ∧ ∀ j, rl l j ≤ 1000
theorem LinI.small {lens : List Int} {l : List (List Evt)} {B : Int} (h : LinI lens l) (hn : lens.length ≤ 100) (hr : ∀ x ∈ lens, 0 ≤ x ∧ x ≤ B) (hB0 : 0 ≤ B) (hB : B ≤ 1000) : Small l := by
  refine ⟨by rw [h.len]; omega, fun j => ?_⟩
  by_cases hj : j < l.length
  · have := h.row j hj
    have := nI_nonneg (i := (j : Int)) hr hB0
    omega
  · have : l[j]? = none := by simp; omega
    simp [rl, this]
end Go.Mine
