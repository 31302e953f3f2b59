/- Chapter 32, plain: the cut of all. -/
import Derived.Test.YtbmjcbhappjnaaaP32f
set_option linter.unusedSimpArgs false
set_option linter.unusedVariables false
namespace Go.Mine
open Go.RowKit
def fullC (l : List (List Evt)) : List Int := l.map fun r => (r.length : Int)
theorem nI_full {l : List (List Evt)} {j : Nat} : nI (fullC l) j = rl l j := by
  simp only [nI, fullC, rl, Int.toNat_natCast, List.getElem?_map]
  cases l[j]? <;> simp
theorem fullC_length {l : List (List Evt)} : (fullC l).length = l.length := by simp [fullC]
theorem row_get {α : Type} {vs : List (List α)} {q : Nat} (h : q < vs.length) : ∃ r, vs[q]? = some r ∧ rl vs q = r.length := ⟨vs[q], by simp [h], by simp [rl, h]⟩
theorem all_o {fuel : Nat} {l : List (List Evt)} (hs : Small l) (hf : 1000000 < fuel) : orphan_all fuel l = some (fullC l) := by
  have hs1 := hs.1
  refine Ok.eq ?_
  unfold orphan_all
  refine (Ok.mk (by omega) (by omega)).bind fun x hx => ?_
  rw [Int.toNat_natCast] at hx
  refine Ok.bind (Ok.for_ l.length (fun k s => s.2 = (k : Int) ∧ s.1.length = l.length ∧ ∀ j : Nat, j < k → nI s.1 j = rl l j) (Q := fun t => t = fullC l) ⟨rfl, by rw [hx]; simp, by omega⟩ (by omega) ?_) fun t ht => Ok.ret ht
  rintro k ⟨y, i⟩ hk ⟨rfl, h1, h2⟩
  simp only at h1 h2
  simp only [orphan_all_B1]
  refine Ok.iteP (fun hlt => ?_) fun hlt => Ok.ret ?_
  · refine (Ok.at (by omega) (by omega)).bind fun r hr => (Ok.at (by omega) (by omega)).bind fun _ _ => (Ok.set (by omega) (by omega)).bind fun z hz => Ok.ret ⟨by omega, w64_nat (by omega), by rw [hz]; simp [h1], fun j hj => ?_⟩
    rw [Int.toNat_natCast] at hr
    simp only; rw [hz, nI_set (by omega) (by omega) (by omega)]
    by_cases e : j = k
    · subst e; rw [if_pos rfl, rl_some hr]
    · rw [if_neg (by omega)]; exact h2 j (by omega)
  · refine List.ext_getElem (by rw [h1]; simp [fullC]) fun j a b => ?_
    rw [nI_gt a, nI_gt b, nI_full]
    exact h2 j (by omega)
end Go.Mine
