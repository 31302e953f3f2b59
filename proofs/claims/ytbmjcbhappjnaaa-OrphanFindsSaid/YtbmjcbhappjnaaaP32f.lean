/- Chapter 32, plain: the law of cuts. -/
import Derived.Test.YtbmjcbhappjnaaaP32d
set_option linter.unusedSimpArgs false
set_option linter.unusedVariables false
namespace Go.Mine
open Go.RowKit
theorem sameints_o {fuel : Nat} {a b : List Int} (h : a.length < fuel) (hl : a.length ≤ 1000000) : ref23_SameInts fuel a b = some (decide (a = b)) := by
  unfold ref23_SameInts
  by_cases he : a.length = b.length
  · rw [if_neg (by simp [he])]
    rw [iter_any a.length (fun k => decide (a[k]? ≠ b[k]?)) false h (fun k hk => by
      unfold ref23_SameInts_B1
      rw [if_pos (by simp [hk]), ati_get hk, ati_get (he ▸ hk), w64_nat (by omega)]
      simp only [Option.bind_some, List.getElem?_eq_getElem hk, List.getElem?_eq_getElem (he ▸ hk : k < b.length)]
      by_cases e : a[k] = b[k]
      · simp [e]
      · simp [e]) (by unfold ref23_SameInts_B1; simp)]
    by_cases e : a = b
    · subst e; simp [ref23_SameInts_K1]
    · have : ∃ k, k < a.length ∧ (decide (a[k]? ≠ b[k]?)) = true := Classical.byContradiction fun hn => e (List.ext_getElem he fun k h1 h2 => by
        have := fun hc => hn ⟨k, h1, hc⟩
        simpa [h1, h2] using this)
      rw [if_pos this]; simp [e]
  · rw [if_pos (by simp; omega)]
    have : a ≠ b := fun e => he (by rw [e])
    simp [this]
theorem awake32f (f : Nat) : law32_awake (f + 1000) = some true := by kernel_rfl
end Go.Mine
