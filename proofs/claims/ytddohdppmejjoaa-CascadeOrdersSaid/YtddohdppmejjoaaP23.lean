/- Plain: the references' comparisons of lists, patterns and histories. -/
import Derived.Test.YtddohdppmejjoaaA23
import Derived.Test.YtddohdppmejjoaaPl
set_option linter.unusedSimpArgs false
set_option linter.unusedVariables false
namespace Go.Mine
open Go.RowKit
theorem iter_same {α : Type} [DecidableEq α] {body : Int → Option (Int ⊕ (Unit ⊕ Bool))} {fuel : Nat} {a b : List α} (hl : a.length = b.length) (hf : a.length < fuel)
    (step : ∀ (k : Nat) (x y : α), a[k]? = some x → b[k]? = some y → body (k : Int) = some (if x = y then .inl ((k + 1 : Nat) : Int) else .inr (.inr false))) (last : body (a.length : Int) = some (.inr (.inl ()))) :
    iter body fuel 0 = some (if a = b then .inl () else .inr false) := by
  rw [iter_any a.length (fun k => decide (a[k]? ≠ b[k]?)) false hf (fun k hk => by
    rw [step k a[k] (b[k]'(by omega)) (by simp) (by simp)]
    simp only [List.getElem?_eq_getElem hk, List.getElem?_eq_getElem (hl ▸ hk : k < b.length)]
    by_cases e : a[k] = b[k] <;> simp [e]) last]
  by_cases e : a = b
  · subst e; simp
  · have : ∃ k, k < a.length ∧ (decide (a[k]? ≠ b[k]?)) = true := Classical.byContradiction fun hn => e (List.ext_getElem hl fun k h1 h2 => by
      have := fun hc => hn ⟨k, h1, hc⟩
      simpa [h1, h2] using this)
    rw [if_pos this, if_neg e]
theorem sameints_o {fuel : Nat} {a b : List Int} (h : a.length < fuel) (hl : a.length ≤ 1000000) : ref23_SameInts fuel a b = some (decide (a = b)) := by
  unfold ref23_SameInts
  by_cases he : a.length = b.length
  · rw [if_neg (by simp [he]), iter_same (a := a) (b := b) he h (fun k x y hx hy => by
      have hk := (List.getElem?_eq_some_iff.1 hx).1
      unfold ref23_SameInts_B1
      rw [if_pos (by simp [hk]), ati_cast, ati_cast, hx, hy, w64_nat (by omega)]
      by_cases e : x = y <;> simp [e]) (by unfold ref23_SameInts_B1; simp)]
    by_cases e : a = b <;> simp [e, ref23_SameInts_K1]
  · rw [if_pos (by simp; omega)]
    have : a ≠ b := fun e => he (by rw [e])
    simp [this]
end Go.Mine
