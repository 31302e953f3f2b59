/- Rows and their lengths. -/
import Derived.Test.YtddohdppmejjoaaAcdat
import Derived.Test.YtddohdppmejjoaaPl
set_option linter.unusedSimpArgs false
set_option linter.unusedVariables false
namespace Go.Mine
open Go.RowKit
/-- the length of a row -/
def rl {α : Type} (l : List (List α)) (j : Nat) : Nat := (l[j]?.getD []).length
theorem rl_set {α : Type} {l : List (List α)} {k j : Nat} {r : List α} (h : k < l.length) : rl (l.set k r) j = if j = k then r.length else rl l j := by
  unfold rl; rw [getElem?_set' h]; split <;> simp
theorem rl_some {α : Type} {l : List (List α)} {k : Nat} {r : List α} (h : l[k]? = some r) : rl l k = r.length := by simp [rl, h]
/-- lineages that are not too long -/
def Small (l : List (List Evt)) : Prop := l.length ≤ 1000 ∧ ∀ j, rl l j ≤ 1000
end Go.Mine
