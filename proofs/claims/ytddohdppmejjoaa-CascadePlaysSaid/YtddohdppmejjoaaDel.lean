/- slices.Delete of one element, on a slice of the caller's own: the cells of a row, whatever they hold. -/
import Derived.Test.YtddohdppmejjoaaTypes
set_option linter.unusedSimpArgs false
set_option linter.unusedVariables false
namespace Go.Mine
open Go.RowKit
section
variable {α : Type} {T : Ty α} {w w1 : World} {lo : Nat} {S : Nat → Prop} {e : TypeId} {v v' : Value} {xs : List α}
end
theorem ati_seti_same {α : Type} {xs ys : List α} {i : Int} {x : α} (h : seti xs i x = some ys) : ati ys i = some x := by
  obtain ⟨h0, h1, rfl⟩ := seti_eq h
  unfold ati; rw [if_neg (by omega)]; simp [h1]
section
variable {P : Program} {N : Fr} {X : Nat → Prop} {K : Env → World → Prop} {E : Env} {w : World} {t : TypeId} {m : Bool} {rest : List QOp} {sd : Nat} {α : Type} {T : Ty α}
end
end Go.Mine
