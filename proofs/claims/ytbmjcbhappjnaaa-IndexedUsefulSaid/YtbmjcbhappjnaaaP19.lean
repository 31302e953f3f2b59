/- Dependency vectors, plain. -/
import Derived.Test.YtbmjcbhappjnaaaA19
import Derived.Test.YtbmjcbhappjnaaaP17a
import Derived.Test.YtbmjcbhappjnaaaP20c
set_option linter.unusedSimpArgs false
set_option linter.unusedVariables false
namespace Go.Mine
open Go.RowKit
def cidx (p : Pat) (q i : Int) : Int := if i < ((ckR p q).length : Int) then nI (ckR p q) i else nI p.lens q
theorem nI_map {n : Nat} {g : Nat → Int} {s : Nat} (h : s < n) : nI ((List.range n).map g) s = g s := by simp [nI, h]
def NumV (n : Nat) (p : Pat) (y : List Int) : Prop := y.length = n ∧ ∀ q : Nat, q < n → 0 ≤ nI y q ∧ nI y q ≤ (ckR p q).length
def cutOf (n : Nat) (p : Pat) (y : List Int) : List Int := (List.range n).map fun (q : Nat) => cidx p q (nI y q)
section
variable {n B : Nat} {p : Pat} (h : PatG n B p) (hn : n ≤ 5) (hB : B ≤ 64)
include h
/-- an interval up to a checkpoint's number, and an index up to the checkpoint's -/
theorem ivl_cidx {q : Int} {y : Nat} {c : Int} (h0 : 0 ≤ q) (h1 : q < n) (hy : y ≤ (ckR p q).length) (hc : c ≤ nI p.lens q) : ivl (ckR p q) c ≤ y ↔ c ≤ cidx p q y := by
  have hcg := h.ckI h0 h1
  have hle := ivl_le (r := ckR p q) (k := c)
  unfold cidx
  split
  · rename_i hl
    have hy' : y < (ckR p q).length := by omega
    rw [nI_get hy']
    have := ivl_lt hcg.asc (k := c) hy'
    constructor
    · intro h5
      rcases Int.lt_or_le ((ckR p q)[y]) c with h6 | h6
      · have := this.1 h6; omega
      · exact h6
    · intro h5
      rcases Nat.lt_or_ge y (ivl (ckR p q) c) with h6 | h6
      · have := this.2 h6; omega
      · exact h6
  · constructor
    · intro _; exact hc
    · intro _; omega
include hn hB
end
end Go.Mine
