/- Plain: sums of lists. -/
import Derived.Test.YtbmjcbhappjnaaaPl
set_option linter.unusedSimpArgs false
set_option linter.unusedVariables false
namespace Go.Mine
open Go.RowKit
def smN (x : List Int) : Nat := (x.map Int.toNat).sum
theorem smN_set : ∀ {x : List Int} {i : Nat} {v w : Int}, x[i]? = some v → smN (x.set i w) + v.toNat = smN x + w.toNat
  | [], i, v, w, h => by simp at h
  | a :: x, 0, v, w, h => by simp at h; subst h; simp [smN]; omega
  | a :: x, i + 1, v, w, h => by have := smN_set (x := x) (i := i) (v := v) (w := w) (by simpa using h); simp [smN] at this ⊢; omega
theorem smN_le {B : Nat} : ∀ {x : List Int}, (∀ y ∈ x, y ≤ (B : Int)) → smN x ≤ x.length * B
  | [], h => by simp [smN]
  | a :: x, h => by
    have := smN_le (x := x) fun y hy => h y (by simp [hy])
    have h2 := h a (by simp)
    simp only [smN, List.map_cons, List.sum_cons, List.length_cons, Nat.add_mul, Nat.one_mul] at this ⊢
    omega
theorem smN_mono : ∀ {x y : List Int}, x.length = y.length → (∀ q : Nat, q < x.length → nI x q ≤ nI y q) → smN x ≤ smN y
  | [], [], _, _ => by simp
  | [], b :: y, h, _ => by simp at h
  | a :: x, [], h, _ => by simp at h
  | a :: x, b :: y, h, hq => by
    have ih := smN_mono (x := x) (y := y) (by simpa using h) fun q hq2 => by
      have := hq (q + 1) (by simp; omega)
      simpa [nI] using this
    have h0 := hq 0 (by simp)
    simp [nI] at h0
    simp only [smN, List.map_cons, List.sum_cons] at ih ⊢
    omega
end Go.Mine
