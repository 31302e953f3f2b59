/- Plain: the intervals of a process. -/
import Derived.Test.YtbmjcbhappjnaaaP18a
set_option linter.unusedSimpArgs false
set_option linter.unusedVariables false
namespace Go.Mine
open Go.RowKit
/-! intervals -/
def ivl (r : List Int) (k : Int) : Nat := r.countP (fun y => decide (y < k))
theorem ivl_le {r : List Int} {k : Int} : ivl r k ≤ r.length := List.countP_le_length
/-- in an ascending row the interval is the place -/
theorem ivl_lt {r : List Int} (h : r.Pairwise (· < ·)) {k : Int} {i : Nat} (hi : i < r.length) : r[i] < k ↔ i < ivl r k := by
  induction r generalizing i with
  | nil => simp at hi
  | cons a r ih =>
    rw [List.pairwise_cons] at h
    have hc : ivl (a :: r) k = ivl r k + if a < k then 1 else 0 := by simp [ivl, List.countP_cons]
    cases i with
    | zero =>
      simp only [List.getElem_cons_zero]
      rw [hc]
      constructor
      · intro hk; rw [if_pos hk]; omega
      · intro hp
        by_cases hk : a < k
        · exact hk
        · rw [if_neg hk] at hp
          have : ivl r k = 0 := by
            unfold ivl; rw [List.countP_eq_zero]
            intro y hy
            have := h.1 y hy
            simp; omega
          omega
    | succ i =>
      have hi' : i < r.length := by simpa using hi
      simp only [List.getElem_cons_succ]
      rw [hc, ih h.2 hi']
      by_cases hk : a < k
      · rw [if_pos hk]; omega
      · rw [if_neg hk]
        have : ivl r k = 0 := by
          unfold ivl; rw [List.countP_eq_zero]
          intro y hy
          have := h.1 y hy
          simp; omega
        omega
theorem ivl_all {r : List Int} {k : Int} (h : ∀ y ∈ r, y < k) : ivl r k = r.length := by
  unfold ivl; rw [List.countP_eq_length]; intro y hy; simpa using h y hy
theorem ivl_snoc {r : List Int} {x k : Int} : ivl (r ++ [x]) k = ivl r k + if x < k then 1 else 0 := by
  unfold ivl; rw [List.countP_append]; simp [List.countP_cons]
/-- a row of rows -/
def rwL {α : Type} (xs : List (List α)) (q : Int) : List α := xs[q.toNat]?.getD []
theorem rwL_get {α : Type} {xs : List (List α)} {q : Nat} (h : q < xs.length) : xs[q]? = some (rwL xs q) := by simp [rwL, h]
theorem rwL_set {α : Type} {xs : List (List α)} {q : Nat} {r : List α} {j : Int} (h : q < xs.length) (hj : 0 ≤ j) : rwL (xs.set q r) j = if j = q then r else rwL xs j := by
  unfold rwL; rw [getElem?_set' h]
  by_cases e : j = q
  · subst e; simp
  · rw [if_neg (by omega), if_neg e]
theorem rwL_rep {α : Type} {n : Nat} {r : List α} {j : Int} (h0 : 0 ≤ j) (h1 : j < n) : rwL (List.replicate n r) j = r := by
  unfold rwL; rw [List.getElem?_replicate, if_pos (by omega)]; rfl
end Go.Mine
