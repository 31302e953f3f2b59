/- Plain: the intervals of a process. -/
import Derived.Test.YtbmjcbhappjnaaaP18a
set_option linter.unusedSimpArgs false
set_option linter.unusedVariables false
namespace Go.Mine
open Go.RowKit
/-! intervals -/
def ckR (p : Pat) (q : Int) : List Int := p.ckpts[q.toNat]?.getD []
def ivl (r : List Int) (k : Int) : Nat := r.countP (fun y => decide (y < k))
theorem ati_ck {p : Pat} {q : Int} (h0 : 0 ≤ q) (h1 : q < p.ckpts.length) : ati p.ckpts q = some (ckR p q) := by
  rw [ati_int h0 (by omega)]; simp [ckR, (show q.toNat < p.ckpts.length by omega)]
theorem PatG.ckI {n B : Nat} {p : Pat} (h : PatG n B p) {q : Int} (h0 : 0 ≤ q) (h1 : q < n) : CkG (ckR p q) (nI p.lens q) := by
  have hk := h.ck; have hl := h.len
  have e1 : p.ckpts[q.toNat]? = some (ckR p q) := by simp [ckR, (show q.toNat < p.ckpts.length by omega)]
  have e2 : p.lens[q.toNat]? = some (nI p.lens q) := by simp [nI, (show q.toNat < p.lens.length by omega)]
  exact h.row _ _ _ e1 e2
theorem PatG.ckW {n B : Nat} {p : Pat} (h : PatG n B p) (q : Int) : (ckR p q).length ≤ B + 1 := by
  unfold ckR
  cases e : p.ckpts[q.toNat]? with
  | none => simp
  | some r => exact h.wid r (List.mem_of_getElem? e)
theorem ivl_le {r : List Int} {k : Int} : ivl r k ≤ r.length := List.countP_le_length
theorem ivl_take {r : List Int} {k : Int} {i : Nat} (h : i < r.length) : ivl (r.take (i + 1)) k = ivl (r.take i) k + if r[i] < k then 1 else 0 := by
  unfold ivl
  rw [List.take_add_one, List.countP_append]
  simp [h, List.countP_cons]
/-- in an ascending row the interval is the place -/
theorem ivl_lt {r : List Int} (h : r.Pairwise (· < ·)) {k : Int} {i : Nat} (hi : i < r.length) : r[i] < k ↔ i < ivl r k := by
  induction r generalizing i with
  | nil => simp at hi
  | cons a r ih =>
    rw [List.pairwise_cons] at h
    have hc : ivl (a :: r) k = ivl r k + if a < k then 1 else 0 := by simp [ivl, List.countP_cons]
    cases i with
    | zero =>
      simp only [List.getElem_cons_zero]
      rw [hc]
      constructor
      · intro hk; rw [if_pos hk]; omega
      · intro hp
        by_cases hk : a < k
        · exact hk
        · rw [if_neg hk] at hp
          have : ivl r k = 0 := by
            unfold ivl; rw [List.countP_eq_zero]
            intro y hy
            have := h.1 y hy
            simp; omega
          omega
    | succ i =>
      have hi' : i < r.length := by simpa using hi
      simp only [List.getElem_cons_succ]
      rw [hc, ih h.2 hi']
      by_cases hk : a < k
      · rw [if_pos hk]; omega
      · rw [if_neg hk]
        have : ivl r k = 0 := by
          unfold ivl; rw [List.countP_eq_zero]
          intro y hy
          have := h.1 y hy
          simp; omega
        omega
theorem ivl_all {r : List Int} {k : Int} (h : ∀ y ∈ r, y < k) : ivl r k = r.length := by
  unfold ivl; rw [List.countP_eq_length]; intro y hy; simpa using h y hy
theorem ivl_snoc {r : List Int} {x k : Int} : ivl (r ++ [x]) k = ivl r k + if x < k then 1 else 0 := by
  unfold ivl; rw [List.countP_append]; simp [List.countP_cons]
theorem CkG.ivl_pos {r : List Int} {x k : Int} (h : CkG r x) (hk : 1 ≤ k) : 1 ≤ ivl r k := by
  have hp := h.pos
  obtain ⟨h0, h1⟩ := List.getElem?_eq_some_iff.1 h.zero
  exact (ivl_lt h.asc h0).1 (by rw [h1]; omega)
/-- the last checkpoint is not behind k: its interval is not k's -/
theorem CkG.ivl_last {r : List Int} {x y k : Int} (h : CkG r x) (hy : r[r.length - 1]? = some y) (hk : k ≤ y) : ivl r k ≤ r.length - 1 := by
  have hp := h.pos
  obtain ⟨h0, h1⟩ := List.getElem?_eq_some_iff.1 hy
  have := (ivl_lt h.asc (k := k) h0)
  rw [h1] at this
  omega
/-- a row of rows -/
def rwL {α : Type} (xs : List (List α)) (q : Int) : List α := xs[q.toNat]?.getD []
theorem rwL_ck {p : Pat} {q : Int} : rwL p.ckpts q = ckR p q := rfl
theorem rwL_get {α : Type} {xs : List (List α)} {q : Nat} (h : q < xs.length) : xs[q]? = some (rwL xs q) := by simp [rwL, h]
theorem ati_rw {α : Type} {xs : List (List α)} {q : Nat} (h : q < xs.length) : ati xs (q : Int) = some (rwL xs q) := by rw [ati_cast]; exact rwL_get h
theorem rwL_set {α : Type} {xs : List (List α)} {q : Nat} {r : List α} {j : Int} (h : q < xs.length) (hj : 0 ≤ j) : rwL (xs.set q r) j = if j = q then r else rwL xs j := by
  unfold rwL; rw [getElem?_set' h]
  by_cases e : j = q
  · subst e; simp
  · rw [if_neg (by omega), if_neg e]
theorem rwL_rep {α : Type} {n : Nat} {r : List α} {j : Int} (h0 : 0 ≤ j) (h1 : j < n) : rwL (List.replicate n r) j = r := by
  unfold rwL; rw [List.getElem?_replicate, if_pos (by omega)]; rfl
end Go.Mine
