/- Chapter 32, plain: the reference's vectors. -/
import Derived.Test.YtbmjcbhappjnaaaP32h
set_option linter.unusedSimpArgs false
set_option linter.unusedVariables false
namespace Go.Mine
open Go.RowKit
def TrackP (l : List (List Evt)) (r : List (List (List Lab)) × Bool) : Prop :=
  (ConsP l (fullC l) ∧ AllD l ∧ r.2 = true ∧ VecI l r.1 ∧ ∀ q, q < l.length → rl r.1 q = rl l q + 1) ∨ (¬ (ConsP l (fullC l) ∧ AllD l) ∧ r = ([], false))
theorem TrackP.unique {l : List (List Evt)} {r s : List (List (List Lab)) × Bool} (h1 : TrackP l r) (h2 : TrackP l s) : r = s := by
  rcases h1 with ⟨a1, a2, a3, a4, a5⟩ | ⟨a1, a2⟩
  · rcases h2 with ⟨b1, b2, b3, b4, b5⟩ | ⟨b1, b2⟩
    · exact Prod.ext (a4.full b4 a5 b5) (by rw [a3, b3])
    · exact absurd ⟨a1, a2⟩ b1
  · rcases h2 with ⟨b1, b2, b3, b4, b5⟩ | ⟨b1, b2⟩
    · exact absurd ⟨b1, b2⟩ a1
    · rw [a2, b2]
def sumL {α : Type} (vs : List (List α)) : Nat := (vs.map List.length).sum
theorem sumL_set {α : Type} : ∀ {vs : List (List α)} {q : Nat} {r : List α} {v : α}, vs[q]? = some r → sumL (vs.set q (r ++ [v])) = sumL vs + 1
  | [], q, r, v, h => by simp at h
  | a :: t, 0, r, v, h => by obtain rfl : a = r := by simpa using h
                             simp [sumL]; omega
  | a :: t, q + 1, r, v, h => by
    have := sumL_set (vs := t) (q := q) (r := r) (v := v) (by simpa using h)
    simp [sumL] at this ⊢; omega
theorem sumL_le {α : Type} {B : Nat} : ∀ {vs : List (List α)}, (∀ q, rl vs q ≤ B) → sumL vs ≤ vs.length * B
  | [], _ => by simp [sumL]
  | a :: t, h => by
    have h1 := sumL_le (vs := t) (B := B) fun q => by have := h (q + 1); simpa [rl] using this
    have h2 := h 0
    simp [rl] at h2
    simp [sumL] at h1 ⊢
    rw [Nat.add_mul]; omega
theorem VecI.sum {l : List (List Evt)} {vs : List (List (List Lab))} (h : VecI l vs) (hs : Small l) : sumL vs ≤ 1001000 := by
  have h1 := hs.1
  have h2 := h.len
  have : sumL vs ≤ vs.length * 1001 := sumL_le fun q => by
    by_cases hq : q < l.length
    · have := (h.row q hq).2; have := hs.2 q; omega
    · have : vs[q]? = none := by simp; omega
      simp [rl, this]
  have h3 : vs.length * 1001 ≤ 1000 * 1001 := Nat.mul_le_mul_right _ (by omega)
  omega
/-- no more vector of a process can be computed -/
def Stuck (l : List (List Evt)) (vs : List (List (List Lab))) (p : Nat) : Prop :=
  rl vs p = rl l p + 1 ∨ ((ev_ l p (rl vs p - 1)).kind = 1 ∧ rl vs (ev_ l p (rl vs p - 1)).frm.toNat ≤ (ev_ l p (rl vs p - 1)).sent.index.toNat)
theorem stuck_all {l : List (List Evt)} {vs : List (List (List Lab))} (hv : VecI l vs) (hst : ∀ p, p < l.length → Stuck l vs p) {h q k : Nat} {v : List Lab} (hd : Hd l h q k v) : k < rl vs q := by
  induction hd with
  | zero h => exact (hv.row _ h).1
  | @tick _ q k v a h1 h2 ih =>
    rcases hst q a.len.2.1 with h3 | ⟨h3, h4⟩
    · omega
    · rcases Nat.lt_or_ge (k + 1) (rl vs q) with h5 | h5
      · exact h5
      · have : rl vs q - 1 = k := by omega
        rw [this] at h3; exact absurd h3 h2
  | @recv _ q k v u a h1 h2 b ih ih2 =>
    rcases hst q a.len.2.1 with h3 | ⟨h3, h4⟩
    · omega
    · rcases Nat.lt_or_ge (k + 1) (rl vs q) with h5 | h5
      · exact h5
      · have : rl vs q - 1 = k := by omega
        rw [this] at h4; omega
end Go.Mine
