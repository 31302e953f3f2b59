/- Chapter 32, plain: the vectors of lineages. -/
import Derived.Test.YtbmjcbhappjnaaaA32t
import Derived.Test.YtbmjcbhappjnaaaP32q
set_option linter.unusedSimpArgs false
set_option linter.unusedVariables false
namespace Go.Mine
open Go.RowKit
/-- the vector of an index of a lineage, by a derivation of a height -/
inductive Hd (l : List (List Evt)) : Nat → Nat → Nat → List Lab → Prop
  | zero {h q : Nat} : q < l.length → Hd l h q 0 (List.replicate l.length zl)
  | tick {h q k : Nat} {v : List Lab} : Hd l h q k v → k < rl l q → (ev_ l q k).kind ≠ 1 → Hd l (h + 1) q (k + 1) (v.set q ⟨(ev_ l q k).inc, ((k + 1 : Nat) : Int)⟩)
  | recv {h q k : Nat} {v u : List Lab} : Hd l h q k v → k < rl l q → (ev_ l q k).kind = 1 → Hd l h (ev_ l q k).frm.toNat (ev_ l q k).sent.index.toNat u → Hd l (h + 1) q (k + 1) (mergeL (v.set q ⟨(ev_ l q k).inc, ((k + 1 : Nat) : Int)⟩) u)
theorem Hd.up {l : List (List Evt)} {h q k : Nat} {v : List Lab} (hd : Hd l h q k v) : Hd l (h + 1) q k v := by
  induction hd with
  | zero h => exact .zero h
  | tick _ h1 h2 ih => exact .tick ih h1 h2
  | recv _ h1 h2 _ ih ih2 => exact .recv ih h1 h2 ih2
theorem Hd.mono {l : List (List Evt)} {h h' q k : Nat} {v : List Lab} (hd : Hd l h q k v) (hh : h ≤ h') : Hd l h' q k v := by
  induction hh with
  | refl => exact hd
  | step _ ih => exact ih.up
theorem Hd.len {l : List (List Evt)} {h q k : Nat} {v : List Lab} (hd : Hd l h q k v) : v.length = l.length ∧ q < l.length ∧ k ≤ rl l q := by
  induction hd with
  | zero h => exact ⟨by simp, h, by omega⟩
  | tick _ h1 h2 ih => exact ⟨by simp [ih.1], ih.2.1, by omega⟩
  | recv _ h1 h2 _ ih ih2 => exact ⟨by rw [mergeL_length, ih2.1]; simp [ih.1], ih.2.1, by omega⟩
theorem Hd.unique {l : List (List Evt)} {h h' q k : Nat} {v v' : List Lab} (hd : Hd l h q k v) (hd' : Hd l h' q k v') : v = v' := by
  induction hd generalizing h' v' with
  | zero h => cases hd'; rfl
  | tick _ h1 h2 ih =>
    cases hd' with
    | tick a _ _ => rw [ih a]
    | recv _ _ e _ => exact absurd e h2
  | recv _ h1 h2 _ ih ih2 =>
    cases hd' with
    | tick _ _ e => exact absurd h2 e
    | recv a _ _ b => rw [ih a, ih2 b]
theorem Hd.down {l : List (List Evt)} {h q k j : Nat} {v : List Lab} (hd : Hd l h q k v) (hj : j ≤ k) : ∃ u, Hd l h q j u := by
  induction hd with
  | zero h => obtain rfl : j = 0 := by omega
              exact ⟨_, .zero h⟩
  | @tick _ _ k _ a h1 h2 ih =>
    rcases Nat.lt_or_ge j (k + 1) with h3 | h3
    · obtain ⟨u, hu⟩ := ih (by omega); exact ⟨u, hu.up⟩
    · obtain rfl : j = k + 1 := Nat.le_antisymm hj h3
      exact ⟨_, .tick a h1 h2⟩
  | @recv _ _ k _ _ a h1 h2 b ih ih2 =>
    rcases Nat.lt_or_ge j (k + 1) with h3 | h3
    · obtain ⟨u, hu⟩ := ih (by omega); exact ⟨u, hu.up⟩
    · obtain rfl : j = k + 1 := Nat.le_antisymm hj h3
      exact ⟨_, .recv a h1 h2 b⟩
theorem Hd.need {l : List (List Evt)} {h q k : Nat} {v : List Lab} (hd : Hd l h q (k + 1) v) (hk : (ev_ l q k).kind = 1) : ∃ h' u, h' < h ∧ Hd l h' (ev_ l q k).frm.toNat (ev_ l q k).sent.index.toNat u := by
  cases hd with
  | tick _ _ e => exact absurd hk e
  | recv a h1 h2 b => exact ⟨_, _, Nat.lt_succ_self _, b⟩
/-- can the vectors of all events be computed? -/
def AllD (l : List (List Evt)) : Prop := ∀ q, q < l.length → ∃ h v, Hd l h q (rl l q) v
/-- vectors computed so far -/
structure VecI (l : List (List Evt)) (vs : List (List (List Lab))) : Prop where
  len : vs.length = l.length
  row : ∀ q, q < l.length → 1 ≤ rl vs q ∧ rl vs q ≤ rl l q + 1
  der : ∀ q r k v, vs[q]? = some r → r[k]? = some v → ∃ h, Hd l h q k v
theorem VecI.full {l : List (List Evt)} {vs us : List (List (List Lab))} (h : VecI l vs) (h2 : VecI l us) (hf : ∀ q, q < l.length → rl vs q = rl l q + 1) (hg : ∀ q, q < l.length → rl us q = rl l q + 1) : vs = us := by
  refine List.ext_getElem (by rw [h.len, h2.len]) fun q a b => ?_
  have a' : q < l.length := by rw [← h.len]; exact a
  have e1 : vs[q]? = some vs[q] := by simp [a]
  have e2 : us[q]? = some us[q] := by simp [b]
  have l1 := hf q a'
  have l2 := hg q a'
  rw [rl_some e1] at l1
  rw [rl_some e2] at l2
  refine List.ext_getElem (by omega) fun k c d => ?_
  obtain ⟨_, d1⟩ := h.der q vs[q] k vs[q][k] e1 (by simp [c])
  obtain ⟨_, d2⟩ := h2.der q us[q] k us[q][k] e2 (by simp [d])
  exact d1.unique d2
/-- every event could be there -/
def Sound (l : List (List Evt)) : Prop := ∀ q k, q < l.length → k < rl l q → (ev_ l q k).kind = 1 → 0 ≤ (ev_ l q k).frm ∧ (ev_ l q k).frm < l.length ∧ (ev_ l q k).frm ≠ (q : Int) ∧ 0 ≤ (ev_ l q k).sent.index ∧ (ev_ l q k).sent.index ≤ rl l (ev_ l q k).frm.toNat
theorem sound_of {l : List (List Evt)} (h : ConsP l (fullC l)) : Sound l := fun q k hq hk hkd => by
  obtain ⟨h1, h2, h3, h4, h5⟩ := h.2.2 q hq k (by rw [nI_full]; omega) hkd
  have e : nI (fullC l) (ev_ l q k).frm = rl l (ev_ l q k).frm.toNat := by
    have := @nI_full l (ev_ l q k).frm.toNat
    rwa [Int.toNat_of_nonneg h1] at this
  rw [e] at h5
  exact ⟨h1, h2, h3, by rcases h4 with h4 | h4 <;> omega, h5⟩
/-- one more vector of a process -/
theorem VecI.add {l : List (List Evt)} {vs : List (List (List Lab))} {q : Nat} {r : List (List Lab)} {v : List Lab} {h : Nat} (hv : VecI l vs) (hq : q < l.length) (hr : vs[q]? = some r) (hd : Hd l h q r.length v) : VecI l (vs.set q (r ++ [v])) := by
  have hl := hv.len
  refine ⟨by simp [hl], fun p hp => ?_, fun p s k u hs hk => ?_⟩
  · rw [rl_set (by omega)]
    split
    · have := hd.len.2.2; rename_i e; subst e; simp; omega
    · exact hv.row p hp
  · rw [getElem?_set' (by omega)] at hs
    by_cases e : p = q
    · subst e
      rw [if_pos rfl] at hs
      obtain rfl := Option.some.inj hs
      rcases Nat.lt_or_ge k r.length with h3 | h3
      · rw [List.getElem?_append_left h3] at hk; exact hv.der p r k u hr hk
      · rw [List.getElem?_append_right h3] at hk
        have h4 : k - r.length = 0 := by have := (List.getElem?_eq_some_iff.1 hk).1; simp at this; omega
        rw [h4] at hk
        obtain rfl : v = u := by simpa using hk
        obtain rfl : k = r.length := by omega
        exact ⟨h, hd⟩
    · rw [if_neg e] at hs; exact hv.der p s k u hs hk
end Go.Mine
