/- Plain: the references' comparisons of lists, patterns and histories. -/
import Derived.Test.YtbmjcbhappjnaaaA23
import Derived.Test.YtbmjcbhappjnaaaPl
set_option linter.unusedSimpArgs false
set_option linter.unusedVariables false
namespace Go.Mine
open Go.RowKit
theorem iter_same {α : Type} [DecidableEq α] {body : Int → Option (Int ⊕ (Unit ⊕ Bool))} {fuel : Nat} {a b : List α} (hl : a.length = b.length) (hf : a.length < fuel)
    (step : ∀ (k : Nat) (x y : α), a[k]? = some x → b[k]? = some y → body (k : Int) = some (if x = y then .inl ((k + 1 : Nat) : Int) else .inr (.inr false))) (last : body (a.length : Int) = some (.inr (.inl ()))) :
    iter body fuel 0 = some (if a = b then .inl () else .inr false) := by
  rw [iter_any a.length (fun k => decide (a[k]? ≠ b[k]?)) false hf (fun k hk => by
    rw [step k a[k] (b[k]'(by omega)) (by simp) (by simp)]
    simp only [List.getElem?_eq_getElem hk, List.getElem?_eq_getElem (hl ▸ hk : k < b.length)]
    by_cases e : a[k] = b[k] <;> simp [e]) last]
  by_cases e : a = b
  · subst e; simp
  · have : ∃ k, k < a.length ∧ (decide (a[k]? ≠ b[k]?)) = true := Classical.byContradiction fun hn => e (List.ext_getElem hl fun k h1 h2 => by
      have := fun hc => hn ⟨k, h1, hc⟩
      simpa [h1, h2] using this)
    rw [if_pos this, if_neg e]
theorem sameints_o {fuel : Nat} {a b : List Int} (h : a.length < fuel) (hl : a.length ≤ 1000000) : ref23_SameInts fuel a b = some (decide (a = b)) := by
  unfold ref23_SameInts
  by_cases he : a.length = b.length
  · rw [if_neg (by simp [he]), iter_same (a := a) (b := b) he h (fun k x y hx hy => by
      have hk := (List.getElem?_eq_some_iff.1 hx).1
      unfold ref23_SameInts_B1
      rw [if_pos (by simp [hk]), ati_cast, ati_cast, hx, hy, w64_nat (by omega)]
      by_cases e : x = y <;> simp [e]) (by unfold ref23_SameInts_B1; simp)]
    by_cases e : a = b <;> simp [e, ref23_SameInts_K1]
  · rw [if_pos (by simp; omega)]
    have : a ≠ b := fun e => he (by rw [e])
    simp [this]
theorem samebools_o {fuel : Nat} {a b : List Bool} (h : a.length < fuel) (hl : a.length ≤ 1000000) : ref23_SameBools fuel a b = some (decide (a = b)) := by
  unfold ref23_SameBools
  by_cases he : a.length = b.length
  · rw [if_neg (by simp [he]), iter_same (a := a) (b := b) he h (fun k x y hx hy => by
      have hk := (List.getElem?_eq_some_iff.1 hx).1
      unfold ref23_SameBools_B1
      rw [if_pos (by simp [hk]), ati_cast, ati_cast, hx, hy, w64_nat (by omega)]
      by_cases e : x = y <;> simp [e]) (by unfold ref23_SameBools_B1; simp)]
    by_cases e : a = b <;> simp [e, ref23_SameBools_K1]
  · rw [if_pos (by simp; omega)]
    have : a ≠ b := fun e => he (by rw [e])
    simp [this]
theorem samelists_o {fuel : Nat} {a b : List (List Int)} (h : 1000000 < fuel) (hl : a.length ≤ 1000000) (hr : ∀ r ∈ a, r.length ≤ 1000000) : ref23_SameLists fuel a b = some (decide (a = b)) := by
  unfold ref23_SameLists
  by_cases he : a.length = b.length
  · rw [if_neg (by simp [he]), iter_same (a := a) (b := b) he (by omega) (fun k x y hx hy => by
      have hk := (List.getElem?_eq_some_iff.1 hx).1
      have hxl := hr x (List.mem_of_getElem? hx)
      unfold ref23_SameLists_B1
      rw [if_pos (by simp [hk]), ati_cast, ati_cast, hx, hy, w64_nat (by omega)]
      simp only [Option.bind_some]
      rw [sameints_o (by omega) hxl]
      by_cases e : x = y <;> simp [e]) (by unfold ref23_SameLists_B1; simp)]
    by_cases e : a = b <;> simp [e, ref23_SameLists_K1]
  · rw [if_pos (by simp; omega)]
    have : a ≠ b := fun e => he (by rw [e])
    simp [this]
theorem sameints16_o {fuel : Nat} {a b : List Int} (h : a.length < fuel) (hl : a.length ≤ 1000000) : ref16_sameInts fuel a b = some (decide (a = b)) := by
  unfold ref16_sameInts
  by_cases he : a.length = b.length
  · rw [if_neg (by simp [he]), iter_same (a := a) (b := b) he h (fun k x y hx hy => by
      have hk := (List.getElem?_eq_some_iff.1 hx).1
      unfold ref16_sameInts_B1
      rw [if_pos (by simp [hk]), ati_cast, ati_cast, hx, hy, w64_nat (by omega)]
      by_cases e : x = y <;> simp [e]) (by unfold ref16_sameInts_B1; simp)]
    by_cases e : a = b <;> simp [e, ref16_sameInts_K1]
  · rw [if_pos (by simp; omega)]
    have : a ≠ b := fun e => he (by rw [e])
    simp [this]
theorem samepat_o {fuel : Nat} {p : Pat} (h : 1000000 < fuel) (h1 : p.lens.length ≤ 1000000) (h2 : p.ckpts.length ≤ 1000000) (h3 : ∀ r ∈ p.ckpts, r.length ≤ 1000000) (h4 : p.arcs.length ≤ 1000000) : ref16_Same fuel p p = some true := by
  unfold ref16_Same
  rw [sameints16_o (by omega) h1]
  simp only [Option.bind_some, decide_true, Bool.not_true, orM_false, bne_self_eq_false, Bool.false_eq_true, if_false]
  rw [iter_same (a := p.ckpts) (b := p.ckpts) rfl (by omega) (fun k x y hx hy => by
      rw [hx] at hy; cases hy
      have hk := (List.getElem?_eq_some_iff.1 hx).1
      have hxl := h3 x (List.mem_of_getElem? hx)
      unfold ref16_Same_B2
      rw [if_pos (by simp [hk]), ati_cast, hx, w64_nat (by omega)]
      simp only [Option.bind_some]
      rw [sameints16_o (by omega) hxl]
      simp) (by unfold ref16_Same_B2; simp)]
  simp only [if_true, Option.bind_some, Sum.elim_inl, ref16_Same_K1]
  rw [iter_same (a := p.arcs) (b := p.arcs) rfl (by omega) (fun k x y hx hy => by
      rw [hx] at hy; cases hy
      have hk := (List.getElem?_eq_some_iff.1 hx).1
      unfold ref16_Same_B1
      rw [if_pos (by simp [hk]), ati_cast, hx, w64_nat (by omega)]
      simp) (by unfold ref16_Same_B1; simp)]
  simp [ref16_Same_K2]
theorem samehist_o {fuel : Nat} {g : Hist} (h : 1000000 < fuel) (h1 : g.pat.lens.length ≤ 1000000) (h2 : g.pat.ckpts.length ≤ 1000000) (h3 : ∀ r ∈ g.pat.ckpts, r.length ≤ 1000000) (h4 : g.pat.arcs.length ≤ 1000000)
    (h5 : g.clocks.length ≤ 1000000) (h6 : ∀ r ∈ g.clocks, r.length ≤ 1000000) (h7 : g.vecs.length ≤ 1000000) (h8 : ∀ s ∈ g.vecs, s.length ≤ 1000000 ∧ ∀ r ∈ s, r.length ≤ 1000000) (h9 : g.forced.length ≤ 1000000) (h10 : ∀ r ∈ g.forced, r.length ≤ 1000000) : ref25_Same fuel g g = some true := by
  unfold ref25_Same
  rw [samepat_o h h1 h2 h3 h4]
  simp only [Option.bind_some, Bool.not_true, orM_false]
  rw [samelists_o h h5 h6]
  simp only [Option.bind_some, decide_true, Bool.not_true, orM_false, bne_self_eq_false, Bool.false_eq_true, if_false]
  rw [iter_same (a := g.vecs) (b := g.vecs) rfl (by omega) (fun k x y hx hy => by
      rw [hx] at hy; cases hy
      have hk := (List.getElem?_eq_some_iff.1 hx).1
      have hxl := h8 x (List.mem_of_getElem? hx)
      unfold ref25_Same_B2
      rw [if_pos (by simp [hk]), ati_cast, hx, w64_nat (by omega)]
      simp only [Option.bind_some]
      rw [samelists_o h hxl.1 hxl.2]
      simp) (by unfold ref25_Same_B2; simp)]
  simp only [if_true, Option.bind_some, Sum.elim_inl, ref25_Same_K1]
  rw [iter_same (a := g.forced) (b := g.forced) rfl (by omega) (fun k x y hx hy => by
      rw [hx] at hy; cases hy
      have hk := (List.getElem?_eq_some_iff.1 hx).1
      have hxl := h10 x (List.mem_of_getElem? hx)
      unfold ref25_Same_B1
      rw [if_pos (by simp [hk]), ati_cast, hx, w64_nat (by omega)]
      simp only [Option.bind_some]
      rw [samebools_o (by omega) hxl]
      simp) (by unfold ref25_Same_B1; simp)]
  simp [ref25_Same_K2]
end Go.Mine
