/- Chapter 32, plain: the law of cuts. -/
import Derived.Test.YtghjjkdfjmnfeaaP32d
set_option linter.unusedSimpArgs false
set_option linter.unusedVariables false
namespace Go.Mine
open Go.RowKit
theorem sameints_o {fuel : Nat} {a b : List Int} (h : a.length < fuel) (hl : a.length ≤ 1000000) : ref23_SameInts fuel a b = some (decide (a = b)) := by
  unfold ref23_SameInts
  by_cases he : a.length = b.length
  · rw [if_neg (by simp [he])]
    rw [iter_any a.length (fun k => decide (a[k]? ≠ b[k]?)) false h (fun k hk => by
      unfold ref23_SameInts_B1
      rw [if_pos (by simp [hk]), ati_get hk, ati_get (he ▸ hk), w64_nat (by omega)]
      simp only [Option.bind_some, List.getElem?_eq_getElem hk, List.getElem?_eq_getElem (he ▸ hk : k < b.length)]
      by_cases e : a[k] = b[k]
      · simp [e]
      · simp [e]) (by unfold ref23_SameInts_B1; simp)]
    by_cases e : a = b
    · subst e; simp [ref23_SameInts_K1]
    · have : ∃ k, k < a.length ∧ (decide (a[k]? ≠ b[k]?)) = true := Classical.byContradiction fun hn => e (List.ext_getElem he fun k h1 h2 => by
        have := fun hc => hn ⟨k, h1, hc⟩
        simpa [h1, h2] using this)
      rw [if_pos this]; simp [e]
  · rw [if_pos (by simp; omega)]
    have : a ≠ b := fun e => he (by rw [e])
    simp [this]
theorem size_o {fuel : Nat} {l : List (List Evt)} (h : l.length ≤ 140737488351232) (hr : ∀ j, rl l j ≤ 140737488351232) (hf : 1000000 < fuel) : Ok (law32_size fuel l) fun s => s ≤ 100 → Small l := by
  unfold law32_size
  refine Ok.bind (Ok.run (fun m s => ∃ k : Nat, s.2 = (k : Int) ∧ m + k = 200 + min l.length 100 ∧ k ≤ l.length ∧ (l.length : Int) ≤ s.1 ∧ (k = 0 ∨ k ≤ 101) ∧ s.1 ≤ 140737488351232 + 140737488351232 ∧ ∀ j, j < k → (rl l j : Int) ≤ s.1) (Q := fun s => s ≤ 100 → Small l) (m := 200 + min l.length 100) ⟨0, rfl, by omega, by omega, by simp, .inl rfl, by simp only; omega, by omega⟩ (by omega) ?_) fun t ht => Ok.ret ht
  rintro m ⟨n, i⟩ ⟨k, hk, hm, hkl, hn, hk1, hn2, hj⟩
  simp only at hk hn hn2 hj
  subst hk
  simp only [law32_size_B1, andM_some, Option.bind_some]
  refine Ok.ite (fun hb => ?_) fun hb => Ok.ret fun hs => ⟨by omega, fun j => ?_⟩
  · simp at hb
    refine (Ok.at (by omega) (by omega)).bind fun r hr2 => Ok.ret ?_
    rw [Int.toNat_natCast] at hr2
    have hrl := rl_some hr2
    have := hr k
    refine ⟨m - 1, by omega, k + 1, ?_, by omega, by omega, ?_, .inr (by omega), ?_, fun j hj2 => ?_⟩
    · exact w64_nat (by omega)
    · simp only; rw [w64_id (by omega) (by omega)]; omega
    · simp only; rw [w64_id (by omega) (by omega)]; omega
    · simp only; rw [w64_id (by omega) (by omega)]
      by_cases e : j = k
      · subst e; omega
      · have := hj j (by omega); omega
  · skip
    simp at hb
    by_cases e : j < k
    · have := hj j e; omega
    · have hk3 : ¬ (k < l.length) := fun h3 => by have := hb h3; omega
      have : l[j]? = none := by simp; omega
      simp [rl, this]
theorem awake32f (f : Nat) : law32_awake (f + 1000) = some true := by kernel_rfl
theorem cuts_ok {l : List (List Evt)} {x c : List Int} (hl : l.length ≤ 140737488351232) (hr : ∀ j, rl l j ≤ 140737488351232) (hc : ∀ x ∈ c, U8 x) : law32_OrphanCuts 10000000 l x c = some true := by
  refine Ok.eq ?_
  unfold law32_OrphanCuts
  rw [awake32, Option.bind_some]
  obtain ⟨s, hs, hs2⟩ := size_o (fuel := 10000000) hl hr (by omega)
  simp only [hs, Option.bind_some, Bool.not_true, orM_false, orM_some]
  refine Ok.ite (fun hb => Ok.ret hb) fun hb => ?_
  simp at hb
  have hsm := hs2 hb.1
  have hxl : x.length ≤ 60 := by omega
  refine (scene_o (fuel := 10000000) hc (by omega)).bind fun r ⟨r1, r2⟩ => ?_
  refine (cons_o hsm (by omega)).bind fun b1 h1 => (rcons_o hsm (by omega)).bind fun b2 h2 => ?_
  obtain rfl : b1 = b2 := Bool.eq_iff_iff.2 (h1.trans h2.symm)
  rw [beq_self_eq_true, andM_true]
  refine Ok.bind (Q := fun b => b = true) ((cons_o r1 (by omega)).bind fun b3 h3 => (rcons_o r1 (by omega)).bind fun b4 h4 => Ok.ret ?_) fun b hb => ?_
  · rw [Bool.eq_iff_iff.2 (h3.trans h4.symm)]; simp
  · subst hb
    rw [andM_true]
    refine Ok.bind (Q := fun b => b = true) ((lower_o hsm (by omega) (by omega)).bind fun y1 h5 => (rlower_o hsm (by omega) (by omega)).bind fun y2 h6 => ?_) fun b hb => ?_
    · obtain rfl := h5.unique h6
      have e1 := h5.cons.1
      have e2 := hsm.1
      rw [sameints_o (by omega) (by omega)]
      exact Ok.ret (by simp)
    · subst hb
      rw [andM_true]
      refine Ok.bind (Q := fun b => b = true) ((lower_o r1 (by omega) (by omega)).bind fun y1 h5 => (rlower_o r1 (by omega) (by omega)).bind fun y2 h6 => ?_) fun b hb => ?_
      · obtain rfl := h5.unique h6
        have e1 := h5.cons.1
        have e2 := r1.1
        rw [sameints_o (by omega) (by omega)]
        exact Ok.ret (by simp)
      · exact Ok.ret hb
end Go.Mine
