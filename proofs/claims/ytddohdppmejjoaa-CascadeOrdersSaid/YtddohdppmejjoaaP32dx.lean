/- Chapter 32, plain: the greatest consistent cut, by both ways. -/
import Derived.Test.YtddohdppmejjoaaP32cx
set_option linter.unusedSimpArgs false
set_option linter.unusedVariables false
namespace Go.Mine
open Go.RowKit
/-- the start of 'Lower': what is asked for, as far as there are events -/
def clampI (l : List (List Evt)) (x : List Int) (j : Nat) : Int := if j < x.length then min (max (nI x j) 0) (rl l j) else 0
/-- the greatest consistent cut below -/
structure LowP (l : List (List Evt)) (x y : List Int) : Prop where
  cons : ConsP l y
  le : ∀ j, j < l.length → nI y j ≤ clampI l x j
  top : ∀ z, ConsP l z → (∀ j, j < l.length → nI z j ≤ clampI l x j) → ∀ j, j < l.length → nI z j ≤ nI y j
theorem nI_gt {y : List Int} {i : Nat} (h : i < y.length) : y[i] = nI y i := by simp [nI, h]
theorem LowP.unique {l : List (List Evt)} {x y z : List Int} (h1 : LowP l x y) (h2 : LowP l x z) : y = z := by
  have e1 := h1.cons.1
  have e2 := h2.cons.1
  refine List.ext_getElem (by omega) fun i a b => ?_
  rw [nI_gt a, nI_gt b]
  have := h1.top z h2.cons h2.le i (by omega)
  have := h2.top y h1.cons h1.le i (by omega)
  omega
/-- on the way there -/
structure LowI (l : List (List Evt)) (x y : List Int) : Prop where
  len : y.length = l.length
  nn : ∀ j, j < l.length → 0 ≤ nI y j
  le : ∀ j, j < l.length → nI y j ≤ clampI l x j
  top : ∀ z, ConsP l z → (∀ j, j < l.length → nI z j ≤ clampI l x j) → ∀ j, j < l.length → nI z j ≤ nI y j
theorem clamp_rl {l : List (List Evt)} {x : List Int} {j : Nat} : clampI l x j ≤ rl l j := by unfold clampI; split <;> omega
theorem LowI.done {l : List (List Evt)} {x y : List Int} (h : LowI l x y) (hb : ∀ j, j < l.length → ∀ k : Nat, (k : Int) < nI y j → okE l y j (ev_ l j k)) : LowP l x y :=
  ⟨⟨h.len, fun j hj => ⟨h.nn j hj, Int.le_trans (h.le j hj) clamp_rl⟩, hb⟩, h.le, h.top⟩
theorem LowI.cut {l : List (List Evt)} {x y : List Int} {q k : Nat} (h : LowI l x y) (hq : q < l.length) (hk : (k : Int) < nI y q) (hb : ¬ okE l y q (ev_ l q k)) : LowI l x (y.set q (k : Int)) := by
  have hl := h.len
  have hs : ∀ j : Nat, nI (y.set q (k : Int)) j = if j = q then (k : Int) else nI y j := fun j => by
    have := nI_set (xs := y) (i := (q : Int)) (j := (j : Int)) (x := (k : Int)) (by omega) (by omega) (by omega)
    rw [Int.toNat_natCast] at this; rw [this]
    by_cases e : j = q
    · subst e; simp
    · rw [if_neg e, if_neg (by omega)]
  refine ⟨by simp [hl], fun j hj => ?_, fun j hj => ?_, fun z hz hz2 j hj => ?_⟩
  · rw [hs]; split
    · omega
    · exact h.nn j hj
  · rw [hs]; split
    · rename_i e; subst e; have := h.le j hj; omega
    · exact h.le j hj
  · rw [hs]; split
    · rename_i e; subst e
      refine Classical.byContradiction fun hn => hb ?_
      exact (hz.2.2 j hj k (by omega)).mono fun i hi => h.top z hz hz2 i hi
    · exact h.top z hz hz2 j hj
/-- the events of a cut -/
def sumN (y : List Int) : Nat := (y.map Int.toNat).sum
theorem sumN_set {y : List Int} {q k : Nat} (hq : q < y.length) (hk : (k : Int) < nI y q) : sumN (y.set q (k : Int)) < sumN y := by
  induction y generalizing q with
  | nil => simp at hq
  | cons a t ih =>
    cases q with
    | zero => simp [sumN, nI] at hk ⊢; omega
    | succ q =>
      have := ih (q := q) (by simpa using hq) (by simpa [nI] using hk)
      simp [sumN] at this ⊢; omega
theorem sumN_le {y : List Int} {B : Nat} (h : ∀ j, j < y.length → nI y j ≤ B) : sumN y ≤ y.length * B := by
  induction y with
  | nil => simp [sumN]
  | cons a t ih =>
    have h1 := ih fun j hj => by have := h (j + 1) (by simp; omega); simpa [nI] using this
    have h2 := h 0 (by simp)
    simp [nI] at h2
    simp [sumN] at h1 ⊢
    rw [Nat.add_mul]; omega
theorem LowI.sum {l : List (List Evt)} {x y : List Int} (h : LowI l x y) (hs : Small l) : sumN y ≤ 1000000 := by
  have h1 := hs.1
  have hl := h.len
  have : sumN y ≤ y.length * 1000 := sumN_le fun j hj => by
    have a := h.le j (by omega)
    have b := @clamp_rl l x j
    have c := hs.2 j
    omega
  omega
theorem index_o {fuel : Nat} {ev : List Evt} {l : List (List Evt)} {y : List Int} {q : Int} (hs : Small l) (hy : l.length ≤ y.length) (he : ev.length ≤ 1000) (hf : 1000000 < fuel) :
    Ok (slices_IndexFunc fuel ev l y q) fun i => (i < 0 ∧ ∀ (k : Nat) (e : Evt), ev[k]? = some e → okE l y q e) ∨ ∃ (k : Nat) (e : Evt), i = (k : Int) ∧ ev[k]? = some e ∧ ¬ okE l y q e := by
  unfold slices_IndexFunc
  refine Ok.bind (Ok.for_ ev.length (fun k s => s = (k : Int) ∧ ∀ (j : Nat) (e : Evt), j < k → ev[j]? = some e → okE l y q e) (Q := fun t => Sum.elim (fun _ => ∀ (k : Nat) (e : Evt), ev[k]? = some e → okE l y q e) (fun i => ∃ (k : Nat) (e : Evt), i = (k : Int) ∧ ev[k]? = some e ∧ ¬ okE l y q e) t) ⟨rfl, by omega⟩ (by omega) ?_) ?_
  · rintro k s hk ⟨rfl, h1⟩
    simp only [slices_IndexFunc_B1, orphan_Lower_1]
    refine Ok.iteP (fun hlt => ?_) fun hlt => Ok.ret fun j e hj => h1 j e (by have := (List.getElem?_eq_some_iff.1 hj).1; omega) hj
    refine (Ok.at (by omega) (by omega)).bind fun e he => ?_
    rw [Int.toNat_natCast] at he
    refine Ok.bind (Q := fun b => b = true ↔ ¬ okE l y q e) ((fits_o (e := e) hs hy).bind fun b hb => Ok.ret ?_) fun b hb => Ok.ite (fun hc => Ok.ret ⟨k, e, rfl, he, hb.1 hc⟩) fun hc => Ok.ret ⟨by omega, w64_nat (by omega), fun j e2 hj hj2 => ?_⟩
    · rw [← hb]; simp
    · by_cases em : j = k
      · subst em
        obtain rfl : e = e2 := by rw [he] at hj2; exact Option.some.inj hj2
        exact Classical.byContradiction fun hn => by rw [hb.2 hn] at hc; cases hc
      · exact h1 j e2 (by omega) hj2
  · rintro t ht
    cases t with
    | inl u => exact Ok.ret (.inl ⟨by decide, ht⟩)
    | inr i => exact Ok.ret (.inr ht)
theorem ev_some {l : List (List Evt)} {j k : Nat} (h : k < rl l j) : ∃ r e, l[j]? = some r ∧ r[k]? = some e ∧ ev_ l j k = e := by
  unfold rl at h
  cases hl : l[j]? with
  | none => simp [hl] at h
  | some r =>
    simp [hl] at h
    exact ⟨r, r[k], rfl, by simp [h], by simp [ev_, hl, h]⟩
theorem lower_o {fuel : Nat} {l : List (List Evt)} {x : List Int} (hs : Small l) (hx : x.length ≤ 1000000) (hf : 2000000 < fuel) : Ok (orphan_Lower fuel l x) fun y => LowP l x y := by
  have hs1 := hs.1
  unfold orphan_Lower
  refine (Ok.mk (by omega) (by omega)).bind fun y0 hy0 => ?_
  rw [Int.toNat_natCast] at hy0
  refine Ok.bind (Ok.for_ (min l.length x.length) (fun k s => s.2 = (k : Int) ∧ s.1.length = l.length ∧ ∀ j, j < l.length → nI s.1 j = if j < k then clampI l x j else 0) (Q := fun t => t.length = l.length ∧ ∀ j, j < l.length → nI t j = clampI l x j) ⟨rfl, by rw [hy0]; simp, fun j hj => by simp only; rw [hy0]; simp [nI, hj]⟩ (by omega) ?_) ?_
  · rintro k ⟨y, i⟩ hk ⟨rfl, h2, h3⟩
    simp only at h2 h3
    simp only [orphan_Lower_B3]
    refine Ok.iteP (fun hlt => ?_) fun hlt => Ok.ret ⟨h2, fun j hj => ?_⟩
    · refine (Ok.at (by omega) (by omega)).bind fun a ha => (Ok.at (by omega) (by omega)).bind fun r hr => (Ok.at (by omega) (by omega)).bind fun _ _ => (Ok.set (by omega) (by omega)).bind fun y2 e2 => Ok.ret ⟨by omega, w64_nat (by omega), by rw [e2]; simp [h2], fun j hj => ?_⟩
      simp only; rw [e2, nI_set (by omega) (by omega) (by omega)]
      rw [Int.toNat_natCast] at hr
      by_cases e : j = k
      · subst e; rw [if_pos rfl, if_pos (by omega)]; unfold clampI; rw [if_pos (by omega), rl_some hr, nI_some ha]
      · rw [if_neg (by omega), h3 j hj]
        by_cases e2 : j < k
        · rw [if_pos e2, if_pos (by omega)]
        · rw [if_neg e2, if_neg (by omega)]
    · rw [h3 j hj]
      split
      · rfl
      · unfold clampI; rw [if_neg (by omega)]
  · rintro y1 ⟨h1, h2⟩
    have hI : LowI l x y1 := ⟨h1, fun j hj => by rw [h2 j hj]; unfold clampI; split <;> omega, fun j hj => by rw [h2 j hj]; omega, fun z hz hz2 j hj => by rw [h2 j hj]; exact hz2 j hj⟩
    unfold orphan_Lower_K1
    refine Ok.bind (Ok.run (fun m s => LowI l x s ∧ m = sumN s) (Q := fun t => LowP l x t) ⟨hI, rfl⟩ (by have := hI.sum hs; omega) ?_) fun t ht => Ok.ret ht
    rintro m y ⟨hy, rfl⟩
    have hyl := hy.len
    unfold orphan_Lower_B1
    refine Ok.bind (Ok.for_ l.length (fun k s => s = (k : Int) ∧ ∀ j, j < k → ∀ i : Nat, (i : Int) < nI y j → okE l y j (ev_ l j i)) (Q := fun t => Sum.elim (fun y2 => LowI l x y2 ∧ sumN y2 < sumN y) (fun _ => LowP l x y) t) ⟨rfl, by omega⟩ (by omega) ?_) ?_
    · rintro k s hk ⟨rfl, g1⟩
      simp only [orphan_Lower_B2]
      refine Ok.iteP (fun hlt => ?_) fun hlt => Ok.ret (hy.done fun j hj => g1 j (by omega))
      have hkl : k < l.length := by omega
      refine (Ok.at (by omega) (by omega)).bind fun r hr => (Ok.at (by omega) (by omega)).bind fun a ha => ?_
      rw [Int.toNat_natCast] at hr
      have hae : nI y k = a := nI_some ha
      have a0 := hy.nn k hkl
      have a1 := hy.le k hkl
      have a2 := @clamp_rl l x k
      have a3 := hs.2 k
      rw [rl_some hr] at a2 a3
      refine (Ok.take (by omega) (by omega)).bind fun r2 hr2 => ?_
      refine (index_o (ev := r2) hs (by omega) (by rw [hr2]; simp; omega) (by omega)).bind fun i hi => Ok.iteP (fun hi0 => ?_) fun hi0 => ?_
      · rcases hi with hi | ⟨n, e, rfl, he, hbad⟩
        · omega
        · rw [hr2, List.getElem?_take] at he
          have hn : n < a.toNat := by
            by_cases h9 : n < a.toNat
            · exact h9
            · rw [if_neg h9] at he; cases he
          rw [if_pos hn] at he
          have hev : ev_ l k n = e := ev_get hr he
          refine (Ok.at (by omega) (by omega)).bind fun _ _ => (Ok.set (by omega) (by omega)).bind fun y2 e2 => Ok.ret ?_
          rw [Int.toNat_natCast] at e2
          rw [e2]
          exact ⟨hy.cut hkl (by omega) (by rw [hev]; exact hbad), sumN_set (by omega) (by omega)⟩
      · rcases hi with ⟨-, hi⟩ | ⟨n, e, rfl, -, -⟩
        · refine Ok.ret ⟨hkl, w64_nat (by omega), fun j hj i hij => ?_⟩
          by_cases ej : j = k
          · subst ej
            obtain ⟨r3, e3, b1, b2, b3⟩ := ev_some (l := l) (j := j) (k := i) (by rw [rl_some hr]; omega)
            obtain rfl : r = r3 := by rw [hr] at b1; exact Option.some.inj b1
            rw [b3]; exact hi i e3 (by rw [hr2, List.getElem?_take, if_pos (by omega)]; exact b2)
          · exact g1 j (by omega) i hij
        · omega
    · rintro t ht
      cases t with
      | inl y2 => exact Ok.ret ⟨_, ht.2, ht.1, rfl⟩
      | inr u => exact Ok.ret ht
end Go.Mine
