/- Chapter 32, plain: the greatest consistent cut, by both ways. -/
import Derived.Test.YtghjjkdfjmnfeaaP32c
set_option linter.unusedSimpArgs false
set_option linter.unusedVariables false
namespace Go.Mine
open Go.RowKit
theorem bad_b {β : Type} {fuel : Nat} {l : List (List Evt)} {x : List Int} {q : Int} {e : Evt} {g : Bool → Option β} {Q : β → Prop} (hs : Small l) (hx : l.length ≤ x.length) (hg : ∀ b, (b = true ↔ ¬ okE l x q e) → Ok (g b) Q) :
    Ok ((ref32_sound fuel l q e).bind fun r => (orM (!r) ((andM (e.kind == 1) ((ati x e.frm).bind fun y => some (decide (y < e.sent.index)))).bind fun b => some b)).bind g) Q := by
  have := (bad_o (fuel := fuel) (q := q) (e := e) hs hx).bind hg
  rwa [Option.bind_assoc] at this
theorem rcons_o {fuel : Nat} {l : List (List Evt)} {x : List Int} (hs : Small l) (hf : 1000000 < fuel) : Ok (ref32_Consistent fuel l x) fun b => b = true ↔ ConsP l x := by
  have hs1 := hs.1
  unfold ref32_Consistent
  refine Ok.iteN (fun h => Ok.ret ⟨by simp, fun h2 => absurd (by rw [h2.1]) h⟩) fun h => ?_
  have hlen : x.length = l.length := by omega
  refine Ok.bind (Ok.for_ l.length (fun k s => s = (k : Int) ∧ ∀ j, j < k → Rng l x j) (Q := fun t => Sum.elim (fun _ => ∀ j, j < l.length → Rng l x j) (fun b => b = false ∧ ¬ ConsP l x) t) ⟨rfl, by omega⟩ (by omega) ?_) ?_
  · rintro k s hk ⟨rfl, h1⟩
    simp only [ref32_Consistent_B3]
    refine Ok.iteP (fun hlt => ?_) fun hlt => Ok.ret ?_
    · refine (Ok.at (by omega) (by omega)).bind fun y hy => ?_
      have hye : nI x k = y := nI_some hy
      refine Ok.bind (Q := fun b => b = false ↔ Rng l x k) (Ok.orM (fun hb => ?_) fun hb => ?_) fun b hb => Ok.ite (fun hc => Ok.ret ?_) fun hc => Ok.ret ⟨by omega, w64_nat (by omega), fun j hj => ?_⟩
      · refine (Ok.at (by omega) (by omega)).bind fun y2 hy2 => (Ok.at (by omega) (by omega)).bind fun r hr => Ok.ret ?_
        obtain rfl : y = y2 := by rw [hy] at hy2; exact Option.some.inj hy2
        rw [Int.toNat_natCast] at hr
        have hre := rl_some hr
        simp at hb
        unfold Rng; rw [hye, hre]; simp; omega
      · simp at hb
        unfold Rng; rw [hye]; simp; omega
      · refine ⟨rfl, fun h2 => ?_⟩
        rw [hb.2 (h2.2.1 k (by omega))] at hc; cases hc
      · by_cases e : j = k
        · subst e; exact hb.1 hc
        · exact h1 j (by omega)
    · obtain rfl : k = l.length := by omega
      exact h1
  · rintro t ht
    cases t with
    | inr b => obtain ⟨rfl, h2⟩ := ht; exact Ok.ret ⟨by simp, fun h3 => absurd h3 h2⟩
    | inl u =>
      simp only [Sum.elim_inl] at ht ⊢
      unfold ref32_Consistent_K1
      refine Ok.bind (Ok.for_ l.length (fun k s => s = (k : Int) ∧ ∀ j, j < k → ∀ i : Nat, (i : Int) < nI x j → okE l x j (ev_ l j i)) (Q := fun t => Sum.elim (fun _ => ConsP l x) (fun b => b = false ∧ ¬ ConsP l x) t) ⟨rfl, by omega⟩ (by omega) ?_) ?_
      · rintro k s hk ⟨rfl, h1⟩
        simp only [ref32_Consistent_B1]
        refine Ok.iteP (fun hlt => ?_) fun hlt => Ok.ret ?_
        · have hrg := ht k (by omega)
          unfold Rng at hrg
          have hsm := hs.2 k
          refine Ok.bind (Ok.for_ (nI x k).toNat (fun i s => s = (i : Int) ∧ ∀ m : Nat, m < i → okE l x k (ev_ l k m)) (Q := fun t => Sum.elim (fun _ => ∀ m : Nat, m < (nI x k).toNat → okE l x k (ev_ l k m)) (fun b => b = false ∧ ¬ ConsP l x) t) ⟨rfl, by omega⟩ (by omega) ?_) ?_
          · rintro i s hi ⟨rfl, g1⟩
            simp only [ref32_Consistent_B2]
            refine (Ok.at (by omega) (by omega)).bind fun y hy => ?_
            have hye : nI x k = y := nI_some hy
            refine Ok.iteP (fun hlt2 => ?_) fun hlt2 => Ok.ret ?_
            · refine (Ok.at (by omega) (by omega)).bind fun r hr => ?_
              rw [Int.toNat_natCast] at hr
              have hre := rl_some hr
              refine (Ok.at (by omega) (by omega)).bind fun e he => ?_
              have hev : ev_ l k i = e := ev_get hr he
              refine bad_b (e := e) hs (by omega) fun b hb => Ok.ite (fun hc => Ok.ret ⟨rfl, fun h2 => ?_⟩) fun hc => Ok.ret ⟨by omega, w64_nat (by omega), fun m hm => ?_⟩
              · have := h2.2.2 k (by omega) i (by omega)
                rw [hev] at this; exact hb.1 hc this
              · by_cases em : m = i
                · subst em; rw [hev]; exact Classical.byContradiction fun hn => by rw [hb.2 hn] at hc; cases hc
                · exact g1 m (by omega)
            · obtain rfl : i = (nI x k).toNat := by omega
              exact g1
          · rintro t2 ht2
            cases t2 with
            | inr b => exact Ok.ret ht2
            | inl u =>
              refine Ok.ret ⟨by omega, w64_nat (by omega), fun j hj i hi => ?_⟩
              by_cases e : j = k
              · subst e; exact ht2 i (by omega)
              · exact h1 j (by omega) i hi
        · obtain rfl : k = l.length := by omega
          exact ⟨hlen, ht, h1⟩
      · rintro t2 ht2
        cases t2 with
        | inr b => obtain ⟨rfl, h2⟩ := ht2; exact Ok.ret ⟨by simp, fun h3 => absurd h3 h2⟩
        | inl u => exact Ok.ret ⟨fun _ => ht2, fun _ => rfl⟩
/-- the start of 'Lower': what is asked for, as far as there are events -/
def clampI (l : List (List Evt)) (x : List Int) (j : Nat) : Int := if j < x.length then min (max (nI x j) 0) (rl l j) else 0
/-- the greatest consistent cut below -/
structure LowP (l : List (List Evt)) (x y : List Int) : Prop where
  cons : ConsP l y
  le : ∀ j, j < l.length → nI y j ≤ clampI l x j
  top : ∀ z, ConsP l z → (∀ j, j < l.length → nI z j ≤ clampI l x j) → ∀ j, j < l.length → nI z j ≤ nI y j
theorem nI_gt {y : List Int} {i : Nat} (h : i < y.length) : y[i] = nI y i := by simp [nI, h]
theorem LowP.unique {l : List (List Evt)} {x y z : List Int} (h1 : LowP l x y) (h2 : LowP l x z) : y = z := by
  have e1 := h1.cons.1
  have e2 := h2.cons.1
  refine List.ext_getElem (by omega) fun i a b => ?_
  rw [nI_gt a, nI_gt b]
  have := h1.top z h2.cons h2.le i (by omega)
  have := h2.top y h1.cons h1.le i (by omega)
  omega
/-- on the way there -/
structure LowI (l : List (List Evt)) (x y : List Int) : Prop where
  len : y.length = l.length
  nn : ∀ j, j < l.length → 0 ≤ nI y j
  le : ∀ j, j < l.length → nI y j ≤ clampI l x j
  top : ∀ z, ConsP l z → (∀ j, j < l.length → nI z j ≤ clampI l x j) → ∀ j, j < l.length → nI z j ≤ nI y j
theorem clamp_rl {l : List (List Evt)} {x : List Int} {j : Nat} : clampI l x j ≤ rl l j := by unfold clampI; split <;> omega
theorem LowI.done {l : List (List Evt)} {x y : List Int} (h : LowI l x y) (hb : ∀ j, j < l.length → ∀ k : Nat, (k : Int) < nI y j → okE l y j (ev_ l j k)) : LowP l x y :=
  ⟨⟨h.len, fun j hj => ⟨h.nn j hj, Int.le_trans (h.le j hj) clamp_rl⟩, hb⟩, h.le, h.top⟩
theorem LowI.cut {l : List (List Evt)} {x y : List Int} {q k : Nat} (h : LowI l x y) (hq : q < l.length) (hk : (k : Int) < nI y q) (hb : ¬ okE l y q (ev_ l q k)) : LowI l x (y.set q (k : Int)) := by
  have hl := h.len
  have hs : ∀ j : Nat, nI (y.set q (k : Int)) j = if j = q then (k : Int) else nI y j := fun j => by
    have := nI_set (xs := y) (i := (q : Int)) (j := (j : Int)) (x := (k : Int)) (by omega) (by omega) (by omega)
    rw [Int.toNat_natCast] at this; rw [this]
    by_cases e : j = q
    · subst e; simp
    · rw [if_neg e, if_neg (by omega)]
  refine ⟨by simp [hl], fun j hj => ?_, fun j hj => ?_, fun z hz hz2 j hj => ?_⟩
  · rw [hs]; split
    · omega
    · exact h.nn j hj
  · rw [hs]; split
    · rename_i e; subst e; have := h.le j hj; omega
    · exact h.le j hj
  · rw [hs]; split
    · rename_i e; subst e
      refine Classical.byContradiction fun hn => hb ?_
      exact (hz.2.2 j hj k (by omega)).mono fun i hi => h.top z hz hz2 i hi
    · exact h.top z hz hz2 j hj
/-- the events of a cut -/
def sumN (y : List Int) : Nat := (y.map Int.toNat).sum
theorem sumN_set {y : List Int} {q k : Nat} (hq : q < y.length) (hk : (k : Int) < nI y q) : sumN (y.set q (k : Int)) < sumN y := by
  induction y generalizing q with
  | nil => simp at hq
  | cons a t ih =>
    cases q with
    | zero => simp [sumN, nI] at hk ⊢; omega
    | succ q =>
      have := ih (q := q) (by simpa using hq) (by simpa [nI] using hk)
      simp [sumN] at this ⊢; omega
theorem sumN_le {y : List Int} {B : Nat} (h : ∀ j, j < y.length → nI y j ≤ B) : sumN y ≤ y.length * B := by
  induction y with
  | nil => simp [sumN]
  | cons a t ih =>
    have h1 := ih fun j hj => by have := h (j + 1) (by simp; omega); simpa [nI] using this
    have h2 := h 0 (by simp)
    simp [nI] at h2
    simp [sumN] at h1 ⊢
    rw [Nat.add_mul]; omega
theorem LowI.sum {l : List (List Evt)} {x y : List Int} (h : LowI l x y) (hs : Small l) : sumN y ≤ 1000000 := by
  have h1 := hs.1
  have hl := h.len
  have : sumN y ≤ y.length * 1000 := sumN_le fun j hj => by
    have a := h.le j (by omega)
    have b := @clamp_rl l x j
    have c := hs.2 j
    omega
  omega
theorem index_o {fuel : Nat} {ev : List Evt} {l : List (List Evt)} {y : List Int} {q : Int} (hs : Small l) (hy : l.length ≤ y.length) (he : ev.length ≤ 1000) (hf : 1000000 < fuel) :
    Ok (slices_IndexFunc fuel ev l y q) fun i => (i < 0 ∧ ∀ (k : Nat) (e : Evt), ev[k]? = some e → okE l y q e) ∨ ∃ (k : Nat) (e : Evt), i = (k : Int) ∧ ev[k]? = some e ∧ ¬ okE l y q e := by
  unfold slices_IndexFunc
  refine Ok.bind (Ok.for_ ev.length (fun k s => s = (k : Int) ∧ ∀ (j : Nat) (e : Evt), j < k → ev[j]? = some e → okE l y q e) (Q := fun t => Sum.elim (fun _ => ∀ (k : Nat) (e : Evt), ev[k]? = some e → okE l y q e) (fun i => ∃ (k : Nat) (e : Evt), i = (k : Int) ∧ ev[k]? = some e ∧ ¬ okE l y q e) t) ⟨rfl, by omega⟩ (by omega) ?_) ?_
  · rintro k s hk ⟨rfl, h1⟩
    simp only [slices_IndexFunc_B1, orphan_Lower_1]
    refine Ok.iteP (fun hlt => ?_) fun hlt => Ok.ret fun j e hj => h1 j e (by have := (List.getElem?_eq_some_iff.1 hj).1; omega) hj
    refine (Ok.at (by omega) (by omega)).bind fun e he => ?_
    rw [Int.toNat_natCast] at he
    refine Ok.bind (Q := fun b => b = true ↔ ¬ okE l y q e) ((fits_o (e := e) hs hy).bind fun b hb => Ok.ret ?_) fun b hb => Ok.ite (fun hc => Ok.ret ⟨k, e, rfl, he, hb.1 hc⟩) fun hc => Ok.ret ⟨by omega, w64_nat (by omega), fun j e2 hj hj2 => ?_⟩
    · rw [← hb]; simp
    · by_cases em : j = k
      · subst em
        obtain rfl : e = e2 := by rw [he] at hj2; exact Option.some.inj hj2
        exact Classical.byContradiction fun hn => by rw [hb.2 hn] at hc; cases hc
      · exact h1 j e2 (by omega) hj2
  · rintro t ht
    cases t with
    | inl u => exact Ok.ret (.inl ⟨by decide, ht⟩)
    | inr i => exact Ok.ret (.inr ht)
theorem ev_some {l : List (List Evt)} {j k : Nat} (h : k < rl l j) : ∃ r e, l[j]? = some r ∧ r[k]? = some e ∧ ev_ l j k = e := by
  unfold rl at h
  cases hl : l[j]? with
  | none => simp [hl] at h
  | some r =>
    simp [hl] at h
    exact ⟨r, r[k], rfl, by simp [h], by simp [ev_, hl, h]⟩
theorem lower_o {fuel : Nat} {l : List (List Evt)} {x : List Int} (hs : Small l) (hx : x.length ≤ 1000000) (hf : 2000000 < fuel) : Ok (orphan_Lower fuel l x) fun y => LowP l x y := by
  have hs1 := hs.1
  unfold orphan_Lower
  refine (Ok.mk (by omega) (by omega)).bind fun y0 hy0 => ?_
  rw [Int.toNat_natCast] at hy0
  refine Ok.bind (Ok.for_ (min l.length x.length) (fun k s => s.2 = (k : Int) ∧ s.1.length = l.length ∧ ∀ j, j < l.length → nI s.1 j = if j < k then clampI l x j else 0) (Q := fun t => t.length = l.length ∧ ∀ j, j < l.length → nI t j = clampI l x j) ⟨rfl, by rw [hy0]; simp, fun j hj => by simp only; rw [hy0]; simp [nI, hj]⟩ (by omega) ?_) ?_
  · rintro k ⟨y, i⟩ hk ⟨rfl, h2, h3⟩
    simp only at h2 h3
    simp only [orphan_Lower_B3]
    refine Ok.iteP (fun hlt => ?_) fun hlt => Ok.ret ⟨h2, fun j hj => ?_⟩
    · refine (Ok.at (by omega) (by omega)).bind fun a ha => (Ok.at (by omega) (by omega)).bind fun r hr => (Ok.at (by omega) (by omega)).bind fun _ _ => (Ok.set (by omega) (by omega)).bind fun y2 e2 => Ok.ret ⟨by omega, w64_nat (by omega), by rw [e2]; simp [h2], fun j hj => ?_⟩
      simp only; rw [e2, nI_set (by omega) (by omega) (by omega)]
      rw [Int.toNat_natCast] at hr
      by_cases e : j = k
      · subst e; rw [if_pos rfl, if_pos (by omega)]; unfold clampI; rw [if_pos (by omega), rl_some hr, nI_some ha]
      · rw [if_neg (by omega), h3 j hj]
        by_cases e2 : j < k
        · rw [if_pos e2, if_pos (by omega)]
        · rw [if_neg e2, if_neg (by omega)]
    · rw [h3 j hj]
      split
      · rfl
      · unfold clampI; rw [if_neg (by omega)]
  · rintro y1 ⟨h1, h2⟩
    have hI : LowI l x y1 := ⟨h1, fun j hj => by rw [h2 j hj]; unfold clampI; split <;> omega, fun j hj => by rw [h2 j hj]; omega, fun z hz hz2 j hj => by rw [h2 j hj]; exact hz2 j hj⟩
    unfold orphan_Lower_K1
    refine Ok.bind (Ok.run (fun m s => LowI l x s ∧ m = sumN s) (Q := fun t => LowP l x t) ⟨hI, rfl⟩ (by have := hI.sum hs; omega) ?_) fun t ht => Ok.ret ht
    rintro m y ⟨hy, rfl⟩
    have hyl := hy.len
    unfold orphan_Lower_B1
    refine Ok.bind (Ok.for_ l.length (fun k s => s = (k : Int) ∧ ∀ j, j < k → ∀ i : Nat, (i : Int) < nI y j → okE l y j (ev_ l j i)) (Q := fun t => Sum.elim (fun y2 => LowI l x y2 ∧ sumN y2 < sumN y) (fun _ => LowP l x y) t) ⟨rfl, by omega⟩ (by omega) ?_) ?_
    · rintro k s hk ⟨rfl, g1⟩
      simp only [orphan_Lower_B2]
      refine Ok.iteP (fun hlt => ?_) fun hlt => Ok.ret (hy.done fun j hj => g1 j (by omega))
      have hkl : k < l.length := by omega
      refine (Ok.at (by omega) (by omega)).bind fun r hr => (Ok.at (by omega) (by omega)).bind fun a ha => ?_
      rw [Int.toNat_natCast] at hr
      have hae : nI y k = a := nI_some ha
      have a0 := hy.nn k hkl
      have a1 := hy.le k hkl
      have a2 := @clamp_rl l x k
      have a3 := hs.2 k
      rw [rl_some hr] at a2 a3
      refine (Ok.take (by omega) (by omega)).bind fun r2 hr2 => ?_
      refine (index_o (ev := r2) hs (by omega) (by rw [hr2]; simp; omega) (by omega)).bind fun i hi => Ok.iteP (fun hi0 => ?_) fun hi0 => ?_
      · rcases hi with hi | ⟨n, e, rfl, he, hbad⟩
        · omega
        · rw [hr2, List.getElem?_take] at he
          have hn : n < a.toNat := by
            by_cases h9 : n < a.toNat
            · exact h9
            · rw [if_neg h9] at he; cases he
          rw [if_pos hn] at he
          have hev : ev_ l k n = e := ev_get hr he
          refine (Ok.at (by omega) (by omega)).bind fun _ _ => (Ok.set (by omega) (by omega)).bind fun y2 e2 => Ok.ret ?_
          rw [Int.toNat_natCast] at e2
          rw [e2]
          exact ⟨hy.cut hkl (by omega) (by rw [hev]; exact hbad), sumN_set (by omega) (by omega)⟩
      · rcases hi with ⟨-, hi⟩ | ⟨n, e, rfl, -, -⟩
        · refine Ok.ret ⟨hkl, w64_nat (by omega), fun j hj i hij => ?_⟩
          by_cases ej : j = k
          · subst ej
            obtain ⟨r3, e3, b1, b2, b3⟩ := ev_some (l := l) (j := j) (k := i) (by rw [rl_some hr]; omega)
            obtain rfl : r = r3 := by rw [hr] at b1; exact Option.some.inj b1
            rw [b3]; exact hi i e3 (by rw [hr2, List.getElem?_take, if_pos (by omega)]; exact b2)
          · exact g1 j (by omega) i hij
        · omega
    · rintro t ht
      cases t with
      | inl y2 => exact Ok.ret ⟨_, ht.2, ht.1, rfl⟩
      | inr u => exact Ok.ret ht
theorem rlower_o {fuel : Nat} {l : List (List Evt)} {x : List Int} (hs : Small l) (hx : x.length ≤ 1000000) (hf : 2000000 < fuel) : Ok (ref32_Lower fuel l x) fun y => LowP l x y := by
  have hs1 := hs.1
  unfold ref32_Lower
  refine Ok.bind (Ok.for_ l.length (fun k s => s.2 = (k : Int) ∧ s.1.length = k ∧ ∀ j, j < k → nI s.1 j = clampI l x j) (Q := fun t => t.length = l.length ∧ ∀ j, j < l.length → nI t j = clampI l x j) ⟨rfl, rfl, by omega⟩ (by omega) ?_) ?_
  · rintro k ⟨y, i⟩ hk ⟨rfl, h2, h3⟩
    simp only at h2 h3
    have key : ∀ v, v = clampI l x k → k < l.length → Ok (ref32_Lower_J1 fuel y (k : Int) v) fun o => Sum.elim (fun s' : List Int × Int => k < l.length ∧ s'.2 = ((k + 1 : Nat) : Int) ∧ s'.1.length = k + 1 ∧ ∀ j, j < k + 1 → nI s'.1 j = clampI l x j) (fun t : List Int => t.length = l.length ∧ ∀ j, j < l.length → nI t j = clampI l x j) o := fun v hv hkl => by
      unfold ref32_Lower_J1
      refine (Ok.snoc (by omega)).bind fun y2 e2 => Ok.ret ⟨hkl, w64_nat (by omega), by rw [e2]; simp [h2], fun j hj => ?_⟩
      simp only; rw [e2, nI_append]
      by_cases e : j < y.length
      · rw [if_pos e]; exact h3 j (by omega)
      · rw [if_neg e, if_pos (by omega), hv]
        have : j = k := by omega
        rw [this]
    simp only [ref32_Lower_B4]
    refine Ok.iteP (fun hlt => Ok.iteP (fun hlt2 => ?_) fun hlt2 => ?_) fun hlt => Ok.ret ⟨by omega, fun j hj => h3 j (by omega)⟩
    · refine (Ok.at (by omega) (by omega)).bind fun a ha => (Ok.at (by omega) (by omega)).bind fun r hr => key _ ?_ (by omega)
      rw [Int.toNat_natCast] at hr
      unfold clampI; rw [if_pos (by omega), rl_some hr, nI_some ha]; omega
    · exact key _ (by unfold clampI; rw [if_neg (by omega)]) (by omega)
  · rintro y1 ⟨h1, h2⟩
    have hI : LowI l x y1 := ⟨h1, fun j hj => by rw [h2 j hj]; unfold clampI; split <;> omega, fun j hj => by rw [h2 j hj]; omega, fun z hz hz2 j hj => by rw [h2 j hj]; exact hz2 j hj⟩
    unfold ref32_Lower_K1
    refine Ok.bind (Ok.run (fun m s => LowI l x s.1 ∧ (s.2 = true → m = sumN s.1 + 2) ∧ (s.2 = false → m = 1 ∧ LowP l x s.1)) (Q := fun t => LowP l x t) (m := sumN y1 + 2) ⟨hI, fun _ => rfl, by simp⟩ (by have := hI.sum hs; omega) ?_) fun t ht => Ok.ret ht
    rintro m ⟨y, more⟩ ⟨hy, hm1, hm2⟩
    simp only at hy hm1 hm2
    simp only [ref32_Lower_B1]
    refine Ok.ite (fun hmo => ?_) fun hmo => Ok.ret (hm2 hmo).2
    have hm := hm1 hmo
    refine Ok.bind (Ok.for_ l.length (fun k s => s.2.2 = (k : Int) ∧ LowI l x s.1 ∧ (s.2.1 = true → sumN s.1 < sumN y) ∧ (s.2.1 = false → s.1 = y ∧ ∀ j, j < k → ∀ i : Nat, (i : Int) < nI y j → okE l y j (ev_ l j i))) (Q := fun t => LowI l x t.1 ∧ (t.2 = true → sumN t.1 < sumN y) ∧ (t.2 = false → LowP l x t.1)) ⟨rfl, hy, by simp, fun _ => ⟨rfl, by omega⟩⟩ (by omega) ?_) ?_
    · rintro k ⟨y2, mo, i⟩ hk ⟨rfl, g1, g2, g3⟩
      simp only at g1 g2 g3
      simp only [ref32_Lower_B2]
      refine Ok.iteP (fun hlt => ?_) fun hlt => Ok.ret ⟨g1, g2, fun h => ?_⟩
      · have hkl : k < l.length := by omega
        have hsm := hs.2 k
        refine Ok.bind (Ok.run (fun m s => ∃ n : Nat, s.2.2 = (n : Int) ∧ m + n = 1001 ∧ LowI l x s.1 ∧ (s.2.1 = true → sumN s.1 < sumN y) ∧ (s.2.1 = false → s.1 = y ∧ (∀ j, j < k → ∀ i : Nat, (i : Int) < nI y j → okE l y j (ev_ l j i)) ∧ ∀ i : Nat, i < n → (i : Int) < nI y k → okE l y k (ev_ l k i))) (Q := fun t => LowI l x t.1 ∧ (t.2 = true → sumN t.1 < sumN y) ∧ (t.2 = false → t.1 = y ∧ ∀ j, j < k + 1 → ∀ i : Nat, (i : Int) < nI y j → okE l y j (ev_ l j i))) (m := 1001) ⟨0, rfl, by omega, g1, g2, fun h => ⟨(g3 h).1, (g3 h).2, by omega⟩⟩ (by omega) ?_) ?_
        · rintro m2 ⟨y3, mo3, i3⟩ ⟨n, hn, hmn, f1, f2, f3⟩
          simp only at hn f1 f2 f3
          subst hn
          have fl := f1.len
          have b1 := f1.le k hkl
          have b2 := @clamp_rl l x k
          simp only [ref32_Lower_B3]
          refine (Ok.at (by omega) (by omega)).bind fun a ha => ?_
          have hae : nI y3 k = a := nI_some ha
          refine Ok.iteP (fun hlt3 => ?_) fun hlt3 => Ok.ret ⟨f1, f2, fun h => ?_⟩
          · refine (Ok.at (by omega) (by omega)).bind fun r hr => ?_
            rw [Int.toNat_natCast] at hr
            have hre := rl_some hr
            refine (Ok.at (by omega) (by omega)).bind fun e he => ?_
            have hev : ev_ l k n = e := ev_get hr he
            refine bad_b (e := e) hs (by omega) fun b hb => Ok.ite (fun hc => ?_) fun hc => ?_
            · refine (Ok.at (by omega) (by omega)).bind fun _ _ => (Ok.set (by omega) (by omega)).bind fun y4 e4 => Ok.ret ?_
              rw [Int.toNat_natCast] at e4
              have hlt4 : sumN y4 < sumN y3 := by rw [e4]; exact sumN_set (by omega) (by omega)
              refine ⟨m2 - 1, by omega, n + 1, w64_nat (by omega), by omega, by rw [e4]; exact f1.cut hkl (by omega) (by rw [hev]; exact hb.1 hc), fun _ => ?_, by simp⟩
              simp only
              cases mo3 with
              | true => have := f2 rfl; omega
              | false => have := (f3 rfl).1; rw [this] at hlt4; exact hlt4
            · refine Ok.ret ⟨m2 - 1, by omega, n + 1, w64_nat (by omega), by omega, f1, f2, fun h => ⟨(f3 h).1, (f3 h).2.1, fun i hi hi2 => ?_⟩⟩
              by_cases em : i = n
              · subst em
                obtain ⟨c1, -, -⟩ := f3 h
                rw [hev, ← c1]; exact Classical.byContradiction fun hx => by rw [hb.2 hx] at hc; cases hc
              · exact (f3 h).2.2 i (by omega) hi2
          · simp only at h
            refine ⟨(f3 h).1, fun j hj i hij => ?_⟩
            by_cases ej : j = k
            · subst ej
              have c1 := (f3 h).1
              exact (f3 h).2.2 i (by rw [c1] at hae; omega) hij
            · exact (f3 h).2.1 j (by omega) i hij
        · rintro t ⟨t1, t2, t3⟩
          exact Ok.ret ⟨hkl, w64_nat (by omega), t1, t2, t3⟩
      · simp only at h
        have := g3 h
        rw [this.1]; exact (this.1 ▸ g1 : LowI l x y).done fun j hj => this.2 j (by omega)
    · rintro t ⟨t1, t2, t3⟩
      refine Ok.ret ?_
      cases ht : t.2 with
      | true => exact ⟨sumN t.1 + 2, by have := t2 ht; omega, t1, fun _ => rfl, by simp⟩
      | false => exact ⟨1, by omega, t1, by simp, fun _ => ⟨rfl, t3 ht⟩⟩
end Go.Mine
