/- Chapter 32, plain: consistent cuts and the greatest one. -/
import Derived.Test.YtddohdppmejjoaaA32r
import Derived.Test.YtddohdppmejjoaaPsm
set_option linter.unusedSimpArgs false
set_option linter.unusedVariables false
namespace Go.Mine
open Go.RowKit
def rw_ (l : List (List Evt)) (i : Int) : List Evt := l[i.toNat]?.getD []
def ev_ (l : List (List Evt)) (j k : Nat) : Evt := ((l[j]?.getD [])[k]?).getD default
/-- is this the label of an index of a lineage? -/
def Lbl (ev : List Evt) (s : Lab) : Prop := (s.index = 0 ∧ s.inc = 0) ∨ (0 < s.index ∧ s.index ≤ ev.length ∧ ∃ e, ev[(s.index - 1).toNat]? = some e ∧ e.inc = s.inc)
/-- can an event of a process be in a cut? -/
def okE (l : List (List Evt)) (z : List Int) (q : Int) (e : Evt) : Prop := e.kind = 1 → 0 ≤ e.frm ∧ e.frm < l.length ∧ e.frm ≠ q ∧ Lbl (rw_ l e.frm) e.sent ∧ e.sent.index ≤ nI z e.frm
def Rng (l : List (List Evt)) (z : List Int) (j : Nat) : Prop := 0 ≤ nI z j ∧ nI z j ≤ rl l j
def ConsP (l : List (List Evt)) (z : List Int) : Prop := z.length = l.length ∧ (∀ j, j < l.length → Rng l z j) ∧ ∀ j, j < l.length → ∀ k : Nat, (k : Int) < nI z j → okE l z j (ev_ l j k)
theorem okE.mono {l : List (List Evt)} {z y : List Int} {q : Int} {e : Evt} (h : okE l z q e) (hz : ∀ j : Nat, j < l.length → nI z j ≤ nI y j) : okE l y q e := fun hk => by
  obtain ⟨h1, h2, h3, h4, h5⟩ := h hk
  have := hz e.frm.toNat (by omega)
  rw [Int.toNat_of_nonneg h1] at this
  exact ⟨h1, h2, h3, h4, by omega⟩
theorem rw_some {l : List (List Evt)} {i : Int} {r : List Evt} (h : l[i.toNat]? = some r) : rw_ l i = r := by simp [rw_, h]
theorem rl_small {l : List (List Evt)} (hs : Small l) {i : Int} : (rw_ l i).length ≤ 1000 := hs.2 i.toNat
theorem label_o {fuel : Nat} {ev : List Evt} {s : Lab} (h : ev.length ≤ 1000) : Ok (orphan_label fuel ev s.index) fun r => (r.2 = true ∧ r.1 = s) ↔ Lbl ev s := by
  unfold orphan_label
  simp only [orM_some, Option.bind_some]
  refine Ok.ite (fun hb => Ok.ret ?_) fun hb => Ok.iteE (fun h0 => Ok.ret ?_) fun h0 => ?_
  · simp at hb
    simp only [Bool.false_eq_true, false_and, false_iff]
    rintro (h1 | h1)
    · omega
    · omega
  · simp only [true_and]
    refine ⟨fun e => .inl ⟨h0, by rw [← e]⟩, fun h1 => ?_⟩
    rcases h1 with h1 | h1
    · cases s; simp at h1 ⊢; exact ⟨h1.2.symm, h1.1.symm⟩
    · omega
  · simp at hb
    rw [w64_id (by omega) (by omega)]
    refine (Ok.at (by omega) (by omega)).bind fun e he => Ok.ret ?_
    simp only [true_and]
    refine ⟨fun h1 => .inr ⟨by omega, by omega, e, he, by rw [← h1]⟩, fun h1 => ?_⟩
    rcases h1 with h1 | ⟨-, -, e2, h2, h3⟩
    · omega
    · obtain rfl : e = e2 := by rw [he] at h2; exact Option.some.inj h2
      cases s; simp at h3 ⊢; exact h3
theorem fits_o {fuel : Nat} {l : List (List Evt)} {x : List Int} {q : Int} {e : Evt} (hs : Small l) (hx : l.length ≤ x.length) : Ok (orphan_fits fuel l x q e) fun b => b = true ↔ okE l x q e := by
  unfold orphan_fits
  simp only [orM_some, Option.bind_some]
  refine Ok.iteN (fun hk => Ok.ret ⟨fun _ h => absurd h hk, fun _ => rfl⟩) fun hk => ?_
  refine Ok.bind (Q := fun b => b = false ↔ (0 ≤ e.frm ∧ e.frm < l.length ∧ e.frm ≠ q ∧ e.sent.index ≤ nI x e.frm)) (Ok.orM (fun hb => ?_) fun hb => ?_) fun b hb => Ok.ite (fun hc => Ok.ret ?_) fun hc => ?_
  · simp at hb
    refine (Ok.at (by omega) (by omega)).bind fun y hy => Ok.ret ?_
    rw [nI_some hy]; simp; omega
  · simp at hb
    simp; omega
  · refine ⟨by simp, fun h => ?_⟩
    obtain ⟨h1, h2, h3, h4, h5⟩ := h hk
    rw [hb.2 ⟨h1, h2, h3, h5⟩] at hc; cases hc
  · have h1 := hb.1 hc
    refine (Ok.at h1.1 h1.2.1).bind fun r hr => ?_
    have hrw := rw_some hr
    refine (label_o (s := e.sent) (by rw [← hrw]; exact rl_small hs)).bind fun z hz => ?_
    unfold orphan_fits_J1
    simp only [andM_some, Option.bind_some]
    refine Ok.ret ?_
    have hz2 : (z.2 && (z.1.inc == e.sent.inc && (z.1.index == e.sent.index && true))) = true ↔ Lbl r e.sent := by
      rw [← hz]
      constructor
      · intro h2; simp at h2; refine ⟨h2.1, ?_⟩; cases hz1 : z.1; cases hs1 : e.sent; rw [hz1, hs1] at h2; simp at h2; simp [h2.2]
      · rintro ⟨h2, h3⟩; simp [h2, h3]
    rw [hz2, ← hrw]
    exact ⟨fun h2 _ => ⟨h1.1, h1.2.1, h1.2.2.1, h2, h1.2.2.2⟩, fun h2 => (h2 hk).2.2.2.1⟩
theorem ev_get {l : List (List Evt)} {j k : Nat} {r : List Evt} {e : Evt} (h : l[j]? = some r) (h2 : r[k]? = some e) : ev_ l j k = e := by simp [ev_, h, h2]
theorem cons_o {fuel : Nat} {l : List (List Evt)} {x : List Int} (hs : Small l) (hf : 1000000 < fuel) : Ok (orphan_Consistent fuel l x) fun b => b = true ↔ ConsP l x := by
  have hs1 := hs.1
  unfold orphan_Consistent
  refine Ok.iteN (fun h => Ok.ret ⟨by simp, fun h2 => absurd (by rw [h2.1]) h⟩) fun h => ?_
  have hlen : x.length = l.length := by omega
  refine Ok.bind (Ok.for_ l.length (fun k s => s = (k : Int) ∧ ∀ j, j < k → Rng l x j) (Q := fun t => Sum.elim (fun _ => ∀ j, j < l.length → Rng l x j) (fun b => b = false ∧ ¬ ConsP l x) t) ⟨rfl, by omega⟩ (by omega) ?_) ?_
  · rintro k s hk ⟨rfl, h1⟩
    simp only [orphan_Consistent_B3]
    refine Ok.iteP (fun hlt => ?_) fun hlt => Ok.ret ?_
    · refine (Ok.at (by omega) (by omega)).bind fun r hr => (Ok.at (by omega) (by omega)).bind fun y hy => ?_
      rw [Int.toNat_natCast] at hr
      have hye : nI x k = y := nI_some hy
      have hre := rl_some hr
      refine Ok.bind (Q := fun b => b = false ↔ Rng l x k) (Ok.orM (fun hb => ?_) fun hb => ?_) fun b hb => Ok.ite (fun hc => Ok.ret ?_) fun hc => Ok.ret ⟨by omega, w64_nat (by omega), fun j hj => ?_⟩
      · refine (Ok.at (by omega) (by omega)).bind fun y2 hy2 => Ok.ret ?_
        obtain rfl : y = y2 := by rw [hy] at hy2; exact Option.some.inj hy2
        simp at hb
        unfold Rng; rw [hye, hre]; simp; omega
      · simp at hb
        unfold Rng; rw [hye, hre]; simp; omega
      · refine ⟨rfl, fun h2 => ?_⟩
        rw [hb.2 (h2.2.1 k (by omega))] at hc; cases hc
      · by_cases e : j = k
        · subst e; exact hb.1 hc
        · exact h1 j (by omega)
    · obtain rfl : k = l.length := by omega
      exact h1
  · rintro t ht
    cases t with
    | inr b => obtain ⟨rfl, h2⟩ := ht; exact Ok.ret ⟨by simp, fun h3 => absurd h3 h2⟩
    | inl u =>
      simp only [Sum.elim_inl] at ht ⊢
      unfold orphan_Consistent_K1
      refine Ok.bind (Ok.for_ l.length (fun k s => s = (k : Int) ∧ ∀ j, j < k → ∀ i : Nat, (i : Int) < nI x j → okE l x j (ev_ l j i)) (Q := fun t => Sum.elim (fun _ => ConsP l x) (fun b => b = false ∧ ¬ ConsP l x) t) ⟨rfl, by omega⟩ (by omega) ?_) ?_
      · rintro k s hk ⟨rfl, h1⟩
        simp only [orphan_Consistent_B1]
        refine Ok.iteP (fun hlt => ?_) fun hlt => Ok.ret ?_
        · refine (Ok.at (by omega) (by omega)).bind fun r hr => (Ok.at (by omega) (by omega)).bind fun y hy => ?_
          rw [Int.toNat_natCast] at hr
          have hye : nI x k = y := nI_some hy
          have hre := rl_some hr
          have hrg := ht k (by omega)
          unfold Rng at hrg
          rw [hye, hre] at hrg
          have hsm := hs.2 k
          refine (Ok.take hrg.1 hrg.2).bind fun r2 hr2 => ?_
          have hl2 : r2.length = y.toNat := by rw [hr2]; simp; omega
          refine Ok.bind (Ok.for_ y.toNat (fun i s => s = (i : Int) ∧ ∀ m : Nat, m < i → okE l x k (ev_ l k m)) (Q := fun t => Sum.elim (fun _ => ∀ m : Nat, m < y.toNat → okE l x k (ev_ l k m)) (fun b => b = false ∧ ¬ ConsP l x) t) ⟨rfl, by omega⟩ (by omega) ?_) ?_
          · rintro i s hi ⟨rfl, g1⟩
            simp only [orphan_Consistent_B2]
            refine Ok.iteP (fun hlt2 => ?_) fun hlt2 => Ok.ret ?_
            · refine (Ok.at (by omega) (by omega)).bind fun e he => ?_
              have hev : ev_ l k i = e := ev_get hr (by rw [hr2, Int.toNat_natCast, List.getElem?_take, if_pos (by omega)] at he; exact he)
              refine (fits_o (e := e) hs (by omega)).bind fun b hb => Ok.ite (fun hc => Ok.ret ⟨rfl, fun h2 => ?_⟩) fun hc => Ok.ret ⟨by omega, w64_nat (by omega), fun m hm => ?_⟩
              · have := h2.2.2 k (by omega) i (by omega)
                rw [hev, ← hb] at this; rw [this] at hc; cases hc
              · by_cases em : m = i
                · subst em; rw [hev, ← hb]; simpa using hc
                · exact g1 m (by omega)
            · obtain rfl : i = y.toNat := by omega
              exact g1
          · rintro t2 ht2
            cases t2 with
            | inr b => exact Ok.ret ht2
            | inl u =>
              refine Ok.ret ⟨by omega, w64_nat (by omega), fun j hj i hi => ?_⟩
              by_cases e : j = k
              · subst e; exact ht2 i (by omega)
              · exact h1 j (by omega) i hi
        · obtain rfl : k = l.length := by omega
          exact ⟨hlen, ht, h1⟩
      · rintro t2 ht2
        cases t2 with
        | inr b => obtain ⟨rfl, h2⟩ := ht2; exact Ok.ret ⟨by simp, fun h3 => absurd h3 h2⟩
        | inl u => exact Ok.ret ⟨fun _ => ht2, fun _ => rfl⟩
end Go.Mine
