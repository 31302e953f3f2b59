/- Chapter 32, plain: without failures the vectors are the clocks. -/
import Derived.Test.YtbmjcbhappjnaaaP32j
import Derived.Test.YtbmjcbhappjnaaaP32y
import Derived.Test.YtbmjcbhappjnaaaP17a
set_option linter.unusedSimpArgs false
set_option linter.unusedVariables false
namespace Go.Mine
open Go.RowKit
def lab0 (c : List Int) : List Lab := c.map fun i => (⟨0, i⟩ : Lab)
theorem hd_tick {n B : Nat} {p : Pat} {l : List (List Evt)} (h : PatG n B p) (hL : LOK n p l) {q k : Nat} {c : List Int} (hq : q < n) (hk : k < rl l q) (hkd : (ev_ l q k).kind ≠ 1) (hc : ClkS n p.arcs q k c) : ClkS n p.arcs q ((k + 1 : Nat) : Int) (c.set q ((k + 1 : Nat) : Int)) := by
  have hrow := hL.row hq
  have hcl := hc.1
  refine ClkS.step (c2 := List.replicate n 0) h (by omega) (by omega) (by omega) (by omega) (by rw [show ((k + 1 : Nat) : Int) - 1 = k by omega]; exact hc) (.inr ⟨fun a ha _ hh => ?_, fun s hs => by simp [nI, hs]⟩) (by simp [hcl]) fun s hs => ?_
  · obtain ⟨j, j1, j2, _⟩ := hL.r2 a ha
    have e1 : a.to.toNat = q := by have := hh.1; omega
    have e2 : j = k := by have := hh.2; omega
    rw [e1, e2] at j2; exact hkd j2
  · have := nI_set (xs := c) (i := (q : Int)) (j := (s : Int)) (x := ((k + 1 : Nat) : Int)) (by omega) (by omega) (by omega)
    rw [Int.toNat_natCast] at this
    rw [this]
    have hz : nI (List.replicate n (0 : Int)) s = 0 := by simp [nI, hs]
    have := (hc.2 s hs).1
    split
    · rfl
    · omega
theorem gtr0 {i j : Int} : gtr (⟨0, i⟩ : Lab) ⟨0, j⟩ = ⟨0, max i j⟩ := by
  unfold gtr bef
  by_cases e : i < j
  · rw [if_pos (by simp [e]), Int.max_eq_right (by omega)]
  · rw [if_neg (by simp [e]), Int.max_eq_left (by omega)]
theorem atL_lab0 {c : List Int} {s : Nat} (h : s < c.length) : atL (lab0 c) s = ⟨0, nI c s⟩ := by
  simp [atL, lab0, nI, h]
theorem merge0 {c d : List Int} (h : c.length = d.length) : mergeL (lab0 c) (lab0 d) = lab0 ((List.range c.length).map fun (s : Nat) => max (nI c s) (nI d s)) := by
  refine List.ext_getElem (by simp [mergeL, lab0, h]) fun i h1 h2 => ?_
  have hi : i < c.length := by simp [lab0] at h2; omega
  simp only [mergeL, List.getElem_map, List.getElem_range]
  rw [atL_lab0 hi, atL_lab0 (by omega), gtr0]
  simp [lab0]
theorem lab0_set {c : List Int} {q : Nat} {v : Int} : (lab0 c).set q ⟨0, v⟩ = lab0 (c.set q v) := by unfold lab0; rw [List.map_set]
theorem hd_clk {n B : Nat} {p : Pat} {l : List (List Evt)} (h : PatG n B p) (hL : LOK n p l) (hz : ∀ q k, (ev_ l q k).inc = 0) {hh q k : Nat} {v : List Lab} (hd : Hd l hh q k v) : q < n → ∃ c, ClkS n p.arcs q k c ∧ v = lab0 c := by
  have hll := hL.ll
  obtain ⟨ρ, hρ⟩ := h.rank
  induction hd with
  | zero _ => intro hq; exact ⟨_, ClkS.zero h, by simp [lab0, hll, zl]⟩
  | @tick hh q k v _ h1 h2 ih =>
    intro hq
    obtain ⟨c, hc, rfl⟩ := ih hq
    exact ⟨_, hd_tick h hL hq h1 h2 hc, by rw [hz, lab0_set]⟩
  | @recv hh q k v u _ h1 h2 _ ih1 ih2 =>
    intro hq
    obtain ⟨c, hc, rfl⟩ := ih1 hq
    have hrow := hL.row hq
    obtain ⟨a, ha, a1, a2, a3, a4, _⟩ := hL.r1 q k hq (by omega) h2
    have hag := h.arc a ha
    have f0 := hag.fr.1; have f1 := hag.fr.2; have x0 := hag.ix.1
    obtain ⟨d, hdc, rfl⟩ := ih2 (by rw [a3]; omega)
    rw [a3, a4, Int.toNat_of_nonneg f0, Int.toNat_of_nonneg x0] at hdc
    have hcl := hc.1; have hdl := hdc.1
    refine ⟨_, ClkS.step h (c1 := c) (c2 := d) (by omega) (by omega) (by omega) (by omega) (by rw [show ((k + 1 : Nat) : Int) - 1 = k by omega]; exact hc) (.inl ⟨a, ha, by omega, a1, by omega, hdc⟩) ?_ fun s hs => ?_, by rw [hz, lab0_set, merge0 (by simp; omega)]⟩
    · simp [hcl]
    · have hset := nI_set (xs := c) (i := (q : Int)) (j := (s : Int)) (x := ((k + 1 : Nat) : Int)) (by omega) (by omega) (by omega)
      rw [Int.toNat_natCast] at hset
      have : nI ((List.range (c.set q ((k + 1 : Nat) : Int)).length).map fun (s : Nat) => max (nI (c.set q ((k + 1 : Nat) : Int)) s) (nI d s)) s = max (nI (c.set q ((k + 1 : Nat) : Int)) s) (nI d s) := by simp [nI, (show s < c.length by omega)]
      rw [this, hset]
      split
      · rename_i e
        have hds := hdc.2 s hs
        rcases Int.lt_or_le (nI d s) 1 with h5 | h5
        · omega
        · have hb : Hb p.arcs s (nI d s) q ((k + 1 : Nat) : Int) := by rw [← a1]; exact .arc ha (by omega) (by omega) (hds.2.2 h5)
          rw [e] at hb
          have := hb.self h hρ (by rw [← e]; exact h5) (by omega) (by omega) (by omega) (by omega)
          rw [← e] at this; omega
      · rfl
theorem Hd.upTo {l : List (List Evt)} {h q k : Nat} {v : List Lab} (hd : Hd l h q k v) : ∀ d, Hd l (h + d) q k v
  | 0 => hd
  | d + 1 => (Hd.upTo hd d).up
theorem hd_all {n B : Nat} {p : Pat} {l : List (List Evt)} (h : PatG n B p) (hL : LOK n p l) {ρ : Int → Int → Nat} (hρ : RankG n B p.lens p.arcs ρ) : ∀ (r q k : Nat), q < n → k ≤ rl l q → rkI ρ q k ≤ r → ∃ hh v, Hd l hh q k v := by
  have hll := hL.ll
  intro r
  induction r using Nat.strongRecOn with
  | ind r ih =>
    intro q k hq hk hr
    have hrow := hL.row hq
    cases k with
    | zero => exact ⟨0, _, .zero (by omega)⟩
    | succ k =>
      have hlt : rkI ρ q k < rkI ρ q ((k + 1 : Nat) : Int) := by
        unfold rkI
        rw [if_neg (show ¬ (((k + 1 : Nat) : Int) = 0) by omega)]
        split
        · omega
        · have := hρ.up q k (by omega) (by omega) (by omega) (by omega)
          rw [show (k : Int) + 1 = ((k + 1 : Nat) : Int) by omega] at this; omega
      obtain ⟨h1, v, hv⟩ := ih _ (by omega) q k hq (by omega) (Nat.le_refl _)
      by_cases e : (ev_ l q k).kind = 1
      · obtain ⟨a, ha, a1, a2, a3, a4, _⟩ := hL.r1 q k hq (by omega) e
        have hag := h.arc a ha
        have f0 := hag.fr.1; have f1 := hag.fr.2; have x0 := hag.ix.1; have x1 := hag.ix.2
        have hrf := hL.row (q := a.fr.toNat) (by omega)
        rw [Int.toNat_of_nonneg f0] at hrf
        have hlt2 : rkI ρ (a.fr.toNat : Int) (a.ix.toNat : Int) < rkI ρ q ((k + 1 : Nat) : Int) := by
          rw [Int.toNat_of_nonneg f0, Int.toNat_of_nonneg x0]
          unfold rkI
          rw [if_neg (show ¬ (((k + 1 : Nat) : Int) = 0) by omega)]
          split
          · omega
          · rename_i hx
            have := hρ.arc a ha (by omega) hx
            rw [a1, a2, show (k : Int) + 1 = ((k + 1 : Nat) : Int) by omega] at this; omega
        obtain ⟨h2, u, hu⟩ := ih _ (by omega) a.fr.toNat a.ix.toNat (by omega) (by omega) (Nat.le_refl _)
        refine ⟨h1 + h2 + 1, _, .recv (hv.upTo h2) (by omega) e (u := u) ?_⟩
        rw [a3, a4, Nat.add_comm h1 h2]; exact hu.upTo h1
      · exact ⟨h1 + 1, _, .tick hv (by omega) e⟩
theorem full_cons {n B : Nat} {p : Pat} {l : List (List Evt)} (h : PatG n B p) (hL : LOK n p l) : ConsP l (fullC l) := by
  have hll := hL.ll
  have hfl : (fullC l).length = n := by rw [fullC_length]; exact hll
  have hfq : ∀ q : Int, 0 ≤ q → q < n → nI (fullC l) q = nI p.lens q := fun q h0 h1 => by
    obtain ⟨k, rfl⟩ := Int.eq_ofNat_of_zero_le h0
    rw [nI_full]; exact hL.row (by omega)
  refine (consP_iff hL h.arc).2 ⟨⟨hfl, fun q hq => ?_⟩, fun a ha => orph_not.2 fun ⟨_, _, h3⟩ => ?_⟩
  · rw [hfq q (by omega) (by omega)]; exact ⟨(h.nI_rng q).1, Int.le_refl _⟩
  · have hag := h.arc a ha
    rw [hfq _ hag.fr.1 hag.fr.2] at h3
    have := hag.ix.2; omega
end Go.Mine
