/- Happened-before and clocks, plain. -/
import Derived.Test.YtbmjcbhappjnaaaA17
import Derived.Test.YtbmjcbhappjnaaaPchk
import Derived.Test.YtbmjcbhappjnaaaP18a
set_option linter.unusedSimpArgs false
set_option linter.unusedVariables false
namespace Go.Mine
open Go.RowKit
/-- index j of process s lies in the past of index k of process q -/
inductive Hb (arcs : List Arc) (s j : Int) : Int → Int → Prop
  | same {k : Int} : j ≤ k → Hb arcs s j s k
  | arc {a : Arc} {k : Int} : a ∈ arcs → a.rcv ≠ 0 → a.rcv ≤ k → Hb arcs s j a.fr a.ix → Hb arcs s j a.to k
theorem Hb.mono {arcs : List Arc} {s j q k : Int} (h : Hb arcs s j q k) {k' : Int} (hk : k ≤ k') : Hb arcs s j q k' := by
  cases h with
  | same h1 => exact .same (Int.le_trans h1 hk)
  | arc h1 h2 h3 h4 => exact .arc h1 h2 (Int.le_trans h3 hk) h4
theorem Hb.le {arcs : List Arc} {s j j' q k : Int} (h : Hb arcs s j q k) (hj : j' ≤ j) : Hb arcs s j' q k := by
  induction h with
  | same h1 => exact .same (Int.le_trans hj h1)
  | arc h1 h2 h3 _ ih => exact .arc h1 h2 h3 ih
theorem Hb.zero {n B : Nat} {p : Pat} (h : PatG n B p) {s j q : Int} (hb : Hb p.arcs s j q 0) : j ≤ 0 := by
  cases hb with
  | same h5 => exact h5
  | arc b1 b2 b3 b4 => have := (h.arc _ b1).rcv.1; omega
section
variable {n B : Nat} {p : Pat} (h : PatG n B p) {ρ : Int → Int → Nat} (hρ : RankG n B p.lens p.arcs ρ)
include hρ
theorem rho_mono {q k : Int} (h0 : 0 ≤ q) (h1 : q < n) (hk : 1 ≤ k) : ∀ d : Nat, k + d ≤ nI p.lens q → ρ q k + d ≤ ρ q (k + d)
  | 0, _ => by simp
  | d + 1, hd => by
    have := rho_mono h0 h1 hk d (by omega)
    have h2 := hρ.up q (k + d) h0 h1 (by omega) (by omega)
    rw [show k + ((d + 1 : Nat) : Int) = k + d + 1 by omega]; omega
include h
theorem Hb.rank {s j q k : Int} (hb : Hb p.arcs s j q k) (hj : 1 ≤ j) (hs0 : 0 ≤ s) (hs1 : s < n) (hk : k ≤ nI p.lens q) : ρ s j ≤ ρ q k ∧ j ≤ nI p.lens s := by
  have key : ∀ (q : Int) (i k : Int), 0 ≤ q → q < n → 1 ≤ i → i ≤ k → k ≤ nI p.lens q → ρ q i ≤ ρ q k := fun q i k h0 h1 hi hik hk => by
    obtain ⟨d, hd⟩ := Int.eq_ofNat_of_zero_le (show 0 ≤ k - i by omega)
    have := rho_mono hρ h0 h1 hi d (by omega)
    rw [show i + (d : Int) = k by omega] at this; omega
  induction hb with
  | same h1 => exact ⟨key s j _ hs0 hs1 hj h1 hk, by omega⟩
  | @arc a k ha h2 h3 hb' ih =>
    have hag := h.arc a ha
    obtain ⟨i1, i2⟩ := ih hag.ix.2
    have hix : a.ix ≠ 0 := fun e => by
      rw [e] at hb'
      have := hb'.zero h; omega
    have := hρ.arc a ha h2 hix
    have h6 := key a.to a.rcv k hag.to.1 hag.to.2 (by have := hag.rcv.1; omega) h3 hk
    exact ⟨by omega, i2⟩
theorem Hb.self {q j k : Int} (hb : Hb p.arcs q j q k) (hj : 1 ≤ j) (h0 : 0 ≤ q) (h1 : q < n) (hk : k ≤ nI p.lens q) (hk1 : 0 ≤ k) : j ≤ k := by
  rcases Int.lt_or_le k j with hlt | hle
  · exfalso
    obtain ⟨r1, r2⟩ := hb.rank h hρ hj h0 h1 hk
    rcases Int.lt_or_le 0 k with hp | hp
    · obtain ⟨d, hd⟩ := Int.eq_ofNat_of_zero_le (show 0 ≤ j - k by omega)
      have := rho_mono hρ h0 h1 (show 1 ≤ k by omega) d (by omega)
      rw [show k + (d : Int) = j by omega] at this
      omega
    · have : k = 0 := by omega
      subst this
      cases hb with
      | same h5 => omega
      | arc b1 b2 b3 b4 => have := (h.arc _ b1).rcv.1; omega
  · exact hle
end
/-- a clock -/
def ClkS (n : Nat) (arcs : List Arc) (q k : Int) (c : List Int) : Prop := c.length = n ∧ ∀ s : Nat, s < n → 0 ≤ nI c s ∧ (∀ j : Int, 1 ≤ j → Hb arcs s j q k → j ≤ nI c s) ∧ (1 ≤ nI c s → Hb arcs s (nI c s) q k)
theorem ClkS.uniq {n : Nat} {arcs : List Arc} {q k : Int} {c d : List Int} (h : ClkS n arcs q k c) (h' : ClkS n arcs q k d) : c = d := by
  refine list_ext_nI (by rw [h.1, h'.1]) fun s hs => ?_
  obtain ⟨a1, a2, a3⟩ := h.2 s (by rw [h.1] at hs; exact hs)
  obtain ⟨b1, b2, b3⟩ := h'.2 s (by rw [h.1] at hs; exact hs)
  rcases Int.lt_trichotomy (nI c s) (nI d s) with hlt | he | hlt
  · have := a2 _ (by omega) (b3 (by omega)); omega
  · exact he
  · have := b2 _ (by omega) (a3 (by omega)); omega
theorem ClkS.zero {n B : Nat} {p : Pat} (h : PatG n B p) {q : Int} : ClkS n p.arcs q 0 (List.replicate n 0) := by
  refine ⟨by simp, fun s hs => ?_⟩
  have : nI (List.replicate n (0 : Int)) s = 0 := by simp [nI, hs]
  rw [this]
  exact ⟨Int.le_refl _, fun j hj hb => hb.zero h, fun h => by omega⟩
/-- the clock of an event: that of the one before it, and that of the message -/
theorem ClkS.step {n B : Nat} {p : Pat} (h : PatG n B p) {q k : Int} (h0 : 0 ≤ q) (h1 : q < n) (hk : 1 ≤ k) (hkl : k ≤ nI p.lens q) {c1 c2 c : List Int} (g1 : ClkS n p.arcs q (k - 1) c1)
    (g2 : (∃ a ∈ p.arcs, a.rcv ≠ 0 ∧ a.to = q ∧ a.rcv = k ∧ ClkS n p.arcs a.fr a.ix c2) ∨ ((∀ a ∈ p.arcs, a.rcv ≠ 0 → ¬ (a.to = q ∧ a.rcv = k)) ∧ ∀ s : Nat, s < n → nI c2 s = 0))
    (hl : c.length = n) (hc : ∀ s : Nat, s < n → nI c s = if (s : Int) = q then k else max (nI c1 s) (nI c2 s)) : ClkS n p.arcs q k c := by
  obtain ⟨ρ, hρ⟩ := h.rank
  refine ⟨hl, fun s hs => ?_⟩
  rw [hc s hs]
  by_cases e : (s : Int) = q
  · rw [if_pos e]
    subst e
    exact ⟨by omega, fun j hj hb => hb.self h hρ hj h0 h1 hkl (by omega), fun _ => .same (Int.le_refl _)⟩
  · rw [if_neg e]
    obtain ⟨a1, a2, a3⟩ := g1.2 s hs
    refine ⟨by omega, fun j hj hb => ?_, fun hm => ?_⟩
    · cases hb with
      | same _ => exact absurd rfl e
      | @arc a _ ha hr hrk hb' =>
        rcases Int.lt_or_le a.rcv k with hlt | hge
        · have := a2 j hj (.arc ha hr (by omega) hb'); omega
        · rcases g2 with ⟨b, hb1, hb2, hb3, hb4, hb5⟩ | ⟨hn, _⟩
          · have hab : a = b := by
              have huq := h.uniq
              obtain ⟨i, hi, hie⟩ := List.getElem_of_mem ha
              obtain ⟨i', hi', hie'⟩ := List.getElem_of_mem hb1
              rcases Nat.lt_trichotomy i i' with h5 | h5 | h5
              · exfalso
                have := List.pairwise_iff_getElem.1 huq i i' hi hi' h5
                rw [hie, hie'] at this
                exact this hr ⟨hb3.symm, by omega⟩
              · subst h5; rw [← hie, ← hie']
              · exfalso
                have := List.pairwise_iff_getElem.1 huq i' i hi' hi h5
                rw [hie, hie'] at this
                exact this hb2 ⟨hb3, by omega⟩
            subst hab
            have := (hb5.2 s hs).2.1 j hj hb'; omega
          · exact absurd ⟨rfl, by omega⟩ (hn a ha hr)
    · rcases Int.le_total (nI c1 s) (nI c2 s) with hle | hle
      · rw [Int.max_eq_right hle] at hm ⊢
        rcases g2 with ⟨b, hb1, hb2, hb3, hb4, hb5⟩ | ⟨_, hz⟩
        · have := (hb5.2 s hs).2.2 hm
          rw [← hb3]
          exact .arc hb1 hb2 (by omega) this
        · rw [hz s hs] at hm; omega
      · rw [Int.max_eq_left hle] at hm ⊢
        exact (a3 hm).mono (by omega)
/-! the code's clocks -/
end Go.Mine
