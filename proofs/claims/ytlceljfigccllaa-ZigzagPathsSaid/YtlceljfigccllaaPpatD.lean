/- A pattern that lies before us: a closed check that it is good. -/
import Derived.Test.YtlceljfigccllaaP20a
set_option linter.unusedSimpArgs false
set_option linter.unusedVariables false
namespace Go.Mine
open Go.RowKit
/-! a pattern that lies before us -/
def rkL (ρ : List (List Nat)) (q k : Int) : Nat := (ρ[q.toNat]?.getD [])[k.toNat]?.getD 0
structure PatD (n B : Nat) (p : Pat) (ρ : List (List Nat)) : Prop where
  len : p.lens.length = n
  ck : p.ckpts.length = n
  rng : ∀ x ∈ p.lens, 0 ≤ x ∧ x ≤ B
  row : ∀ q : Nat, q < n → (ckR p q)[0]? = some 0 ∧ (ckR p q).Pairwise (· < ·) ∧ ∀ y ∈ ckR p q, y ≤ nI p.lens q
  wid : ∀ r ∈ p.ckpts, r.length ≤ B + 1
  arc : ∀ a ∈ p.arcs, (0 ≤ a.fr ∧ a.fr < n) ∧ (0 ≤ a.to ∧ a.to < n) ∧ a.fr ≠ a.to ∧ (0 ≤ a.ix ∧ a.ix ≤ nI p.lens a.fr) ∧ (0 ≤ a.rcv ∧ a.rcv ≤ nI p.lens a.to)
  al : p.arcs.length ≤ 4 * B
  uniq : p.arcs.Pairwise fun a b => a.rcv ≠ 0 → ¬ (a.to = b.to ∧ a.rcv = b.rcv)
  top : ∀ r ∈ ρ, ∀ x ∈ r, x ≤ B
  up : ∀ q : Nat, q < n → ∀ k : Nat, k < B → (1 ≤ k ∧ (k : Int) + 1 ≤ nI p.lens q) → rkL ρ q k < rkL ρ q ((k : Int) + 1)
  rk : ∀ a ∈ p.arcs, a.rcv ≠ 0 → a.ix ≠ 0 → rkL ρ a.fr a.ix < rkL ρ a.to a.rcv
def patD (n B : Nat) (p : Pat) (ρ : List (List Nat)) : Bool :=
  decide (p.lens.length = n) && decide (p.ckpts.length = n) && decide (∀ x ∈ p.lens, 0 ≤ x ∧ x ≤ B) && decide (∀ q : Nat, q < n → (ckR p q)[0]? = some 0 ∧ (ckR p q).Pairwise (· < ·) ∧ ∀ y ∈ ckR p q, y ≤ nI p.lens q) &&
  decide (∀ r ∈ p.ckpts, r.length ≤ B + 1) && decide (∀ a ∈ p.arcs, (0 ≤ a.fr ∧ a.fr < n) ∧ (0 ≤ a.to ∧ a.to < n) ∧ a.fr ≠ a.to ∧ (0 ≤ a.ix ∧ a.ix ≤ nI p.lens a.fr) ∧ (0 ≤ a.rcv ∧ a.rcv ≤ nI p.lens a.to)) &&
  decide (p.arcs.length ≤ 4 * B) && decide (p.arcs.Pairwise fun a b => a.rcv ≠ 0 → ¬ (a.to = b.to ∧ a.rcv = b.rcv)) && decide (∀ r ∈ ρ, ∀ x ∈ r, x ≤ B) &&
  decide (∀ q : Nat, q < n → ∀ k : Nat, k < B → (1 ≤ k ∧ (k : Int) + 1 ≤ nI p.lens q) → rkL ρ q k < rkL ρ q ((k : Int) + 1)) && decide (∀ a ∈ p.arcs, a.rcv ≠ 0 → a.ix ≠ 0 → rkL ρ a.fr a.ix < rkL ρ a.to a.rcv)
theorem PatD.of {n B : Nat} {p : Pat} {ρ : List (List Nat)} (h : patD n B p ρ = true) : PatD n B p ρ := by
  unfold patD at h
  simp only [Bool.and_eq_true, decide_eq_true_eq] at h
  obtain ⟨⟨⟨⟨⟨⟨⟨⟨⟨⟨h1, h2⟩, h3⟩, h4⟩, h5⟩, h6⟩, h7⟩, h8⟩, h9⟩, h10⟩, h11⟩ := h
  exact ⟨h1, h2, h3, h4, h5, h6, h7, h8, h9, h10, h11⟩
theorem PatD.g {n B : Nat} {p : Pat} {ρ : List (List Nat)} (h : PatD n B p ρ) : PatG n B p := by
  have hrk : ∀ q k, rkL ρ q k ≤ B := fun q k => by
    unfold rkL
    cases e : ρ[q.toNat]? with
    | none => simp
    | some r =>
      simp only [Option.getD_some]
      cases e2 : r[k.toNat]? with
      | none => simp
      | some x => simpa using h.top r (List.mem_of_getElem? e) x (List.mem_of_getElem? e2)
  refine ⟨h.len, h.ck, h.rng, fun q r x hr hx => ?_, h.wid, fun a ha => ?_, h.al, h.uniq, rkL ρ, hrk, fun q k h0 h1 h2 h3 => ?_, h.rk⟩
  · have hq : q < n := by have := (List.getElem?_eq_some_iff.1 hr).1; have := h.ck; omega
    obtain ⟨a1, a2, a3⟩ := h.row q hq
    have e1 : ckR p q = r := by simp [ckR, hr]
    have e2 : nI p.lens q = x := nI_some (by simpa using hx)
    rw [e1] at a1 a2 a3; rw [e2] at a3
    exact ⟨a1, a2, a3⟩
  · obtain ⟨a1, a2, a3, a4, a5⟩ := h.arc a ha; exact ⟨a1, a2, a3, a4, a5⟩
  · obtain ⟨q', rfl⟩ := Int.eq_ofNat_of_zero_le h0
    obtain ⟨k', rfl⟩ := Int.eq_ofNat_of_zero_le (show (0 : Int) ≤ k by omega)
    have hb : nI p.lens (q' : Int) ≤ B := by
      unfold nI
      cases e : p.lens[(q' : Int).toNat]? with
      | none => simp
      | some y => simpa using (h.rng y (List.mem_of_getElem? e)).2
    exact h.up q' (by omega) k' (by omega) ⟨by omega, h3⟩
end Go.Mine
