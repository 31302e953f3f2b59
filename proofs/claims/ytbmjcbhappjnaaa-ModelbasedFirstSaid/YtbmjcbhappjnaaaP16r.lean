/- Plain: which events can come next, by the reference. -/
import Derived.Test.YtbmjcbhappjnaaaA16r
import Derived.Test.YtbmjcbhappjnaaaP17a
set_option linter.unusedSimpArgs false
set_option linter.unusedVariables false
namespace Go.Mine
open Go.RowKit
theorem receivedX_g {n B : Nat} {p : Pat} (h : PatG n B p) (hB : B ≤ 64) {q k : Int} (hk : 0 < k) : Ok (ref16_Received 10000000 p q k) fun r => (r = -1 ∧ ∀ a ∈ p.arcs, ¬ (a.to = q ∧ a.rcv = k)) ∨ ∃ (i : Nat) (a : Arc), r = (i : Int) ∧ p.arcs[i]? = some a ∧ a.to = q ∧ a.rcv = k := by
  have hal := h.al
  unfold ref16_Received
  refine Ok.bind (Q := fun t => match t with | .inl _ => ∀ a ∈ p.arcs, ¬ (a.to = q ∧ a.rcv = k) | .inr r => ∃ (i : Nat) (a : Arc), r = (i : Int) ∧ p.arcs[i]? = some a ∧ a.to = q ∧ a.rcv = k) (Ok.for_ p.arcs.length (fun i s => s = (i : Int) ∧ ∀ a ∈ p.arcs.take i, ¬ (a.to = q ∧ a.rcv = k)) ⟨rfl, by simp⟩ (by omega) ?_) ?_
  · rintro i s hi ⟨rfl, h1⟩
    unfold ref16_Received_B1
    refine Ok.iteP (fun hil => ?_) (fun hil => Ok.ret ?_)
    · have hil' : i < p.arcs.length := by omega
      rw [ati_get hil', Option.bind_some, andM_some, Option.bind_some, Option.bind_some, andM_some, Option.bind_some]
      refine Ok.ite (fun hc => Ok.ret ?_) (fun hc => Ok.ret ⟨hil', w64_nat (by omega), fun a ha => ?_⟩)
      · simp at hc; exact ⟨i, p.arcs[i], rfl, List.getElem?_eq_getElem hil', hc.1.2, hc.2⟩
      · rw [mem_take_succ', List.getElem?_eq_getElem hil', Option.some.injEq] at ha
        rcases ha with h5 | rfl
        · exact h1 a h5
        · rintro ⟨h6, h7⟩; simp [hk, h6, h7] at hc
    · rw [show i = p.arcs.length by omega, List.take_length] at h1
      exact h1
  · rintro (u | r) ht
    · exact Ok.ret (.inl ⟨rfl, ht⟩)
    · exact Ok.ret (.inr ht)
theorem arc_uniq {n B : Nat} {p : Pat} (h : PatG n B p) {a b : Arc} (ha : a ∈ p.arcs) (hb : b ∈ p.arcs) (hr : a.rcv ≠ 0) (h1 : a.to = b.to) (h2 : a.rcv = b.rcv) : a = b := by
  obtain ⟨i, hi, hie⟩ := List.getElem_of_mem ha
  obtain ⟨j, hj, hje⟩ := List.getElem_of_mem hb
  rcases Nat.lt_trichotomy i j with h5 | h5 | h5
  · exfalso
    have := List.pairwise_iff_getElem.1 h.uniq i j hi hj h5
    rw [hie, hje] at this
    exact this hr ⟨h1, h2⟩
  · subst h5; rw [← hie, ← hje]
  · exfalso
    have := List.pairwise_iff_getElem.1 h.uniq j i hj hi h5
    rw [hie, hje] at this
    exact this (by omega) ⟨h1.symm, h2.symm⟩
/-! the order of the events -/
def CntV (n : Nat) (p : Pat) (c : List Int) : Prop := c.length = n ∧ ∀ q : Nat, q < n → 0 ≤ nI c q ∧ nI c q ≤ nI p.lens q
def CanP (p : Pat) (c : List Int) (q : Int) : Prop := nI c q < nI p.lens q ∧ ∀ a ∈ p.arcs, a.to = q → a.rcv = nI c q + 1 → a.ix ≤ nI c a.fr
theorem can_g {n B : Nat} {p : Pat} (h : PatG n B p) (hB : B ≤ 64) {c : List Int} (hc : CntV n p c) {q : Nat} (hq : q < n) : Ok (ref16_Can 10000000 p c q) fun b => b = true ↔ CanP p c q := by
  have hl := h.len; have hcl := hc.1; have hcq := hc.2 q hq; have hrg := h.nI_rng q
  unfold ref16_Can
  rw [ati_nI (by omega) (by omega), Option.bind_some, ati_nI (by omega) (by omega), Option.bind_some]
  refine Ok.iteP (fun hle => Ok.ret ⟨(fun h5 => by cases h5), fun h5 => by have := h5.1; omega⟩) fun hlt => ?_
  rw [show (⟨p.lens, p.ckpts, p.arcs⟩ : Pat) = p from rfl, Option.bind_some, w64_id (i := nI c q + 1) (by omega) (by omega)]
  refine (receivedX_g h hB (by omega)).bind fun r hr => ?_
  rcases hr with ⟨rfl, hno⟩ | ⟨i, a, rfl, ha, hto, hrc⟩
  · rw [show (decide ((-1 : Int) < 0)) = true from rfl, orM_true, Option.bind_some]
    exact Ok.ret ⟨fun _ => ⟨by omega, fun a ha h1 h2 => absurd ⟨h1, h2⟩ (hno a ha)⟩, fun _ => rfl⟩
  · have hag := h.arc a (List.mem_of_getElem? ha)
    rw [show (decide ((i : Int) < 0)) = false by simp, orM_false, ati_cast, ha]
    simp only [Option.bind_some]
    rw [ati_nI hag.fr.1 (by have := hag.fr.2; omega)]
    simp only [Option.bind_some]
    refine Ok.ret ?_
    rw [decide_eq_true_eq]
    constructor
    · intro h5
      refine ⟨by omega, fun b hb h1 h2 => ?_⟩
      have := arc_uniq h hb (List.mem_of_getElem? ha) (by omega) (h1.trans hto.symm) (h2.trans hrc.symm)
      rw [this]; exact h5
    · intro h5; exact h5.2 a (List.mem_of_getElem? ha) hto hrc
/-- where nothing can happen, all has happened -/
theorem can_none {n B : Nat} {p : Pat} (h : PatG n B p) {c : List Int} (hc : CntV n p c) (hno : ∀ q : Nat, q < n → ¬ CanP p c q) : ∀ q : Nat, q < n → nI c q = nI p.lens q := by
  obtain ⟨ρ, hρ⟩ := h.rank
  have key : ∀ (m q : Nat), q < n → nI c q < nI p.lens q → ¬ ρ q (nI c q + 1) ≤ m := by
    intro m
    induction m using Nat.strongRecOn with
    | ind m ih =>
      intro q hq hlt hle
      refine hno q hq ⟨hlt, fun a ha h1 h2 => ?_⟩
      rcases Int.lt_or_le (nI c a.fr) a.ix with h5 | h5
      · exfalso
        have hag := h.arc a ha
        obtain ⟨f, hf⟩ := Int.eq_ofNat_of_zero_le hag.fr.1
        have hfn : f < n := by have := hag.fr.2; omega
        have hix := hag.ix.2
        rw [hf] at h5 hix
        have hcf := hc.2 f hfn; have hcq := hc.2 q hq
        obtain ⟨d, hd⟩ := Int.eq_ofNat_of_zero_le (show 0 ≤ a.ix - (nI c f + 1) by omega)
        have h6 := rho_mono hρ (q := (f : Int)) (k := nI c f + 1) (by omega) (by omega) (by omega) d (by omega)
        rw [show nI c f + 1 + (d : Int) = a.ix by omega] at h6
        have h7 := hρ.arc a ha (by omega) (by omega)
        rw [hf, h1, h2] at h7
        exact ih (ρ f (nI c f + 1)) (by omega) f hfn (by omega) (Nat.le_refl _)
      · exact h5
  intro q hq
  have := hc.2 q hq
  rcases Int.lt_or_le (nI c q) (nI p.lens q) with h5 | h5
  · exact absurd (Nat.le_refl _) (key _ q hq h5)
  · omega
end Go.Mine
