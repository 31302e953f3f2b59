/- Drawn patterns, plain: what is true of every pattern that is made event by event. -/
import Derived.Test.YtbmjcbhappjnaaaA16r
import Derived.Test.YtbmjcbhappjnaaaPmk
set_option linter.unusedSimpArgs false
set_option linter.unusedVariables false
namespace Go.Mine
open Go.RowKit
structure ArcG (n : Nat) (lens : List Int) (a : Arc) : Prop where
  fr : 0 ≤ a.fr ∧ a.fr < n
  to : 0 ≤ a.to ∧ a.to < n
  ne : a.fr ≠ a.to
  ix : 0 ≤ a.ix ∧ a.ix ≤ nI lens a.fr
  rcv : 0 ≤ a.rcv ∧ a.rcv ≤ nI lens a.to
/-- checkpoints of a process with x events -/
structure CkG (r : List Int) (x : Int) : Prop where
  zero : r[0]? = some 0
  asc : r.Pairwise (· < ·)
  le : ∀ y ∈ r, y ≤ x
/-- ranks: no event must come behind itself -/
structure RankG (n B : Nat) (lens : List Int) (arcs : List Arc) (ρ : Int → Int → Nat) : Prop where
  top : ∀ (q k : Int), ρ q k ≤ B
  up : ∀ (q k : Int), 0 ≤ q → q < n → 1 ≤ k → k + 1 ≤ nI lens q → ρ q k < ρ q (k + 1)
  arc : ∀ a ∈ arcs, a.rcv ≠ 0 → a.ix ≠ 0 → ρ a.fr a.ix < ρ a.to a.rcv
structure PatG (n B : Nat) (p : Pat) : Prop where
  len : p.lens.length = n
  ck : p.ckpts.length = n
  rng : ∀ x ∈ p.lens, 0 ≤ x ∧ x ≤ B
  row : ∀ (q : Nat) (r : List Int) (x : Int), p.ckpts[q]? = some r → p.lens[q]? = some x → CkG r x
  wid : ∀ r ∈ p.ckpts, r.length ≤ B + 1
  arc : ∀ a ∈ p.arcs, ArcG n p.lens a
  al : p.arcs.length ≤ 4 * B
  uniq : p.arcs.Pairwise fun a b => a.rcv ≠ 0 → ¬ (a.to = b.to ∧ a.rcv = b.rcv)
  rank : ∃ ρ, RankG n B p.lens p.arcs ρ
theorem PatG.mono {n B C : Nat} {p : Pat} (h : PatG n B p) (hc : B ≤ C) : PatG n C p := by
  obtain ⟨ρ, hr⟩ := h.rank
  exact ⟨h.len, h.ck, fun x hx => by have := h.rng x hx; omega, h.row, fun r hr => by have := h.wid r hr; omega, h.arc, by have := h.al; omega, h.uniq, ρ, fun q k => by have := hr.top q k; omega, hr.up, hr.arc⟩
theorem CkG.pos {r : List Int} {x : Int} (h : CkG r x) : 0 < r.length := (List.getElem?_eq_some_iff.1 h.zero).1
theorem CkG.nonneg {r : List Int} {x : Int} (h : CkG r x) : ∀ y ∈ r, 0 ≤ y := by
  intro y hy
  obtain ⟨i, hi, rfl⟩ := List.getElem_of_mem hy
  obtain ⟨h0, h1⟩ := List.getElem?_eq_some_iff.1 h.zero
  rcases Nat.eq_zero_or_pos i with rfl | hp
  · omega
  · have := List.pairwise_iff_getElem.1 h.asc 0 i h0 hi hp; omega
theorem CkG.last {r : List Int} {x : Int} (h : CkG r x) {y : Int} (hy : r[r.length - 1]? = some y) : ∀ z ∈ r, z ≤ y := by
  intro z hz
  obtain ⟨i, hi, rfl⟩ := List.getElem_of_mem hz
  obtain ⟨h0, rfl⟩ := List.getElem?_eq_some_iff.1 hy
  rcases Nat.lt_or_ge i (r.length - 1) with hl | hl
  · have := List.pairwise_iff_getElem.1 h.asc i (r.length - 1) hi h0 hl; omega
  · have : i = r.length - 1 := by omega
    subst this; exact Int.le_refl _
theorem CkG.snoc {r : List Int} {x : Int} (h : CkG r x) {y : Int} (hy : r[r.length - 1]? = some y) (hne : y ≠ x) : CkG (r ++ [x]) x := by
  have hl := h.last hy
  have hyx := h.le y (List.mem_of_getElem? hy)
  refine ⟨by rw [List.getElem?_append_left h.pos]; exact h.zero, ?_, fun z hz => ?_⟩
  · rw [List.pairwise_append]
    exact ⟨h.asc, List.pairwise_singleton _ _, fun a ha b hb => by simp at hb; subst hb; have := hl a ha; omega⟩
  · rcases List.mem_append.1 hz with hz | hz
    · exact h.le z hz
    · simp at hz; omega
theorem CkG.up {r : List Int} {x y : Int} (h : CkG r x) (hxy : x ≤ y) : CkG r y := ⟨h.zero, h.asc, fun z hz => by have := h.le z hz; omega⟩
theorem PatG.nI_rng {n B : Nat} {p : Pat} (h : PatG n B p) (q : Int) : 0 ≤ nI p.lens q ∧ nI p.lens q ≤ B := by
  unfold nI
  cases e : p.lens[q.toNat]? with
  | none => simp
  | some w => have := h.rng w (List.mem_of_getElem? e); simpa using this
/-- a checkpoint more -/
theorem PatG.mark {n B : Nat} {p : Pat} (h : PatG n B p) {q : Nat} {r : List Int} {x y : Int} (hr : p.ckpts[q]? = some r) (hx : p.lens[q]? = some x) (hy : r[r.length - 1]? = some y) (hne : y ≠ x) : PatG n (B + 1) ⟨p.lens, p.ckpts.set q (r ++ [x]), p.arcs⟩ := by
  have hq : q < p.ckpts.length := (List.getElem?_eq_some_iff.1 hr).1
  have h1 := h.mono (Nat.le_succ B)
  refine ⟨h1.len, by simp [h.ck], h1.rng, fun q' r' x' hr' hx' => ?_, fun r' hr' => ?_, h1.arc, h1.al, h1.uniq, h1.rank⟩
  · rw [getElem?_set' hq] at hr'
    split at hr'
    · rename_i e; subst e; cases hr'; rw [hx] at hx'; cases hx'; exact (h.row q' r x hr hx).snoc hy hne
    · exact h.row q' r' x' hr' hx'
  · rcases mem_set hr' with h5 | rfl
    · have := h.wid r' h5; omega
    · have := h.wid r (List.mem_of_getElem? hr); simp; omega
/-- an event more -/
theorem PatG.event {n B : Nat} {p : Pat} (h : PatG n B p) {q : Nat} {x : Int} (hx : p.lens[q]? = some x) (ars : List Arc) (hal : ars.length ≤ 1)
    (ha : ∀ a ∈ ars, (0 ≤ a.fr ∧ a.fr < n) ∧ a.fr ≠ a.to ∧ a.to = q ∧ (0 ≤ a.ix ∧ a.ix ≤ nI p.lens a.fr) ∧ a.rcv = x + 1) : PatG n (B + 1) ⟨p.lens.set q (x + 1), p.ckpts, p.arcs ++ ars⟩ := by
  have hq : q < p.lens.length := (List.getElem?_eq_some_iff.1 hx).1
  have hn := h.len
  have hxr := h.rng x (List.mem_of_getElem? hx)
  have hxn : nI p.lens (q : Int) = x := nI_some (by simpa using hx)
  have hset : ∀ j : Int, 0 ≤ j → nI (p.lens.set q (x + 1)) j = if j = q then x + 1 else nI p.lens j := fun j hj => by
    have := nI_set (xs := p.lens) (i := (q : Int)) (j := j) (x := x + 1) (by omega) (by omega) hj
    simpa using this
  have hge : ∀ j : Int, 0 ≤ j → nI p.lens j ≤ nI (p.lens.set q (x + 1)) j := fun j hj => by
    rw [hset j hj]; split
    · rename_i e; subst e; omega
    · omega
  obtain ⟨ρ, hr⟩ := h.rank
  have hold : ∀ a ∈ p.arcs, ArcG n (p.lens.set q (x + 1)) a := fun a h5 => by
    obtain ⟨a1, a2, a3, a4, a5⟩ := h.arc a h5
    exact ⟨a1, a2, a3, ⟨a4.1, Int.le_trans a4.2 (hge _ a1.1)⟩, ⟨a5.1, Int.le_trans a5.2 (hge _ a2.1)⟩⟩
  refine ⟨by simp [h.len], h.ck, fun z hz => ?_, fun q' r' x' hr' hx' => ?_, fun r hr => by have := h.wid r hr; omega, fun a h5 => ?_, ?_, ?_, fun q' k' => if q' = q ∧ k' = x + 1 then B + 1 else ρ q' k', fun q' k' => ?_, fun q' k' h0 h1 h2 h3 => ?_, fun a h5 h6 h7 => ?_⟩
  · rcases mem_set hz with h7 | rfl
    · have := h.rng z h7; omega
    · omega
  · rw [getElem?_set' hq] at hx'
    split at hx'
    · rename_i e; subst e; cases hx'; exact (h.row q' r' x hr' hx).up (by omega)
    · exact h.row q' r' x' hr' hx'
  · rcases List.mem_append.1 h5 with h6 | h6
    · exact hold a h6
    · obtain ⟨b1, b2, b3, b4, b5⟩ := ha a h6
      refine ⟨b1, by omega, b2, ⟨b4.1, Int.le_trans b4.2 (hge _ b1.1)⟩, ⟨by omega, ?_⟩⟩
      rw [hset _ (by omega), if_pos b3]; omega
  · have := h.al; simp; omega
  · rw [List.pairwise_append]
    refine ⟨h.uniq, ?_, fun a h5 b h6 _ h8 => ?_⟩
    · match ars, hal with
      | [], _ => exact List.Pairwise.nil
      | [a], _ => exact List.pairwise_singleton _ _
    · obtain ⟨b1, b2, b3, b4, b5⟩ := ha b h6
      have := (h.arc a h5).rcv
      rw [h8.1, b3, hxn] at this
      omega
  · split
    · omega
    · have := hr.top q' k'; omega
  · rw [hset q' h0] at h3
    by_cases e : q' = q
    · subst e
      rw [if_pos rfl] at h3
      rw [if_neg (by omega)]
      split
      · have := hr.top (q : Int) k'; omega
      · exact hr.up _ k' h0 h1 h2 (by rw [hxn]; omega)
    · rw [if_neg e] at h3
      rw [if_neg (by omega), if_neg (by omega)]
      exact hr.up q' k' h0 h1 h2 h3
  · rcases List.mem_append.1 h5 with h8 | h8
    · have a4 := (h.arc a h8).ix; have a5 := (h.arc a h8).rcv
      have e1 : ¬ (a.fr = q ∧ a.ix = x + 1) := fun ⟨e, e'⟩ => by rw [e, hxn] at a4; omega
      have e2 : ¬ (a.to = q ∧ a.rcv = x + 1) := fun ⟨e, e'⟩ => by rw [e, hxn] at a5; omega
      rw [if_neg e1, if_neg e2]
      exact hr.arc a h8 h6 h7
    · obtain ⟨b1, b2, b3, b4, b5⟩ := ha a h8
      rw [if_neg (fun ⟨e, _⟩ => b2 (by omega)), if_pos ⟨b3, b5⟩]
      have := hr.top a.fr a.ix; omega
/-- a message more that is not received -/
theorem PatG.sent {n B : Nat} {p : Pat} (h : PatG n B p) {a : Arc} (hf : 0 ≤ a.fr ∧ a.fr < n) (ht : 0 ≤ a.to ∧ a.to < n) (hne : a.fr ≠ a.to) (hi : 0 ≤ a.ix ∧ a.ix ≤ nI p.lens a.fr) (hr : a.rcv = 0) : PatG n (B + 1) ⟨p.lens, p.ckpts, p.arcs ++ [a]⟩ := by
  have h1 := h.mono (Nat.le_succ B)
  obtain ⟨ρ, hρ⟩ := h1.rank
  refine ⟨h1.len, h1.ck, h1.rng, h1.row, h1.wid, fun b hb => ?_, by have := h.al; simp; omega, ?_, ρ, hρ.top, hρ.up, fun b hb h6 h7 => ?_⟩
  · rcases List.mem_append.1 hb with h6 | h6
    · exact h1.arc b h6
    · simp at h6; subst h6; exact ⟨hf, ht, hne, hi, by omega, by rw [hr]; exact (h.nI_rng _).1⟩
  · rw [List.pairwise_append]
    exact ⟨h.uniq, List.pairwise_singleton _ _, fun b hb c hc h6 h7 => by simp at hc; subst hc; omega⟩
  · rcases List.mem_append.1 hb with h8 | h8
    · exact hρ.arc b h8 h6 h7
    · simp at h8; subst h8; exact absurd hr h6
end Go.Mine
