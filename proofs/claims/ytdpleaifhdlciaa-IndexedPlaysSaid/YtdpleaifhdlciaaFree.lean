/- Plain: a pattern that grows event by event stays possible. -/
import Derived.Test.YtdpleaifhdlciaaP16
set_option linter.unusedSimpArgs false
set_option linter.unusedVariables false
namespace Go.Mine
/-- the arc that an event received -/
def srcOf (p : Pat) (r : Nat) (k : Int) : Option Arc := if recvE p r k < 0 then none else some (nth p.arcs (recvE p r k).toNat)
theorem canB_iff {p : Pat} {x : List Int} {q : Nat} : canB p x q = true ↔ nth x q < nth p.lens q ∧ ∀ a, srcOf p q (nth x q + 1) = some a → a.ix ≤ nth x a.fr.toNat := by
  unfold canB srcOf
  simp only [Bool.and_eq_true, Bool.not_eq_true', decide_eq_false_iff_not, Bool.or_eq_true, decide_eq_true_eq]
  constructor
  · rintro ⟨h1, h2⟩
    refine ⟨by omega, fun a ha => ?_⟩
    split at ha
    · cases ha
    · cases ha
      rcases h2 with h2 | h2
      · omega
      · exact h2
  · rintro ⟨h1, h2⟩
    refine ⟨by omega, ?_⟩
    by_cases hn : recvE p q (nth x q + 1) < 0
    · exact .inl hn
    · exact .inr (h2 _ (by rw [if_neg hn]))
theorem srcOf_some {p : Pat} {r : Nat} {k : Int} {a : Arc} (h : srcOf p r k = some a) : ∃ i, i < p.arcs.length ∧ nth p.arcs i = a ∧ a.to = r ∧ a.rcv = k ∧ 0 < k := by
  unfold srcOf at h
  split at h
  · cases h
  · rename_i hn
    cases h
    rcases findR_cases p.arcs.length (fun i => decide (0 < k) && (nth p.arcs i).to == (r : Int) && (nth p.arcs i).rcv == k) with ⟨h1, _⟩ | ⟨i, h1, h2, h3, _⟩
    · exact absurd (show recvE p r k < 0 by rw [recvE, h1]; decide) hn
    · simp at h3
      refine ⟨i, h2, ?_, ?_⟩
      · rw [recvE, h1]; simp
      · rw [recvE, h1]; simp; exact ⟨h3.1.2, h3.2, h3.1.1⟩
theorem Free.step {p p' : Pat} {q : Nat} (hq : q < p.lens.length) (hneg : 0 ≤ nth p.lens q) (hl : p'.lens = p.lens.set q (nth p.lens q + 1))
    (hsame : ∀ r k a, r < p.lens.length → 1 ≤ k → k ≤ nth p.lens r → srcOf p' r k = some a → ∃ a', srcOf p r k = some a' ∧ a'.fr = a.fr ∧ a'.ix = a.ix)
    (hnew : ∀ a, srcOf p' q (nth p.lens q + 1) = some a → a.ix ≤ nth p.lens a.fr.toNat) (h : Free p) : Free p' := by
  have hlen : p'.lens.length = p.lens.length := by rw [hl]; simp
  have hL : ∀ r, nth p'.lens r = if r = q then nth p.lens q + 1 else nth p.lens r := fun r => by rw [hl, nth_set' hq]
  have hLq : nth p'.lens q = nth p.lens q + 1 := by rw [hL, if_pos rfl]
  have hLr : ∀ r, r ≠ q → nth p'.lens r = nth p.lens r := fun r hr => by rw [hL, if_neg hr]
  intro x hx1 hx2 hx3 hst
  rw [hlen] at hx1 hx2 hx3 hst ⊢
  have key : ∀ (y : List Int) (r : Nat), r < p.lens.length → canB p y r = true → nth x r = nth y r → 0 ≤ nth y r → (∀ s, nth y s ≤ nth x s) → canB p' x r = true := by
    intro y r hr hc hxy h0 hle
    obtain ⟨h1, h2⟩ := canB_iff.1 hc
    refine canB_iff.2 ⟨?_, fun a ha => ?_⟩
    · by_cases hrq : r = q
      · subst hrq; omega
      · rw [hLr r hrq]; omega
    · obtain ⟨a', h3, h4, h5⟩ := hsame r _ a hr (by omega) (by omega) ha
      have := h2 a' (by rw [← hxy]; exact h3)
      rw [h4, h5] at this
      exact Int.le_trans this (hle _)
  by_cases hc : nth x q ≤ nth p.lens q
  · have hfull := h x hx1 hx2 (fun r hr => by
      by_cases hrq : r = q
      · subst hrq; exact hc
      · rw [← hLr r hrq]; exact hx3 r hr) (fun r hr => by
      cases hcan : canB p x r
      · rfl
      · have := hst r hr
        rw [key x r hr hcan rfl (hx2 r hr) (fun _ => Int.le_refl _)] at this; cases this)
    have : canB p' x q = true := by
      refine canB_iff.2 ⟨by rw [hLq, hfull q hq]; omega, fun a ha => ?_⟩
      rw [hfull q hq] at ha
      have h1 := hnew a ha
      rcases Nat.lt_or_ge a.fr.toNat p.lens.length with h2 | h2
      · rw [hfull _ h2]; exact h1
      · have e1 : nth p.lens a.fr.toNat = nth x a.fr.toNat := by simp [nth, h2, hx1]
        rw [← e1]; exact h1
    rw [hst q hq] at this; cases this
  · have hxq : nth x q = nth p.lens q + 1 := by have := hx3 q hq; omega
    have hyq : nth (x.set q (nth p.lens q)) q = nth p.lens q := by rw [nth_set' (by omega), if_pos rfl]
    have hyr : ∀ r, r ≠ q → nth (x.set q (nth p.lens q)) r = nth x r := fun r hr => by rw [nth_set' (by omega), if_neg hr]
    have hle : ∀ s, nth (x.set q (nth p.lens q)) s ≤ nth x s := fun s => by
      by_cases hs : s = q
      · subst hs; omega
      · rw [hyr s hs]; exact Int.le_refl _
    have hfull := h (x.set q (nth p.lens q)) (by simpa using hx1) (fun r hr => by
      by_cases hrq : r = q
      · subst hrq; omega
      · rw [hyr r hrq]; exact hx2 r hr) (fun r hr => by
      by_cases hrq : r = q
      · subst hrq; omega
      · rw [hyr r hrq, ← hLr r hrq]; exact hx3 r hr) (fun r hr => by
      cases hcan : canB p (x.set q (nth p.lens q)) r
      · rfl
      · have hne : r ≠ q := by
          rintro rfl
          have := (canB_iff.1 hcan).1
          omega
        have := key _ r hr hcan (hyr r hne).symm (by rw [hyr r hne]; exact hx2 r hr) hle
        rw [hst r hr] at this; cases this)
    intro r hr
    by_cases hrq : r = q
    · subst hrq; omega
    · rw [hLr r hrq, ← hfull r hr, hyr r hrq]
theorem findR_congr {n : Nat} {f g : Nat → Bool} (h : ∀ i, i < n → f i = g i) : findR n f = findR n g := by
  rcases findR_cases n g with ⟨h1, h2⟩ | ⟨k, h1, h2, h3, h4⟩
  · rw [h1]; exact findR_none fun i hi => by rw [h i hi]; exact h2 i hi
  · rw [h1]; exact findR_hit h2 (fun i hi => by rw [h i (by omega)]; exact h4 i hi) (by rw [h k h2]; exact h3)
theorem findR_succ {n : Nat} {f g : Nat → Bool} (h : ∀ i, i < n → f i = g i) (hn : f n = false) : findR (n + 1) f = findR n g := by
  rcases findR_cases n g with ⟨h1, h2⟩ | ⟨k, h1, h2, h3, h4⟩
  · rw [h1]; exact findR_none fun i hi => by
      rcases Nat.lt_or_ge i n with hlt | hge
      · rw [h i hlt]; exact h2 i hlt
      · obtain rfl : i = n := by omega
        exact hn
  · rw [h1]; exact findR_hit (by omega) (fun i hi => by rw [h i (by omega)]; exact h4 i hi) (by rw [h k h2]; exact h3)
theorem nth_append_left {α : Type} [Inhabited α] {l m : List α} {i : Nat} (h : i < l.length) : nth (l ++ m) i = nth l i := by simp [nth, List.getElem?_append_left h]
theorem nth_append_self {α : Type} [Inhabited α] {l : List α} {x : α} : nth (l ++ [x]) l.length = x := by simp [nth]
theorem take_nth {α : Type} [Inhabited α] {l : List α} {j : Nat} (h : j < l.length) : l.take (j + 1) = l.take j ++ [nth l j] := by rw [List.take_succ_eq_append_getElem h, nth_eq h]
/-- a new arc that was not received -/
theorem srcOf_push {p : Pat} {L : List Int} {C : List (List Int)} {a : Arc} (ha : a.rcv = 0) (r : Nat) (k : Int) : srcOf ⟨L, C, p.arcs ++ [a]⟩ r k = srcOf p r k := by
  have e : recvE ⟨L, C, p.arcs ++ [a]⟩ r k = recvE p r k := by
    unfold recvE
    simp only [List.length_append, List.length_cons, List.length_nil]
    refine findR_succ (fun i hi => by rw [nth_append_left hi]) ?_
    rw [nth_append_self, ha]
    simp; omega
  unfold srcOf
  rw [e]
  split
  · rfl
  · rename_i hn
    have := recvE_lt p r k
    show some (nth (p.arcs ++ [a]) _) = _
    rw [nth_append_left (by omega)]
/-- an arc that was not received is received -/
theorem srcOf_set {p : Pat} {L : List Int} {C : List (List Int)} {j : Nat} {a b : Arc} (hj : j < p.arcs.length) (hb0 : (nth p.arcs j).rcv = 0) {r : Nat} {k : Int} (hk : ¬ (b.to = r ∧ b.rcv = k)) (hk1 : 1 ≤ k)
    (h : srcOf ⟨L, C, p.arcs.set j b⟩ r k = some a) : srcOf p r k = some a := by
  have e : recvE ⟨L, C, p.arcs.set j b⟩ r k = recvE p r k := by
    unfold recvE
    simp only [List.length_set]
    refine findR_congr fun i hi => ?_
    rw [nth_set' hj]
    by_cases hij : i = j
    · subst hij
      rw [if_pos rfl, hb0]
      have h1 : (decide (0 < k) && b.to == (r : Int) && b.rcv == k) = false := by
        cases hx : (decide (0 < k) && b.to == (r : Int) && b.rcv == k)
        · rfl
        · simp at hx; exact absurd ⟨hx.1.2, hx.2⟩ hk
      rw [h1]; simp; omega
    · rw [if_neg hij]
  unfold srcOf at h ⊢
  rw [e] at h
  split at h
  · cases h
  · rename_i hn
    rw [if_neg hn, ← h]
    show _ = some (nth (p.arcs.set j b) _)
    rcases findR_cases p.arcs.length (fun i => decide (0 < k) && (nth p.arcs i).to == (r : Int) && (nth p.arcs i).rcv == k) with ⟨h1, _⟩ | ⟨i, h1, h2, h3, _⟩
    · exact absurd (show recvE p r k < 0 by rw [recvE, h1]; decide) hn
    · have e2 : recvE p r k = i := by rw [recvE, h1]
      have hij : ¬ i = j := by
        rintro rfl
        simp [hb0] at h3; omega
      rw [e2, nth_set' hj, if_neg (by simpa using hij)]
end Go.Mine
