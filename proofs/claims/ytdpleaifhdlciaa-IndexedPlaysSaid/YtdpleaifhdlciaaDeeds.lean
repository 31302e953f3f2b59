/- The acts of a script, in memory and as plain steps of a computation (chapter 25). -/
import Derived.Test.YtdpleaifhdlciaaComp
import Derived.Test.YtdpleaifhdlciaaActs
set_option linter.unusedSimpArgs false
namespace Go.Mine
open Go.RowKit

theorem nth_set {α : Type} [Inhabited α] {l : List α} {q i : Nat} {x : α} (h : q < l.length) : nth (l.set q x) i = if i = q then x else nth l i := by
  by_cases hi : i = q
  · subst hi; simp [nth, h]
  · simp [nth, hi, List.getElem?_set_ne (Ne.symm hi)]
theorem nth_mem {α : Type} [Inhabited α] {l : List α} {i : Nat} (h : i < l.length) : nth l i ∈ l := by rw [nth_eq h]; simp
def Comp.start (n : Nat) : Comp := ⟨List.replicate n 0, List.replicate n [0], [], List.replicate n [0], List.replicate n [false], List.replicate n 0, []⟩
def Comp.bump (c : Comp) (q : Nat) : Comp := { c with now := c.now.set q (nth c.now q + 1) }
def Comp.tick (c : Comp) (q : Int) : Comp := if decide (0 ≤ q) && decide (q < c.now.length) then (c.bump q.toNat).checkpoint q.toNat false else c
def Comp.deed (c : Comp) (a : Deed) : Comp := if a.kind = 1 then c.send a.proc a.other else if a.kind = 2 then c.receive a.other else if a.kind = 3 then c.tick a.proc else c
def Comp.run (n : Nat) (l : List Deed) : Comp := l.foldl Comp.deed (Comp.start n)

/-- what the walk needs: lists that fit together, small numbers, letters that name arcs -/
structure Comp.Inv (c : Comp) (n r m : Nat) : Prop where
  good : c.Good n
  lens : ∀ q, q < n → 0 ≤ nth c.lens q ∧ nth c.lens q ≤ 64
  rows : ∀ q, q < n → (nth c.ckpts q).length ≤ r
  now : ∀ q, q < n → 0 ≤ nth c.now q ∧ nth c.now q ≤ m
  arcs : c.arcs.length ≤ m
  fly : c.fly.length ≤ m
  letters : ∀ l ∈ c.fly, 0 ≤ l.arc ∧ l.arc < c.arcs.length ∧ 0 ≤ l.clock ∧ l.clock ≤ m
  tos : ∀ a ∈ c.arcs, 0 ≤ a.to ∧ a.to < n
section
variable {c : Comp} {n r m r' m' : Nat}
theorem Comp.Inv.mono (h : c.Inv n r m) (hr : r ≤ r') (hm : m ≤ m') : c.Inv n r' m' :=
  ⟨h.good, h.lens, fun q hq => Nat.le_trans (h.rows q hq) hr, fun q hq => by have := h.now q hq; omega, by have := h.arcs; omega, by have := h.fly; omega, fun l hl => by have := h.letters l hl; omega, h.tos⟩
theorem Comp.Inv.start : (Comp.start n).Inv n 1 0 := by
  have e : ∀ {α : Type} [Inhabited α] (x : α) (q : Nat), q < n → nth (List.replicate n x) q = x := fun x q hq => by simp [nth, hq]
  refine ⟨⟨by simp [Comp.start], by simp [Comp.start], by simp [Comp.start], by simp [Comp.start], by simp [Comp.start], fun q hq => ?_⟩, fun q hq => ?_, fun q hq => ?_, fun q hq => ?_, by simp [Comp.start], by simp [Comp.start], by simp [Comp.start], by simp [Comp.start]⟩
  · simp [Comp.start, e _ q hq]
  · simp [Comp.start, e _ q hq]
  · simp [Comp.start, e _ q hq]
  · simp [Comp.start, e _ q hq]
theorem Comp.Inv.ckpt {q : Nat} {f : Bool} (h : c.Inv n r m) (hr : r ≤ 999) (hq : q < n) : (c.checkpoint q f).Inv n (r + 1) m := by
  obtain ⟨g1, g2, g3, g4, g5⟩ := checkpoint_good (f := f) h.good (fun q hq => Nat.le_trans (h.rows q hq) hr) hq
  refine ⟨g1, by rw [g2]; exact h.lens, fun i hi => ?_, by rw [g4]; exact h.now, by rw [g3]; exact h.arcs, by rw [g5]; exact h.fly, by rw [g5, g3]; exact h.letters, by rw [g3]; exact h.tos⟩
  have := h.rows i hi
  have e := h.good.ckpts
  unfold Comp.checkpoint
  split
  · exact Nat.le_succ_of_le this
  · show (nth (c.ckpts.set q _) i).length ≤ r + 1
    rw [nth_set (by omega)]
    split
    · subst i; simp; omega
    · omega
theorem Comp.Inv.setNow {q : Nat} {x : Int} (h : c.Inv n r m) (hx : 0 ≤ x ∧ x ≤ m) (hq : q < n) : ({ c with now := c.now.set q x } : Comp).Inv n r m := by
  have e := h.good.now
  refine ⟨⟨h.good.lens, h.good.ckpts, h.good.clocks, h.good.forced, by simpa using e, h.good.rows⟩, h.lens, h.rows, fun i hi => ?_, h.arcs, h.fly, h.letters, h.tos⟩
  show 0 ≤ nth (c.now.set q x) i ∧ nth (c.now.set q x) i ≤ m
  rw [nth_set (by omega)]
  split
  · exact hx
  · exact h.now i hi
theorem Comp.Inv.tick {q : Int} (h : c.Inv n r m) (hr : r ≤ 999) : (c.tick q).Inv n (r + 1) (m + 1) := by
  unfold Comp.tick
  have e := h.good.now
  split
  · rename_i hb
    have hq : q.toNat < n := by simp at hb; omega
    have := h.now q.toNat hq
    exact ((h.mono (Nat.le_refl _) (Nat.le_succ m)).setNow (by omega) hq).ckpt hr hq
  · exact h.mono (by omega) (by omega)
theorem Comp.Inv.send {fr to : Int} (h : c.Inv n r m) : (c.send fr to).Inv n r (m + 1) := by
  unfold Comp.send
  have e := h.good.now; have e2 := h.good.lens
  split
  · exact h.mono (by omega) (by omega)
  · rename_i hb
    have hc : 0 ≤ fr ∧ fr < n ∧ 0 ≤ to ∧ to < n ∧ nth c.lens fr.toNat < 64 := by simp at hb; omega
    have hl := h.lens fr.toNat (by omega)
    refine ⟨⟨by simpa using e2, h.good.ckpts, h.good.clocks, h.good.forced, e, h.good.rows⟩, fun i hi => ?_, h.rows, fun i hi => ?_, ?_, ?_, fun l hl => ?_, fun a ha => ?_⟩
    · show 0 ≤ nth (c.lens.set _ _) i ∧ nth (c.lens.set _ _) i ≤ 64
      rw [nth_set (by omega)]
      split
      · omega
      · exact h.lens i hi
    · have : 0 ≤ nth c.now i ∧ nth c.now i ≤ m := h.now i hi
      show 0 ≤ nth c.now i ∧ nth c.now i ≤ ((m + 1 : Nat) : Int)
      omega
    · have := h.arcs; simp; omega
    · have := h.fly; simp; omega
    · have ha := h.arcs
      have hn := h.now fr.toNat (by omega)
      simp at hl
      rcases hl with hl | rfl
      · have := h.letters l hl; simp; omega
      · simp; omega
    · simp at ha
      rcases ha with ha | rfl
      · exact h.tos a ha
      · exact ⟨by simp; omega, by simp; omega⟩
theorem Comp.Inv.receive {pl : Int} (h : c.Inv n r m) (hr : r ≤ 999) : (c.receive pl).Inv n (r + 1) m := by
  unfold Comp.receive
  have e2 := h.good.lens
  split
  · exact h.mono (by omega) (by omega)
  · rename_i hb
    have hp : pl.toNat < c.fly.length := by simp at hb; omega
    have hl := h.letters _ (nth_mem hp)
    have ht := h.tos _ (nth_mem (show (nth c.fly pl.toNat).arc.toNat < c.arcs.length by omega))
    generalize nth c.fly pl.toNat = l at hl ht ⊢
    split
    · exact h.mono (by omega) (by omega)
    · rename_i h64
      obtain ⟨q, hq⟩ : ∃ q : Nat, (nth c.arcs l.arc.toNat).to.toNat = q := ⟨_, rfl⟩
      have hqn : q < n := by omega
      rw [hq] at h64 ⊢
      have h1 : (c.took pl.toNat).Inv n r m := by
        have hf := h.fly
        refine ⟨⟨e2, h.good.ckpts, h.good.clocks, h.good.forced, h.good.now, h.good.rows⟩, h.lens, h.rows, h.now, h.arcs, ?_, fun l hl => ?_, h.tos⟩
        · simp [Comp.took]; omega
        · refine h.letters l ?_
          simp [Comp.took] at hl
          rcases hl with hl | hl
          · exact List.mem_of_mem_take hl
          · exact List.mem_of_mem_drop hl
      have h2 : ((c.took pl.toNat).raised q l.clock).Inv n (r + 1) m ∧ ((c.took pl.toNat).raised q l.clock).lens = c.lens ∧ ((c.took pl.toNat).raised q l.clock).arcs = c.arcs := by
        unfold Comp.raised
        split
        · have h3 := h1.setNow (x := l.clock) ⟨by omega, by omega⟩ hqn
          have h4 := checkpoint_good (f := true) h3.good (fun q hq => Nat.le_trans (h.rows q hq) hr) hqn
          exact ⟨h3.ckpt hr hqn, h4.2.1, h4.2.2.1⟩
        · exact ⟨h1.mono (by omega) (by omega), rfl, rfl⟩
      obtain ⟨h3, hel, hea⟩ := h2
      generalize (c.took pl.toNat).raised q l.clock = d at h3 hel hea
      have e3 := h3.good.lens
      refine ⟨⟨by simpa [Comp.got] using e3, h3.good.ckpts, h3.good.clocks, h3.good.forced, h3.good.now, h3.good.rows⟩, fun i hi => ?_, h3.rows, h3.now, by simpa [Comp.got] using h3.arcs, h3.fly, fun l hl => ?_, fun a ha => ?_⟩
      · show 0 ≤ nth (d.lens.set _ _) i ∧ nth (d.lens.set _ _) i ≤ 64
        rw [nth_set (by omega)]
        have := h3.lens q hqn
        rw [← hel] at h64
        split
        · omega
        · exact h3.lens i hi
      · have := h3.letters l hl; simpa [Comp.got] using this
      · simp only [Comp.got] at ha
        rcases List.mem_or_eq_of_mem_set ha with ha | rfl
        · exact h3.tos a ha
        · have := h3.tos _ (nth_mem (show l.arc.toNat < d.arcs.length by rw [hea]; omega)); exact this
theorem Comp.Inv.deed {a : Deed} (h : c.Inv n r m) (hr : r ≤ 999) : (c.deed a).Inv n (r + 1) (m + 1) := by
  unfold Comp.deed
  split
  · exact h.send.mono (by omega) (Nat.le_refl _)
  · split
    · exact (h.receive hr).mono (Nat.le_refl _) (by omega)
    · split
      · exact h.tick hr
      · exact h.mono (by omega) (by omega)
theorem Comp.Inv.run {l : List Deed} (hl : l.length ≤ 900) : (Comp.run n l).Inv n (l.length + 1) l.length := by
  suffices H : ∀ (l : List Deed) (c : Comp) (r m : Nat), c.Inv n r m → r + l.length ≤ 950 → (l.foldl Comp.deed c).Inv n (r + l.length) (m + l.length) by
    have := H l _ 1 0 (Comp.Inv.start (n := n)) (by omega)
    exact this.mono (by omega) (by omega)
  intro l
  induction l with
  | nil => intro c r m h _; exact h
  | cons a l ih =>
    intro c r m h hr
    have := ih (c.deed a) (r + 1) (m + 1) (h.deed (by simp at hr; omega)) (by simp at hr; omega)
    exact this.mono (by simp; omega) (by simp; omega)
theorem foldl_take {α β : Type} {f : β → α → β} {b : β} {l : List α} {k : Nat} (h : k < l.length) : (l.take (k + 1)).foldl f b = f ((l.take k).foldl f b) l[k] := by
  rw [List.take_succ_eq_append_getElem h, List.foldl_append]; rfl
end
end Go.Mine
