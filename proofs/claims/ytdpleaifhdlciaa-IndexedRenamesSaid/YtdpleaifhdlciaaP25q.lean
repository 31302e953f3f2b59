/- Plain: a script without its checkpoints makes the same events and messages (chapter 25). -/
import Derived.Test.YtdpleaifhdlciaaP25
set_option linter.unusedVariables false
namespace Go.Mine
section
variable {c d : Comp} {n q : Nat}
theorem ckpt_same (c : Comp) (q : Nat) (f : Bool) : (c.checkpoint q f).lens = c.lens ∧ (c.checkpoint q f).arcs = c.arcs ∧ (c.checkpoint q f).fly = c.fly ∧ (c.checkpoint q f).now = c.now := by
  unfold Comp.checkpoint; split <;> exact ⟨rfl, rfl, rfl, rfl⟩
/-- c with checkpoints, d without -/
structure Quiet (c d : Comp) (n : Nat) : Prop where
  lens : d.lens = c.lens
  arcs : d.arcs = c.arcs
  fly : d.fly.map (·.arc) = c.fly.map (·.arc)
  nowc : c.now.length = n
  now : d.now.length = n
  zero : ∀ q, nth d.now q = 0
  still : ∀ l ∈ d.fly, l.clock = 0
  ckpts : d.ckpts = List.replicate n [0]
theorem Quiet.start : Quiet (Comp.start n) (Comp.start n) n := by
  refine ⟨rfl, rfl, rfl, by simp [Comp.start], by simp [Comp.start], fun q => ?_, fun l hl => by simp [Comp.start] at hl, rfl⟩
  simp only [Comp.start, nth, List.getD_eq_getElem?_getD, List.getElem?_replicate]
  split <;> rfl
theorem Quiet.tick {a : Int} (h : Quiet c d n) : Quiet (c.tick a) d n := by
  unfold Comp.tick
  split
  · obtain ⟨h1, h2, h3, h4⟩ := ckpt_same (c.bump a.toNat) a.toNat false
    exact ⟨h.lens.trans h1.symm, h.arcs.trans h2.symm, by rw [h3]; exact h.fly, by rw [h4]; simpa [Comp.bump] using h.nowc, h.now, h.zero, h.still, h.ckpts⟩
  · exact h
theorem Quiet.send {fr to : Int} (h : Quiet c d n) : Quiet (c.send fr to) (d.send fr to) n := by
  unfold Comp.send
  rw [h.now, h.nowc, h.lens, h.arcs]
  split
  · exact h
  · exact ⟨rfl, rfl, by simp [h.fly], h.nowc, h.now, h.zero, fun l hl => by
      rcases List.mem_append.1 hl with hl | hl
      · exact h.still l hl
      · simp at hl; subst hl; exact h.zero _, h.ckpts⟩
theorem nth_map {α β : Type} [Inhabited α] [Inhabited β] {f : α → β} {l : List α} {i : Nat} (h : i < l.length) : nth (l.map f) i = f (nth l i) := by
  rw [nth_eq (by simpa using h), nth_eq h]; simp
theorem Quiet.receive {pl : Int} (h : Quiet c d n) : Quiet (c.receive pl) (d.receive pl) n := by
  have hlen : d.fly.length = c.fly.length := by have := congrArg List.length h.fly; simpa using this
  unfold Comp.receive
  rw [hlen]
  split
  · exact h
  · rename_i hb
    have hp : pl.toNat < c.fly.length := by simp at hb; omega
    have ha : (nth d.fly pl.toNat).arc = (nth c.fly pl.toNat).arc := by
      rw [← nth_map (f := Letter.arc) (by omega), ← nth_map (f := Letter.arc) hp, h.fly]
    rw [ha, h.lens, h.arcs]
    split
    · exact h
    · have hz : (nth d.fly pl.toNat).clock = 0 := h.still _ (nth_mem (by omega))
      have hd : (d.took pl.toNat).raised (nth c.arcs (nth c.fly pl.toNat).arc.toNat).to.toNat (nth d.fly pl.toNat).clock = d.took pl.toNat := by
        rw [Comp.raised]; exact if_neg (by show ¬ nth d.now _ < _; rw [h.zero, hz]; decide)
      rw [hd]
      have hc : ((c.took pl.toNat).raised (nth c.arcs (nth c.fly pl.toNat).arc.toNat).to.toNat (nth c.fly pl.toNat).clock).lens = c.lens ∧ ((c.took pl.toNat).raised (nth c.arcs (nth c.fly pl.toNat).arc.toNat).to.toNat (nth c.fly pl.toNat).clock).arcs = c.arcs ∧
          ((c.took pl.toNat).raised (nth c.arcs (nth c.fly pl.toNat).arc.toNat).to.toNat (nth c.fly pl.toNat).clock).fly = (c.took pl.toNat).fly ∧ ((c.took pl.toNat).raised (nth c.arcs (nth c.fly pl.toNat).arc.toNat).to.toNat (nth c.fly pl.toNat).clock).now.length = n := by
        unfold Comp.raised
        split
        · obtain ⟨h1, h2, h3, h4⟩ := ckpt_same { c.took pl.toNat with now := (c.took pl.toNat).now.set (nth c.arcs (nth c.fly pl.toNat).arc.toNat).to.toNat (nth c.fly pl.toNat).clock } (nth c.arcs (nth c.fly pl.toNat).arc.toNat).to.toNat true
          exact ⟨h1, h2, h3, by rw [h4]; simpa [Comp.took] using h.nowc⟩
        · exact ⟨rfl, rfl, rfl, h.nowc⟩
      generalize (c.took pl.toNat).raised (nth c.arcs (nth c.fly pl.toNat).arc.toNat).to.toNat (nth c.fly pl.toNat).clock = e at hc
      obtain ⟨h1, h2, h3, h4⟩ := hc
      refine ⟨?_, ?_, ?_, h4, h.now, h.zero, fun l hl => h.still l ?_, h.ckpts⟩
      · simp only [Comp.got, Comp.took, h1, h.lens]
      · simp only [Comp.got, Comp.took, h1, h2, h.lens, h.arcs]
      · show (d.took pl.toNat).fly.map _ = e.fly.map _
        rw [h3]
        simp only [Comp.took, List.map_append, List.map_take, List.map_drop, h.fly]
      · simp only [Comp.got, Comp.took] at hl
        rcases List.mem_append.1 hl with hl | hl
        · exact List.mem_of_mem_take hl
        · exact List.mem_of_mem_drop hl
theorem Quiet.run (l : List Deed) : Quiet (Comp.run n l) (Comp.run n (l.filter fun a => a.kind != 3)) n := by
  suffices H : ∀ (l : List Deed) (c d : Comp), Quiet c d n → Quiet (l.foldl Comp.deed c) ((l.filter fun a => a.kind != 3).foldl Comp.deed d) n from H l _ _ Quiet.start
  intro l
  induction l with
  | nil => exact fun c d h => h
  | cons a l ih =>
    intro c d h
    by_cases hk : a.kind = 3
    · rw [List.filter_cons_of_neg (by simp [hk])]
      refine ih _ _ ?_
      rw [Comp.deed, if_neg (by omega), if_neg (by omega), if_pos hk]
      exact h.tick
    · rw [List.filter_cons_of_pos (by simp [hk])]
      refine ih _ _ ?_
      unfold Comp.deed
      split
      · exact h.send
      · split
        · exact h.receive
        · exact h
end
end Go.Mine
