/- Plain: renamed processes make the renamed history (chapter 25). -/
import Derived.Test.YtdpleaifhdlciaaP25q
set_option linter.unusedVariables false
namespace Go.Mine
/-- the renaming of a number of a process -/
def renQ (n k x : Int) : Int := if 0 ≤ x ∧ x < n then (x + k) % n else x
def renD (n k : Int) (a : Deed) : Deed := ⟨a.kind, if a.kind ≠ 2 then renQ n k a.proc else a.proc, if a.kind = 1 then renQ n k a.other else a.other⟩
structure Per (σ : Nat → Nat) (n : Nat) : Prop where
  lt : ∀ q, q < n → σ q < n
  inj : ∀ q r, q < n → r < n → σ q = σ r → q = r
/-- lists by process -/
structure RL {α : Type} [Inhabited α] (σ : Nat → Nat) (n : Nat) (l l' : List α) : Prop where
  len : l.length = n
  len' : l'.length = n
  at_ : ∀ q, q < n → nth l' (σ q) = nth l q
section
variable {σ : Nat → Nat} {n q : Nat}
theorem RL.set {α : Type} [Inhabited α] {l l' : List α} (h : RL σ n l l') (hp : Per σ n) (hq : q < n) (x : α) : RL σ n (l.set q x) (l'.set (σ q) x) := by
  have h1 := h.len; have h2 := h.len'; have h3 := hp.lt q hq
  refine ⟨by simpa using h1, by simpa using h2, fun r hr => ?_⟩
  rw [nth_set' (by omega), nth_set' (by omega)]
  by_cases hrq : r = q
  · subst hrq; rw [if_pos rfl, if_pos rfl]
  · rw [if_neg hrq, if_neg fun he => hrq (hp.inj r q hr hq he)]; exact h.at_ r hr
theorem RL.replicate {α : Type} [Inhabited α] (hp : Per σ n) (x : α) : RL σ n (List.replicate n x) (List.replicate n x) :=
  ⟨by simp, by simp, fun q hq => by have := hp.lt q hq; simp [nth, hq, this]⟩
def renA (σ : Nat → Nat) (a : Arc) : Arc := ⟨σ a.fr.toNat, a.ix, σ a.to.toNat, a.rcv⟩
structure Ren (σ : Nat → Nat) (n : Nat) (c d : Comp) : Prop where
  lens : RL σ n c.lens d.lens
  ckpts : RL σ n c.ckpts d.ckpts
  clocks : RL σ n c.clocks d.clocks
  forced : RL σ n c.forced d.forced
  now : RL σ n c.now d.now
  arcs : d.arcs = c.arcs.map (renA σ)
  fly : d.fly = c.fly
variable {c d : Comp}
theorem Ren.start (hp : Per σ n) : Ren σ n (Comp.start n) (Comp.start n) := ⟨.replicate hp _, .replicate hp _, .replicate hp _, .replicate hp _, .replicate hp _, rfl, rfl⟩
theorem Ren.checkpoint (hp : Per σ n) (h : Ren σ n c d) (hq : q < n) (f : Bool) : Ren σ n (c.checkpoint q f) (d.checkpoint (σ q) f) := by
  unfold Comp.checkpoint
  rw [h.ckpts.at_ q hq, h.lens.at_ q hq, h.clocks.at_ q hq, h.now.at_ q hq, h.forced.at_ q hq]
  split
  · exact ⟨h.lens, h.ckpts, h.clocks.set hp hq _, h.forced, h.now, h.arcs, h.fly⟩
  · exact ⟨h.lens, h.ckpts.set hp hq _, h.clocks.set hp hq _, h.forced.set hp hq _, h.now, h.arcs, h.fly⟩
theorem Ren.tick (hp : Per σ n) (h : Ren σ n c d) {x y : Int} (hxy : (0 ≤ x ∧ x < n → y = σ x.toNat) ∧ (¬ (0 ≤ x ∧ x < n) → y = x)) : Ren σ n (c.tick x) (d.tick y) := by
  unfold Comp.tick
  rw [h.now.len, h.now.len']
  by_cases hx : 0 ≤ x ∧ x < n
  · have hq : x.toNat < n := by omega
    have h1 := hp.lt _ hq
    have hy := hxy.1 hx
    rw [if_pos (by simp; omega), if_pos (by simp; omega)]
    have e : y.toNat = σ x.toNat := by omega
    rw [e]
    refine Ren.checkpoint (c := c.bump x.toNat) (d := d.bump (σ x.toNat)) hp ⟨h.lens, h.ckpts, h.clocks, h.forced, ?_, h.arcs, h.fly⟩ hq false
    show RL σ n (c.now.set x.toNat _) (d.now.set (σ x.toNat) _)
    rw [h.now.at_ _ hq]
    exact h.now.set hp hq _
  · have hy := hxy.2 hx
    subst hy
    rw [if_neg (by simp; omega), if_neg (by simp; omega)]
    exact h
theorem Ren.send (hp : Per σ n) (h : Ren σ n c d) {x y x' y' : Int} (hx : (0 ≤ x ∧ x < n → x' = σ x.toNat) ∧ (¬ (0 ≤ x ∧ x < n) → x' = x)) (hy : (0 ≤ y ∧ y < n → y' = σ y.toNat) ∧ (¬ (0 ≤ y ∧ y < n) → y' = y)) : Ren σ n (c.send x y) (d.send x' y') := by
  by_cases hx1 : 0 ≤ x ∧ x < n
  case neg =>
    have e1 := hx.2 hx1; subst e1
    have g1 : c.send x' y = c := by
      unfold Comp.send; rw [if_pos]; rw [h.now.len]; simp; omega
    have g2 : d.send x' y' = d := by
      unfold Comp.send; rw [if_pos]; rw [h.now.len']; simp; omega
    rw [g1, g2]; exact h
  by_cases hy1 : 0 ≤ y ∧ y < n
  case neg =>
    have e1 := hy.2 hy1; subst e1
    have g1 : c.send x y' = c := by
      unfold Comp.send; rw [if_pos]; rw [h.now.len]; simp; omega
    have g2 : d.send x' y' = d := by
      unfold Comp.send; rw [if_pos]; rw [h.now.len']; simp; omega
    rw [g1, g2]; exact h
  have e1 := hx.1 hx1; have e2 := hy.1 hy1
  obtain ⟨f, rfl⟩ := Int.eq_ofNat_of_zero_le hx1.1
  obtain ⟨t, rfl⟩ := Int.eq_ofNat_of_zero_le hy1.1
  rw [Int.toNat_natCast] at e1 e2
  subst e1; subst e2
  have hf : f < n := by omega
  have ht : t < n := by omega
  have l1 := hp.lt f hf; have l2 := hp.lt t ht
  unfold Comp.send
  rw [h.now.len, h.now.len']
  have k1 : (decide (0 ≤ (f : Int)) && decide ((f : Int) < n)) = true := by simp; omega
  have k2 : (decide (0 ≤ (t : Int)) && decide ((t : Int) < n)) = true := by simp; omega
  have k3 : (decide (0 ≤ ((σ f : Nat) : Int)) && decide (((σ f : Nat) : Int) < n)) = true := by simp; omega
  have k4 : (decide (0 ≤ ((σ t : Nat) : Int)) && decide (((σ t : Nat) : Int) < n)) = true := by simp; omega
  have k5 : (((σ f : Nat) : Int) == ((σ t : Nat) : Int)) = ((f : Int) == (t : Int)) := by
    by_cases hft : f = t
    · subst hft; simp
    · have : σ f ≠ σ t := fun he => hft (hp.inj f t hf ht he)
      rw [beq_false_of_ne (by omega), beq_false_of_ne (by omega)]
  simp only [Int.toNat_natCast, h.lens.at_ f hf, h.now.at_ f hf, k1, k2, k3, k4, k5]
  split
  · exact h
  · refine ⟨h.lens.set hp hf _, h.ckpts, h.clocks, h.forced, h.now, ?_, ?_⟩
    · simp only [h.arcs, List.map_append, List.map_cons, List.map_nil, renA, Int.toNat_natCast]
    · simp only [h.fly, h.arcs, List.length_map]
theorem Ren.receive (hp : Per σ n) (h : Ren σ n c d) (hw : c.Wf n) {pl : Int} : Ren σ n (c.receive pl) (d.receive pl) := by
  unfold Comp.receive
  rw [h.fly]
  split
  · exact h
  · rename_i hb
    have hpl : pl.toNat < c.fly.length := by simp at hb; omega
    obtain ⟨h1, h2, h3, h4⟩ := hw.fly _ (nth_mem hpl)
    obtain ⟨fr, to, g1, g2, g5, g6, g7, g8, g9, g10, g11⟩ := hw.arc _ h2
    have ha : nth d.arcs (nth c.fly pl.toNat).arc.toNat = renA σ (nth c.arcs (nth c.fly pl.toNat).arc.toNat) := by
      rw [h.arcs]; exact nth_map h2
    have hto : (nth d.arcs (nth c.fly pl.toNat).arc.toNat).to.toNat = σ to := by rw [ha]; simp [renA, g2]
    rw [hto, g2, Int.toNat_natCast, h.lens.at_ to g6]
    split
    · exact h
    · have ht : Ren σ n (c.took pl.toNat) (d.took pl.toNat) := ⟨h.lens, h.ckpts, h.clocks, h.forced, h.now, h.arcs, by simp [Comp.took, h.fly]⟩
      have hr : Ren σ n ((c.took pl.toNat).raised to (nth c.fly pl.toNat).clock) ((d.took pl.toNat).raised (σ to) (nth c.fly pl.toNat).clock) := by
        unfold Comp.raised
        rw [ht.now.at_ to g6]
        split
        · exact Ren.checkpoint (c := { c.took pl.toNat with now := (c.took pl.toNat).now.set to (nth c.fly pl.toNat).clock }) (d := { d.took pl.toNat with now := (d.took pl.toNat).now.set (σ to) (nth c.fly pl.toNat).clock }) hp ⟨ht.lens, ht.ckpts, ht.clocks, ht.forced, ht.now.set hp g6 _, ht.arcs, ht.fly⟩ g6 true
        · exact ht
      have hre : ((c.took pl.toNat).raised to (nth c.fly pl.toNat).clock).arcs = c.arcs := by
        unfold Comp.raised
        split
        · exact (ckpt_same _ _ _).2.1
        · rfl
      generalize (c.took pl.toNat).raised to (nth c.fly pl.toNat).clock = e at hr hre
      generalize (d.took pl.toNat).raised (σ to) (nth c.fly pl.toNat).clock = e' at hr
      refine ⟨?_, hr.ckpts, hr.clocks, hr.forced, hr.now, ?_, hr.fly⟩
      · show RL σ n (e.lens.set to _) (e'.lens.set (σ to) _)
        rw [hr.lens.at_ to g6]; exact hr.lens.set hp g6 _
      · show e'.arcs.set _ _ = (e.arcs.set _ _).map (renA σ)
        rw [hr.lens.at_ to g6, List.map_set, hr.arcs, nth_map (by rw [hre]; exact h2)]
        rfl
theorem Ren.run (hp : Per σ n) (k : Int) (hσ : ∀ q : Nat, q < n → (((q : Int) + k) % (n : Int)) = σ q) (l : List Deed) : Ren σ n (Comp.run n l) (Comp.run n (l.map (renD n k))) := by
  have hQ : ∀ x : Int, (0 ≤ x ∧ x < n → renQ n k x = σ x.toNat) ∧ (¬ (0 ≤ x ∧ x < n) → renQ n k x = x) := fun x => ⟨fun hx => by
    rw [renQ, if_pos hx, ← hσ x.toNat (by omega), Int.toNat_of_nonneg hx.1], fun hx => by rw [renQ, if_neg hx]⟩
  suffices H : ∀ (l : List Deed) (c d : Comp), c.Wf n → Ren σ n c d → Ren σ n (l.foldl Comp.deed c) ((l.map (renD n k)).foldl Comp.deed d) from H l _ _ Comp.Wf.start (Ren.start hp)
  intro l
  induction l with
  | nil => exact fun c d _ h => h
  | cons a l ih =>
    intro c d hw h
    refine ih _ _ hw.deed ?_
    unfold Comp.deed renD
    dsimp only
    by_cases h1 : a.kind = 1
    · rw [if_pos h1, if_pos h1, if_pos (by omega), if_pos h1]
      exact h.send hp (hQ _) (hQ _)
    · rw [if_neg h1, if_neg h1, if_neg h1]
      by_cases h2 : a.kind = 2
      · rw [if_pos h2, if_pos h2]
        exact h.receive hp hw
      · rw [if_neg h2, if_neg h2, if_pos h2]
        split
        · exact h.tick hp (hQ _)
        · exact h
end
end Go.Mine
