/- Plain: what holds of every history that the indexed computation makes (chapter 25). -/
import Derived.Test.YtdpleaifhdlciaaW25j
import Derived.Test.YtdpleaifhdlciaaFree
set_option linter.unusedSimpArgs false
set_option linter.unusedVariables false
namespace Go.Mine

theorem nth_snoc {α : Type} [Inhabited α] {l : List α} {x : α} {i : Nat} : nth (l ++ [x]) i = if i = l.length then x else nth l i := by
  by_cases h : i < l.length
  · rw [nth_append_left h, if_neg (by omega)]
  · by_cases h2 : i = l.length
    · subst h2; rw [nth_append_self, if_pos rfl]
    · rw [if_neg h2]; simp [nth, List.getElem?_append_right (show l.length ≤ i by omega), show ¬ i - l.length < 1 by omega, show ¬ i < l.length from h]

/-- the checkpoints, clocks and marks of a process, its length and its clock -/
inductive PO : List Int → List Int → List Bool → Int → Int → Prop
  | start : PO [0] [0] [false] 0 0
  | event {ck cl : List Int} {fo : List Bool} {L t : Int} : PO ck cl fo L t → PO ck cl fo (L + 1) t
  | push {ck cl : List Int} {fo : List Bool} {L t x a : Int} {f : Bool} : PO (ck ++ [a]) (cl ++ [t]) fo L t → a ≠ L → t < x → PO ((ck ++ [a]) ++ [L]) ((cl ++ [t]) ++ [x]) (fo ++ [f]) L x
  | over {ck cl : List Int} {fo : List Bool} {L t x : Int} : PO (ck ++ [L]) (cl ++ [t]) fo L t → t < x → PO (ck ++ [L]) (cl ++ [x]) fo L x
structure POK (ck cl : List Int) (fo : List Bool) (L t : Int) : Prop where
  snoc : ∃ ck' a cl', ck = ck' ++ [a] ∧ cl = cl' ++ [t] ∧ ck'.length = cl'.length ∧ fo.length = ck'.length + 1
  len : 0 ≤ L
  now : 0 ≤ t
  first : nth ck 0 = 0
  asc : ∀ i, 0 < i → i < ck.length → nth ck (i - 1) < nth ck i
  top : ∀ i, i < ck.length → nth ck i ≤ L
  rise : ∀ j, j < cl.length → (j : Int) ≤ nth cl j ∧ (0 < j → nth cl (j - 1) < nth cl j)
  mark : nth fo 0 = false
theorem PO.ok {ck cl : List Int} {fo : List Bool} {L t : Int} (h : PO ck cl fo L t) : POK ck cl fo L t := by
  induction h with
  | start => exact ⟨⟨[], 0, [], rfl, rfl, rfl, rfl⟩, by decide, by decide, rfl, fun i h1 h2 => by simp at h2; omega, fun i hi => by simp at hi; subst hi; decide, fun j hj => by simp at hj; subst hj; exact ⟨by decide, fun h => absurd h (by decide)⟩, rfl⟩
  | event _ ih => exact ⟨ih.snoc, by have := ih.len; omega, ih.now, ih.first, ih.asc, fun i hi => by have := ih.top i hi; omega, ih.rise, ih.mark⟩
  | @push ck cl fo L t x a f _ hne hlt ih =>
    obtain ⟨ck', a', cl', h1, h2, h3, h4⟩ := ih.snoc
    have e1 : ck = ck' ∧ a = a' := by simpa using h1
    have e2 : cl = cl' := by simpa using h2
    obtain ⟨rfl, rfl⟩ := e1
    subst e2
    have ha := ih.top ck.length (by simp)
    rw [nth_append_self] at ha
    refine ⟨⟨ck ++ [a], L, cl ++ [t], rfl, rfl, by simp [h3], by simp [h4]⟩, ih.len, by have := ih.now; omega, ?_, fun i h5 h6 => ?_, fun i hi => ?_, fun j hj => ?_, ?_⟩
    · rw [nth_append_left (by simp)]; exact ih.first
    · simp only [nth_snoc (l := ck ++ [a])]
      simp at h6
      rw [if_neg (by simp; omega)]
      split
      · rename_i h7
        simp at h7; subst h7
        rw [Nat.add_sub_cancel, nth_append_self]; omega
      · rename_i h7; simp at h7
        exact ih.asc i h5 (by simp; omega)
    · simp at hi
      rw [nth_snoc (l := ck ++ [a])]
      split
      · exact Int.le_refl _
      · rename_i h7; simp at h7; exact ih.top i (by simp; omega)
    · simp at hj
      have hlast := (ih.rise cl.length (by simp)).1
      rw [nth_append_self] at hlast
      simp only [nth_snoc (l := cl ++ [t])]
      refine ⟨?_, fun h0 => ?_⟩
      · split
        · rename_i h7; simp at h7; subst h7; omega
        · rename_i h7; simp at h7; exact (ih.rise j (by simp; omega)).1
      · rw [if_neg (show ¬ j - 1 = (cl ++ [t]).length by simp; omega)]
        split
        · rename_i h7; simp at h7; subst h7; rw [Nat.add_sub_cancel, nth_append_self]; exact hlt
        · rename_i h7; simp at h7; exact (ih.rise j (by simp; omega)).2 h0
    · rw [nth_append_left (by omega)]; exact ih.mark
  | @over ck cl fo L t x _ hlt ih =>
    obtain ⟨ck', a', cl', h1, h2, h3, h4⟩ := ih.snoc
    have e1 : ck = ck' ∧ L = a' := by simpa using h1
    have e2 : cl = cl' := by simpa using h2
    obtain ⟨rfl, rfl⟩ := e1
    subst e2
    refine ⟨⟨ck, L, cl, rfl, rfl, h3, h4⟩, ih.len, by have := ih.now; omega, ih.first, ih.asc, ih.top, fun j hj => ?_, ih.mark⟩
    simp at hj
    have h5 := ih.rise j (by simp; omega)
    have h6 := (ih.rise cl.length (by simp)).1
    rw [nth_append_self] at h6
    simp only [nth_snoc (l := cl)] at h5 ⊢
    refine ⟨?_, fun h0 => ?_⟩
    · split
      · rename_i h7; subst h7; omega
      · rename_i h7; rw [if_neg h7] at h5; exact h5.1
    · have h8 := h5.2 h0
      rw [if_neg (by omega)] at h8 ⊢
      split
      · rename_i h7; rw [if_pos h7] at h8; omega
      · rename_i h7; rw [if_neg h7] at h8; exact h8
theorem POK.ckptsB {ck cl : List Int} {fo : List Bool} {L t : Int} (h : POK ck cl fo L t) : ckptsB ck L = true := by
  obtain ⟨ck', a, cl', h1, _⟩ := h.snoc
  have hne : 0 < ck.length := by rw [h1]; simp
  unfold Mine.ckptsB
  have h2 := h.first
  have h3 : allR ck.length (fun i => i == 0 || !(decide (nth ck i ≤ nth ck (i - 1)) || decide (L < nth ck i))) = true := allR_yes fun i hi => by
    rcases Nat.eq_zero_or_pos i with h4 | h4
    · subst h4; rfl
    · have h5 := h.asc i h4 hi
      have h6 := h.top i hi
      simp; right; omega
  rw [h3, h2, show ((ck.length : Int) == 0) = false from beq_false_of_ne (by omega)]
  rfl

/-- the clock of the last checkpoint before an index -/
def befL (ck cl : List Int) (ix : Int) : Int := (ck.zip cl).foldl (fun c p => if p.1 < ix then p.2 else c) 0
theorem befL_snoc {ck cl : List Int} {a b ix : Int} (h : ck.length = cl.length) : befL (ck ++ [a]) (cl ++ [b]) ix = if a < ix then b else befL ck cl ix := by
  unfold befL
  rw [List.zip_append h, List.foldl_append]; rfl
theorem PO.last {ck cl : List Int} {fo : List Bool} {L t ix : Int} (h : PO ck cl fo L t) (hi : L < ix) : befL ck cl ix = t := by
  obtain ⟨ck', a, cl', rfl, rfl, h3, _⟩ := h.ok.snoc
  have := h.ok.top ck'.length (by simp)
  rw [nth_append_self] at this
  rw [befL_snoc h3, if_pos (by omega)]

/-- what holds of a computation -/
structure Comp.Wf (c : Comp) (n : Nat) : Prop where
  lens : c.lens.length = n
  ckpts : c.ckpts.length = n
  clocks : c.clocks.length = n
  forced : c.forced.length = n
  now : c.now.length = n
  po : ∀ q, q < n → PO (nth c.ckpts q) (nth c.clocks q) (nth c.forced q) (nth c.lens q) (nth c.now q)
  arc : ∀ i, i < c.arcs.length → ∃ fr to : Nat, (nth c.arcs i).fr = fr ∧ (nth c.arcs i).to = to ∧ fr < n ∧ to < n ∧ fr ≠ to ∧ 1 ≤ (nth c.arcs i).ix ∧ (nth c.arcs i).ix ≤ nth c.lens fr ∧ 0 ≤ (nth c.arcs i).rcv ∧ (nth c.arcs i).rcv ≤ nth c.lens to
  uniq : ∀ i j, i < j → j < c.arcs.length → (nth c.arcs j).rcv ≠ 0 → ¬ ((nth c.arcs i).to = (nth c.arcs j).to ∧ (nth c.arcs i).rcv = (nth c.arcs j).rcv)
  fly : ∀ l ∈ c.fly, 0 ≤ l.arc ∧ l.arc.toNat < c.arcs.length ∧ (nth c.arcs l.arc.toNat).rcv = 0 ∧ l.clock = befL (nth c.ckpts (nth c.arcs l.arc.toNat).fr.toNat) (nth c.clocks (nth c.arcs l.arc.toNat).fr.toNat) (nth c.arcs l.arc.toNat).ix
  once : (c.fly.map (·.arc)).Nodup
  rise : ∀ i, i < c.arcs.length → (nth c.arcs i).rcv ≠ 0 → befL (nth c.ckpts (nth c.arcs i).fr.toNat) (nth c.clocks (nth c.arcs i).fr.toNat) (nth c.arcs i).ix ≤ befL (nth c.ckpts (nth c.arcs i).to.toNat) (nth c.clocks (nth c.arcs i).to.toNat) (nth c.arcs i).rcv
  free : Free ⟨c.lens, c.ckpts, c.arcs⟩
theorem Comp.Wf.start {n : Nat} : (Comp.start n).Wf n := by
  have e : ∀ {α : Type} [Inhabited α] (x : α) (q : Nat), q < n → nth (List.replicate n x) q = x := fun x q hq => by simp [nth, hq]
  refine ⟨by simp [Comp.start], by simp [Comp.start], by simp [Comp.start], by simp [Comp.start], by simp [Comp.start], fun q hq => ?_, fun i hi => by simp [Comp.start] at hi, fun i j _ hj => by simp [Comp.start] at hj, fun l hl => by simp [Comp.start] at hl, by simp [Comp.start], fun i hi => by simp [Comp.start] at hi, ?_⟩
  · simp only [Comp.start, e _ q hq]; exact PO.start
  · intro x hx h0 h1 _ q hq
    have h2 := h0 q hq; have h3 := h1 q hq
    simp only [Comp.start, List.length_replicate] at hq h3 ⊢
    rw [e _ q hq] at h3 ⊢; omega
section
variable {c : Comp} {n q : Nat}
theorem Comp.Wf.pok (h : c.Wf n) (hq : q < n) : POK (nth c.ckpts q) (nth c.clocks q) (nth c.forced q) (nth c.lens q) (nth c.now q) := (h.po q hq).ok
/-- a checkpoint with a greater clock -/
def Comp.mark (c : Comp) (q : Nat) (x : Int) (f : Bool) : Comp := { c with now := c.now.set q x }.checkpoint q f
theorem set_last {l : List Int} {a x : Int} {k : Nat} (h : k = l.length) : (l ++ [a]).set k x = l ++ [x] := by subst h; simp
structure Marked (c d : Comp) (n q : Nat) (x : Int) : Prop where
  lens : d.lens = c.lens
  arcs : d.arcs = c.arcs
  fly : d.fly = c.fly
  now : d.now = c.now.set q x
  ckpts : d.ckpts.length = c.ckpts.length
  clocks : d.clocks.length = c.clocks.length
  forced : d.forced.length = c.forced.length
  po : PO (nth d.ckpts q) (nth d.clocks q) (nth d.forced q) (nth c.lens q) x
  other : ∀ r, r ≠ q → nth d.ckpts r = nth c.ckpts r ∧ nth d.clocks r = nth c.clocks r ∧ nth d.forced r = nth c.forced r
  bef : ∀ ix, ix ≤ nth c.lens q → befL (nth d.ckpts q) (nth d.clocks q) ix = befL (nth c.ckpts q) (nth c.clocks q) ix
theorem Comp.Wf.marked (h : c.Wf n) (hq : q < n) {x : Int} (hx : nth c.now q < x) (f : Bool) : Marked c (c.mark q x f) n q x := by
  have hp := h.po q hq
  obtain ⟨ck', a, cl', h1, h2, h3, h4⟩ := hp.ok.snoc
  have e1 := h.ckpts; have e2 := h.clocks; have e3 := h.forced; have e4 := h.now
  have hnow : nth (c.now.set q x) q = x := by rw [nth_set' (by omega), if_pos rfl]
  have hlast : nth (nth c.ckpts q) ((nth c.ckpts q).length - 1) = a := by rw [h1]; simp [nth]
  have hckl : (nth c.ckpts q).length - 1 = cl'.length := by rw [h1]; simp [h3]
  unfold Comp.mark Comp.checkpoint
  by_cases hc : a = nth c.lens q
  · rw [if_pos (by show nth (nth c.ckpts q) ((nth c.ckpts q).length - 1) = nth c.lens q; rw [hlast]; exact hc)]
    have hcl : nth (c.clocks.set q ((nth c.clocks q).set ((nth c.ckpts q).length - 1) (nth (c.now.set q x) q))) q = cl' ++ [x] := by
      rw [nth_set' (by omega), if_pos rfl, hnow, h2, hckl, set_last rfl]
    refine ⟨rfl, rfl, rfl, rfl, rfl, by simp, rfl, ?_, fun r hr => ⟨rfl, ?_, rfl⟩, fun ix hix => ?_⟩
    · show PO (nth c.ckpts q) _ _ _ _
      rw [hcl]
      rw [h1, h2, hc] at hp
      rw [h1, hc]
      exact hp.over hx
    · show nth (c.clocks.set q _) r = _
      rw [nth_set' (by omega), if_neg hr]
    · show befL (nth c.ckpts q) _ _ = _
      rw [hcl, h1, h2, befL_snoc h3, befL_snoc h3, if_neg (by omega), if_neg (by omega)]
  · rw [if_neg (by show ¬ nth (nth c.ckpts q) ((nth c.ckpts q).length - 1) = nth c.lens q; rw [hlast]; exact hc)]
    have hck2 : nth (c.ckpts.set q (nth c.ckpts q ++ [nth c.lens q])) q = (ck' ++ [a]) ++ [nth c.lens q] := by rw [nth_set' (by omega), if_pos rfl, ← h1]
    have hcl2 : nth (c.clocks.set q (nth c.clocks q ++ [nth (c.now.set q x) q])) q = (cl' ++ [nth c.now q]) ++ [x] := by rw [nth_set' (by omega), if_pos rfl, hnow, ← h2]
    have hfo2 : nth (c.forced.set q (nth c.forced q ++ [f])) q = nth c.forced q ++ [f] := by rw [nth_set' (by omega), if_pos rfl]
    refine ⟨rfl, rfl, rfl, rfl, by simp, by simp, by simp, ?_, fun r hr => ⟨?_, ?_, ?_⟩, fun ix hix => ?_⟩
    · show PO (nth (c.ckpts.set q _) q) (nth (c.clocks.set q _) q) (nth (c.forced.set q _) q) _ _
      rw [hck2, hcl2, hfo2]
      rw [h1, h2] at hp
      exact hp.push hc hx
    · show nth (c.ckpts.set q _) r = _
      rw [nth_set' (by omega), if_neg hr]
    · show nth (c.clocks.set q _) r = _
      rw [nth_set' (by omega), if_neg hr]
    · show nth (c.forced.set q _) r = _
      rw [nth_set' (by omega), if_neg hr]
    · show befL (nth (c.ckpts.set q _) q) (nth (c.clocks.set q _) q) _ = _
      rw [hck2, hcl2, befL_snoc (by simp [h3]), if_neg (by omega), ← h1, ← h2]
theorem Marked.befs {d : Comp} {x : Int} (h : c.Wf n) (m : Marked c d n q x) {r : Nat} {ix : Int} (hi : ix ≤ nth c.lens r) : befL (nth d.ckpts r) (nth d.clocks r) ix = befL (nth c.ckpts r) (nth c.clocks r) ix := by
  by_cases hr : r = q
  · subst hr; exact m.bef ix hi
  · rw [(m.other r hr).1, (m.other r hr).2.1]
theorem Comp.Wf.marks {d : Comp} {x : Int} (h : c.Wf n) (hq : q < n) (m : Marked c d n q x) : d.Wf n := by
  have e4 := h.now
  refine ⟨by rw [m.lens]; exact h.lens, by rw [m.ckpts]; exact h.ckpts, by rw [m.clocks]; exact h.clocks, by rw [m.forced]; exact h.forced, by rw [m.now]; simpa using h.now, fun r hr => ?_, by rw [m.arcs, m.lens]; exact h.arc, by rw [m.arcs]; exact h.uniq, fun l hl => ?_, by rw [m.fly]; exact h.once, fun i hi h0 => ?_, by rw [m.lens, m.arcs]; exact h.free⟩
  · rw [m.lens, m.now]
    by_cases hrq : r = q
    · subst hrq
      rw [nth_set' (by omega), if_pos rfl]; exact m.po
    · rw [(m.other r hrq).1, (m.other r hrq).2.1, (m.other r hrq).2.2, nth_set' (by omega), if_neg hrq]; exact h.po r hr
  · rw [m.fly] at hl
    rw [m.arcs]
    obtain ⟨h1, h2, h3, h4⟩ := h.fly l hl
    obtain ⟨fr, to, e1, e2, h5, h6, h7, h8, h9, h10, h11⟩ := h.arc _ h2
    refine ⟨h1, h2, h3, ?_⟩
    rw [e1] at h4 ⊢
    rw [m.befs h (by simpa using h9)]; exact h4
  · rw [m.arcs] at hi h0 ⊢
    obtain ⟨fr, to, e1, e2, h5, h6, h7, h8, h9, h10, h11⟩ := h.arc _ hi
    have := h.rise i hi h0
    rw [e1, e2] at this ⊢
    rw [m.befs h (by simpa using h9), m.befs h (by simpa using h11)]; exact this
theorem Comp.Wf.tick {q : Int} (h : c.Wf n) : (c.tick q).Wf n := by
  unfold Comp.tick
  split
  · rename_i hb
    have e4 := h.now
    have hq : q.toNat < n := by simp at hb; omega
    exact h.marks hq (h.marked hq (x := nth c.now q.toNat + 1) (by omega) false)
  · exact h
theorem Comp.Wf.send {fr to : Int} (h : c.Wf n) : (c.send fr to).Wf n := by
  unfold Comp.send
  split
  · exact h
  · rename_i hb
    have e1 := h.lens; have e4 := h.now
    have hc : (0 ≤ fr ∧ fr < n) ∧ (0 ≤ to ∧ to < n) ∧ fr ≠ to := by simp at hb; omega
    obtain ⟨f, rfl⟩ := Int.eq_ofNat_of_zero_le hc.1.1
    obtain ⟨t, rfl⟩ := Int.eq_ofNat_of_zero_le hc.2.1.1
    have hf : f < n := by omega
    have ht : t < n := by omega
    simp only [Int.toNat_natCast]
    have hL0 := (h.pok hf).len
    have hl : ∀ r, nth (c.lens.set f (nth c.lens f + 1)) r = if r = f then nth c.lens f + 1 else nth c.lens r := fun r => nth_set' (by omega)
    have hle : ∀ r, nth c.lens r ≤ nth (c.lens.set f (nth c.lens f + 1)) r := fun r => by
      rw [hl]; split
      · subst r; omega
      · exact Int.le_refl _
    have hbef : befL (nth c.ckpts f) (nth c.clocks f) (nth c.lens f + 1) = nth c.now f := (h.po f hf).last (by omega)
    refine ⟨by simpa using e1, h.ckpts, h.clocks, h.forced, h.now, fun r hr => ?_, fun i hi => ?_, fun i j hij hj h0 => ?_, fun l hl2 => ?_, ?_, fun i hi h0 => ?_, ?_⟩
    · show PO (nth c.ckpts r) (nth c.clocks r) (nth c.forced r) (nth (c.lens.set f (nth c.lens f + 1)) r) (nth c.now r)
      rw [hl]; split
      · subst r; exact (h.po f hf).event
      · exact h.po r hr
    · simp only [List.length_append, List.length_cons, List.length_nil] at hi
      dsimp only
      by_cases hil : i < c.arcs.length
      · rw [nth_append_left hil]
        obtain ⟨fr, to, e1, e2, h5, h6, h7, h8, h9, h10, h11⟩ := h.arc i hil
        exact ⟨fr, to, e1, e2, h5, h6, h7, h8, Int.le_trans h9 (hle _), h10, Int.le_trans h11 (hle _)⟩
      · obtain rfl : i = c.arcs.length := by omega
        rw [nth_append_self]
        refine ⟨f, t, rfl, rfl, hf, ht, by omega, by show 1 ≤ nth c.lens f + 1; omega, ?_, Int.le_refl _, ?_⟩
        · rw [hl, if_pos rfl]; exact Int.le_refl _
        · exact Int.le_trans (h.pok ht).len (hle _)
    · simp only [List.length_append, List.length_cons, List.length_nil] at hj
      dsimp only at h0 ⊢
      by_cases hjl : j < c.arcs.length
      · rw [nth_append_left hjl] at h0 ⊢
        rw [nth_append_left (by omega)]
        exact h.uniq i j hij hjl h0
      · obtain rfl : j = c.arcs.length := by omega
        rw [nth_append_self] at h0; exact absurd rfl h0
    · rcases List.mem_append.1 hl2 with hm | hm
      · obtain ⟨h1, h2, h3, h4⟩ := h.fly l hm
        dsimp only
        rw [nth_append_left h2]
        exact ⟨h1, by simp; omega, h3, h4⟩
      · simp at hm; subst hm
        simp only [Int.toNat_natCast, nth_append_self]
        exact ⟨by omega, by simp, trivial, by simpa using hbef.symm⟩
    · simp only [List.map_append, List.map_cons, List.map_nil]
      rw [List.nodup_append]
      refine ⟨h.once, by simp, fun a ha b hb2 => ?_⟩
      simp at hb2; subst hb2
      obtain ⟨l, hl2, rfl⟩ := List.mem_map.1 ha
      have := h.fly l hl2
      omega
    · simp only [List.length_append, List.length_cons, List.length_nil] at hi
      by_cases hil : i < c.arcs.length
      · have : nth (c.arcs ++ [(⟨f, nth c.lens f + 1, t, 0⟩ : Arc)]) i = nth c.arcs i := nth_append_left hil
        simp only [this] at h0 ⊢
        exact h.rise i hil h0
      · obtain rfl : i = c.arcs.length := by omega
        have : nth (c.arcs ++ [(⟨f, nth c.lens f + 1, t, 0⟩ : Arc)]) c.arcs.length = ⟨f, nth c.lens f + 1, t, 0⟩ := nth_append_self
        simp only [this] at h0; exact absurd rfl h0
    · refine Free.step (p := ⟨c.lens, c.ckpts, c.arcs⟩) (q := f) (by show f < c.lens.length; omega) hL0 rfl (fun r k a hr h1 h2 ha => ⟨a, ?_, rfl, rfl⟩) (fun a ha => ?_) h.free
      · rw [← srcOf_push (p := ⟨c.lens, c.ckpts, c.arcs⟩) (a := ⟨f, nth c.lens f + 1, t, 0⟩) rfl]; exact ha
      · rw [show srcOf _ f (nth c.lens f + 1) = srcOf ⟨c.lens, c.ckpts, c.arcs⟩ f (nth c.lens f + 1) from srcOf_push (p := ⟨c.lens, c.ckpts, c.arcs⟩) rfl f _] at ha
        obtain ⟨i, h1, h2, h3, h4, h5⟩ := srcOf_some ha
        obtain ⟨fr, to, g1, g2, g5, g6, g7, g8, g9, g10, g11⟩ := h.arc i h1
        have h2' : nth c.arcs i = a := h2
        rw [h2'] at g1 g2 g9 g11
        have : to = f := by omega
        subst this
        omega
theorem Comp.Wf.took {pl : Nat} (h : c.Wf n) : (c.took pl).Wf n := by
  have hsub : (c.took pl).fly.Sublist c.fly := by
    show (c.fly.take pl ++ c.fly.drop (pl + 1)).Sublist c.fly
    conv => rhs; rw [← List.take_append_drop pl c.fly]
    refine List.Sublist.append (List.Sublist.refl _) ?_
    rw [← List.drop_drop]; exact List.drop_sublist _ _
  exact ⟨h.lens, h.ckpts, h.clocks, h.forced, h.now, h.po, h.arc, h.uniq, fun l hl => h.fly l (hsub.subset hl), h.once.sublist (hsub.map _), h.rise, h.free⟩
theorem Comp.Wf.gone {pl : Nat} (h : c.Wf n) (hp : pl < c.fly.length) : ∀ l ∈ (c.took pl).fly, l.arc ≠ (nth c.fly pl).arc := by
  intro l hl he
  have hn := h.once
  have e : c.fly = c.fly.take pl ++ nth c.fly pl :: c.fly.drop (pl + 1) := by
    rw [nth_eq hp]; simp
  rw [e, List.map_append, List.map_cons, List.nodup_append] at hn
  obtain ⟨h1, h2, h3⟩ := hn
  rcases List.mem_append.1 hl with hl | hl
  · exact h3 l.arc (List.mem_map_of_mem hl) (nth c.fly pl).arc (by simp) he
  · exact (List.nodup_cons.1 h2).1 (he ▸ List.mem_map_of_mem hl)
theorem Comp.Wf.got {ar : Nat} (h : c.Wf n) (hq : q < n) (ha : ar < c.arcs.length) (hto : (nth c.arcs ar).to = q) (h0 : (nth c.arcs ar).rcv = 0) (hgone : ∀ l ∈ c.fly, l.arc ≠ ar)
    (hrise : befL (nth c.ckpts (nth c.arcs ar).fr.toNat) (nth c.clocks (nth c.arcs ar).fr.toNat) (nth c.arcs ar).ix ≤ nth c.now q) : (c.got q ar).Wf n := by
  have e1 := h.lens; have e4 := h.now
  have hL0 := (h.pok hq).len
  have hl : ∀ r, nth (c.lens.set q (nth c.lens q + 1)) r = if r = q then nth c.lens q + 1 else nth c.lens r := fun r => nth_set' (by omega)
  have hle : ∀ r, nth c.lens r ≤ nth (c.lens.set q (nth c.lens q + 1)) r := fun r => by
    rw [hl]; split
    · subst r; omega
    · exact Int.le_refl _
  have hA : ∀ i, i ≠ ar → nth (c.arcs.set ar { nth c.arcs ar with rcv := nth c.lens q + 1 }) i = nth c.arcs i := fun i hi => by rw [nth_set' ha, if_neg hi]
  have hA2 : nth (c.arcs.set ar { nth c.arcs ar with rcv := nth c.lens q + 1 }) ar = { nth c.arcs ar with rcv := nth c.lens q + 1 } := by rw [nth_set' ha, if_pos rfl]
  have htop : ∀ i, i < c.arcs.length → (nth c.arcs i).to = q → (nth c.arcs i).rcv ≤ nth c.lens q := fun i hi ht => by
    obtain ⟨fr, to, g1, g2, g5, g6, g7, g8, g9, g10, g11⟩ := h.arc i hi
    have : to = q := by omega
    subst this; exact g11
  unfold Comp.got
  refine ⟨by simpa using e1, h.ckpts, h.clocks, h.forced, h.now, fun r hr => ?_, fun i hi => ?_, fun i j hij hj hne => ?_, fun l hl2 => ?_, h.once, fun i hi hne => ?_, ?_⟩
  · dsimp only
    rw [hl]; split
    · subst r; exact (h.po q hq).event
    · exact h.po r hr
  · dsimp only at hi ⊢
    rw [List.length_set] at hi
    obtain ⟨fr, to, g1, g2, g5, g6, g7, g8, g9, g10, g11⟩ := h.arc i hi
    by_cases hia : i = ar
    · subst hia
      rw [hA2]
      have : to = q := by omega
      subst this
      refine ⟨fr, to, g1, g2, g5, g6, g7, g8, Int.le_trans g9 (hle _), by dsimp only; omega, ?_⟩
      dsimp only; rw [hl, if_pos rfl]; exact Int.le_refl _
    · rw [hA i hia]
      exact ⟨fr, to, g1, g2, g5, g6, g7, g8, Int.le_trans g9 (hle _), g10, Int.le_trans g11 (hle _)⟩
  · dsimp only at hj hne ⊢
    rw [List.length_set] at hj
    rintro ⟨e2, e3⟩
    by_cases hja : j = ar
    · subst hja
      rw [hA2, hA i (by omega)] at e2 e3
      dsimp only at e2 e3
      have := htop i (by omega) (by omega)
      omega
    · rw [hA j hja] at hne e2 e3
      by_cases hia : i = ar
      · subst hia
        rw [hA2] at e2 e3
        dsimp only at e2 e3
        have := htop j hj (by omega)
        omega
      · rw [hA i hia] at e2 e3
        exact h.uniq i j hij hj hne ⟨e2, e3⟩
  · dsimp only at hl2 ⊢
    obtain ⟨h1, h2, h3, h4⟩ := h.fly l hl2
    have hne : l.arc.toNat ≠ ar := fun he => hgone l hl2 (by omega)
    rw [hA _ hne, List.length_set]
    exact ⟨h1, h2, h3, h4⟩
  · dsimp only at hi hne ⊢
    rw [List.length_set] at hi
    by_cases hia : i = ar
    · subst hia
      rw [hA2]
      dsimp only
      rw [show (nth c.arcs i).to.toNat = q by omega, (h.po q hq).last (by omega)]
      exact hrise
    · rw [hA i hia] at hne ⊢
      exact h.rise i hi hne
  · refine Free.step (p := ⟨c.lens, c.ckpts, c.arcs⟩) (q := q) (by show q < c.lens.length; omega) hL0 rfl (fun r k a hr h1 h2 hs => ⟨a, ?_, rfl, rfl⟩) (fun a hs => ?_) h.free
    · refine srcOf_set (p := ⟨c.lens, c.ckpts, c.arcs⟩) ha h0 (fun hk => ?_) h1 hs
      dsimp only at hk h2
      have : r = q := by omega
      subst this; omega
    · obtain ⟨i, h1, h2, h3, h4, h5⟩ := srcOf_some hs
      dsimp only at h1 h2 h4
      rw [List.length_set] at h1
      by_cases hia : i = ar
      · subst hia
        rw [hA2] at h2
        obtain ⟨fr, to, g1, g2, g5, g6, g7, g8, g9, g10, g11⟩ := h.arc i h1
        rw [← h2]
        dsimp only
        rw [g1]; exact g9
      · rw [hA i hia] at h2
        have := htop i h1 (by rw [h2]; exact h3)
        rw [h2] at this; omega
theorem Comp.Wf.receive {pl : Int} (h : c.Wf n) : (c.receive pl).Wf n := by
  unfold Comp.receive
  split
  · exact h
  · rename_i hb
    have hp : pl.toNat < c.fly.length := by simp at hb; omega
    split
    · exact h
    · have hm : nth c.fly pl.toNat ∈ c.fly := nth_mem hp
      obtain ⟨h1, h2, h3, h4⟩ := h.fly _ hm
      have hg := h.gone hp
      generalize nth c.fly pl.toNat = l at *
      obtain ⟨fr, to, g1, g2, g5, g6, g7, g8, g9, g10, g11⟩ := h.arc _ h2
      obtain ⟨ar, hae⟩ : ∃ ar, l.arc.toNat = ar := ⟨_, rfl⟩
      have hal : l.arc = ar := by omega
      rw [hae] at h2 h3 h4 g1 g2 g8 g9 g10 g11 ⊢
      rw [g2, Int.toNat_natCast]
      have ht : (c.took pl.toNat).Wf n := h.took
      rw [g1, Int.toNat_natCast] at h4
      by_cases hc : nth c.now to < l.clock
      · have hmk := ht.marked g6 (x := l.clock) hc true
        have hw := ht.marks g6 hmk
        have er : (c.took pl.toNat).raised to l.clock = (c.took pl.toNat).mark to l.clock true := by rw [Comp.raised]; exact if_pos hc
        rw [er]
        have e1 : ((c.took pl.toNat).mark to l.clock true).arcs = c.arcs := hmk.arcs
        have e2 : ((c.took pl.toNat).mark to l.clock true).fly = (c.took pl.toNat).fly := hmk.fly
        have e3 : ((c.took pl.toNat).mark to l.clock true).now = c.now.set to l.clock := hmk.now
        refine hw.got g6 (by rw [e1]; exact h2) (by rw [e1]; exact g2) (by rw [e1]; exact h3) (by rw [e2]; intro l' hl'; rw [← hal]; exact hg l' hl') ?_
        rw [e1, e3, g1, Int.toNat_natCast, nth_set' (by have := h.now; omega), if_pos rfl]
        rw [hmk.befs ht (r := fr) (by exact g9)]
        exact Int.le_of_eq h4.symm
      · have er : (c.took pl.toNat).raised to l.clock = c.took pl.toNat := by rw [Comp.raised]; exact if_neg hc
        rw [er]
        refine ht.got g6 h2 g2 h3 (by intro l' hl'; rw [← hal]; exact hg l' hl') ?_
        show befL (nth c.ckpts (nth c.arcs ar).fr.toNat) (nth c.clocks (nth c.arcs ar).fr.toNat) (nth c.arcs ar).ix ≤ nth c.now to
        rw [g1, Int.toNat_natCast, ← h4]; omega
theorem Comp.Wf.deed {a : Deed} (h : c.Wf n) : (c.deed a).Wf n := by
  unfold Comp.deed
  split
  · exact h.send
  · split
    · exact h.receive
    · split
      · exact h.tick
      · exact h
theorem Comp.Wf.run (l : List Deed) : (Comp.run n l).Wf n := by
  suffices H : ∀ (l : List Deed) (c : Comp), c.Wf n → (l.foldl Comp.deed c).Wf n from H l _ Comp.Wf.start
  intro l
  induction l with
  | nil => exact fun c h => h
  | cons a l ih => exact fun c h => ih _ h.deed
/-- a history of the computation is right -/
theorem Comp.sound {l : List Deed} (hn : n ≤ 5) (hl : l.length ≤ 200) : (Comp.run n l).hist.Sound n := by
  have h := Comp.Wf.run (n := n) l
  have hi := Comp.Inv.run (n := n) (l := l) (by omega)
  generalize Comp.run n l = c at h hi
  refine ⟨h.lens, h.ckpts, h.clocks, h.forced, fun q hq => ?_, ?_⟩
  · obtain ⟨ck', a, cl', h1, h2, h3, h4⟩ := (h.pok hq).snoc
    show (nth c.clocks q).length = (nth c.ckpts q).length ∧ (nth c.forced q).length = (nth c.ckpts q).length
    rw [h1, h2, h4]; simp [h3]
  · have e1 : c.hist.pat.lens = c.lens := rfl
    have e2 : c.hist.pat.arcs = c.arcs := rfl
    have hll := h.lens
    refine ⟨by rw [e1]; omega, by rw [e2]; have := hi.arcs; omega, h.ckpts.trans h.lens.symm, fun q hq => ?_, fun q hq => ?_, fun q hq => ?_, fun i hii => ?_, h.free⟩
    · rw [e1] at hq ⊢; exact hi.lens q (by omega)
    · rw [e1] at hq ⊢; exact (h.pok (by omega)).ckptsB
    · rw [e1] at hq
      have := hi.rows q (by omega)
      show (nth c.ckpts q).length ≤ 1000000000
      omega
    · rw [e2] at hii
      obtain ⟨fr, to, g1, g2, g5, g6, g7, g8, g9, g10, g11⟩ := h.arc i hii
      have hb : arcBad c.hist.pat (nth c.hist.pat.arcs i) = false := by
        rw [e2]
        simp only [arcBad, procB, e1, g1, g2, Int.toNat_natCast]
        have k1 : (decide (0 ≤ (fr : Int)) && decide ((fr : Int) < c.lens.length)) = true := by simp; omega
        have k2 : (decide (0 ≤ (to : Int)) && decide ((to : Int) < c.lens.length)) = true := by simp; omega
        rw [k1, k2]
        simp
        omega
      have hu : allR i (fun j => !((nth c.hist.pat.arcs i).rcv != 0 && (nth c.hist.pat.arcs j).to == (nth c.hist.pat.arcs i).to && (nth c.hist.pat.arcs j).rcv == (nth c.hist.pat.arcs i).rcv)) = true := allR_yes fun j hj => by
        rw [e2]
        cases hx : ((nth c.arcs i).rcv != 0 && (nth c.arcs j).to == (nth c.arcs i).to && (nth c.arcs j).rcv == (nth c.arcs i).rcv)
        · rfl
        · simp at hx
          exact absurd ⟨hx.1.2, hx.2⟩ (h.uniq j i hj hii hx.1.1)
      simp only [arcE, hb, hu]; rfl
end
end Go.Mine
