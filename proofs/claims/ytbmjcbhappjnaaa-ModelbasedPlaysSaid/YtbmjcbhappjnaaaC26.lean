/- The computation of chapter 26, plain. -/
import Derived.Test.YtbmjcbhappjnaaaActs
import Derived.Test.YtbmjcbhappjnaaaP16
import Derived.Test.YtbmjcbhappjnaaaV26b
set_option linter.unusedSimpArgs false
set_option linter.unusedVariables false
namespace Go.Mine
theorem nth_mem {α : Type} [Inhabited α] {l : List α} {i : Nat} (h : i < l.length) : nth l i ∈ l := by rw [nth_eq h]; simp
theorem foldl_take {α β : Type} {f : β → α → β} {b : β} {l : List α} {k : Nat} (h : k < l.length) : (l.take (k + 1)).foldl f b = f ((l.take k).foldl f b) l[k] := by
  rw [List.take_succ_eq_append_getElem h, List.foldl_append]; rfl
structure Note where
  arc : Int
  vec : List Int
deriving DecidableEq
instance : Inhabited Note := ⟨⟨0, []⟩⟩
structure C26 where
  lens : List Int
  ckpts : List (List Int)
  arcs : List Arc
  vecs : List (List (List Int))
  forced : List (List Bool)
  now : List (List Int)
  sent : List Bool
  act : List Bool
  fly : List Note
deriving DecidableEq
def unitV (n q : Nat) : List Int := (List.replicate n 0).set q 1
def C26.start (n : Nat) : C26 := ⟨List.replicate n 0, List.replicate n [0], [], List.replicate n [List.replicate n 0], List.replicate n [false], (List.range n).map (unitV n), List.replicate n false, List.replicate n false, []⟩
def bumpV (v : List Int) (q : Nat) : List Int := v.set q (nth v q + 1)
def C26.checkpoint (c : C26) (q : Nat) (f : Bool) : C26 :=
  { c with ckpts := c.ckpts.set q (nth c.ckpts q ++ [nth c.lens q]), vecs := c.vecs.set q (nth c.vecs q ++ [nth c.now q]), forced := c.forced.set q (nth c.forced q ++ [f]), now := c.now.set q (bumpV (nth c.now q) q), sent := c.sent.set q false, act := c.act.set q false }
def C26.send (c : C26) (fr to : Int) : C26 :=
  if !(decide (0 ≤ fr) && decide (fr < c.act.length)) || !(decide (0 ≤ to) && decide (to < c.act.length)) || fr == to || decide (64 ≤ nth c.lens fr.toNat) then c
  else { c with lens := c.lens.set fr.toNat (nth c.lens fr.toNat + 1), act := c.act.set fr.toNat true, sent := c.sent.set fr.toNat true, fly := c.fly ++ [⟨c.arcs.length, nth c.now fr.toNat⟩], arcs := c.arcs ++ [⟨fr, nth c.lens fr.toNat + 1, to, 0⟩] }
def C26.took (c : C26) (pl : Nat) : C26 := { c with fly := c.fly.take pl ++ c.fly.drop (pl + 1) }
def C26.raised (c : C26) (rule : Int) (q : Nat) (v : List Int) : C26 := if forcesV rule (nth c.now q) v (nth c.sent q) (nth c.act q) then c.checkpoint q true else c
def C26.got (c : C26) (q ar : Nat) (v : List Int) : C26 :=
  { c with now := c.now.set q (mergeV (nth c.now q) v), act := c.act.set q true, lens := c.lens.set q (nth c.lens q + 1), arcs := c.arcs.set ar { nth c.arcs ar with rcv := nth c.lens q + 1 } }
def C26.receive (c : C26) (rule pl : Int) : C26 :=
  if decide (pl < 0) || decide ((c.fly.length : Int) ≤ pl) then c
  else
    let l := nth c.fly pl.toNat
    let q := (nth c.arcs l.arc.toNat).to.toNat
    if 64 ≤ nth c.lens q then c else ((c.took pl.toNat).raised rule q l.vec).got q l.arc.toNat l.vec
def C26.tick (c : C26) (q : Int) : C26 := if decide (0 ≤ q) && decide (q < c.act.length) && nth c.act q.toNat then c.checkpoint q.toNat false else c
def C26.deed (rule : Int) (c : C26) (a : Deed) : C26 := if a.kind = 1 then c.send a.proc a.other else if a.kind = 2 then c.receive rule a.other else if a.kind = 3 then c.tick a.proc else c
def C26.run (n : Nat) (rule : Int) (l : List Deed) : C26 := l.foldl (C26.deed rule) (C26.start n)

def lastC (l : List Int) : Int := nth l (l.length - 1)
theorem lastC_snoc {l : List Int} {x : Int} : lastC (l ++ [x]) = x := by rw [lastC, List.length_append, List.length_singleton, Nat.add_sub_cancel, nth_snocC, if_pos rfl]
def VecOk (n m : Nat) (v : List Int) : Prop := v.length = n ∧ ∀ i, i < n → 0 ≤ nth v i ∧ nth v i ≤ m
/-- what the walk needs -/
structure C26.Inv (c : C26) (n r m : Nat) : Prop where
  lens : c.lens.length = n
  ckpts : c.ckpts.length = n
  vecs : c.vecs.length = n
  forced : c.forced.length = n
  now : c.now.length = n
  sent : c.sent.length = n
  act : c.act.length = n
  rows : ∀ q, q < n → 0 < (nth c.ckpts q).length ∧ (nth c.ckpts q).length ≤ r ∧ (nth c.vecs q).length = (nth c.ckpts q).length ∧ (nth c.forced q).length = (nth c.ckpts q).length
  low : ∀ q, q < n → 0 ≤ nth c.lens q ∧ nth c.lens q ≤ 64
  last : ∀ q, q < n → (nth c.act q = true ↔ lastC (nth c.ckpts q) < nth c.lens q)
  top : ∀ q, q < n → lastC (nth c.ckpts q) ≤ nth c.lens q
  vec : ∀ q, q < n → VecOk n (m + 1) (nth c.now q)
  vrow : ∀ q, q < n → ∀ v ∈ nth c.vecs q, v.length = n
  arcs : c.arcs.length ≤ m
  fly : c.fly.length ≤ m
  letters : ∀ l ∈ c.fly, 0 ≤ l.arc ∧ l.arc < c.arcs.length ∧ VecOk n (m + 1) l.vec
  tos : ∀ a ∈ c.arcs, 0 ≤ a.to ∧ a.to < n
section
variable {c : C26} {n r m r' m' : Nat} {rule : Int}
theorem nth_rep {α : Type} [Inhabited α] {x : α} {n q : Nat} (h : q < n) : nth (List.replicate n x) q = x := by simp [nth, h]
theorem VecOk.mono {v : List Int} (h : VecOk n m v) (hm : m ≤ m') : VecOk n m' v := ⟨h.1, fun i hi => by have := h.2 i hi; omega⟩
theorem VecOk.merge {a b : List Int} (h : VecOk n m a) (k : VecOk n m b) : VecOk n m (mergeV a b) := by
  refine ⟨by rw [mergeV_length]; exact h.1, fun i hi => ?_⟩
  have h1 := h.1
  have h2 := h.2 i hi; have h3 := k.2 i hi
  rw [nth_mergeV (by omega)]
  split <;> omega
theorem VecOk.bump {a : List Int} {q : Nat} (h : VecOk n m a) : VecOk n (m + 1) (bumpV a q) := by
  have h1 := h.1
  refine ⟨by simpa [bumpV] using h1, fun i hi => ?_⟩
  have h2 := h.2 i hi
  unfold bumpV
  by_cases hq : q < a.length
  · rw [nth_setC hq]
    split
    · subst i; omega
    · omega
  · rw [List.set_eq_of_length_le (by omega)]; omega
theorem C26.Inv.mono (h : c.Inv n r m) (hr : r ≤ r') (hm : m ≤ m') : c.Inv n r' m' :=
  { h with rows := fun q hq => by have := h.rows q hq; omega, vec := fun q hq => (h.vec q hq).mono (by omega), arcs := by have := h.arcs; omega, fly := by have := h.fly; omega, letters := fun l hl => ⟨(h.letters l hl).1, (h.letters l hl).2.1, (h.letters l hl).2.2.mono (by omega)⟩ }
theorem C26.Inv.start : (C26.start n).Inv n 1 0 where
  lens := by simp [C26.start]
  ckpts := by simp [C26.start]
  vecs := by simp [C26.start]
  forced := by simp [C26.start]
  now := by simp [C26.start]
  sent := by simp [C26.start]
  act := by simp [C26.start]
  rows q hq := by simp [C26.start, nth_rep hq]
  low q hq := by simp [C26.start, nth_rep hq]
  last q hq := by simp only [C26.start]; rw [nth_rep hq, nth_rep hq, nth_rep hq]; decide
  top q hq := by simp only [C26.start]; rw [nth_rep hq, nth_rep hq]; decide
  vec q hq := by
    have e : nth (C26.start n).now q = unitV n q := by
      show nth ((List.range n).map (unitV n)) q = _
      rw [nth_eq (by simpa using hq)]; simp
    rw [e]
    refine ⟨by simp [unitV], fun i hi => ?_⟩
    unfold unitV
    rw [nth_setC (by simpa using hq), nth_rep hi]
    split <;> simp
  vrow q hq v hv := by simp [C26.start, nth_rep hq] at hv; subst hv; simp
  arcs := by simp [C26.start]
  fly := by simp [C26.start]
  letters l hl := by simp [C26.start] at hl
  tos a ha := by simp [C26.start] at ha
theorem C26.Inv.checkpoint {q : Nat} {f : Bool} (h : c.Inv n r m) (hq : q < n) : (c.checkpoint q f).Inv n (r + 1) (m + 1) := by
  have g1 := h.lens; have g2 := h.ckpts; have g3 := h.vecs; have g4 := h.forced; have g5 := h.now; have g6 := h.sent; have g7 := h.act
  refine ⟨g1, by simpa [C26.checkpoint] using g2, by simpa [C26.checkpoint] using g3, by simpa [C26.checkpoint] using g4, by simpa [C26.checkpoint] using g5, by simpa [C26.checkpoint] using g6, by simpa [C26.checkpoint] using g7, fun i hi => ?_, h.low, fun i hi => ?_, fun i hi => ?_, fun i hi => ?_, fun i hi => ?_, by have := h.arcs; simp [C26.checkpoint]; omega, by have := h.fly; simp [C26.checkpoint]; omega, fun l hl => ⟨(h.letters l hl).1, (h.letters l hl).2.1, (h.letters l hl).2.2.mono (by omega)⟩, h.tos⟩
  · have := h.rows i hi
    simp only [C26.checkpoint]
    rw [nth_setC (by omega), nth_setC (by omega), nth_setC (by omega)]
    split
    · subst i; simp; omega
    · omega
  · simp only [C26.checkpoint]
    rw [nth_setC (by omega), nth_setC (by omega)]
    split
    · subst i; rw [lastC_snoc]; simp
    · exact h.last i hi
  · simp only [C26.checkpoint]
    rw [nth_setC (by omega)]
    split
    · subst i; rw [lastC_snoc]; exact Int.le_refl _
    · exact h.top i hi
  · simp only [C26.checkpoint]
    rw [nth_setC (by omega)]
    split
    · subst i; exact (h.vec q hq).bump
    · exact (h.vec i hi).mono (by omega)
  · simp only [C26.checkpoint]
    rw [nth_setC (by omega)]
    split
    · subst i; intro v hv; simp at hv
      rcases hv with hv | rfl
      · exact h.vrow q hq v hv
      · exact (h.vec q hq).1
    · exact h.vrow i hi
theorem C26.Inv.tick {q : Int} (h : c.Inv n r m) : (c.tick q).Inv n (r + 1) (m + 1) := by
  unfold C26.tick
  have e := h.act
  split
  · rename_i hb
    have hq : q.toNat < n := by simp at hb; omega
    exact h.checkpoint hq
  · exact h.mono (by omega) (by omega)
theorem C26.Inv.send {fr to : Int} (h : c.Inv n r m) : (c.send fr to).Inv n r (m + 1) := by
  unfold C26.send
  have g1 := h.lens; have g6 := h.sent; have g7 := h.act
  split
  · exact h.mono (by omega) (by omega)
  · rename_i hb
    have hc : 0 ≤ fr ∧ fr < n ∧ 0 ≤ to ∧ to < n ∧ nth c.lens fr.toNat < 64 := by simp at hb; omega
    have hq : fr.toNat < n := by omega
    have hl := h.low fr.toNat hq
    refine ⟨by simpa using g1, h.ckpts, h.vecs, h.forced, h.now, by simpa using g6, by simpa using g7, h.rows, fun i hi => ?_, fun i hi => ?_, fun i hi => ?_, fun i hi => (h.vec i hi).mono (by omega), h.vrow, ?_, ?_, fun l hl => ?_, fun a ha => ?_⟩
    · show 0 ≤ nth (c.lens.set _ _) i ∧ nth (c.lens.set _ _) i ≤ 64
      rw [nth_setC (by omega)]
      split
      · omega
      · exact h.low i hi
    · show nth (c.act.set _ _) i = true ↔ _ < nth (c.lens.set _ _) i
      have ht := h.top i hi
      rw [nth_setC (by omega), nth_setC (by omega)]
      split
      · subst i; simp; omega
      · exact h.last i hi
    · show _ ≤ nth (c.lens.set _ _) i
      have ht := h.top i hi
      rw [nth_setC (by omega)]
      split
      · subst i; simp only at ht ⊢; omega
      · exact ht
    · have := h.arcs; simp; omega
    · have := h.fly; simp; omega
    · simp at hl
      have ha := h.arcs
      rcases hl with hl | rfl
      · obtain ⟨a1, a2, a3⟩ := h.letters l hl
        exact ⟨a1, by simp; omega, a3.mono (by omega)⟩
      · exact ⟨by simp, by simp; omega, (h.vec _ hq).mono (by omega)⟩
    · simp at ha
      rcases ha with ha | rfl
      · exact h.tos a ha
      · exact ⟨by simp; omega, by simp; omega⟩
theorem receive26_go {pl : Nat} (h : pl < c.fly.length) (h2 : ¬ 64 ≤ nth c.lens (nth c.arcs (nth c.fly pl).arc.toNat).to.toNat) :
    c.receive rule pl = ((c.took pl).raised rule (nth c.arcs (nth c.fly pl).arc.toNat).to.toNat (nth c.fly pl).vec).got (nth c.arcs (nth c.fly pl).arc.toNat).to.toNat (nth c.fly pl).arc.toNat (nth c.fly pl).vec := by
  unfold C26.receive
  rw [if_neg (by simp; omega)]
  simp only [Int.toNat_natCast]
  rw [if_neg h2]
theorem C26.Inv.took {pl : Nat} (h : c.Inv n r m) : (c.took pl).Inv n r m := by
  have hf := h.fly
  exact { h with
    fly := by simp [C26.took]; omega
    letters := fun l hl => by
      refine h.letters l ?_
      simp [C26.took] at hl
      rcases hl with hl | hl
      · exact List.mem_of_mem_take hl
      · exact List.mem_of_mem_drop hl }
theorem C26.Inv.raised {q : Nat} {v : List Int} (h : c.Inv n r m) (hq : q < n) : (c.raised rule q v).Inv n (r + 1) (m + 1) ∧ (c.raised rule q v).lens = c.lens ∧ (c.raised rule q v).arcs = c.arcs := by
  unfold C26.raised
  split
  · exact ⟨h.checkpoint hq, rfl, rfl⟩
  · exact ⟨h.mono (by omega) (by omega), rfl, rfl⟩
theorem C26.Inv.got {q ar : Nat} {v : List Int} (h : c.Inv n r m) (hq : q < n) (h64 : ¬ 64 ≤ nth c.lens q) (har : ar < c.arcs.length) (hv : VecOk n (m + 1) v) : (c.got q ar v).Inv n r m := by
  have g1 := h.lens; have g5 := h.now; have g7 := h.act
  refine ⟨by simpa [C26.got] using g1, h.ckpts, h.vecs, h.forced, by simpa [C26.got] using g5, h.sent, by simpa [C26.got] using g7, h.rows, fun i hi => ?_, fun i hi => ?_, fun i hi => ?_, fun i hi => ?_, h.vrow, by simpa [C26.got] using h.arcs, h.fly, fun l hl => by simpa [C26.got] using h.letters l hl, fun a ha => ?_⟩
  · show 0 ≤ nth (c.lens.set _ _) i ∧ nth (c.lens.set _ _) i ≤ 64
    rw [nth_setC (by omega)]
    have := h.low q hq
    split
    · omega
    · exact h.low i hi
  · show nth (c.act.set _ _) i = true ↔ _ < nth (c.lens.set _ _) i
    have ht := h.top i hi
    rw [nth_setC (by omega), nth_setC (by omega)]
    split
    · subst i; simp only [C26.got]; simp; omega
    · exact h.last i hi
  · show _ ≤ nth (c.lens.set _ _) i
    have ht := h.top i hi
    rw [nth_setC (by omega)]
    split
    · subst i; simp only [C26.got] at ht ⊢; omega
    · exact ht
  · show VecOk n (m + 1) (nth (c.now.set _ _) i)
    rw [nth_setC (by omega)]
    split
    · exact (h.vec q hq).merge hv
    · exact h.vec i hi
  · simp only [C26.got] at ha
    rcases List.mem_or_eq_of_mem_set ha with ha | rfl
    · exact h.tos a ha
    · have := h.tos _ (nth_mem har); exact this
theorem C26.Inv.receive {pl : Int} (h : c.Inv n r m) : (c.receive rule pl).Inv n (r + 1) (m + 1) := by
  by_cases hb : 0 ≤ pl ∧ pl < c.fly.length
  · obtain ⟨p, rfl⟩ := Int.eq_ofNat_of_zero_le hb.1
    have hp : p < c.fly.length := by omega
    obtain ⟨a1, a2, a3⟩ := h.letters _ (nth_mem hp)
    have ht := h.tos _ (nth_mem (show (nth c.fly p).arc.toNat < c.arcs.length by omega))
    by_cases h64 : 64 ≤ nth c.lens (nth c.arcs (nth c.fly p).arc.toNat).to.toNat
    · have e : c.receive rule p = c := by
        unfold C26.receive
        rw [if_neg (by simp; omega)]
        simp only [Int.toNat_natCast]
        rw [if_pos h64]
      rw [e]; exact h.mono (by omega) (by omega)
    · rw [receive26_go hp h64]
      have hq : (nth c.arcs (nth c.fly p).arc.toNat).to.toNat < n := by omega
      obtain ⟨r1, r2, r3⟩ := (h.took (pl := p)).raised (rule := rule) (v := (nth c.fly p).vec) hq
      exact r1.got hq (by rw [r2]; exact h64) (by rw [r3]; show (nth c.fly p).arc.toNat < c.arcs.length; omega) (a3.mono (by omega))
  · have e : c.receive rule pl = c := by
      unfold C26.receive
      rw [if_pos (by simp; omega)]
    rw [e]; exact h.mono (by omega) (by omega)
theorem C26.Inv.deed {a : Deed} (h : c.Inv n r m) : (c.deed rule a).Inv n (r + 1) (m + 1) := by
  unfold C26.deed
  split
  · exact h.send.mono (by omega) (Nat.le_refl _)
  · split
    · exact h.receive
    · split
      · exact h.tick
      · exact h.mono (by omega) (by omega)
theorem C26.Inv.run {l : List Deed} : (C26.run n rule l).Inv n (l.length + 1) l.length := by
  suffices H : ∀ (l : List Deed) (c : C26) (r m : Nat), c.Inv n r m → (l.foldl (C26.deed rule) c).Inv n (r + l.length) (m + l.length) by
    have := H l _ 1 0 (C26.Inv.start (n := n))
    exact this.mono (by omega) (by omega)
  intro l
  induction l with
  | nil => intro c r m h; exact h
  | cons a l ih =>
    intro c r m h
    have := ih (c.deed rule a) (r + 1) (m + 1) h.deed
    exact this.mono (by simp; omega) (by simp; omega)
end
end Go.Mine
