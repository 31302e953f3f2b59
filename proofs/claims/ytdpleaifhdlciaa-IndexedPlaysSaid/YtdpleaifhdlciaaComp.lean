/- The state of a computation (chapters 25, 26) in memory: a struct with slices of its own, each block with a tag. -/
import Derived.Test.YtdpleaifhdlciaaP16
set_option linter.unusedSimpArgs false
namespace Go.Mine
open Go.RowKit

structure Letter where
  arc : Int
  clock : Int
deriving DecidableEq
instance : Inhabited Letter := ⟨⟨0, 0⟩⟩
def letterTy : Ty Letter := (Ty.int.pair Ty.int).via fun a => (a.arc, a.clock)
section
variable {w : World} {S : Nat → Prop} {b o : Nat} {a : Letter}
theorem letterVia (h : El letterTy w S b o a) : El (Ty.int.pair Ty.int) w S b o (a.arc, a.clock) := ⟨h.mem, h.lt, h.cells⟩
theorem letterF0 (h : El letterTy w S b o a) : El Ty.int w S b (o + 0) a.arc := (letterVia h).fst
theorem letterF1 (h : El letterTy w S b o a) : El Ty.int w S b (o + 1) a.clock := (letterVia h).snd
theorem flyingF0 (h : El letterTy w S b o a) : El Ty.int w S b (o + 0) a.arc := (letterVia h).fst
theorem flyingF1 (h : El letterTy w S b o a) : El Ty.int w S b (o + 1) a.clock := (letterVia h).snd
def Letter.cells (a : Letter) : List Value := [.int .i64 a.arc, .int .i64 a.clock]
theorem letterR {cs : List Value} : letterTy.R w S cs a ↔ cs = a.cells := by
  constructor
  · rintro ⟨c1, c2, rfl, rfl, rfl⟩; rfl
  · rintro rfl; exact ⟨_, _, rfl, rfl, rfl⟩
theorem letterL (h : El letterTy w S b o a) : CellsAt w b o [.int .i64 a.arc, .int .i64 a.clock] := by
  obtain ⟨cs, h1, h2⟩ := h.cells
  rw [letterR.1 h2] at h1; exact h1
theorem flyingL (h : El letterTy w S b o a) : CellsAt w b o [.int .i64 a.arc, .int .i64 a.clock] := letterL h
end

/-- history and present state -/
structure Comp where
  lens : List Int
  ckpts : List (List Int)
  arcs : List Arc
  clocks : List (List Int)
  forced : List (List Bool)
  now : List Int
  fly : List Letter
deriving DecidableEq

/-- a step of the world that leaves tag t alone; the tags of what was there stay -/
structure Spares (own own' : Nat → Nat) (w w' : World) (t : Nat → Prop) : Prop where
  size : w.heap.size ≤ w'.heap.size
  tag : ∀ k, k < w.heap.size → own' k = own k
  block : ∀ k, k < w.heap.size → t (own k) → w'.heap[k]? = w.heap[k]?

def IntsAt (w : World) (own : Nat → Nat) (t : Nat) (e : TypeId) (v : Value) (xs : List Int) : Prop :=
  ∃ g, v = .slice (some ⟨g, 0, none⟩) xs.length xs.length ∧ own g = t ∧ Blk w g (xs.map encI) e
def OwnAt {α : Type} (T : Ty α) (w : World) (own : Nat → Nat) (t : Nat) (e : TypeId) (v : Value) (xs : List α) : Prop :=
  Own T w 0 (fun _ => False) e v xs ∧ ∀ k, v.ownBlock = some k → own k = t
def RowsAt {α : Type} (T : Ty α) (w : World) (own : Nat → Nat) (t : Nat) (eo e : TypeId) (v : Value) (xss : List (List α)) : Prop :=
  ∃ g cap vs junk, v = .slice (some ⟨g, 0, none⟩) xss.length cap ∧ xss.length ≤ cap ∧ own g = t ∧ Blk w g (vs ++ junk) eo ∧ vs.length = xss.length ∧ ∀ i u xs, vs[i]? = some u → xss[i]? = some xs → OwnAt T w own (t + 1 + i) e u xs

section
variable {w w' : World} {own own' : Nat → Nat} {t : Nat} {tt : Nat → Prop} {e eo : TypeId} {v : Value}
theorem IntsAt.step {xs : List Int} (h : IntsAt w own t e v xs) (hl : Spares own own' w w' tt) (ht : tt t) : IntsAt w' own' t e v xs := by
  obtain ⟨g, rfl, h2, h3⟩ := h
  refine ⟨g, rfl, (hl.tag g h3.lt).trans h2, ?_⟩
  unfold Blk at *
  rw [hl.block g (Array.getElem?_eq_some_iff.1 h3).1 (h2 ▸ ht)]; exact h3
theorem OwnAt.step {α : Type} {T : Ty α} {xs : List α} (h : OwnAt T w own t e v xs) (hl : Spares own own' w w' tt) (ht : tt t) : OwnAt T w' own' t e v xs :=
  ⟨h.1.kept ⟨hl.size, fun _ hk => hk.elim⟩ fun k hk => hl.block k (h.1.lt k hk).2 (h.2 k hk ▸ ht), fun k hk => (hl.tag k (h.1.lt k hk).2).trans (h.2 k hk)⟩
theorem RowsAt.step {α : Type} {T : Ty α} {xss : List (List α)} (h : RowsAt T w own t eo e v xss) (hl : Spares own own' w w' tt) (ht : ∀ i, i ≤ xss.length → tt (t + i)) : RowsAt T w' own' t eo e v xss := by
  obtain ⟨g, cap, vs, junk, rfl, h2, h3, h4, h5, h6⟩ := h
  refine ⟨g, cap, vs, junk, rfl, h2, (hl.tag g h4.lt).trans h3, ?_, h5, fun i u xs hi hx => (h6 i u xs hi hx).step hl ?_⟩
  · unfold Blk at *
    rw [hl.block g (Array.getElem?_eq_some_iff.1 h4).1 (h3 ▸ ht 0 (by omega))]; exact h4
  · have : i < xss.length := (List.getElem?_eq_some_iff.1 hx).1
    have := ht (1 + i) (by omega)
    rwa [show t + (1 + i) = t + 1 + i from by omega] at this
theorem IntsAt.isSlice {xs : List Int} (h : IntsAt w own t e v xs) : IsSlice Ty.int w (fun _ => True) v xs := by
  obtain ⟨g, rfl, h2, h3⟩ := h
  exact h3.ints trivial (Nat.le_refl _)
theorem OwnAt.isSlice {α : Type} {T : Ty α} {xs : List α} (h : OwnAt T w own t e v xs) : IsSlice T w (fun _ => True) v xs := h.1.isSlice.mono fun _ _ _ => trivial
theorem RowsAt.isSlice {α : Type} {T : Ty α} {xss : List (List α)} (h : RowsAt T w own t eo e v xss) : IsSlice T.slice w (fun _ => True) v xss := by
  obtain ⟨g, cap, vs, junk, rfl, h2, h3, h4, h5, h6⟩ := h
  refine ⟨_, cap, rfl, h2, fun h => (by cases h), fun a ha _ => (by cases ha; rfl), fun i hi => ⟨g, 0, rfl, trivial, h4.lt, ?_⟩⟩
  have hv : vs[i]? = some (vs[i]'(by omega)) := by simp [h5, hi]
  refine ⟨[vs[i]'(by omega)], fun j u hj => ?_, _, rfl, (h6 i _ _ hv (by simp)).isSlice⟩
  cases j with
  | zero =>
    simp at hj; subst hj
    have e1 : ix 0 i (Ty.slice T).sz + 0 = i := by simp [ix, Ty.slice]
    rw [e1]
    exact h4.cell (by rw [List.getElem?_append_left (by omega)]; exact hv)
  | succ j => simp at hj
end

/-- new blocks get a tag -/
def retag (own : Nat → Nat) (n n' t : Nat) : Nat → Nat := fun k => if k < n then own k else if k < n' then t else 0
theorem retag_old {own : Nat → Nat} {n n' t k : Nat} (h : k < n) : retag own n n' t k = own k := by simp [retag, h]
/-- a slice of one's own grows -/
theorem OwnAt.append {α : Type} {T : Ty α} {w wa w1 : World} {own : Nat → Nat} {t : Nat} {e : TypeId} {u u' : Value} {xs ys : List α} (h : OwnAt T w own t e u xs) (hBa : Below w.heap.size w wa) (hg1 : wa.grownBy w1 u.ownBlock)
    (hown : Own T w1 0 (fun _ => False) e u' ys) (hnew : ∀ k, u'.ownBlock = some k → u.ownBlock = some k ∨ wa.heap.size ≤ k) :
    OwnAt T w1 (retag own w.heap.size w1.heap.size t) t e u' ys ∧ Spares own (retag own w.heap.size w1.heap.size t) w w1 (fun y => y ≠ t) := by
  refine ⟨⟨hown, fun k hk => ?_⟩, ⟨Nat.le_trans hBa.size hg1.size, fun k hk => by simp [retag, hk], fun k hk hy => ?_⟩⟩
  · rcases hnew k hk with h1 | h1
    · simp [retag, (h.1.lt k h1).2, h.2 k h1]
    · have : ¬ k < w.heap.size := by have := hBa.size; omega
      simp [retag, this, (hown.lt k hk).2]
  · rw [hg1.block k (Nat.lt_of_lt_of_le hk hBa.size) (fun he => hy (h.2 k he.symm)), hBa.block k hk]
/-- one row grows: an append and the store of the new slice into the outer row -/
theorem RowsAt.append {α : Type} [Inhabited α] {T : Ty α} {w wa w1 w2 : World} {own : Nat → Nat} {t : Nat} {e eo : TypeId} {v : Value} {xss : List (List α)} {g cap : Nat} {vs junk : List Value} {q : Nat} {u u' : Value} {x : α}
    (hv : v = .slice (some ⟨g, 0, none⟩) xss.length cap) (hcap : xss.length ≤ cap) (hg : own g = t) (hb : Blk w g (vs ++ junk) eo) (hl : vs.length = xss.length)
    (hr : ∀ i u xs, vs[i]? = some u → xss[i]? = some xs → OwnAt T w own (t + 1 + i) e u xs) (hq : q < xss.length) (hu : vs[q]? = some u)
    (hBa : Below w.heap.size w wa) (hg1 : wa.grownBy w1 u.ownBlock) (hO : Only w1 w2 g) (hown : Own T w1 0 (fun _ => False) e u' (nth xss q ++ [x])) (hnew : ∀ k, u'.ownBlock = some k → u.ownBlock = some k ∨ wa.heap.size ≤ k)
    (hb2 : Blk w2 g ((vs ++ junk).set q u') eo) :
    RowsAt T w2 (retag own w.heap.size w2.heap.size (t + 1 + q)) t eo e v (xss.set q (nth xss q ++ [x])) ∧ Spares own (retag own w.heap.size w2.heap.size (t + 1 + q)) w w2 (fun y => y ≠ t ∧ y ≠ t + 1 + q) := by
  have hou := hr q u _ hu (by simp [hq] : xss[q]? = some xss[q])
  have hug : ∀ k, u.ownBlock = some k → k ≠ g := fun k hk he => by
    have := hou.2 k hk; rw [he] at this; omega
  have hgw : g < w.heap.size := hb.lt
  have hS : Spares own (retag own w.heap.size w2.heap.size (t + 1 + q)) w w2 (fun y => y ≠ t ∧ y ≠ t + 1 + q) := by
    refine ⟨Nat.le_trans hBa.size (Nat.le_trans hg1.size hO.size), fun k hk => by simp [retag, hk], fun k hk hy => ?_⟩
    have h1 : k < wa.heap.size := Nat.lt_of_lt_of_le hk hBa.size
    rw [hO.block k (Nat.lt_of_lt_of_le h1 hg1.size) (by rintro rfl; exact hy.1 hg), hg1.block k h1 (fun he => hy.2 (hou.2 k he.symm)), hBa.block k hk]
  refine ⟨⟨g, cap, vs.set q u', junk, by simpa using hv, by simpa using hcap, by simp [retag, hgw, hg], ?_, by simp [hl], fun i a xs hi hx => ?_⟩, hS⟩
  · rw [List.set_append_left _ _ (by omega)] at hb2; exact hb2
  · by_cases hiq : i = q
    · subst hiq
      have h1 : a = u' := by
        rw [List.getElem?_set_self (by omega)] at hi; simpa using hi.symm
      have h2 : xs = nth xss i ++ [x] := by
        rw [List.getElem?_set_self hq] at hx; simpa using hx.symm
      subst h1; subst h2
      refine ⟨hown.only hO (fun _ h => h.elim) (fun he => ?_), fun k hk => ?_⟩
      · rcases hnew g he with h | h
        · exact hug g h rfl
        · have := hBa.size; omega
      · rcases hnew k hk with h | h
        · have hkl : k < w.heap.size := (hou.1.lt k h).2
          simp [retag, hkl, hou.2 k h]
        · have hkl : ¬ k < w.heap.size := by have := hBa.size; omega
          have hk2 : k < w2.heap.size := Nat.lt_of_lt_of_le (hown.lt k hk).2 hO.size
          simp [retag, hkl, hk2]
    · have hi' : vs[i]? = some a := by rwa [List.getElem?_set_ne (by omega)] at hi
      have hx' : xss[i]? = some xs := by rwa [List.getElem?_set_ne (by omega)] at hx
      exact (hr i a xs hi' hx').step hS ⟨by omega, by omega⟩
/-- one cell of a row is written -/
theorem RowsAt.setCell {w w1 : World} {own : Nat → Nat} {t : Nat} {e eo : TypeId} {v : Value} {xss : List (List Int)} {g cap : Nat} {vs junk : List Value} {q i gr n cr : Nat} {x : Int}
    (hv : v = .slice (some ⟨g, 0, none⟩) xss.length cap) (hcap : xss.length ≤ cap) (hg : own g = t) (hb : Blk w g (vs ++ junk) eo) (hl : vs.length = xss.length)
    (hr : ∀ i u xs, vs[i]? = some u → xss[i]? = some xs → OwnAt Ty.int w own (t + 1 + i) e u xs) (hq : q < xss.length) (hu : vs[q]? = some (.slice (some ⟨gr, 0, none⟩) n cr))
    (hO : Only w w1 gr) (hw : ∀ cs tt, Blk w gr cs tt → Blk w1 gr (cs.set i (.int .i64 x)) tt) :
    RowsAt Ty.int w1 own t eo e v (xss.set q ((nth xss q).set i x)) ∧ Spares own own w w1 (fun y => y ≠ t + 1 + q) := by
  have hou := hr q _ _ hu (by simp [hq] : xss[q]? = some xss[q])
  have hgr := hou.2 gr rfl
  have hS : Spares own own w w1 (fun y => y ≠ t + 1 + q) := ⟨hO.size, fun _ _ => rfl, fun k hk hy => hO.block k hk (by rintro rfl; exact hy hgr)⟩
  refine ⟨⟨g, cap, vs, junk, by simpa using hv, by simpa using hcap, hg, hb.only hO (by rintro rfl; omega), by simp [hl], fun j a xs hj hx => ?_⟩, hS⟩
  by_cases hjq : j = q
  · subst hjq
    rw [hu] at hj; cases hj
    have h2 : xs = (nth xss j).set i x := by rw [List.getElem?_set_self hq] at hx; simpa using hx.symm
    subst h2
    refine ⟨?_, hou.2⟩
    rw [nth_eq hq]
    exact hou.1.set1 (enc := encI) rfl (fun _ _ _ _ => Iff.rfl) x hw
  · have hx' : xss[j]? = some xs := by rwa [List.getElem?_set_ne (by omega)] at hx
    exact (hr j a xs hj hx').step hS (by omega)

/-- a number of an int row of one's own is written -/
theorem IntsAt.set {w w1 : World} {own : Nat → Nat} {t : Nat} {e : TypeId} {g i : Nat} {xs : List Int} {x : Int} (hg : own g = t) (hO : Only w w1 g) (hb : Blk w1 g ((xs.set i x).map encI) e) :
    IntsAt w1 own t e (.slice (some ⟨g, 0, none⟩) xs.length xs.length) (xs.set i x) ∧ Spares own own w w1 (fun y => y ≠ t) :=
  ⟨⟨g, by simp, hg, hb⟩, ⟨hO.size, fun _ _ => rfl, fun k hk hy => hO.block k hk (by rintro rfl; exact hy hg)⟩⟩
/-- the struct's block and all its parts -/
structure CompAt (w : World) (B lo : Nat) (own : Nat → Nat) (T0 eG : TypeId) (c : Comp) (vL vC vA vK vF vT vG : Value) : Prop where
  blk : Blk w B [vL, vC, vA, vK, .slice none 0 0, vF, vT, vG] T0
  tag : own B = 1
  low : ∀ k, own k ≠ 0 → lo ≤ k ∧ k < w.heap.size
  lens : IntsAt w own 2 3 vL c.lens
  arcs : OwnAt arcTy w own 3 46 vA c.arcs
  now : IntsAt w own 4 3 vT c.now
  fly : OwnAt letterTy w own 5 eG vG c.fly
  ckpts : RowsAt Ty.int w own 100 28 3 vC c.ckpts
  clocks : RowsAt Ty.int w own 200 28 3 vK c.clocks
  forced : RowsAt Ty.bool w own 300 43 4 vF c.forced
  few : c.ckpts.length ≤ 50 ∧ c.clocks.length ≤ 50 ∧ c.forced.length ≤ 50
def Comp.checkpoint (c : Comp) (q : Nat) (f : Bool) : Comp :=
  if nth (nth c.ckpts q) ((nth c.ckpts q).length - 1) = nth c.lens q then { c with clocks := c.clocks.set q ((nth c.clocks q).set ((nth c.ckpts q).length - 1) (nth c.now q)) }
  else { c with ckpts := c.ckpts.set q (nth c.ckpts q ++ [nth c.lens q]), clocks := c.clocks.set q (nth c.clocks q ++ [nth c.now q]), forced := c.forced.set q (nth c.forced q ++ [f]) }
/-- lists that fit together -/
structure Comp.Good (c : Comp) (n : Nat) : Prop where
  lens : c.lens.length = n
  ckpts : c.ckpts.length = n
  clocks : c.clocks.length = n
  forced : c.forced.length = n
  now : c.now.length = n
  rows : ∀ q, q < n → 1 ≤ (nth c.ckpts q).length ∧ (nth c.ckpts q).length ≤ 1000 ∧ (nth c.clocks q).length = (nth c.ckpts q).length ∧ (nth c.forced q).length = (nth c.ckpts q).length
/-- from w to w': the computation is now c; nothing of others has changed -/
def CompTo (w w' : World) (B lo : Nat) (own : Nat → Nat) (T0 eG : TypeId) (c : Comp) : Prop := ∃ own' vL vC vA vK vF vT vG, CompAt w' B lo own' T0 eG c vL vC vA vK vF vT vG ∧ Spares own own' w w' (fun y => y = 0)
theorem Spares.trans0 {a b c : World} {o1 o2 o3 : Nat → Nat} (h1 : Spares o1 o2 a b (fun y => y = 0)) (h2 : Spares o2 o3 b c (fun y => y = 0)) : Spares o1 o3 a c (fun y => y = 0) :=
  ⟨Nat.le_trans h1.size h2.size, fun k hk => (h2.tag k (Nat.lt_of_lt_of_le hk h1.size)).trans (h1.tag k hk), fun k hk hy => (h2.block k (Nat.lt_of_lt_of_le hk h1.size) (by rw [h1.tag k hk]; exact hy)).trans (h1.block k hk hy)⟩
theorem Spares.of_below {w w' : World} {own : Nat → Nat} {tt : Nat → Prop} (h : Below w.heap.size w w') : Spares own own w w' tt := ⟨h.size, fun _ _ => rfl, fun k hk _ => h.block k hk⟩
theorem Spares.mono {w w' : World} {own own' : Nat → Nat} {tt tt' : Nat → Prop} (h : Spares own own' w w' tt) (hm : ∀ y, tt' y → tt y) : Spares own own' w w' tt' := ⟨h.size, h.tag, fun k hk hy => h.block k hk (hm _ hy)⟩
theorem CompAt.ext {w w' : World} {B lo : Nat} {own : Nat → Nat} {T0 eG : TypeId} {c : Comp} {vL vC vA vK vF vT vG : Value} (h : CompAt w B lo own T0 eG c vL vC vA vK vF vT vG) (hB : Below w.heap.size w w') : CompAt w' B lo own T0 eG c vL vC vA vK vF vT vG := by
  have hS : Spares own own w w' (fun _ => True) := ⟨hB.size, fun _ _ => rfl, fun k hk _ => hB.block k hk⟩
  exact ⟨h.blk.ext hB, h.tag, fun k hk => ⟨(h.low k hk).1, Nat.lt_of_lt_of_le (h.low k hk).2 hB.size⟩, h.lens.step hS trivial, h.arcs.step hS trivial, h.now.step hS trivial, h.fly.step hS trivial, h.ckpts.step hS fun _ _ => trivial, h.clocks.step hS fun _ _ => trivial, h.forced.step hS fun _ _ => trivial, h.few⟩
/-- the flight is a new slice: an append, and the store of the slice into the struct -/
theorem CompAt.setFly {w wa w1 w2 : World} {B lo : Nat} {own : Nat → Nat} {T0 eG : TypeId} {c : Comp} {vL vC vA vK vF vT vG u' : Value} {ys : List Letter} (h : CompAt w B lo own T0 eG c vL vC vA vK vF vT vG)
    (hBa : Below w.heap.size w wa) (hg1 : wa.grownBy w1 vG.ownBlock) (hown : Own letterTy w1 0 (fun _ => False) eG u' ys) (hnew : ∀ k, u'.ownBlock = some k → vG.ownBlock = some k ∨ wa.heap.size ≤ k) (hO : Only w1 w2 B)
    (hb : Blk w2 B [vL, vC, vA, vK, .slice none 0 0, vF, vT, u'] T0) : CompAt w2 B lo (retag own w.heap.size w1.heap.size 5) T0 eG { c with fly := ys } vL vC vA vK vF vT u' ∧ Spares own (retag own w.heap.size w1.heap.size 5) w w2 (fun y => y = 0) ∧ Below lo w w2 := by
  have hBw := h.blk.lt
  have hloB : lo ≤ B := (h.low B (by have := h.tag; omega)).1
  obtain ⟨h1, hS⟩ := h.fly.append hBa hg1 hown hnew
  have hS2 : Spares (retag own w.heap.size w1.heap.size 5) (retag own w.heap.size w1.heap.size 5) w1 w2 (fun y => y ≠ 1) :=
    ⟨hO.size, fun _ _ => rfl, fun k hk hy => hO.block k hk (by rintro rfl; exact hy (by simp [retag, hBw, h.tag]))⟩
  have hf := h.few
  refine ⟨⟨hb, by simp [retag, hBw, h.tag], fun k hk => ?_, (h.lens.step hS (by omega)).step hS2 (by omega), (h.arcs.step hS (by omega)).step hS2 (by omega), (h.now.step hS (by omega)).step hS2 (by omega), h1.step hS2 (by omega),
    (h.ckpts.step hS (by intro i hi; omega)).step hS2 (by intro i hi; omega), (h.clocks.step hS (by intro i hi; omega)).step hS2 (by intro i hi; omega), (h.forced.step hS (by intro i hi; omega)).step hS2 (by intro i hi; omega), hf⟩, ⟨Nat.le_trans hS.size hS2.size, hS.tag, fun k hk hy => ?_⟩, ?_⟩
  · unfold retag at hk
    split at hk
    · have := h.low k hk; have := hS.size; have := hS2.size; omega
    · split at hk
      · have := hS2.size; omega
      · exact absurd rfl hk
  · have e1 : k < w1.heap.size := Nat.lt_of_lt_of_le hk hS.size
    rw [hS2.block k e1 (by simp [retag, hk, hy]), hS.block k hk (by omega)]
  · refine Below.trans (hBa.mono (by omega)) (Below.trans (Below.grown (Below.refl lo wa) hg1 (by have := hBa.size; omega) fun k hk => (h.low k (by have := h.fly.2 k hk; omega)).1) ?_)
    exact Below.onlyB (Below.refl lo w1) hO (by have := hBa.size; have := hg1.size; omega) hloB
theorem CompAt.setArcs {w wa w1 w2 : World} {B lo : Nat} {own : Nat → Nat} {T0 eG : TypeId} {c : Comp} {vL vC vA vK vF vT vG u' : Value} {ys : List Arc} (h : CompAt w B lo own T0 eG c vL vC vA vK vF vT vG)
    (hBa : Below w.heap.size w wa) (hg1 : wa.grownBy w1 vA.ownBlock) (hown : Own arcTy w1 0 (fun _ => False) 46 u' ys) (hnew : ∀ k, u'.ownBlock = some k → vA.ownBlock = some k ∨ wa.heap.size ≤ k) (hO : Only w1 w2 B)
    (hb : Blk w2 B [vL, vC, u', vK, .slice none 0 0, vF, vT, vG] T0) : CompAt w2 B lo (retag own w.heap.size w1.heap.size 3) T0 eG { c with arcs := ys } vL vC u' vK vF vT vG ∧ Spares own (retag own w.heap.size w1.heap.size 3) w w2 (fun y => y = 0) ∧ Below lo w w2 := by
  have hBw := h.blk.lt
  have hloB : lo ≤ B := (h.low B (by have := h.tag; omega)).1
  obtain ⟨h1, hS⟩ := h.arcs.append hBa hg1 hown hnew
  have hS2 : Spares (retag own w.heap.size w1.heap.size 3) (retag own w.heap.size w1.heap.size 3) w1 w2 (fun y => y ≠ 1) :=
    ⟨hO.size, fun _ _ => rfl, fun k hk hy => hO.block k hk (by rintro rfl; exact hy (by simp [retag, hBw, h.tag]))⟩
  have hf := h.few
  refine ⟨⟨hb, by simp [retag, hBw, h.tag], fun k hk => ?_, (h.lens.step hS (by omega)).step hS2 (by omega), h1.step hS2 (by omega), (h.now.step hS (by omega)).step hS2 (by omega), (h.fly.step hS (by omega)).step hS2 (by omega),
    (h.ckpts.step hS (by intro i hi; omega)).step hS2 (by intro i hi; omega), (h.clocks.step hS (by intro i hi; omega)).step hS2 (by intro i hi; omega), (h.forced.step hS (by intro i hi; omega)).step hS2 (by intro i hi; omega), hf⟩, ⟨Nat.le_trans hS.size hS2.size, hS.tag, fun k hk hy => ?_⟩, ?_⟩
  · unfold retag at hk
    split at hk
    · have := h.low k hk; have := hS.size; have := hS2.size; omega
    · split at hk
      · have := hS2.size; omega
      · exact absurd rfl hk
  · have e1 : k < w1.heap.size := Nat.lt_of_lt_of_le hk hS.size
    rw [hS2.block k e1 (by simp [retag, hk, hy]), hS.block k hk (by omega)]
  · refine Below.trans (hBa.mono (by omega)) (Below.trans (Below.grown (Below.refl lo wa) hg1 (by have := hBa.size; omega) fun k hk => (h.low k (by have := h.arcs.2 k hk; omega)).1) ?_)
    exact Below.onlyB (Below.refl lo w1) hO (by have := hBa.size; have := hg1.size; omega) hloB
def Comp.took (c : Comp) (pl : Nat) : Comp := { c with fly := c.fly.take pl ++ c.fly.drop (pl + 1) }
def Comp.raised (c : Comp) (q : Nat) (k : Int) : Comp := if nth c.now q < k then { c with now := c.now.set q k }.checkpoint q true else c
def Comp.got (c : Comp) (q ar : Nat) : Comp := { c with lens := c.lens.set q (nth c.lens q + 1), arcs := c.arcs.set ar { nth c.arcs ar with rcv := nth c.lens q + 1 } }
def Comp.receive (c : Comp) (place : Int) : Comp :=
  if decide (place < 0) || decide ((c.fly.length : Int) ≤ place) then c
  else if 64 ≤ nth c.lens (nth c.arcs (nth c.fly place.toNat).arc.toNat).to.toNat then c
  else ((c.took place.toNat).raised (nth c.arcs (nth c.fly place.toNat).arc.toNat).to.toNat (nth c.fly place.toNat).clock).got (nth c.arcs (nth c.fly place.toNat).arc.toNat).to.toNat (nth c.fly place.toNat).arc.toNat
theorem receive_full {c : Comp} {pl : Nat} (h : 64 ≤ nth c.lens (nth c.arcs (nth c.fly pl).arc.toNat).to.toNat) : c.receive pl = c := by
  unfold Comp.receive; split
  · rfl
  · rw [if_pos (by simpa using h)]
theorem receive_go {c : Comp} {pl : Nat} (hp : pl < c.fly.length) (h : ¬ 64 ≤ nth c.lens (nth c.arcs (nth c.fly pl).arc.toNat).to.toNat) :
    c.receive pl = ((c.took pl).raised (nth c.arcs (nth c.fly pl).arc.toNat).to.toNat (nth c.fly pl).clock).got (nth c.arcs (nth c.fly pl).arc.toNat).to.toNat (nth c.fly pl).arc.toNat := by
  unfold Comp.receive
  rw [if_neg (by simp; omega), if_neg (by simpa using h)]
  simp
theorem checkpoint_good {c : Comp} {n q : Nat} {f : Bool} (h : c.Good n) (hb : ∀ q, q < n → (nth c.ckpts q).length ≤ 999) (hq : q < n) : (c.checkpoint q f).Good n ∧ (c.checkpoint q f).lens = c.lens ∧ (c.checkpoint q f).arcs = c.arcs ∧ (c.checkpoint q f).now = c.now ∧ (c.checkpoint q f).fly = c.fly := by
  have e : ∀ {α : Type} [Inhabited α] (l : List α) (i : Nat) (x : α), q < l.length → nth (l.set q x) i = if i = q then x else nth l i := by
    intro α _ l i x hl
    by_cases hi : i = q
    · subst hi; simp [nth, hl]
    · simp [nth, hi, List.getElem?_set_ne (Ne.symm hi)]
  have h1 := h.lens; have h2 := h.ckpts; have h3 := h.clocks; have h4 := h.forced; have h5 := h.now
  unfold Comp.checkpoint
  split
  · refine ⟨⟨h1, h2, by simpa using h3, h4, h5, fun i hi => ?_⟩, rfl, rfl, rfl, rfl⟩
    have := h.rows i hi
    rw [show nth (c.clocks.set q ((nth c.clocks q).set ((nth c.ckpts q).length - 1) (nth c.now q))) i = if i = q then _ else nth c.clocks i from e _ _ _ (by omega)]
    by_cases hiq : i = q
    · subst hiq; simpa using this
    · simpa [hiq] using this
  · refine ⟨⟨h1, by simpa using h2, by simpa using h3, by simpa using h4, h5, fun i hi => ?_⟩, rfl, rfl, rfl, rfl⟩
    have := h.rows i hi
    have := hb i hi
    simp only [e _ _ _ (show q < c.ckpts.length by omega), e _ _ _ (show q < c.clocks.length by omega), e _ _ _ (show q < c.forced.length by omega)]
    by_cases hiq : i = q
    · subst hiq; simp; omega
    · simpa [hiq] using ‹_ ∧ _›
def Comp.send (c : Comp) (fr to : Int) : Comp :=
  if !(decide (0 ≤ fr) && decide (fr < c.now.length)) || !(decide (0 ≤ to) && decide (to < c.now.length)) || fr == to || decide (64 ≤ nth c.lens fr.toNat) then c
  else { c with lens := c.lens.set fr.toNat (nth c.lens fr.toNat + 1), fly := c.fly ++ [⟨c.arcs.length, nth c.now fr.toNat⟩], arcs := c.arcs ++ [⟨fr, nth c.lens fr.toNat + 1, to, 0⟩] }
end Go.Mine
