/- The rollback-dependency graph, plain: the edges, sorted and each once. -/
import Derived.Test.YtbmjcbhappjnaaaP20a
set_option linter.unusedSimpArgs false
set_option linter.unusedVariables false
namespace Go.Mine
open Go.RowKit
/-! slices.Compact -/
/-! which edges there are -/
def arcE (p : Pat) (a : Arc) : Pt2 := ⟨⟨a.fr, (ivl (ckR p a.fr) a.ix : Int)⟩, ⟨a.to, (ivl (ckR p a.to) a.rcv : Int)⟩⟩
def chE (q j : Nat) : Pt2 := ⟨⟨q, j⟩, ⟨q, ((j + 1 : Nat) : Int)⟩⟩
def IsEdge (n : Nat) (p : Pat) (e : Pt2) : Prop := (∃ q j : Nat, q < n ∧ j < (ckR p q).length ∧ e = chE q j) ∨ ∃ a ∈ p.arcs, a.rcv ≠ 0 ∧ e = arcE p a
def InCh (p : Pat) (k i : Nat) (e : Pt2) : Prop := ∃ q j : Nat, (q < k ∧ j < (ckR p q).length ∨ q = k ∧ j < i) ∧ e = chE q j
theorem InCh.zero {p : Pat} {e : Pt2} : ¬ InCh p 0 0 e := by rintro ⟨q, j, h | h, _⟩ <;> omega
theorem InCh.next {p : Pat} {k : Nat} {e : Pt2} : InCh p k (ckR p k).length e ↔ InCh p (k + 1) 0 e := by
  constructor
  · rintro ⟨q, j, h | h, he⟩
    · exact ⟨q, j, .inl ⟨by omega, h.2⟩, he⟩
    · obtain ⟨rfl, h⟩ := h; exact ⟨q, j, .inl ⟨by omega, h⟩, he⟩
  · rintro ⟨q, j, h | h, he⟩
    · rcases Nat.lt_or_ge q k with h2 | h2
      · exact ⟨q, j, .inl ⟨h2, h.2⟩, he⟩
      · have : q = k := by omega
        subst this; exact ⟨q, j, .inr ⟨rfl, h.2⟩, he⟩
    · omega
theorem InCh.succ {p : Pat} {k i : Nat} {e : Pt2} : InCh p k (i + 1) e ↔ e = chE k i ∨ InCh p k i e := by
  constructor
  · rintro ⟨q, j, h | h, he⟩
    · exact .inr ⟨q, j, .inl h, he⟩
    · rcases Nat.lt_or_ge j i with h2 | h2
      · exact .inr ⟨q, j, .inr ⟨h.1, h2⟩, he⟩
      · have : j = i := by omega
        rw [he, h.1, this]; exact .inl rfl
  · rintro (h | ⟨q, j, h | h, he⟩)
    · exact ⟨k, i, .inr ⟨rfl, by omega⟩, h⟩
    · exact ⟨q, j, .inl h, he⟩
    · exact ⟨q, j, .inr ⟨h.1, by omega⟩, he⟩
theorem InCh.all {n : Nat} {p : Pat} {e : Pt2} : InCh p n 0 e ↔ ∃ q j : Nat, q < n ∧ j < (ckR p q).length ∧ e = chE q j := by
  constructor
  · rintro ⟨q, j, h | h, he⟩
    · exact ⟨q, j, h.1, h.2, he⟩
    · omega
  · rintro ⟨q, j, h1, h2, he⟩; exact ⟨q, j, .inl ⟨h1, h2⟩, he⟩
def InAr (p : Pat) (m : Nat) (e : Pt2) : Prop := ∃ a ∈ p.arcs.take m, a.rcv ≠ 0 ∧ e = arcE p a
theorem InAr.succ {p : Pat} {m : Nat} {a : Arc} {e : Pt2} (ha : p.arcs[m]? = some a) : InAr p (m + 1) e ↔ (a.rcv ≠ 0 ∧ e = arcE p a) ∨ InAr p m e := by
  constructor
  · rintro ⟨b, hb, h1, h2⟩
    rcases mem_take_succ'.1 hb with h3 | h3
    · exact .inr ⟨b, h3, h1, h2⟩
    · rw [ha] at h3; cases h3; exact .inl ⟨h1, h2⟩
  · rintro (h | ⟨b, hb, h⟩)
    · exact ⟨a, mem_take_succ'.2 (.inr ha), h⟩
    · exact ⟨b, mem_take_succ'.2 (.inl hb), h⟩
def ESpec (n : Nat) (p : Pat) (l : List Pt2) : Prop := l.Pairwise E2lt ∧ (∀ e, e ∈ l ↔ IsEdge n p e) ∧ l.length ≤ 1000
theorem ESpec.uniq {n : Nat} {p : Pat} {l l' : List Pt2} (h : ESpec n p l) (h' : ESpec n p l') : l = l' := sorted_uniq h.1 h'.1 fun e => (h.2.1 e).trans (h'.2.1 e).symm
end Go.Mine
/- The rollback-dependency graph, plain: what can be reached (the marks, and the reference). -/
set_option linter.unusedSimpArgs false
set_option linter.unusedVariables false
namespace Go.Mine
open Go.RowKit
inductive Rch (n : Nat) (p : Pat) (l : List Pt) : Pt → Prop
  | start {x : Pt} : x ∈ l → Rch n p l x
  | step {e : Pt2} : Rch n p l e.x0 → IsEdge n p e → Rch n p l e.x1
structure VN (n : Nat) (p : Pat) (x : Pt) : Prop where
  p0 : 0 ≤ x.proc
  p1 : x.proc < n
  i0 : 0 ≤ x.index
  i1 : x.index ≤ (ckR p x.proc).length
theorem IsEdge.pos {n B : Nat} {p : Pat} (h : PatG n B p) {e : Pt2} (he : IsEdge n p e) : 1 ≤ e.x1.index := by
  rcases he with ⟨q, j, h1, h2, rfl⟩ | ⟨a, ha, h1, rfl⟩
  · simp only [chE]; omega
  · have hag := h.arc a ha
    have hc := h.ckI hag.to.1 hag.to.2
    have h0 := List.getElem?_eq_some_iff.1 hc.zero
    have := (ivl_lt hc.asc (k := a.rcv) h0.1).1 (by rw [h0.2]; have := hag.rcv.1; omega)
    simp only [arcE]; omega
theorem Rch.pos {n B : Nat} {p : Pat} (h : PatG n B p) {l : List Pt} (hl : ∀ x ∈ l, 1 ≤ x.index) {x : Pt} (hx : Rch n p l x) : 1 ≤ x.index := by
  cases hx with
  | start hm => exact hl _ hm
  | step _ he => exact he.pos h
theorem Rch.mono {n : Nat} {p : Pat} {l l' : List Pt} (hl : ∀ x ∈ l, x ∈ l') {x : Pt} (hx : Rch n p l x) : Rch n p l' x := by
  induction hx with
  | start hm => exact .start (hl _ hm)
  | step _ he ih => exact .step ih he
/-- what is reached from several is reached from one of them -/
theorem Rch.one {n : Nat} {p : Pat} {l : List Pt} {x : Pt} (hx : Rch n p l x) : ∃ y ∈ l, Rch n p [y] x := by
  induction hx with
  | start hm => exact ⟨_, hm, .start (by simp)⟩
  | step _ he ih => obtain ⟨y, hy, hr⟩ := ih; exact ⟨y, hy, .step hr he⟩
/-- what is reached goes on to the end of its process -/
theorem Rch.up {n : Nat} {p : Pat} {l : List Pt} {q i : Nat} (hq : q < n) (h : Rch n p l ⟨q, i⟩) : ∀ d, i + d ≤ (ckR p q).length → Rch n p l ⟨q, ((i + d : Nat) : Int)⟩
  | 0, _ => h
  | d + 1, hd => Rch.step (e := chE q (i + d)) (Rch.up hq h d (by omega)) (.inl ⟨q, i + d, hq, by omega, rfl⟩)
/-! marks -/
def rw2 (m : List (List Bool)) (q : Int) : List Bool := m[q.toNat]?.getD []
def bm (m : List (List Bool)) (x : Pt) : Bool := (rw2 m x.proc)[x.index.toNat]?.getD false
def setM (m : List (List Bool)) (x : Pt) : List (List Bool) := m.set x.proc.toNat ((rw2 m x.proc).set x.index.toNat true)
structure Shp (n : Nat) (p : Pat) (m : List (List Bool)) : Prop where
  len : m.length = n
  row : ∀ q : Nat, q < n → (rw2 m q).length = (ckR p q).length + 1
theorem Shp.int {n : Nat} {p : Pat} {m : List (List Bool)} (h : Shp n p m) {q : Int} (h0 : 0 ≤ q) (h1 : q < n) : (rw2 m q).length = (ckR p q).length + 1 := by
  obtain ⟨k, rfl⟩ := Int.eq_ofNat_of_zero_le h0
  exact h.row k (by omega)
theorem VN.lt {n : Nat} {p : Pat} {m : List (List Bool)} {x : Pt} (h : VN n p x) (hs : Shp n p m) : x.proc.toNat < m.length ∧ x.index.toNat < (rw2 m x.proc).length := by
  have := hs.len; have := hs.int h.p0 h.p1; have := h.p0; have := h.p1; have := h.i0; have := h.i1
  exact ⟨by omega, by omega⟩
theorem rw2_setM {n : Nat} {p : Pat} {m : List (List Bool)} {x : Pt} (h : VN n p x) (hs : Shp n p m) {q : Int} (h0 : 0 ≤ q) : rw2 (setM m x) q = if q = x.proc then (rw2 m x.proc).set x.index.toNat true else rw2 m q := by
  have hp := h.p0
  unfold setM
  show ((m.set x.proc.toNat ((rw2 m x.proc).set x.index.toNat true))[q.toNat]?).getD [] = _
  rw [getElem?_set' (h.lt hs).1]
  by_cases e : q = x.proc
  · rw [if_pos (by rw [e]), if_pos e]; rfl
  · rw [if_neg (by omega), if_neg e]; rfl
theorem Shp.set {n : Nat} {p : Pat} {m : List (List Bool)} (hs : Shp n p m) {x : Pt} (h : VN n p x) : Shp n p (setM m x) := by
  refine ⟨by simp [setM, hs.len], fun q hq => ?_⟩
  rw [rw2_setM h hs (by omega)]
  split
  · rename_i e; rw [List.length_set, hs.int h.p0 h.p1, e]
  · exact hs.row q hq
/-- the marks are those of what can be reached -/
def RSpec (n : Nat) (p : Pat) (l : List Pt) (m : List (List Bool)) : Prop := Shp n p m ∧ ∀ x, VN n p x → (bm m x = true ↔ Rch n p l x)
theorem RSpec.uniq {n : Nat} {p : Pat} {l : List Pt} {m m' : List (List Bool)} (h : RSpec n p l m) (h' : RSpec n p l m') : m = m' := by
  have e1 := h.1.len; have e2 := h'.1.len
  refine List.ext_getElem (by omega) fun q h1 h2 => ?_
  have r1 : rw2 m (q : Int) = m[q] := by simp [rw2, h1]
  have r2 : rw2 m' (q : Int) = m'[q] := by simp [rw2, h2]
  have l1 := h.1.row q (by omega); have l2 := h'.1.row q (by omega)
  rw [r1] at l1; rw [r2] at l2
  refine List.ext_getElem (by omega) fun i h3 h4 => ?_
  have hv : VN n p ⟨(q : Int), (i : Int)⟩ := ⟨by simp only; omega, by simp only; omega, by simp only; omega, by simp only; omega⟩
  have b1 : bm m ⟨(q : Int), (i : Int)⟩ = m[q][i] := by simp [bm, r1, h3]
  have b2 : bm m' ⟨(q : Int), (i : Int)⟩ = m'[q][i] := by simp [bm, r2, h4]
  have := (h.2 _ hv).trans (h'.2 _ hv).symm
  rw [b1, b2] at this
  exact Bool.eq_iff_iff.2 this
/-- marks that are closed, contain the beginnings, and mark nothing else -/
theorem RSpec.of {n B : Nat} {p : Pat} (h : PatG n B p) {l : List Pt} {m : List (List Bool)} (hl : ∀ x ∈ l, VN n p x) (hs : Shp n p m) (h1 : ∀ x ∈ l, bm m x = true) (h2 : ∀ x, VN n p x → bm m x = true → Rch n p l x)
    (h3 : ∀ e, IsEdge n p e → bm m e.x0 = true → bm m e.x1 = true) : RSpec n p l m := by
  refine ⟨hs, fun x hx => ⟨h2 x hx, fun hr => ?_⟩⟩
  clear hx
  induction hr with
  | start hm => exact h1 _ hm
  | step hr he ih => exact h3 _ he ih
end Go.Mine
