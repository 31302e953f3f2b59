/- Cuts, plain: layer 18. -/
import Derived.Test.YtbmjcbhappjnaaaPchk
set_option linter.unusedSimpArgs false
set_option linter.unusedVariables false
namespace Go.Mine
open Go.RowKit
def orph (a : Arc) (x : List Int) : Bool := decide (a.rcv ≠ 0) && decide (a.rcv ≤ nI x a.to) && decide (nI x a.fr < a.ix)
def Cons (arcs : List Arc) (x : List Int) : Prop := ∀ a ∈ arcs, orph a x = false
structure CutG (n : Nat) (lens x : List Int) : Prop where
  len : x.length = n
  rng : ∀ q : Nat, q < n → 0 ≤ nI x q ∧ nI x q ≤ nI lens q
theorem orph_iff {a : Arc} {x : List Int} : orph a x = true ↔ a.rcv ≠ 0 ∧ a.rcv ≤ nI x a.to ∧ nI x a.fr < a.ix := by
  unfold orph; simp only [Bool.and_eq_true, decide_eq_true_eq, and_assoc]
theorem orph_not {a : Arc} {x : List Int} : orph a x = false ↔ ¬ (a.rcv ≠ 0 ∧ a.rcv ≤ nI x a.to ∧ nI x a.fr < a.ix) := by
  rw [← orph_iff]; simp
theorem CutG.int {n : Nat} {lens x : List Int} (h : CutG n lens x) {q : Int} (h0 : 0 ≤ q) (h1 : q < n) : 0 ≤ nI x q ∧ nI x q ≤ nI lens q := by
  obtain ⟨k, rfl⟩ := Int.eq_ofNat_of_zero_le h0
  exact h.rng k (by omega)
theorem nI_get {x : List Int} {q : Nat} (h : q < x.length) : nI x q = x[q] := by simp [nI, h]
theorem nI_get? {x : List Int} {q : Nat} (h : q < x.length) : x[q]? = some (nI x q) := by simp [nI, h]
theorem list_ext_nI {x y : List Int} (hl : x.length = y.length) (h : ∀ q : Nat, q < x.length → nI x q = nI y q) : x = y :=
  List.ext_getElem hl fun i h1 h2 => by have := h i h1; rwa [nI_get h1, nI_get h2] at this
/-- a list of orphans: what its first element says -/
def OrS (arcs : List Arc) (x : List Int) (l : List Int) : Prop := l.length ≤ arcs.length ∧ ((l = [] ∧ arcs.find? (orph · x) = none) ∨ ∃ (i : Nat) (a : Arc), l[0]? = some (i : Int) ∧ arcs[i]? = some a ∧ arcs.find? (orph · x) = some a)
theorem find_first {arcs : List Arc} {x : List Int} {k : Nat} {a : Arc} (ha : arcs[k]? = some a) (ho : orph a x = true) (hn : ∀ b ∈ arcs.take k, orph b x = false) : arcs.find? (orph · x) = some a := by
  obtain ⟨hk, rfl⟩ := List.getElem?_eq_some_iff.1 ha
  rw [List.find?_eq_some_iff_getElem]
  refine ⟨ho, k, hk, rfl, fun j hj => ?_⟩
  have := hn arcs[j] (List.mem_iff_getElem?.2 ⟨j, by rw [List.getElem?_take_of_lt hj]; simp⟩)
  simp [this]
theorem find_none {arcs : List Arc} {x : List Int} : arcs.find? (orph · x) = none ↔ Cons arcs x := by
  rw [List.find?_eq_none]; unfold Cons; simp
theorem mem_take_succ' {α : Type} {xs : List α} {k : Nat} {e : α} : e ∈ xs.take (k + 1) ↔ e ∈ xs.take k ∨ xs[k]? = some e := by
  rw [List.take_add_one, List.mem_append]
  cases xs[k]? <;> simp [eq_comm]
/-- while the orphans are collected -/
def OrI (arcs : List Arc) (x : List Int) (k : Nat) (l : List Int) : Prop := l.length ≤ k ∧ ((l = [] ∧ ∀ b ∈ arcs.take k, orph b x = false) ∨ ∃ (i : Nat) (a : Arc), l[0]? = some (i : Int) ∧ arcs[i]? = some a ∧ arcs.find? (orph · x) = some a)
theorem OrI.yes {arcs : List Arc} {x l : List Int} {k : Nat} {a : Arc} (h : OrI arcs x k l) (ha : arcs[k]? = some a) (ho : orph a x = true) : OrI arcs x (k + 1) (l ++ [(k : Int)]) := by
  obtain ⟨hl, h⟩ := h
  refine ⟨by simp; omega, .inr ?_⟩
  rcases h with ⟨rfl, h⟩ | ⟨i, b, h1, h2⟩
  · exact ⟨k, a, rfl, ha, find_first ha ho h⟩
  · exact ⟨i, b, by rw [List.getElem?_append_left (List.getElem?_eq_some_iff.1 h1).1]; exact h1, h2⟩
theorem OrI.no {arcs : List Arc} {x l : List Int} {k : Nat} {a : Arc} (h : OrI arcs x k l) (ha : arcs[k]? = some a) (ho : orph a x = false) : OrI arcs x (k + 1) l := by
  obtain ⟨hl, h⟩ := h
  refine ⟨by omega, ?_⟩
  rcases h with ⟨rfl, h⟩ | h
  · refine .inl ⟨rfl, fun b hb => ?_⟩
    rcases mem_take_succ'.1 hb with hb | hb
    · exact h b hb
    · rw [ha] at hb; cases hb; exact ho
  · exact .inr h
theorem OrI.fin {arcs : List Arc} {x l : List Int} (h : OrI arcs x arcs.length l) : OrS arcs x l := by
  obtain ⟨hl, h⟩ := h
  refine ⟨hl, ?_⟩
  rcases h with ⟨rfl, h⟩ | h
  · rw [List.take_length] at h; exact .inl ⟨rfl, find_none.2 h⟩
  · exact .inr h
open Classical in
noncomputable def consB (arcs : List Arc) (x : List Int) : Bool := decide (Cons arcs x)
theorem consB_iff {arcs : List Arc} {x : List Int} : consB arcs x = true ↔ Cons arcs x := by unfold consB; simp
theorem consB_not {arcs : List Arc} {x : List Int} : consB arcs x = false ↔ ¬ Cons arcs x := by unfold consB; simp
theorem OrS.cons {arcs : List Arc} {x l : List Int} (h : OrS arcs x l) : ((l.length : Int) == 0) = consB arcs x := by
  obtain ⟨_, ⟨rfl, h⟩ | ⟨i, a, h1, _, h3⟩⟩ := h
  · rw [consB_iff.2 (find_none.1 h)]; rfl
  · rw [consB_not.2 fun hc => by rw [find_none.2 hc] at h3; cases h3]
    have := (List.getElem?_eq_some_iff.1 h1).1
    simp; intro e; subst e; simp at this
/-! smaller elements -/
def meetL (x y : List Int) : List Int := List.zipWith min x y
theorem meetL_len {x y : List Int} (h : x.length = y.length) : (meetL x y).length = x.length := by simp [meetL]; omega
theorem meetL_nI {x y : List Int} (h : x.length = y.length) {q : Nat} (hq : q < x.length) : nI (meetL x y) q = min (nI x q) (nI y q) := by
  rw [nI_get (by rw [meetL_len h]; exact hq), nI_get hq, nI_get (by omega)]; simp [meetL]
/-- consistent cuts are closed under meets -/
theorem Cons.meet {n : Nat} {lens : List Int} {arcs : List Arc} {x y : List Int} (ha : ∀ a ∈ arcs, ArcG n lens a) (hx : x.length = n) (hy : y.length = n) (h1 : Cons arcs x) (h2 : Cons arcs y) : Cons arcs (meetL x y) := by
  intro a h
  have a1 := (ha a h).fr; have a2 := (ha a h).to
  obtain ⟨f, hf⟩ := Int.eq_ofNat_of_zero_le a1.1
  obtain ⟨t, ht⟩ := Int.eq_ofNat_of_zero_le a2.1
  have e1 := orph_not.1 (h1 a h); have e2 := orph_not.1 (h2 a h)
  have hfn : f < n := by omega
  have htn : t < n := by omega
  rw [orph_not]
  rw [hf, ht] at e1 e2 ⊢
  rw [meetL_nI (by omega) (by omega), meetL_nI (by omega) (by omega)]
  omega
end Go.Mine
