/- Cuts, plain: layer 18. -/
import Derived.Test.YtbmjcbhappjnaaaA18a
import Derived.Test.YtbmjcbhappjnaaaPchk
set_option linter.unusedSimpArgs false
set_option linter.unusedVariables false
namespace Go.Mine
open Go.RowKit
def orph (a : Arc) (x : List Int) : Bool := decide (a.rcv ≠ 0) && decide (a.rcv ≤ nI x a.to) && decide (nI x a.fr < a.ix)
def Cons (arcs : List Arc) (x : List Int) : Prop := ∀ a ∈ arcs, orph a x = false
structure CutG (n : Nat) (lens x : List Int) : Prop where
  len : x.length = n
  rng : ∀ q : Nat, q < n → 0 ≤ nI x q ∧ nI x q ≤ nI lens q
theorem orph_iff {a : Arc} {x : List Int} : orph a x = true ↔ a.rcv ≠ 0 ∧ a.rcv ≤ nI x a.to ∧ nI x a.fr < a.ix := by
  unfold orph; simp only [Bool.and_eq_true, decide_eq_true_eq, and_assoc]
theorem orph_not {a : Arc} {x : List Int} : orph a x = false ↔ ¬ (a.rcv ≠ 0 ∧ a.rcv ≤ nI x a.to ∧ nI x a.fr < a.ix) := by
  rw [← orph_iff]; simp
theorem CutG.int {n : Nat} {lens x : List Int} (h : CutG n lens x) {q : Int} (h0 : 0 ≤ q) (h1 : q < n) : 0 ≤ nI x q ∧ nI x q ≤ nI lens q := by
  obtain ⟨k, rfl⟩ := Int.eq_ofNat_of_zero_le h0
  exact h.rng k (by omega)
theorem nI_get {x : List Int} {q : Nat} (h : q < x.length) : nI x q = x[q] := by simp [nI, h]
theorem nI_get? {x : List Int} {q : Nat} (h : q < x.length) : x[q]? = some (nI x q) := by simp [nI, h]
theorem list_ext_nI {x y : List Int} (hl : x.length = y.length) (h : ∀ q : Nat, q < x.length → nI x q = nI y q) : x = y :=
  List.ext_getElem hl fun i h1 h2 => by have := h i h1; rwa [nI_get h1, nI_get h2] at this
theorem ati_nI {x : List Int} {q : Int} (h0 : 0 ≤ q) (h1 : q < x.length) : ati x q = some (nI x q) := by
  obtain ⟨k, rfl⟩ := Int.eq_ofNat_of_zero_le h0
  rw [ati_get (by omega), nI_get (by omega)]
/-- a list of orphans: what its first element says -/
def OrS (arcs : List Arc) (x : List Int) (l : List Int) : Prop := l.length ≤ arcs.length ∧ ((l = [] ∧ arcs.find? (orph · x) = none) ∨ ∃ (i : Nat) (a : Arc), l[0]? = some (i : Int) ∧ arcs[i]? = some a ∧ arcs.find? (orph · x) = some a)
theorem find_first {arcs : List Arc} {x : List Int} {k : Nat} {a : Arc} (ha : arcs[k]? = some a) (ho : orph a x = true) (hn : ∀ b ∈ arcs.take k, orph b x = false) : arcs.find? (orph · x) = some a := by
  obtain ⟨hk, rfl⟩ := List.getElem?_eq_some_iff.1 ha
  rw [List.find?_eq_some_iff_getElem]
  refine ⟨ho, k, hk, rfl, fun j hj => ?_⟩
  have := hn arcs[j] (List.mem_iff_getElem?.2 ⟨j, by rw [List.getElem?_take_of_lt hj]; simp⟩)
  simp [this]
theorem find_none {arcs : List Arc} {x : List Int} : arcs.find? (orph · x) = none ↔ Cons arcs x := by
  rw [List.find?_eq_none]; unfold Cons; simp
theorem mem_take_succ' {α : Type} {xs : List α} {k : Nat} {e : α} : e ∈ xs.take (k + 1) ↔ e ∈ xs.take k ∨ xs[k]? = some e := by
  rw [List.take_add_one, List.mem_append]
  cases xs[k]? <;> simp [eq_comm]
/-- while the orphans are collected -/
def OrI (arcs : List Arc) (x : List Int) (k : Nat) (l : List Int) : Prop := l.length ≤ k ∧ ((l = [] ∧ ∀ b ∈ arcs.take k, orph b x = false) ∨ ∃ (i : Nat) (a : Arc), l[0]? = some (i : Int) ∧ arcs[i]? = some a ∧ arcs.find? (orph · x) = some a)
theorem OrI.yes {arcs : List Arc} {x l : List Int} {k : Nat} {a : Arc} (h : OrI arcs x k l) (ha : arcs[k]? = some a) (ho : orph a x = true) : OrI arcs x (k + 1) (l ++ [(k : Int)]) := by
  obtain ⟨hl, h⟩ := h
  refine ⟨by simp; omega, .inr ?_⟩
  rcases h with ⟨rfl, h⟩ | ⟨i, b, h1, h2⟩
  · exact ⟨k, a, rfl, ha, find_first ha ho h⟩
  · exact ⟨i, b, by rw [List.getElem?_append_left (List.getElem?_eq_some_iff.1 h1).1]; exact h1, h2⟩
theorem OrI.no {arcs : List Arc} {x l : List Int} {k : Nat} {a : Arc} (h : OrI arcs x k l) (ha : arcs[k]? = some a) (ho : orph a x = false) : OrI arcs x (k + 1) l := by
  obtain ⟨hl, h⟩ := h
  refine ⟨by omega, ?_⟩
  rcases h with ⟨rfl, h⟩ | h
  · refine .inl ⟨rfl, fun b hb => ?_⟩
    rcases mem_take_succ'.1 hb with hb | hb
    · exact h b hb
    · rw [ha] at hb; cases hb; exact ho
  · exact .inr h
theorem OrI.fin {arcs : List Arc} {x l : List Int} (h : OrI arcs x arcs.length l) : OrS arcs x l := by
  obtain ⟨hl, h⟩ := h
  refine ⟨hl, ?_⟩
  rcases h with ⟨rfl, h⟩ | h
  · rw [List.take_length] at h; exact .inl ⟨rfl, find_none.2 h⟩
  · exact .inr h
open Classical in
noncomputable def consB (arcs : List Arc) (x : List Int) : Bool := decide (Cons arcs x)
theorem consB_iff {arcs : List Arc} {x : List Int} : consB arcs x = true ↔ Cons arcs x := by unfold consB; simp
theorem consB_not {arcs : List Arc} {x : List Int} : consB arcs x = false ↔ ¬ Cons arcs x := by unfold consB; simp
theorem OrS.cons {arcs : List Arc} {x l : List Int} (h : OrS arcs x l) : ((l.length : Int) == 0) = consB arcs x := by
  obtain ⟨_, ⟨rfl, h⟩ | ⟨i, a, h1, _, h3⟩⟩ := h
  · rw [consB_iff.2 (find_none.1 h)]; rfl
  · rw [consB_not.2 fun hc => by rw [find_none.2 hc] at h3; cases h3]
    have := (List.getElem?_eq_some_iff.1 h1).1
    simp; intro e; subst e; simp at this
/-! smaller elements -/
def meetL (x y : List Int) : List Int := List.zipWith min x y
theorem meetL_len {x y : List Int} (h : x.length = y.length) : (meetL x y).length = x.length := by simp [meetL]; omega
theorem meetL_nI {x y : List Int} (h : x.length = y.length) {q : Nat} (hq : q < x.length) : nI (meetL x y) q = min (nI x q) (nI y q) := by
  rw [nI_get (by rw [meetL_len h]; exact hq), nI_get hq, nI_get (by omega)]; simp [meetL]
def Le (x y : List Int) : Prop := ∀ q : Nat, q < x.length → nI x q ≤ nI y q
/-- consistent cuts are closed under meets -/
theorem Cons.meet {n : Nat} {lens : List Int} {arcs : List Arc} {x y : List Int} (ha : ∀ a ∈ arcs, ArcG n lens a) (hx : x.length = n) (hy : y.length = n) (h1 : Cons arcs x) (h2 : Cons arcs y) : Cons arcs (meetL x y) := by
  intro a h
  have a1 := (ha a h).fr; have a2 := (ha a h).to
  obtain ⟨f, hf⟩ := Int.eq_ofNat_of_zero_le a1.1
  obtain ⟨t, ht⟩ := Int.eq_ofNat_of_zero_le a2.1
  have e1 := orph_not.1 (h1 a h); have e2 := orph_not.1 (h2 a h)
  have hfn : f < n := by omega
  have htn : t < n := by omega
  rw [orph_not]
  rw [hf, ht] at e1 e2 ⊢
  rw [meetL_nI (by omega) (by omega), meetL_nI (by omega) (by omega)]
  omega
end Go.Mine
/- Plain: the intervals of a process. -/
set_option linter.unusedSimpArgs false
set_option linter.unusedVariables false
namespace Go.Mine
open Go.RowKit
/-! intervals -/
def ckR (p : Pat) (q : Int) : List Int := p.ckpts[q.toNat]?.getD []
def ivl (r : List Int) (k : Int) : Nat := r.countP (fun y => decide (y < k))
theorem ati_ck {p : Pat} {q : Int} (h0 : 0 ≤ q) (h1 : q < p.ckpts.length) : ati p.ckpts q = some (ckR p q) := by
  rw [ati_int h0 (by omega)]; simp [ckR, (show q.toNat < p.ckpts.length by omega)]
theorem PatG.ckI {n B : Nat} {p : Pat} (h : PatG n B p) {q : Int} (h0 : 0 ≤ q) (h1 : q < n) : CkG (ckR p q) (nI p.lens q) := by
  have hk := h.ck; have hl := h.len
  have e1 : p.ckpts[q.toNat]? = some (ckR p q) := by simp [ckR, (show q.toNat < p.ckpts.length by omega)]
  have e2 : p.lens[q.toNat]? = some (nI p.lens q) := by simp [nI, (show q.toNat < p.lens.length by omega)]
  exact h.row _ _ _ e1 e2
theorem PatG.ckW {n B : Nat} {p : Pat} (h : PatG n B p) (q : Int) : (ckR p q).length ≤ B + 1 := by
  unfold ckR
  cases e : p.ckpts[q.toNat]? with
  | none => simp
  | some r => exact h.wid r (List.mem_of_getElem? e)
theorem ivl_le {r : List Int} {k : Int} : ivl r k ≤ r.length := List.countP_le_length
theorem ivl_take {r : List Int} {k : Int} {i : Nat} (h : i < r.length) : ivl (r.take (i + 1)) k = ivl (r.take i) k + if r[i] < k then 1 else 0 := by
  unfold ivl
  rw [List.take_add_one, List.countP_append]
  simp [h, List.countP_cons]
/-- in an ascending row the interval is the place -/
theorem ivl_lt {r : List Int} (h : r.Pairwise (· < ·)) {k : Int} {i : Nat} (hi : i < r.length) : r[i] < k ↔ i < ivl r k := by
  induction r generalizing i with
  | nil => simp at hi
  | cons a r ih =>
    rw [List.pairwise_cons] at h
    have hc : ivl (a :: r) k = ivl r k + if a < k then 1 else 0 := by simp [ivl, List.countP_cons]
    cases i with
    | zero =>
      simp only [List.getElem_cons_zero]
      rw [hc]
      constructor
      · intro hk; rw [if_pos hk]; omega
      · intro hp
        by_cases hk : a < k
        · exact hk
        · rw [if_neg hk] at hp
          have : ivl r k = 0 := by
            unfold ivl; rw [List.countP_eq_zero]
            intro y hy
            have := h.1 y hy
            simp; omega
          omega
    | succ i =>
      have hi' : i < r.length := by simpa using hi
      simp only [List.getElem_cons_succ]
      rw [hc, ih h.2 hi']
      by_cases hk : a < k
      · rw [if_pos hk]; omega
      · rw [if_neg hk]
        have : ivl r k = 0 := by
          unfold ivl; rw [List.countP_eq_zero]
          intro y hy
          have := h.1 y hy
          simp; omega
        omega
theorem ivl_all {r : List Int} {k : Int} (h : ∀ y ∈ r, y < k) : ivl r k = r.length := by
  unfold ivl; rw [List.countP_eq_length]; intro y hy; simpa using h y hy
theorem ivl_snoc {r : List Int} {x k : Int} : ivl (r ++ [x]) k = ivl r k + if x < k then 1 else 0 := by
  unfold ivl; rw [List.countP_append]; simp [List.countP_cons]
/-- a row of rows -/
def rwL {α : Type} (xs : List (List α)) (q : Int) : List α := xs[q.toNat]?.getD []
theorem rwL_get {α : Type} {xs : List (List α)} {q : Nat} (h : q < xs.length) : xs[q]? = some (rwL xs q) := by simp [rwL, h]
theorem ati_rw {α : Type} {xs : List (List α)} {q : Nat} (h : q < xs.length) : ati xs (q : Int) = some (rwL xs q) := by rw [ati_cast]; exact rwL_get h
theorem rwL_set {α : Type} {xs : List (List α)} {q : Nat} {r : List α} {j : Int} (h : q < xs.length) (hj : 0 ≤ j) : rwL (xs.set q r) j = if j = q then r else rwL xs j := by
  unfold rwL; rw [getElem?_set' h]
  by_cases e : j = q
  · subst e; simp
  · rw [if_neg (by omega), if_neg e]
theorem rwL_rep {α : Type} {n : Nat} {r : List α} {j : Int} (h0 : 0 ≤ j) (h1 : j < n) : rwL (List.replicate n r) j = r := by
  unfold rwL; rw [List.getElem?_replicate, if_pos (by omega)]; rfl
end Go.Mine
