/- Cuts, plain: layer 18. -/
import Derived.Test.YtbmjcbhappjnaaaA18a
import Derived.Test.YtbmjcbhappjnaaaPchk
set_option linter.unusedSimpArgs false
set_option linter.unusedVariables false
namespace Go.Mine
open Go.RowKit
def orph (a : Arc) (x : List Int) : Bool := decide (a.rcv ≠ 0) && decide (a.rcv ≤ nI x a.to) && decide (nI x a.fr < a.ix)
def Cons (arcs : List Arc) (x : List Int) : Prop := ∀ a ∈ arcs, orph a x = false
structure CutG (n : Nat) (lens x : List Int) : Prop where
  len : x.length = n
  rng : ∀ q : Nat, q < n → 0 ≤ nI x q ∧ nI x q ≤ nI lens q
theorem orph_iff {a : Arc} {x : List Int} : orph a x = true ↔ a.rcv ≠ 0 ∧ a.rcv ≤ nI x a.to ∧ nI x a.fr < a.ix := by
  unfold orph; simp only [Bool.and_eq_true, decide_eq_true_eq, and_assoc]
theorem orph_not {a : Arc} {x : List Int} : orph a x = false ↔ ¬ (a.rcv ≠ 0 ∧ a.rcv ≤ nI x a.to ∧ nI x a.fr < a.ix) := by
  rw [← orph_iff]; simp
theorem CutG.int {n : Nat} {lens x : List Int} (h : CutG n lens x) {q : Int} (h0 : 0 ≤ q) (h1 : q < n) : 0 ≤ nI x q ∧ nI x q ≤ nI lens q := by
  obtain ⟨k, rfl⟩ := Int.eq_ofNat_of_zero_le h0
  exact h.rng k (by omega)
theorem nI_get {x : List Int} {q : Nat} (h : q < x.length) : nI x q = x[q] := by simp [nI, h]
theorem nI_get? {x : List Int} {q : Nat} (h : q < x.length) : x[q]? = some (nI x q) := by simp [nI, h]
theorem list_ext_nI {x y : List Int} (hl : x.length = y.length) (h : ∀ q : Nat, q < x.length → nI x q = nI y q) : x = y :=
  List.ext_getElem hl fun i h1 h2 => by have := h i h1; rwa [nI_get h1, nI_get h2] at this
theorem ati_nI {x : List Int} {q : Int} (h0 : 0 ≤ q) (h1 : q < x.length) : ati x q = some (nI x q) := by
  obtain ⟨k, rfl⟩ := Int.eq_ofNat_of_zero_le h0
  rw [ati_get (by omega), nI_get (by omega)]
theorem orphan_g {fuel n : Nat} {lens x : List Int} {a : Arc} (h : ArcG n lens a) (hx : x.length = n) : cut_orphan fuel a x = some (orph a x) := by
  unfold cut_orphan
  rw [ati_nI h.to.1 (by have := h.to.2; omega), ati_nI h.fr.1 (by have := h.fr.2; omega)]
  simp only [Option.bind_some, andM_some, orph]
  congr 3
  rw [Bool.eq_iff_iff]; simp
theorem valid_g {fuel n : Nat} {p : Pat} {x : List Int} (hn : p.lens.length = n) (hb : n ≤ 1000) (hf : 1000000 < fuel) (h : CutG n p.lens x) : cut_Valid fuel p x = some true := by
  have hl := h.len
  unfold cut_Valid
  rw [if_neg (by simp; omega)]
  refine Ok.eq ?_
  refine Ok.bind (Q := fun t => t = .inl ()) (Ok.for_ n (fun k s => s = (k : Int)) rfl (by omega) ?_) fun t ht => by subst ht; exact Ok.ret rfl
  rintro k s hk rfl
  unfold cut_Valid_B1
  refine Ok.iteP (fun hkl => ?_) (fun _ => Ok.ret rfl)
  have := h.rng k (by omega)
  rw [ati_nI (by omega) (by omega), ati_nI (by omega) (by omega)]
  simp only [Option.bind_some, orM_some]
  rw [if_neg (by simp; omega)]
  exact Ok.ret ⟨by omega, w64_nat (by omega)⟩
theorem fits_g {fuel n B : Nat} {p : Pat} {x : List Int} (h : PatG n B p) (hn : n ≤ 5) (hB : B ≤ 64) (hf : 1000000 < fuel) (hx : CutG n p.lens x) : cut_fits fuel p x = some true := by
  unfold cut_fits
  rw [show (⟨p.lens, p.ckpts, p.arcs⟩ : Pat) = p from rfl, check_g h hn hB hf, Option.bind_some, valid_g h.len (by omega) hf hx]
  rfl
/-- a list of orphans: what its first element says -/
def OrS (arcs : List Arc) (x : List Int) (l : List Int) : Prop := l.length ≤ arcs.length ∧ ((l = [] ∧ arcs.find? (orph · x) = none) ∨ ∃ (i : Nat) (a : Arc), l[0]? = some (i : Int) ∧ arcs[i]? = some a ∧ arcs.find? (orph · x) = some a)
theorem find_first {arcs : List Arc} {x : List Int} {k : Nat} {a : Arc} (ha : arcs[k]? = some a) (ho : orph a x = true) (hn : ∀ b ∈ arcs.take k, orph b x = false) : arcs.find? (orph · x) = some a := by
  obtain ⟨hk, rfl⟩ := List.getElem?_eq_some_iff.1 ha
  rw [List.find?_eq_some_iff_getElem]
  refine ⟨ho, k, hk, rfl, fun j hj => ?_⟩
  have := hn arcs[j] (List.mem_iff_getElem?.2 ⟨j, by rw [List.getElem?_take_of_lt hj]; simp⟩)
  simp [this]
theorem find_none {arcs : List Arc} {x : List Int} : arcs.find? (orph · x) = none ↔ Cons arcs x := by
  rw [List.find?_eq_none]; unfold Cons; simp
theorem mem_take_succ' {α : Type} {xs : List α} {k : Nat} {e : α} : e ∈ xs.take (k + 1) ↔ e ∈ xs.take k ∨ xs[k]? = some e := by
  rw [List.take_add_one, List.mem_append]
  cases xs[k]? <;> simp [eq_comm]
/-- while the orphans are collected -/
def OrI (arcs : List Arc) (x : List Int) (k : Nat) (l : List Int) : Prop := l.length ≤ k ∧ ((l = [] ∧ ∀ b ∈ arcs.take k, orph b x = false) ∨ ∃ (i : Nat) (a : Arc), l[0]? = some (i : Int) ∧ arcs[i]? = some a ∧ arcs.find? (orph · x) = some a)
theorem OrI.yes {arcs : List Arc} {x l : List Int} {k : Nat} {a : Arc} (h : OrI arcs x k l) (ha : arcs[k]? = some a) (ho : orph a x = true) : OrI arcs x (k + 1) (l ++ [(k : Int)]) := by
  obtain ⟨hl, h⟩ := h
  refine ⟨by simp; omega, .inr ?_⟩
  rcases h with ⟨rfl, h⟩ | ⟨i, b, h1, h2⟩
  · exact ⟨k, a, rfl, ha, find_first ha ho h⟩
  · exact ⟨i, b, by rw [List.getElem?_append_left (List.getElem?_eq_some_iff.1 h1).1]; exact h1, h2⟩
theorem OrI.no {arcs : List Arc} {x l : List Int} {k : Nat} {a : Arc} (h : OrI arcs x k l) (ha : arcs[k]? = some a) (ho : orph a x = false) : OrI arcs x (k + 1) l := by
  obtain ⟨hl, h⟩ := h
  refine ⟨by omega, ?_⟩
  rcases h with ⟨rfl, h⟩ | h
  · refine .inl ⟨rfl, fun b hb => ?_⟩
    rcases mem_take_succ'.1 hb with hb | hb
    · exact h b hb
    · rw [ha] at hb; cases hb; exact ho
  · exact .inr h
theorem OrI.fin {arcs : List Arc} {x l : List Int} (h : OrI arcs x arcs.length l) : OrS arcs x l := by
  obtain ⟨hl, h⟩ := h
  refine ⟨hl, ?_⟩
  rcases h with ⟨rfl, h⟩ | h
  · rw [List.take_length] at h; exact .inl ⟨rfl, find_none.2 h⟩
  · exact .inr h
theorem orphans_g {fuel n B : Nat} {p : Pat} {x : List Int} (h : PatG n B p) (hn : n ≤ 5) (hB : B ≤ 64) (hf : 1000000 < fuel) (hx : CutG n p.lens x) : Ok (cut_Orphans fuel p x) (OrS p.arcs x) := by
  have hal := h.al
  unfold cut_Orphans
  rw [show (⟨p.lens, p.ckpts, p.arcs⟩ : Pat) = p from rfl, fits_g h hn hB hf hx, Option.bind_some, if_neg (by simp)]
  refine Ok.bind (Q := OrS p.arcs x) (Ok.for_ p.arcs.length (fun k s => s.2 = (k : Int) ∧ OrI p.arcs x k s.1) ⟨rfl, by simp, .inl ⟨rfl, by simp⟩⟩ (by omega) ?_) fun t ht => Ok.ret ht
  rintro k ⟨l, i⟩ hk ⟨hi, hI⟩
  simp only at hi hI
  subst hi
  simp only [cut_Orphans_B1]
  refine Ok.iteP (fun hkl => ?_) (fun hkl => ?_)
  · refine (Ok.at (by omega) hkl).bind fun a h1 => ?_
    rw [Int.toNat_natCast] at h1
    rw [show (⟨a.fr, a.ix, a.to, a.rcv⟩ : Arc) = a from rfl, orphan_g (h.arc a (List.mem_of_getElem? h1)) hx.len, Option.bind_some]
    refine Ok.ite (fun ho => ?_) (fun ho => Ok.ret ⟨by omega, w64_nat (by omega), hI.no h1 ho⟩)
    exact (Ok.snoc (by have := hI.1; omega)).bind fun y hy => Ok.ret ⟨by omega, w64_nat (by omega), by subst hy; exact hI.yes h1 ho⟩
  · have e : k = p.arcs.length := by omega
    subst e
    exact Ok.ret hI.fin
open Classical in
noncomputable def consB (arcs : List Arc) (x : List Int) : Bool := decide (Cons arcs x)
theorem consB_iff {arcs : List Arc} {x : List Int} : consB arcs x = true ↔ Cons arcs x := by unfold consB; simp
theorem consB_not {arcs : List Arc} {x : List Int} : consB arcs x = false ↔ ¬ Cons arcs x := by unfold consB; simp
theorem OrS.cons {arcs : List Arc} {x l : List Int} (h : OrS arcs x l) : ((l.length : Int) == 0) = consB arcs x := by
  obtain ⟨_, ⟨rfl, h⟩ | ⟨i, a, h1, _, h3⟩⟩ := h
  · rw [consB_iff.2 (find_none.1 h)]; rfl
  · rw [consB_not.2 fun hc => by rw [find_none.2 hc] at h3; cases h3]
    have := (List.getElem?_eq_some_iff.1 h1).1
    simp; intro e; subst e; simp at this
theorem cons_g {fuel n B : Nat} {p : Pat} {x : List Int} (h : PatG n B p) (hn : n ≤ 5) (hB : B ≤ 64) (hf : 1000000 < fuel) (hx : CutG n p.lens x) : cut_Consistent fuel p x = some (consB p.arcs x) := by
  unfold cut_Consistent
  rw [show (⟨p.lens, p.ckpts, p.arcs⟩ : Pat) = p from rfl, fits_g h hn hB hf hx, Option.bind_some, andM_true]
  exact Ok.eq (Ok.bind (Q := fun b => b = consB p.arcs x) ((orphans_g h hn hB hf hx).bind fun l h => Ok.ret h.cons) fun b hb => Ok.ret hb)
/-! smaller elements -/
def meetL (x y : List Int) : List Int := List.zipWith min x y
theorem meetL_len {x y : List Int} (h : x.length = y.length) : (meetL x y).length = x.length := by simp [meetL]; omega
theorem meetL_nI {x y : List Int} (h : x.length = y.length) {q : Nat} (hq : q < x.length) : nI (meetL x y) q = min (nI x q) (nI y q) := by
  rw [nI_get (by rw [meetL_len h]; exact hq), nI_get hq, nI_get (by omega)]; simp [meetL]
def Le (x y : List Int) : Prop := ∀ q : Nat, q < x.length → nI x q ≤ nI y q
open Classical in
noncomputable def leB (x y : List Int) : Bool := decide (Le x y)
theorem leB_iff {x y : List Int} : leB x y = true ↔ Le x y := by unfold leB; simp
theorem leB_not {x y : List Int} : leB x y = false ↔ ¬ Le x y := by unfold leB; simp
/-- consistent cuts are closed under meets -/
theorem Cons.meet {n : Nat} {lens : List Int} {arcs : List Arc} {x y : List Int} (ha : ∀ a ∈ arcs, ArcG n lens a) (hx : x.length = n) (hy : y.length = n) (h1 : Cons arcs x) (h2 : Cons arcs y) : Cons arcs (meetL x y) := by
  intro a h
  have a1 := (ha a h).fr; have a2 := (ha a h).to
  obtain ⟨f, hf⟩ := Int.eq_ofNat_of_zero_le a1.1
  obtain ⟨t, ht⟩ := Int.eq_ofNat_of_zero_le a2.1
  have e1 := orph_not.1 (h1 a h); have e2 := orph_not.1 (h2 a h)
  have hfn : f < n := by omega
  have htn : t < n := by omega
  rw [orph_not]
  rw [hf, ht] at e1 e2 ⊢
  rw [meetL_nI (by omega) (by omega), meetL_nI (by omega) (by omega)]
  omega
end Go.Mine
