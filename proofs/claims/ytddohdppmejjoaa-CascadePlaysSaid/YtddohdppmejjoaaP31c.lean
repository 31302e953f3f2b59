/- Chapter 31, plain: the reference's reduced lists; four laws. -/
import Derived.Test.YtddohdppmejjoaaP31b
set_option linter.unusedSimpArgs false
set_option linter.unusedVariables false
namespace Go.Mine
open Go.RowKit
def Mx (all : List EndI) (e : EndI) : Prop := ∀ f ∈ all, Imp e f → f = e
theorem exists_mx : ∀ (l : List EndI) (e : EndI), ∃ f, (f = e ∨ f ∈ l) ∧ Imp e f ∧ ∀ g ∈ l, Imp f g → g = f
  | [], e => ⟨e, .inl rfl, Imp.refl e, fun g hg => by cases hg⟩
  | x :: l, e => by
    obtain ⟨f, h1, h2, h3⟩ := exists_mx l e
    by_cases hx : Imp f x
    · obtain ⟨f', k1, k2, k3⟩ := exists_mx l x
      refine ⟨f', .inr ?_, (h2.trans hx).trans k2, fun g hg hi => ?_⟩
      · rcases k1 with rfl | k1 <;> simp [*]
      · rcases List.mem_cons.1 hg with rfl | hg
        · exact k2.antisymm hi
        · exact k3 g hg hi
    · refine ⟨f, ?_, h2, fun g hg hi => ?_⟩
      · rcases h1 with h1 | h1
        · exact .inl h1
        · exact .inr (by simp [h1])
      · rcases List.mem_cons.1 hg with rfl | hg
        · exact absurd hi hx
        · exact h3 g hg hi
theorem Mx.key {all : List EndI} {a e : EndI} (ha : a ∈ all) (he : e ∈ all) (h1 : Mx all a) (h2 : Mx all e) (hp : a.proc = e.proc) (hi : a.inc = e.inc) : a = e := by
  rcases Int.le_total a.index e.index with h | h
  · exact h2 a ha ⟨hp, by omega, h⟩
  · exact (h1 e he ⟨hp.symm, by omega, h⟩).symm
theorem klt_trans {a b c : EndI} (h : klt a b) (k : klt b c) : klt a c := by unfold klt at *; omega
theorem insert_eq {α : Type} {out : List α} {z e : α} {p : Nat} (hp : p ≤ out.length) : (shiftL (out ++ [z]) (p + 1) p).set p e = out.take p ++ e :: out.drop p := by
  have hl : (shiftL (out ++ [z]) (p + 1) p).length = out.length + 1 := by rw [shiftL_length (by simp; omega)]; simp
  apply List.ext_getElem?
  intro t
  rw [getElem?_set' (by omega)]
  by_cases h1 : t = p
  · subst h1
    rw [if_pos rfl, List.getElem?_append_right (by simp; omega)]
    simp [show min t out.length = t by omega]
  · rw [if_neg h1]
    by_cases h2 : t < out.length + 1
    · rw [shiftL_get (by simp; omega) (by simp; omega) (by simp; omega)]
      unfold shiftI
      by_cases h3 : t < p
      · rw [if_pos (by omega), List.getElem?_append_left (by omega), List.getElem?_append_left (by simp; omega), List.getElem?_take_of_lt h3]
      · rw [if_neg (by omega), if_pos (by simp; omega), List.getElem?_append_left (by omega), List.getElem?_append_right (by simp; omega)]
        rw [show t - (out.take p).length = (t - p - 1) + 1 by simp; omega, List.getElem?_cons_succ, List.getElem?_drop]
        congr 1
    · rw [List.getElem?_eq_none (by omega), List.getElem?_eq_none (by simp; omega)]
def BadJ (all : List EndI) (e : EndI) (k j : Nat) : Prop := ∃ f, all[j]? = some f ∧ ((f ≠ e ∧ Imp e f) ∨ (j < k ∧ f = e))
theorem end_beq {a b : EndI} : ((a.proc == b.proc) && ((a.inc == b.inc) && ((a.index == b.index) && true))) = decide (a = b) := by
  rw [Bool.eq_iff_iff]
  simp only [Bool.and_true, Bool.and_eq_true, beq_iff_eq, decide_eq_true_eq]
  exact ⟨fun ⟨h1, h2, h3⟩ => endI_ext h1 h2 h3, fun h => by subst h; exact ⟨rfl, rfl, rfl⟩⟩
theorem implied_eq {fuel : Nat} {e f : EndI} : ref31_implied fuel e f = some (f.proc == e.proc && decide (e.inc ≤ f.inc) && decide (f.index ≤ e.index)) := by
  unfold ref31_implied; simp only [andM_some, Option.bind_some]
structure InsI (all out : List EndI) (k : Nat) : Prop where
  sort : out.Pairwise klt
  mem : ∀ e, e ∈ out ↔ e ∈ all.take k ∧ Mx all e
  len : out.length ≤ k
theorem insert_ok {fuel : Nat} {all out : List EndI} {k : Nat} {e : EndI} (hf : 1000000 < fuel) (hk : k < all.length) (hl : all.length ≤ 10000) (he : all[k]? = some e) (hI : InsI all out k) (hm : Mx all e) (hn : e ∉ all.take k) :
    Ok (ref31_Merge_K2 fuel out (k : Int) e true) fun o => Sum.elim (fun s' => k < all.length ∧ s'.2 = ((k + 1 : Nat) : Int) ∧ InsI all s'.1 (k + 1)) (fun t => InsI all t all.length) o := by
  unfold ref31_Merge_K2
  rw [if_neg (by simp)]
  have hol := hI.len
  have hea := mem_of_getElem? he
  have hsub : ∀ a ∈ out, a ∈ all := fun a ha => List.mem_of_mem_take ((hI.mem a).1 ha).1
  have hkey : ∀ a ∈ out, ¬ (a.proc = e.proc ∧ a.inc = e.inc) := fun a ha ⟨h1, h2⟩ => hn (by
    have := Mx.key (hsub a ha) hea ((hI.mem a).1 ha).2 hm h1 h2
    subst this; exact ((hI.mem a).1 ha).1)
  refine Ok.bind (Q := fun t => ∃ p : Nat, t = (p : Int) ∧ p ≤ out.length ∧ (∀ t f, p ≤ t → out[t]? = some f → klt e f) ∧ ∀ f, 0 < p → out[p - 1]? = some f → ¬ klt e f) (Ok.run (fun m s => s = (m : Int) ∧ m ≤ out.length ∧ ∀ t f, m ≤ t → out[t]? = some f → klt e f) (m := out.length) ⟨rfl, Nat.le_refl _, fun t f ht hf => by simp [List.getElem?_eq_none ht] at hf⟩ (by omega) ?_) ?_
  · rintro p s ⟨rfl, hp, hall⟩
    unfold ref31_Merge_B2
    refine Ok.bind (Q := fun b => b = true ↔ 0 < p ∧ ∃ f, out[p - 1]? = some f ∧ klt e f) (Ok.andM (fun h => ?_) (fun h => ?_)) fun b hb => Ok.ite (fun h => ?_) (fun h => ?_)
    · have h0 : 0 < p := by simpa using h
      have hlt : p - 1 < out.length := by omega
      rw [w64_id (by omega) (by omega), show (p : Int) - 1 = ((p - 1 : Nat) : Int) by omega, ati_get hlt]
      simp only [Option.bind_some, andM_some, orM_some]
      refine Ok.ret ?_
      simp only [Bool.or_eq_true, Bool.and_eq_true, decide_eq_true_eq, beq_iff_eq, h0, true_and, List.getElem?_eq_getElem hlt, Option.some.injEq, exists_eq_left', klt]
      omega
    · have h0 : ¬ 0 < p := by simpa using h
      simp [h0]
    · obtain ⟨h0, f, hf1, hf2⟩ := hb.1 h
      refine Ok.ret ⟨p - 1, by omega, by rw [w64_id (by omega) (by omega)]; omega, by omega, fun t g ht hg => ?_⟩
      rcases Nat.lt_or_ge t p with h3 | h3
      · have : t = p - 1 := by omega
        subst this; rw [hf1] at hg; cases hg; exact hf2
      · exact hall t g h3 hg
    · refine Ok.ret ⟨p, rfl, hp, hall, fun f h0 hf1 hf2 => ?_⟩
      rw [hb.2 ⟨h0, f, hf1, hf2⟩] at h; cases h
  · rintro t ⟨p, rfl, hp, hup, hdn⟩
    unfold ref31_Merge_K3
    refine Ok.bind (Ok.snoc (by omega)) fun y hy => ?_
    subst hy
    have hw : w64 ((p : Int) + 1) = ((p + 1 : Nat) : Int) := w64_nat (by omega)
    rw [hw]
    have d1 : dropL (out ++ [(⟨0, 0, 0⟩ : EndI)]) ((p + 1 : Nat) : Int) = some ((out ++ [(⟨0, 0, 0⟩ : EndI)]).drop (p + 1)) := by
      unfold dropL; rw [if_pos ⟨by omega, by simp; omega⟩]; simp
    have d2 : dropL (out ++ [(⟨0, 0, 0⟩ : EndI)]) (p : Int) = some ((out ++ [(⟨0, 0, 0⟩ : EndI)]).drop p) := by
      unfold dropL; rw [if_pos ⟨by omega, by simp; omega⟩]; simp
    rw [d1, d2]
    simp only [Option.bind_some, Int.toNat_natCast]
    have hsl : (shiftL (out ++ [(⟨0, 0, 0⟩ : EndI)]) (p + 1) p).length = out.length + 1 := by rw [shiftL_length (by simp; omega)]; simp
    refine Ok.bind (Ok.at (by omega) (by omega)) fun _ _ => ?_
    refine Ok.bind (Ok.set (by omega) (by omega)) fun y hy => Ok.ret ?_
    rw [Int.toNat_natCast, insert_eq hp] at hy
    subst hy
    have hkl : ∀ a ∈ out.take p, klt a e := fun a ha => by
      obtain ⟨t, ht, rfl⟩ := List.getElem_of_mem ha
      simp only [List.length_take] at ht
      simp only [List.getElem_take]
      have h0 : 0 < p := by omega
      have hlast : klt (out[p - 1]'(by omega)) e := by
        have h1 := hdn _ h0 (List.getElem?_eq_getElem (by omega : p - 1 < out.length))
        have h2 := hkey (out[p - 1]'(by omega)) (List.getElem_mem _)
        unfold klt at *; omega
      rcases Nat.lt_or_ge t (p - 1) with h3 | h3
      · exact klt_trans (List.pairwise_iff_getElem.1 hI.sort t (p - 1) (by omega) (by omega) h3) hlast
      · have : t = p - 1 := by omega
        subst this; exact hlast
    have hkg : ∀ b ∈ out.drop p, klt e b := fun b hb => by
      obtain ⟨t, ht, rfl⟩ := List.getElem_of_mem hb
      exact hup (p + t) _ (by omega) (by rw [List.getElem_drop]; simp at ht; exact List.getElem?_eq_getElem (by omega))
    have hmem : ∀ a, a ∈ out.take p ++ e :: out.drop p ↔ a ∈ out ∨ a = e := fun a => by
      constructor
      · intro h
        simp only [List.mem_append, List.mem_cons] at h
        rcases h with h | rfl | h
        · exact .inl (List.mem_of_mem_take h)
        · exact .inr rfl
        · exact .inl (List.mem_of_mem_drop h)
      · rintro (h | rfl)
        · rw [← List.take_append_drop p out, List.mem_append] at h
          simp only [List.mem_append, List.mem_cons]
          rcases h with h | h <;> simp [h]
        · simp
    refine ⟨hk, w64_nat (by omega), ?_, fun a => ?_, ?_⟩
    · rw [List.pairwise_append]
      refine ⟨hI.sort.sublist (List.take_sublist _ _), List.pairwise_cons.2 ⟨hkg, hI.sort.sublist (List.drop_sublist _ _)⟩, fun a ha b hb => ?_⟩
      rcases List.mem_cons.1 hb with rfl | hb
      · exact hkl a ha
      · exact klt_trans (hkl a ha) (hkg b hb)
    · rw [hmem, hI.mem, mem_take_succ, he]
      constructor
      · rintro (⟨h1, h2⟩ | rfl)
        · exact ⟨.inl h1, h2⟩
        · exact ⟨.inr rfl, hm⟩
      · rintro ⟨h1 | h1, h2⟩
        · exact .inl ⟨h1, h2⟩
        · cases h1; exact .inr rfl
    · simp; omega
theorem rmerge_ok {fuel : Nat} {a b : List EndI} (hf : 1000000 < fuel) (ha : a.length ≤ 1000) (hb : b.length ≤ 1000) : Ok (ref31_Merge fuel a b) fun r => Red (a ++ b) r := by
  unfold ref31_Merge
  rw [catL_ok (by simp; omega), Option.bind_some, List.nil_append, catL_ok (by omega), Option.bind_some]
  have hl : (a ++ b).length ≤ 10000 := by simp; omega
  generalize a ++ b = all at hl
  refine Ok.bind (Q := fun t => InsI all t all.length) (Ok.for_ all.length (fun k s => s.2 = (k : Int) ∧ InsI all s.1 k) ⟨rfl, List.Pairwise.nil, fun e => by simp, Nat.zero_le _⟩ (by omega) ?_) ?_
  · rintro k ⟨out, i⟩ hk ⟨hi, hI⟩
    simp only at hi hI
    subst hi
    simp only [ref31_Merge_B1]
    refine Ok.iteP (fun h => ?_) (fun h => ?_)
    · have hk' : k < all.length := by omega
      have he : all[k]? = some all[k] := by simp [hk']
      rw [ati_get hk', Option.bind_some]
      generalize all[k] = e at he
      have hea := mem_of_getElem? he
      refine Ok.bind (Q := fun t => t = true ↔ ∀ j, j < all.length → ¬ BadJ all e k j) (Ok.for_ all.length (fun j s => s.2 = (j : Int) ∧ (s.1 = true ↔ ∀ q, q < j → ¬ BadJ all e k q)) ⟨rfl, by simp⟩ (by omega) ?_) ?_
      · rintro j ⟨keep, x⟩ hj ⟨hx, hkp⟩
        simp only at hx hkp
        subst hx
        simp only [ref31_Merge_B3]
        refine Ok.iteP (fun h2 => ?_) (fun h2 => ?_)
        · have hj' : j < all.length := by omega
          rw [ati_get hj', w64_nat (by omega)]
          simp only [Option.bind_some, implied_eq, andM_some, orM_some, end_beq]
          have hbad : (((!decide (all[j] = e)) && (all[j].proc == e.proc && decide (e.inc ≤ all[j].inc) && decide (all[j].index ≤ e.index))) || (decide ((j : Int) < (k : Int)) && decide (all[j] = e))) = true ↔ BadJ all e k j := by
            simp only [BadJ, List.getElem?_eq_getElem hj', Option.some.injEq, exists_eq_left', Bool.or_eq_true, Bool.and_eq_true, Bool.not_eq_true', decide_eq_false_iff_not, decide_eq_true_eq, beq_iff_eq, Imp, ne_eq, and_assoc]
            simp
          refine Ok.ite (fun hc => Ok.ret ⟨hj', rfl, ?_⟩) (fun hc => Ok.ret ⟨hj', rfl, ?_⟩)
          · have := hbad.1 hc
            constructor
            · intro h; cases h
            · intro h; exact absurd this (h j (by omega))
          · have hnb : ¬ BadJ all e k j := fun h => by rw [hbad.2 h] at hc; cases hc
            simp only
            rw [hkp]
            constructor
            · intro h q hq
              rcases Nat.lt_succ_iff_lt_or_eq.1 hq with h3 | rfl
              · exact h q h3
              · exact hnb
            · intro h q hq; exact h q (by omega)
        · have : j = all.length := by omega
          subst this
          exact Ok.ret hkp
      · intro keep hkeep
        cases keep with
        | false =>
          have : ¬ (e ∉ all.take k ∧ Mx all e) := fun ⟨h1, h2⟩ => by
            have : (false = true) := hkeep.2 fun j hj => by
              rintro ⟨f, hf1, h3 | ⟨h3, rfl⟩⟩
              · exact h3.1 (h2 f (mem_of_getElem? hf1) h3.2)
              · exact h1 (List.mem_iff_getElem?.2 ⟨j, by rw [List.getElem?_take_of_lt h3]; exact hf1⟩)
            cases this
          unfold ref31_Merge_K2
          rw [if_pos (by rfl)]
          refine Ok.ret ⟨hk', w64_nat (by omega), hI.sort, fun g => ?_, by have := hI.len; simp only; omega⟩
          rw [hI.mem, mem_take_succ, he]
          constructor
          · rintro ⟨h1, h2⟩; exact ⟨.inl h1, h2⟩
          · rintro ⟨h1 | h1, h2⟩
            · exact ⟨h1, h2⟩
            · cases h1
              exact ⟨Classical.byContradiction fun h => this ⟨h, h2⟩, h2⟩
        | true =>
          have hb := hkeep.1 rfl
          refine insert_ok hf hk' hl he hI (fun f hf1 hi => ?_) fun h1 => ?_
          · obtain ⟨j, hj, rfl⟩ := List.getElem_of_mem hf1
            exact Classical.byContradiction fun hne => hb j hj ⟨_, by simp [hj], .inl ⟨hne, hi⟩⟩
          · obtain ⟨j, hj, hje⟩ := List.getElem_of_mem h1
            simp only [List.length_take] at hj
            rw [List.getElem_take] at hje
            exact hb j (by omega) ⟨e, by rw [← hje]; exact List.getElem?_eq_getElem (by omega), .inr ⟨by omega, rfl⟩⟩
    · have : k = all.length := by omega
      subst this
      exact Ok.ret hI
  · intro t hI
    unfold ref31_Merge_K1
    refine Ok.ret ⟨hI.sort, fun f hf1 => List.mem_of_mem_take ((hI.mem f).1 hf1).1, fun e he => ?_, fun e he f hf1 hi => ?_⟩
    · obtain ⟨f, h1, h2, h3⟩ := exists_mx all e
      have hfa : f ∈ all := by rcases h1 with rfl | h1; exact he; exact h1
      exact ⟨f, (hI.mem f).2 ⟨by rw [List.take_length]; exact hfa, h3⟩, h2⟩
    · exact (((hI.mem e).1 he).2 f (List.mem_of_mem_take ((hI.mem f).1 hf1).1) hi).symm
theorem radd_ok {fuel : Nat} {a : List EndI} {e : EndI} (hf : 1000000 < fuel) (ha : a.length ≤ 1000) : Ok (ref31_Add fuel a e) fun r => Red (a ++ [e]) r := by
  unfold ref31_Add
  exact Ok.bind (rmerge_ok hf ha (by simp)) fun r hr => Ok.ret hr
end Go.Mine
