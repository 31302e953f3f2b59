/- Chapter 31, plain: reduced lists of ends. -/
import Derived.Test.YtddohdppmejjoaaP31a
set_option linter.unusedSimpArgs false
set_option linter.unusedVariables false
namespace Go.Mine
open Go.RowKit
/-- an end is implied by another one -/
def Imp (e f : EndI) : Prop := f.proc = e.proc ∧ e.inc ≤ f.inc ∧ f.index ≤ e.index
theorem Imp.refl (e : EndI) : Imp e e := ⟨rfl, Int.le_refl _, Int.le_refl _⟩
theorem Imp.trans {a b c : EndI} (h : Imp a b) (k : Imp b c) : Imp a c := ⟨k.1.trans h.1, Int.le_trans h.2.1 k.2.1, Int.le_trans k.2.2 h.2.2⟩
theorem Imp.antisymm {a b : EndI} (h : Imp a b) (k : Imp b a) : a = b := endI_ext k.1 (Int.le_antisymm h.2.1 k.2.1) (Int.le_antisymm k.2.2 h.2.2)
def klt (x y : EndI) : Prop := x.proc < y.proc ∨ x.proc = y.proc ∧ x.inc < y.inc
structure Red (all r : List EndI) : Prop where
  sort : r.Pairwise klt
  sub : ∀ f ∈ r, f ∈ all
  dom : ∀ e ∈ all, ∃ f ∈ r, Imp e f
  anti : ∀ e ∈ r, ∀ f ∈ r, Imp e f → e = f
theorem eq_of_klt : ∀ {xs ys : List EndI}, xs.Pairwise klt → ys.Pairwise klt → (∀ e, e ∈ xs ↔ e ∈ ys) → xs = ys
  | [], [], _, _, _ => rfl
  | [], y :: ys, _, _, h => by have := (h y).2 (by simp); simp at this
  | x :: xs, [], _, _, h => by have := (h x).1 (by simp); simp at this
  | x :: xs, y :: ys, h1, h2, h => by
    obtain ⟨a1, a2⟩ := List.pairwise_cons.1 h1
    obtain ⟨b1, b2⟩ := List.pairwise_cons.1 h2
    have hx := (h x).1 (by simp)
    have hy := (h y).2 (by simp)
    have e : x = y := by
      rcases List.mem_cons.1 hx with e | hx
      · exact e
      · rcases List.mem_cons.1 hy with e | hy
        · exact e.symm
        · have h3 := a1 y hy; have h4 := b1 x hx; unfold klt at h3 h4; omega
    subst e
    congr 1
    refine eq_of_klt a2 b2 fun e => ⟨fun he => ?_, fun he => ?_⟩
    · rcases List.mem_cons.1 ((h e).1 (by simp [he])) with rfl | h5
      · have := a1 e he; unfold klt at this; omega
      · exact h5
    · rcases List.mem_cons.1 ((h e).2 (by simp [he])) with rfl | h5
      · have := b1 e he; unfold klt at this; omega
      · exact h5
theorem Red.mem {all r r' : List EndI} (h : Red all r) (h' : Red all r') {e : EndI} (he : e ∈ r) : e ∈ r' := by
  obtain ⟨f, hf, h1⟩ := h'.dom e (h.sub e he)
  obtain ⟨g, hg, h2⟩ := h.dom f (h'.sub f hf)
  have : e = g := h.anti e he g hg (h1.trans h2)
  subst this
  rw [h1.antisymm h2]; exact hf
theorem Red.unique {all r r' : List EndI} (h : Red all r) (h' : Red all r') : r = r' := eq_of_klt h.sort h'.sort fun e => ⟨h.mem h', h'.mem h⟩
theorem Red.of {A A' B r : List EndI} (h : Red B r) (h1 : ∀ e ∈ A', ∃ f ∈ B, Imp e f) (h2 : ∀ e ∈ B, e ∈ A') : Red A' r :=
  ⟨h.sort, fun f hf => h2 f (h.sub f hf), fun e he => by obtain ⟨f, hf, h3⟩ := h1 e he; obtain ⟨g, hg, h4⟩ := h.dom f hf; exact ⟨g, hg, h3.trans h4⟩, h.anti⟩
theorem Red.congr {A A' r : List EndI} (h : Red A r) (hm : ∀ e, e ∈ A ↔ e ∈ A') : Red A' r := h.of (A := A) (fun e he => ⟨e, (hm e).2 he, Imp.refl e⟩) fun e he => (hm e).1 he
/-- ends that are reduced already may be reduced again with others -/
theorem Red.more {A r r' C : List EndI} (h : Red A r) (h' : Red (r ++ C) r') : Red (A ++ C) r' := h'.of (A := A) (fun e he => by
    rcases List.mem_append.1 he with he | he
    · obtain ⟨f, hf, h1⟩ := h.dom e he; exact ⟨f, by simp [hf], h1⟩
    · exact ⟨e, by simp [he], Imp.refl e⟩) fun e he => by
    rcases List.mem_append.1 he with he | he
    · simp [h.sub e he]
    · simp [he]
theorem Red.und {A r : List EndI} (h : Red A r) {q : Int} {x : Lab} : Und r q x ↔ Und A q x := by
  constructor
  · rintro ⟨e, he, h1⟩; exact ⟨e, h.sub e he, h1⟩
  · rintro ⟨e, he, h1, h2, h3⟩
    obtain ⟨f, hf, h4, h5, h6⟩ := h.dom e he
    exact ⟨f, hf, h4.trans h1, by omega, by omega⟩
theorem Red.next {A r : List EndI} (h : Red A r) {q x y : Int} (hx : NextS r q x) (hy : NextS A q y) : x = y :=
  hx.unique hy (fun e he hp => ⟨e, h.sub e he, hp, Int.le_refl _⟩) fun e he hp => by
    obtain ⟨f, hf, h4, h5, h6⟩ := h.dom e he
    exact ⟨f, hf, h4.trans hp, h5⟩
/-- what the first pass over the sorted ends keeps -/
def Dn (a b : EndI) : Prop := a.proc < b.proc ∨ a.proc = b.proc ∧ b.inc < a.inc ∧ b.index < a.index
theorem Dn.trans {a b c : EndI} (h : Dn a b) (k : Dn b c) : Dn a c := by unfold Dn at *; omega
theorem pairwise_snoc {α : Type} {R : α → α → Prop} {xs : List α} {x : α} (h : xs.Pairwise R) (hx : ∀ y ∈ xs, R y x) : (xs ++ [x]).Pairwise R := by
  rw [List.pairwise_append]
  exact ⟨h, List.pairwise_singleton _ _, fun a ha b hb => by simp at hb; subst hb; exact hx a ha⟩
structure PassI (s out : List EndI) (k : Nat) : Prop where
  sub : ∀ f ∈ out, f ∈ s.take k
  dom : ∀ e ∈ s.take k, ∃ f ∈ out, Imp e f
  dn : out.Pairwise Dn
theorem sortedE {s : List EndI} (h : s.Pairwise fun x y => Go.Proofs.ltOf sortE_cf y x = false) {k : Nat} {e f : EndI} (hf : f ∈ s.take k) (he : s[k]? = some e) : f.proc < e.proc ∨ f.proc = e.proc ∧ (e.inc < f.inc ∨ e.inc = f.inc ∧ f.index ≤ e.index) := by
  obtain ⟨hk, rfl⟩ := List.getElem?_eq_some_iff.1 he
  obtain ⟨i, hi, rfl⟩ := List.getElem_of_mem hf
  simp only [List.length_take] at hi
  have := List.pairwise_iff_getElem.1 h i k (by omega) hk (by omega)
  rw [sortE_lt, decide_eq_false_iff_not] at this
  simp only [List.getElem_take]
  omega
theorem PassI.drop {s out : List EndI} {k : Nat} (h : PassI s out k) {e f : EndI} (he : s[k]? = some e) (hf : f ∈ out) (hi : Imp e f) : PassI s out (k + 1) :=
  ⟨fun g hg => mem_take_succ.2 (.inl (h.sub g hg)), fun g hg => by
    rcases mem_take_succ.1 hg with hg | hg
    · exact h.dom g hg
    · rw [he] at hg; cases hg; exact ⟨f, hf, hi⟩, h.dn⟩
theorem PassI.keep {s out : List EndI} {k : Nat} (h : PassI s out k) {e : EndI} (he : s[k]? = some e) (hd : ∀ f ∈ out, Dn f e) : PassI s (out ++ [e]) (k + 1) :=
  ⟨fun g hg => by
    rcases List.mem_append.1 hg with hg | hg
    · exact mem_take_succ.2 (.inl (h.sub g hg))
    · simp at hg; subst hg; exact mem_take_succ.2 (.inr he), fun g hg => by
    rcases mem_take_succ.1 hg with hg | hg
    · obtain ⟨f, hf, hi⟩ := h.dom g hg; exact ⟨f, by simp [hf], hi⟩
    · rw [he] at hg; cases hg; exact ⟨e, by simp, Imp.refl e⟩, pairwise_snoc h.dn hd⟩
theorem last_dn {out : List EndI} {f e : EndI} (h : out.Pairwise Dn) (hf : out[out.length - 1]? = some f) (hd : Dn f e) : ∀ g ∈ out, Dn g e := by
  intro g hg
  obtain ⟨i, hi, rfl⟩ := List.getElem_of_mem hg
  obtain ⟨h1, rfl⟩ := List.getElem?_eq_some_iff.1 hf
  rcases Nat.lt_or_ge i (out.length - 1) with h2 | h2
  · exact (List.pairwise_iff_getElem.1 h i _ hi h1 h2).trans hd
  · have : i = out.length - 1 := by omega
    subst this; exact hd
theorem reduced_ok {fuel : Nat} {l : List EndI} (hf : 1000000 < fuel) (hl : l.length ≤ 10000) : Ok (incarnation_reduced fuel l) fun r => Red l r.1 ∧ r.1.length ≤ l.length := by
  unfold incarnation_reduced sortE
  rw [if_pos (by omega), Option.bind_some]
  have hp := sortL_perm sortE_swo l
  have hs := sortL_sorted sortE_swo l
  generalize sortL sortE_cf l = s at hp hs
  have hsl : s.length = l.length := hp.length_eq
  refine Ok.bind (Q := fun t => PassI s t s.length ∧ t.length ≤ s.length) (Ok.for_ s.length (fun k st => st.2 = (k : Int) ∧ PassI s st.1 k ∧ st.1.length ≤ k) ⟨rfl, ⟨(fun _ h => by cases h), (fun e he => by simp at he), List.Pairwise.nil⟩, Nat.zero_le _⟩ (by omega) ?_) ?_
  · rintro k ⟨out, i⟩ hk ⟨hi, hI, hle⟩
    simp only at hi hI hle
    subst hi
    simp only [incarnation_reduced_B1]
    refine Ok.iteP (fun h => ?_) (fun h => ?_)
    · have hk' : k < s.length := by omega
      have he : s[k]? = some s[k] := by simp [hk']
      rw [ati_get hk', Option.bind_some, w64_nat (by omega)]
      generalize s[k] = e at he
      have hnew : (∀ f ∈ out, Dn f e) → Ok (incarnation_reduced_J1 fuel out e (k : Int)) fun o => Sum.elim (fun s' => k < s.length ∧ s'.2 = ((k + 1 : Nat) : Int) ∧ PassI s s'.1 (k + 1) ∧ s'.1.length ≤ k + 1) (fun t => PassI s t s.length ∧ t.length ≤ s.length) o := fun hd => by
        unfold incarnation_reduced_J1
        refine Ok.bind (Ok.snoc (by omega)) fun y hy => Ok.ret ?_
        subst hy
        rw [w64_nat (by omega)]
        exact ⟨hk', rfl, hI.keep he hd, by simp; omega⟩
      refine Ok.iteP (fun h0 => ?_) (fun h0 => hnew fun f hf => ?_)
      · rw [w64_id (by omega) (by omega)]
        refine Ok.bind (Ok.at (by omega) (by omega)) fun f hf => ?_
        have hf' : out[out.length - 1]? = some f := by rw [← hf]; congr 1; omega
        have hfm := mem_of_getElem? hf'
        have hso := sortedE hs (hI.sub f hfm) he
        simp only [andM_some, orM_some, Option.bind_some]
        refine Ok.ite (fun hc => Ok.ret ?_) (fun hc => hnew (last_dn hI.dn hf' ?_))
        · simp only [Bool.and_true, Bool.or_eq_true, Bool.and_eq_true, beq_iff_eq, decide_eq_true_eq] at hc
          exact ⟨hk', rfl, hI.drop he hfm (by rcases hc with ⟨h1, h2, h3⟩ | ⟨h1, h2⟩; exact ⟨h1.symm, by omega, by omega⟩; exact ⟨h1, by omega, h2⟩), by simp only; omega⟩
        · simp only [Bool.and_true, Bool.or_eq_false_iff, Bool.and_eq_false_imp, beq_iff_eq, decide_eq_false_iff_not] at hc
          unfold Dn
          rcases hso with h1 | ⟨h1, h2⟩
          · exact .inl h1
          · have := hc.2 h1; exact .inr ⟨h1, by omega, by omega⟩
      · cases out with
        | nil => cases hf
        | cons a t => simp at h0
    · have : k = s.length := by omega
      subst this
      exact Ok.ret ⟨hI, hle⟩
  · rintro out ⟨hI, hle⟩
    unfold incarnation_reduced_K1 sortF
    rw [if_pos (by omega), Option.bind_some]
    refine Ok.ret ⟨?_, by rw [sortL_length sortF_swo]; omega⟩
    show Red l (sortL sortF_cf out)
    have hp2 := sortL_perm sortF_swo out
    have hs2 := sortL_sorted sortF_swo out
    generalize sortL sortF_cf out = r at hp2 hs2
    have hanti : ∀ e ∈ out, ∀ f ∈ out, Imp e f → e = f := fun e he f hf hi => by
      obtain ⟨i, hi1, rfl⟩ := List.getElem_of_mem he
      obtain ⟨j, hj1, rfl⟩ := List.getElem_of_mem hf
      rcases Nat.lt_trichotomy i j with h | rfl | h
      · have := List.pairwise_iff_getElem.1 hI.dn i j hi1 hj1 h; unfold Dn at this; unfold Imp at hi; omega
      · rfl
      · have := List.pairwise_iff_getElem.1 hI.dn j i hj1 hi1 h; unfold Dn at this; unfold Imp at hi; omega
    have hnd : r.Nodup := (hp2.nodup_iff).2 (hI.dn.imp fun {a b} h e => by subst e; unfold Dn at h; omega)
    have hm : ∀ e, e ∈ r ↔ e ∈ out := fun e => hp2.mem_iff
    refine ⟨?_, fun f hf => hp.mem_iff.1 (by have := hI.sub f ((hm f).1 hf); rwa [List.take_length] at this), fun e he => ?_, fun e he f hf => hanti e ((hm e).1 he) f ((hm f).1 hf)⟩
    · rw [List.pairwise_iff_getElem]
      intro i j hi hj hij
      have h1 := List.pairwise_iff_getElem.1 hs2 i j hi hj hij
      rw [sortF_lt, decide_eq_false_iff_not] at h1
      have h2 : r[i] ≠ r[j] := List.pairwise_iff_getElem.1 hnd i j hi hj hij
      unfold klt
      have ha := (hm _).1 (List.getElem_mem hi)
      have hb := (hm _).1 (List.getElem_mem hj)
      by_cases h3 : r[i].proc = r[j].proc ∧ r[i].inc = r[j].inc
      · exfalso
        rcases Int.le_total r[i].index r[j].index with h4 | h4
        · exact h2 (hanti _ hb _ ha ⟨h3.1, by omega, h4⟩).symm
        · exact h2 (hanti _ ha _ hb ⟨h3.1.symm, by omega, h4⟩)
      · omega
    · obtain ⟨f, hf, h1⟩ := hI.dom e (by rw [List.take_length]; exact hp.mem_iff.2 he)
      exact ⟨f, (hm f).2 hf, h1⟩
theorem iter_l {σ τ : Type} {body : σ → Option (σ ⊕ τ)} {s s' : σ} (h : body s = some (.inl s')) (n : Nat) : iter body (n + 1) s = iter body n s' := by rw [iter, h]; rfl
theorem iter_r {σ τ : Type} {body : σ → Option (σ ⊕ τ)} {s : σ} {t : τ} (h : body s = some (.inr t)) (n : Nat) : iter body (n + 1) s = some t := by rw [iter, h]; rfl
theorem concat_ok {fuel : Nat} {a b : List EndI} (hf : 1000000 < fuel) (ha : a.length ≤ 1000) (hb : b.length ≤ 1000) : ConcatE fuel [a, b] = some (a ++ b) := by
  unfold ConcatE
  have w1 : w64 (0 + 1) = 1 := by decide
  have w2 : w64 (1 + 1) = 2 := by decide
  have wa : w64 (0 + (a.length : Int)) = a.length := by rw [w64_id (by omega) (by omega)]; omega
  have wb : w64 ((a.length : Int) + b.length) = a.length + b.length := w64_id (by omega) (by omega)
  have h1 : iter (fun s => ConcatE_B2 fuel [a, b] s.1 s.2) fuel (0, 0) = some ((a.length : Int) + b.length) := by
    obtain ⟨n, hn⟩ : ∃ n, fuel = n + 3 := ⟨fuel - 3, by omega⟩
    rw [show iter (fun s => ConcatE_B2 fuel [a, b] s.1 s.2) fuel (0, 0) = iter (fun s => ConcatE_B2 fuel [a, b] s.1 s.2) (n + 3) (0, 0) by rw [← hn]]
    rw [iter_l (s' := ((a.length : Int), 1)) (by
      simp only [ConcatE_B2]
      rw [if_pos (by simp), show ati [a, b] 0 = some a from rfl, Option.bind_some, wa, w1, if_neg (by simp)]) (n + 2), iter_l (s' := ((a.length : Int) + b.length, 2)) (by
      simp only [ConcatE_B2]
      rw [if_pos (by simp), show ati [a, b] 1 = some b from rfl, Option.bind_some, wb, w2, if_neg (by simp; omega)]) (n + 1), iter_r (by
      simp only [ConcatE_B2]
      rw [if_neg (by simp)]) n]
  have h2 : ∀ m : Int, 0 ≤ m → m ≤ 100000000000 → ConcatE_K1 fuel [a, b] m = some (a ++ b) := fun m h0 h1 => by
    unfold ConcatE_K1 GrowE
    rw [if_pos ⟨h0, h1⟩, Option.bind_some]
    obtain ⟨n, hn⟩ : ∃ n, fuel = n + 3 := ⟨fuel - 3, by omega⟩
    rw [show iter (fun s => ConcatE_B1 fuel [a, b] s.1 s.2) fuel ([], 0) = iter (fun s => ConcatE_B1 fuel [a, b] s.1 s.2) (n + 3) ([], 0) by rw [← hn]]
    rw [iter_l (s' := (a, 1)) (by
      simp only [ConcatE_B1]
      rw [if_pos (by simp), show ati [a, b] 0 = some a from rfl, Option.bind_some, catL_ok (by simp; omega), Option.bind_some, w1]; rfl) (n + 2), iter_l (s' := (a ++ b, 2)) (by
      simp only [ConcatE_B1]
      rw [if_pos (by simp), show ati [a, b] 1 = some b from rfl, Option.bind_some, catL_ok (by omega), Option.bind_some, w2]) (n + 1), iter_r (by
      simp only [ConcatE_B1]
      rw [if_neg (by simp)]) n]
    rfl
  rw [h1, Option.bind_some, h2 _ (by omega) (by omega)]
theorem add_ok {fuel : Nat} {a : List EndI} {e : EndI} (hf : 1000000 < fuel) (ha : a.length ≤ 1000) : Ok (incarnation_Add fuel a e) fun r => Red (a ++ [e]) r ∧ r.length ≤ a.length + 1 := by
  unfold incarnation_Add
  rw [concat_ok hf ha (by simp), Option.bind_some]
  exact Ok.bind (reduced_ok hf (by simp; omega)) fun r hr => Ok.ret ⟨hr.1, by simpa using hr.2⟩
end Go.Mine
