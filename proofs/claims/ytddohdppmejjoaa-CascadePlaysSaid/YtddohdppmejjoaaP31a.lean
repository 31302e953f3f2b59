/- Chapter 31, plain: which labels are undone, what is kept, the next incarnation. -/
import Derived.Test.YtddohdppmejjoaaA31e
import Derived.Test.YtddohdppmejjoaaPmk
set_option linter.unusedSimpArgs false
set_option linter.unusedVariables false
namespace Go.Mine
open Go.RowKit
theorem mem_take_succ {α : Type} {xs : List α} {k : Nat} {e : α} : e ∈ xs.take (k + 1) ↔ e ∈ xs.take k ∨ xs[k]? = some e := by
  rw [List.take_add_one, List.mem_append]
  cases xs[k]? <;> simp [eq_comm]
def Und (ends : List EndI) (q : Int) (x : Lab) : Prop := ∃ e ∈ ends, e.proc = q ∧ x.inc ≤ e.inc ∧ e.index < x.index
def undoneP (ends : List EndI) (q : Int) (x : Lab) (k : Nat) : Bool := match ends[k]? with | some e => e.proc == q && decide (x.inc ≤ e.inc) && decide (e.index < x.index) | none => false
theorem und_iff {ends : List EndI} {q : Int} {x : Lab} : (∃ k, k < ends.length ∧ undoneP ends q x k = true) ↔ Und ends q x := by
  constructor
  · rintro ⟨k, hk, h⟩
    simp only [undoneP, List.getElem?_eq_getElem hk, Bool.and_eq_true, beq_iff_eq, decide_eq_true_eq] at h
    exact ⟨ends[k], List.getElem_mem _, h.1.1, h.1.2, h.2⟩
  · rintro ⟨e, he, h1, h2, h3⟩
    obtain ⟨k, hk, rfl⟩ := List.getElem_of_mem he
    exact ⟨k, hk, by simp [undoneP, hk, h1, h2, h3]⟩
open Classical in
noncomputable def undB (ends : List EndI) (q : Int) (x : Lab) : Bool := decide (Und ends q x)
theorem undB_iff {ends : List EndI} {q : Int} {x : Lab} : undB ends q x = true ↔ Und ends q x := by unfold undB; simp
theorem undB_not {ends : List EndI} {q : Int} {x : Lab} : undB ends q x = false ↔ ¬ Und ends q x := by unfold undB; simp
theorem undone_eq {fuel : Nat} {ends : List EndI} {q : Int} {x : Lab} (hf : ends.length < fuel) (hl : ends.length ≤ 1000000) : incarnation_Undone fuel ends q x = some (undB ends q x) := by
  unfold incarnation_Undone undB
  rw [iter_any ends.length (undoneP ends q x) true hf (fun k hk => by
    unfold incarnation_Undone_B1
    rw [if_pos (by simp [hk]), ati_get hk, w64_nat (by omega)]
    simp only [Option.bind_some, andM_some, undoneP, List.getElem?_eq_getElem hk]
    split <;> rfl) (by unfold incarnation_Undone_B1; simp)]
  split
  · rename_i h; simp [und_iff.1 h]
  · rename_i h; rw [und_iff] at h; simp [h, incarnation_Undone_K1]
theorem rundone_eq {fuel : Nat} {ends : List EndI} {q : Int} {x : Lab} (hf : ends.length < fuel) (hl : ends.length ≤ 1000000) : ref31_Undone fuel ends q x = some (undB ends q x) := by
  unfold ref31_Undone undB
  rw [iter_any ends.length (undoneP ends q x) true hf (fun k hk => by
    unfold ref31_Undone_B1
    rw [if_pos (by simp [hk]), ati_get hk, w64_nat (by omega)]
    simp only [Option.bind_some, andM_some, undoneP, List.getElem?_eq_getElem hk]
    split <;> rfl) (by unfold ref31_Undone_B1; simp)]
  split
  · rename_i h; simp [und_iff.1 h]
  · rename_i h; rw [und_iff] at h; simp [h, ref31_Undone_K1]
/-- how much of a lineage is kept -/
def labAt (evs : List Evt) (i : Nat) : Lab := ⟨(evs[i]?.map (·.inc)).getD 0, (i : Int) + 1⟩
def KeptS (ends : List EndI) (q : Int) (evs : List Evt) (r : Int) : Prop := ∃ n : Nat, r = n ∧ n ≤ evs.length ∧ (∀ i, i < n → ¬ Und ends q (labAt evs i)) ∧ (n < evs.length → Und ends q (labAt evs n))
theorem KeptS.unique {ends ends' : List EndI} {q : Int} {evs : List Evt} {r r' : Int} (h : KeptS ends q evs r) (h' : KeptS ends' q evs r') (hu : ∀ x, Und ends q x ↔ Und ends' q x) : r = r' := by
  obtain ⟨n, rfl, h1, h2, h3⟩ := h
  obtain ⟨n', rfl, h1', h2', h3'⟩ := h'
  rcases Nat.lt_trichotomy n n' with h | rfl | h
  · exact absurd ((hu _).1 (h3 (by omega))) (h2' n h)
  · rfl
  · exact absurd ((hu _).2 (h3' (by omega))) (h2 n' h)
theorem KeptS.all {ends : List EndI} {q : Int} {evs : List Evt} {r : Int} (h : KeptS ends q evs r) (hu : ∀ i, i < evs.length → ¬ Und ends q (labAt evs i)) : r = evs.length := by
  obtain ⟨n, rfl, h1, h2, h3⟩ := h
  rcases Nat.lt_or_ge n evs.length with h | h
  · exact absurd (h3 h) (hu n h)
  · omega
/-- the next incarnation -/
def NextS (ends : List EndI) (q : Int) (r : Int) : Prop := (r = 0 ∧ ∀ e ∈ ends, e.proc ≠ q) ∨ ∃ e ∈ ends, e.proc = q ∧ (∀ f ∈ ends, f.proc = q → f.inc ≤ e.inc) ∧ r = w64 (e.inc + 1)
theorem NextS.unique {ends ends' : List EndI} {q r r' : Int} (h : NextS ends q r) (h' : NextS ends' q r') (h1 : ∀ e ∈ ends, e.proc = q → ∃ f ∈ ends', f.proc = q ∧ e.inc ≤ f.inc) (h2 : ∀ e ∈ ends', e.proc = q → ∃ f ∈ ends, f.proc = q ∧ e.inc ≤ f.inc) : r = r' := by
  rcases h with ⟨rfl, h⟩ | ⟨e, he, hp, hm, rfl⟩ <;> rcases h' with ⟨rfl, h'⟩ | ⟨e', he', hp', hm', rfl⟩
  · rfl
  · obtain ⟨f, hf, hq, _⟩ := h2 e' he' hp'; exact absurd hq (h f hf)
  · obtain ⟨f, hf, hq, _⟩ := h1 e he hp; exact absurd hq (h' f hf)
  · obtain ⟨f, hf, hq, h3⟩ := h1 e he hp
    obtain ⟨f', hf', hq', h4⟩ := h2 e' he' hp'
    have h5 := hm' f hf hq; have h6 := hm f' hf' hq'
    rw [show e.inc = e'.inc by omega]
def NextI (ends : List EndI) (q : Int) (k : Nat) (most : Int) (found : Bool) : Prop :=
  if found = true then ∃ e ∈ ends.take k, e.proc = q ∧ e.inc = most ∧ ∀ f ∈ ends.take k, f.proc = q → f.inc ≤ most else ∀ e ∈ ends.take k, e.proc ≠ q
theorem NextI.step {ends : List EndI} {q : Int} {k : Nat} {most : Int} {found : Bool} (h : NextI ends q k most found) {e : EndI} (he : ends[k]? = some e) :
    (e.proc = q → (found = false ∨ most < e.inc) → NextI ends q (k + 1) e.inc true) ∧ ((e.proc ≠ q ∨ (found = true ∧ e.inc ≤ most)) → NextI ends q (k + 1) most found) := by
  constructor
  · intro h1 h2
    unfold NextI
    rw [if_pos rfl]
    refine ⟨e, mem_take_succ.2 (.inr he), h1, rfl, fun f hf hq => ?_⟩
    rcases mem_take_succ.1 hf with hf | hf
    · unfold NextI at h
      rcases h2 with rfl | h2
      · rw [if_neg (by simp)] at h; exact absurd hq (h f hf)
      · cases found
        · rw [if_neg (by simp)] at h; exact absurd hq (h f hf)
        · rw [if_pos rfl] at h; obtain ⟨_, _, _, _, h3⟩ := h; have := h3 f hf hq; omega
    · rw [he] at hf; cases hf; omega
  · intro h1
    unfold NextI at *
    cases found
    · rw [if_neg (by simp)] at *
      intro f hf
      rcases mem_take_succ.1 hf with hf | hf
      · exact h f hf
      · rw [he] at hf; cases hf; rcases h1 with h1 | h1; exact h1; simp at h1
    · rw [if_pos rfl] at *
      obtain ⟨g, hg, h2, h3, h4⟩ := h
      refine ⟨g, mem_take_succ.2 (.inl hg), h2, h3, fun f hf hq => ?_⟩
      rcases mem_take_succ.1 hf with hf | hf
      · exact h4 f hf hq
      · rw [he] at hf; cases hf; rcases h1 with h1 | h1; exact absurd hq h1; exact h1.2
theorem NextI.fin {ends : List EndI} {q : Int} {most : Int} {found : Bool} (h : NextI ends q ends.length most found) : NextS ends q (if found = true then w64 (most + 1) else 0) := by
  unfold NextI at h
  rw [List.take_length] at h
  cases found
  · rw [if_neg (by simp)] at *; exact .inl ⟨rfl, h⟩
  · rw [if_pos rfl] at *
    obtain ⟨g, hg, h2, h3, h4⟩ := h
    exact .inr ⟨g, hg, h2, fun f hf hq => by rw [h3]; exact h4 f hf hq, by rw [h3]⟩
theorem endI_ext {a b : EndI} (h1 : a.proc = b.proc) (h2 : a.inc = b.inc) (h3 : a.index = b.index) : a = b := by cases a; cases b; simp at *; exact ⟨h1, h2, h3⟩
theorem sameE_eq {fuel : Nat} {a b : List EndI} (h : a.length < fuel) (hl : a.length ≤ 1000000) : ref31_Same fuel a b = some (decide (a = b)) := by
  unfold ref31_Same
  by_cases he : a.length = b.length
  · rw [if_neg (by simp [he])]
    rw [iter_any a.length (fun k => decide (a[k]? ≠ b[k]?)) false h (fun k hk => by
      unfold ref31_Same_B1
      rw [if_pos (by simp [hk]), ati_get hk, ati_get (he ▸ hk), w64_nat (by omega)]
      simp only [Option.bind_some, List.getElem?_eq_getElem hk, List.getElem?_eq_getElem (he ▸ hk : k < b.length)]
      by_cases e : a[k] = b[k]
      · simp [e]
      · have : ¬ ((a[k]).proc = (b[k]'(he ▸ hk)).proc ∧ (a[k]).inc = (b[k]'(he ▸ hk)).inc ∧ (a[k]).index = (b[k]'(he ▸ hk)).index) := fun ⟨e1, e2, e3⟩ => e (endI_ext e1 e2 e3)
        simp [e, this]) (by unfold ref31_Same_B1; simp)]
    by_cases e : a = b
    · subst e; simp [ref31_Same_K1]
    · have : ∃ k, k < a.length ∧ (decide (a[k]? ≠ b[k]?)) = true := Classical.byContradiction fun hn => e (List.ext_getElem he fun k h1 h2 => by
        have := fun hc => hn ⟨k, h1, hc⟩
        simpa [h1, h2] using this)
      rw [if_pos this]; simp [e]
  · rw [if_pos (by simp; omega)]
    have : a ≠ b := fun e => he (by rw [e])
    simp [this]
theorem int_ok {fuel : Nat} {c : List Int} {i : Int} (h : COk c i) : Ok (make_Codes_Int fuel c i) fun r => COk c r.2 := by
  unfold make_Codes_Int
  refine Ok.bind (Ok.next h (by omega)) fun ⟨x1, j1⟩ ⟨a0, a1, h2, _⟩ => ?_
  simp only at h2 ⊢
  refine Ok.ite (fun _ => ?_) (fun _ => ?_)
  · refine Ok.bind (Ok.next h2 (by simp)) fun ⟨x2, j2⟩ ⟨b0, b1, h3, _⟩ => ?_
    simp only at b0 b1 h3 ⊢
    exact Ok.bind (Ok.at b0 b1) fun _ _ => Ok.ret h3
  · exact Ok.bind (Ok.next h2 (by omega)) fun ⟨x2, j2⟩ ⟨b0, b1, h3, _⟩ => Ok.ret h3
end Go.Mine
