/- Recovery lines, plain: greatest and least consistent cuts over allowed points. -/
import Derived.Test.YtljpjekifbamfaaA22c
import Derived.Test.YtljpjekifbamfaaP18
set_option linter.unusedSimpArgs false
set_option linter.unusedVariables false
namespace Go.Mine
open Go.RowKit
def rwI (A : List (List Int)) (q : Int) : List Int := A[q.toNat]?.getD []
theorem ati_rw {A : List (List Int)} {q : Int} (h0 : 0 ≤ q) (h1 : q < A.length) : ati A q = some (rwI A q) := by
  rw [ati_int h0 (by omega)]; simp [rwI, (show q.toNat < A.length by omega)]
def LowS (r : List Int) (m : Int) : Option Int → Prop
  | some y => y ∈ r ∧ y ≤ m ∧ ∀ z ∈ r, z ≤ m → z ≤ y
  | none => ∀ z ∈ r, m < z
def HighS (r : List Int) (m : Int) : Option Int → Prop
  | some y => y ∈ r ∧ m ≤ y ∧ ∀ z ∈ r, m ≤ z → y ≤ z
  | none => ∀ z ∈ r, z < m
theorem LowS.uniq {r : List Int} {m : Int} : ∀ {o o' : Option Int}, LowS r m o → LowS r m o' → o = o'
  | none, none, _, _ => rfl
  | none, some y, h, h' => by have := h y h'.1; have := h'.2.1; omega
  | some y, none, h, h' => by have := h' y h.1; have := h.2.1; omega
  | some y, some z, h, h' => by have := h.2.2 z h'.1 h'.2.1; have := h'.2.2 y h.1 h.2.1; congr 1; omega
theorem HighS.uniq {r : List Int} {m : Int} : ∀ {o o' : Option Int}, HighS r m o → HighS r m o' → o = o'
  | none, none, _, _ => rfl
  | none, some y, h, h' => by have := h y h'.1; have := h'.2.1; omega
  | some y, none, h, h' => by have := h' y h.1; have := h.2.1; omega
  | some y, some z, h, h' => by have := h.2.2 z h'.1 h'.2.1; have := h'.2.2 y h.1 h.2.1; congr 1; omega
open Classical in
noncomputable def low (r : List Int) (m : Int) : Option Int := if h : ∃ o, LowS r m o then h.choose else none
open Classical in
noncomputable def high (r : List Int) (m : Int) : Option Int := if h : ∃ o, HighS r m o then h.choose else none
theorem LowS.low {r : List Int} {m : Int} {o : Option Int} (h : LowS r m o) : low r m = o := by
  have h2 : ∃ o, LowS r m o := ⟨o, h⟩
  unfold Go.Mine.low; rw [dif_pos h2]; exact h2.choose_spec.uniq h
theorem HighS.high {r : List Int} {m : Int} {o : Option Int} (h : HighS r m o) : high r m = o := by
  have h2 : ∃ o, HighS r m o := ⟨o, h⟩
  unfold Go.Mine.high; rw [dif_pos h2]; exact h2.choose_spec.uniq h
theorem LowS.step {r : List Int} {m y : Int} {k : Nat} {o : Option Int} (h : LowS (r.take k) m o) (hy : r[k]? = some y) : LowS (r.take (k + 1)) m (if y ≤ m ∧ (∀ z, o = some z → z < y) then some y else o) := by
  split
  · rename_i hc
    refine ⟨mem_take_succ'.2 (.inr hy), hc.1, fun z hz hzm => ?_⟩
    rcases mem_take_succ'.1 hz with h1 | h1
    · cases o with
      | none => have := h z h1; omega
      | some w => have := h.2.2 z h1 hzm; have := hc.2 w rfl; omega
    · rw [hy] at h1; cases h1; exact Int.le_refl _
  · rename_i hc
    cases o with
    | none =>
      intro z hz
      rcases mem_take_succ'.1 hz with h1 | h1
      · exact h z h1
      · rw [hy] at h1; cases h1
        rcases Int.lt_or_le m y with h2 | h2
        · exact h2
        · exact absurd ⟨h2, by simp⟩ hc
    | some w =>
      refine ⟨mem_take_succ'.2 (.inl h.1), h.2.1, fun z hz hzm => ?_⟩
      rcases mem_take_succ'.1 hz with h1 | h1
      · exact h.2.2 z h1 hzm
      · rw [hy] at h1; cases h1
        rcases Int.lt_or_le w y with h2 | h2
        · exact absurd ⟨hzm, fun z hz => by cases hz; exact h2⟩ hc
        · exact h2
theorem HighS.step {r : List Int} {m y : Int} {k : Nat} {o : Option Int} (h : HighS (r.take k) m o) (hy : r[k]? = some y) : HighS (r.take (k + 1)) m (if m ≤ y ∧ (∀ z, o = some z → y < z) then some y else o) := by
  split
  · rename_i hc
    refine ⟨mem_take_succ'.2 (.inr hy), hc.1, fun z hz hzm => ?_⟩
    rcases mem_take_succ'.1 hz with h1 | h1
    · cases o with
      | none => have := h z h1; omega
      | some w => have := h.2.2 z h1 hzm; have := hc.2 w rfl; omega
    · rw [hy] at h1; cases h1; exact Int.le_refl _
  · rename_i hc
    cases o with
    | none =>
      intro z hz
      rcases mem_take_succ'.1 hz with h1 | h1
      · exact h z h1
      · rw [hy] at h1; cases h1
        rcases Int.lt_or_le y m with h2 | h2
        · exact h2
        · exact absurd ⟨h2, by simp⟩ hc
    | some w =>
      refine ⟨mem_take_succ'.2 (.inl h.1), h.2.1, fun z hz hzm => ?_⟩
      rcases mem_take_succ'.1 hz with h1 | h1
      · exact h.2.2 z h1 hzm
      · rw [hy] at h1; cases h1
        rcases Int.lt_or_le y w with h2 | h2
        · exact absurd ⟨hzm, fun z hz => by cases hz; exact h2⟩ hc
        · exact h2
theorem LowS.nil {r : List Int} {m : Int} : LowS (r.take 0) m none := by intro z hz; simp at hz
theorem HighS.nil {r : List Int} {m : Int} : HighS (r.take 0) m none := by intro z hz; simp at hz
def setO (x : List Int) (q : Int) : Option Int → List Int
  | some y => x.set q.toNat y
  | none => x
theorem setO_len {x : List Int} {q : Int} {o : Option Int} : (setO x q o).length = x.length := by cases o <;> simp [setO]
theorem lower_g {fuel : Nat} {A : List (List Int)} {x : List Int} {q m : Int} {l c a} (h0 : 0 ≤ q) (h1 : q < A.length) (hx : q < x.length) (hw : (rwI A q).length ≤ 1000) (hf : 1000000 < fuel) : line_rows_lower fuel q m l c a A x = some ((low (rwI A q) m).isSome, setO x q (low (rwI A q) m)) := by
  unfold line_rows_lower
  rw [ati_rw h0 h1, Option.bind_some]
  generalize rwI A q = r at *
  refine Ok.eq ?_
  refine Ok.bind (Q := fun t => t = (setO x q (low r m), (low r m).isSome)) (Ok.for_ r.length (fun k s => s.2.2 = (k : Int) ∧ ∃ o, LowS (r.take k) m o ∧ s.2.1 = o.isSome ∧ s.1 = setO x q o) ⟨rfl, none, LowS.nil, rfl, rfl⟩ (by omega) ?_) fun t ht => by subst ht; exact Ok.ret rfl
  rintro k ⟨y, b, i⟩ hk ⟨hi, o, ho, hb, hy⟩
  simp only at hi hb hy
  subst hi hb hy
  simp only [line_rows_lower_B1]
  refine Ok.iteP (fun hkl => ?_) (fun hkl => Ok.ret ?_)
  · refine (Ok.at (by omega) hkl).bind fun v hv => ?_
    rw [Int.toNat_natCast] at hv
    have hst := ho.step hv
    refine Ok.bind (Q := fun b => b = decide (v ≤ m ∧ (∀ z, o = some z → z < v))) ?_ fun b hb => ?_
    · refine Ok.andM (fun e => ?_) (fun e => by simp at e; simp [e]; omega)
      cases o with
      | none => exact Ok.ret (by simpa using e)
      | some z =>
        simp only [Option.isSome_some, Bool.not_true, orM_false, setO]
        refine Ok.bind (Q := fun b => b = decide (z < v)) ((Ok.at h0 (by simpa using hx)).bind fun w hw => Ok.ret ?_) fun b hb => Ok.ret ?_
        · simp [(show q.toNat < x.length by omega)] at hw; rw [hw]
        · subst hb; simp at e ⊢; simp [e]
    · subst hb
      refine Ok.ite (fun hc => ?_) (fun hc => Ok.ret ⟨by omega, w64_nat (by omega), o, ?_, rfl, rfl⟩)
      · refine (Ok.at h0 (by rw [setO_len]; exact hx)).bind fun _ _ => (Ok.set h0 (by rw [setO_len]; exact hx)).bind fun z hz => Ok.ret ⟨by omega, w64_nat (by omega), some v, ?_, rfl, ?_⟩
        · rw [if_pos (by simpa using hc)] at hst; exact hst
        · simp only; rw [hz]; cases o <;> simp [setO]
      · rw [if_neg (by simpa using hc)] at hst; exact hst
  · have e : k = r.length := by omega
    subst e
    rw [List.take_length] at ho
    simp only [Sum.elim_inr]
    rw [ho.low]
theorem lorphan_g {fuel n : Nat} {L l : List Int} {arcs : List Arc} {x : List Int} {c A} (ha : ∀ a ∈ arcs, ArcG n L a) (hx : x.length = n) (hl : arcs.length ≤ 1000) (hf : 1000000 < fuel) : line_rows_orphan fuel l c arcs A x = some (match arcs.find? (orph · x) with | none => ((⟨0, 0, 0, 0⟩ : Arc), false, x) | some a => (a, true, x)) := by
  unfold line_rows_orphan
  refine Ok.eq ?_
  refine Ok.bind (Q := fun t => match t with | .inl _ => arcs.find? (orph · x) = none | .inr r => ∃ a, arcs.find? (orph · x) = some a ∧ r = (a, true, x)) (Ok.for_ arcs.length (fun k s => s = (k : Int) ∧ ∀ b ∈ arcs.take k, orph b x = false) ⟨rfl, by simp⟩ (by omega) ?_) ?_
  · rintro k s hk ⟨rfl, h1⟩
    unfold line_rows_orphan_B1
    refine Ok.iteP (fun hkl => ?_) (fun hkl => Ok.ret ?_)
    · refine (Ok.at (by omega) hkl).bind fun a h2 => ?_
      rw [Int.toNat_natCast] at h2
      have h3 := ha a (List.mem_of_getElem? h2)
      have h4 := h3.to.2; have h5 := h3.fr.2
      rw [ati_nI h3.to.1 (by omega), ati_nI h3.fr.1 (by omega)]
      simp only [Option.bind_some, andM_some]
      have hd : (a.rcv != 0 && decide (a.rcv ≤ nI x a.to) && decide (nI x a.fr < a.ix)) = orph a x := by rw [Bool.eq_iff_iff, orph_iff]; simp [and_assoc]
      rw [hd]
      refine Ok.ite (fun hc => Ok.ret ⟨a, find_first h2 hc h1, rfl⟩) (fun hc => Ok.ret ⟨by omega, w64_nat (by omega), fun b hb => ?_⟩)
      rcases mem_take_succ'.1 hb with h6 | h6
      · exact h1 b h6
      · rw [h2] at h6; cases h6; exact hc
    · have e : k = arcs.length := by omega
      subst e
      rw [List.take_length] at h1
      exact find_none.2 h1
  · rintro (u | r) ht
    · simp only [Sum.elim_inl]; simp only at ht; rw [ht]; exact Ok.ret rfl
    · obtain ⟨a, h1, rfl⟩ := ht; rw [h1]; exact Ok.ret rfl
/-! sums -/
def sm (x : List Int) : Nat := (x.map Int.toNat).sum
theorem sm_set : ∀ {x : List Int} {i : Nat} {v w : Int}, x[i]? = some v → sm (x.set i w) + v.toNat = sm x + w.toNat
  | [], i, v, w, h => by simp at h
  | a :: x, 0, v, w, h => by simp at h; subst h; simp [sm]; omega
  | a :: x, i + 1, v, w, h => by have := sm_set (x := x) (i := i) (v := v) (w := w) (by simpa using h); simp [sm] at this ⊢; omega
theorem sm_le {B : Nat} : ∀ {x : List Int}, (∀ y ∈ x, y ≤ (B : Int)) → sm x ≤ x.length * B
  | [], h => by simp [sm]
  | a :: x, h => by
    have := sm_le (x := x) fun y hy => h y (by simp [hy])
    have h2 := h a (by simp)
    simp only [sm, List.map_cons, List.sum_cons, List.length_cons, Nat.add_mul, Nat.one_mul] at this ⊢
    omega
structure AG (n : Nat) (lens : List Int) (A : List (List Int)) : Prop where
  len : A.length = n
  rng : ∀ q : Nat, q < n → ∀ y ∈ rwI A q, 0 ≤ y ∧ y ≤ nI lens q
  wid : ∀ q : Nat, q < n → (rwI A q).length ≤ 1000
def AllC (n : Nat) (A : List (List Int)) (x : List Int) : Prop := x.length = n ∧ ∀ q : Nat, q < n → nI x q ∈ rwI A q
theorem AllC.int {n : Nat} {A : List (List Int)} {x : List Int} (h : AllC n A x) {q : Int} (h0 : 0 ≤ q) (h1 : q < n) : nI x q ∈ rwI A q := by
  obtain ⟨k, rfl⟩ := Int.eq_ofNat_of_zero_le h0
  exact h.2 k (by omega)
theorem AG.int {n : Nat} {lens : List Int} {A : List (List Int)} (h : AG n lens A) {q : Int} (h0 : 0 ≤ q) (h1 : q < n) : (∀ y ∈ rwI A q, 0 ≤ y ∧ y ≤ nI lens q) ∧ (rwI A q).length ≤ 1000 := by
  obtain ⟨k, rfl⟩ := Int.eq_ofNat_of_zero_le h0
  exact ⟨h.rng k (by omega), h.wid k (by omega)⟩
theorem AllC.set {n : Nat} {A : List (List Int)} {x : List Int} (h : AllC n A x) {q : Int} (h0 : 0 ≤ q) (h1 : q < n) {y : Int} (hy : y ∈ rwI A q) : AllC n A (x.set q.toNat y) := by
  refine ⟨by simp [h.1], fun j hj => ?_⟩
  rw [nI_set h0 (by have := h.1; omega) (by omega)]
  split
  · rename_i e; rw [e]; exact hy
  · exact h.2 j hj
theorem Le.int {n : Nat} {x y : List Int} (h : Le x y) (hx : x.length = n) {q : Int} (h0 : 0 ≤ q) (h1 : q < n) : nI x q ≤ nI y q := by
  obtain ⟨k, rfl⟩ := Int.eq_ofNat_of_zero_le h0
  exact h k (by omega)
theorem Le.antisymm {n : Nat} {x y : List Int} (hx : x.length = n) (hy : y.length = n) (h1 : Le x y) (h2 : Le y x) : x = y :=
  list_ext_nI (by omega) fun q hq => by have := h1 q hq; have := h2 q (by omega); omega
def GSpec (n : Nat) (arcs : List Arc) (A : List (List Int)) (r : List Int × Bool) : Prop :=
  (r.2 = true ∧ AllC n A r.1 ∧ Cons arcs r.1 ∧ ∀ z, AllC n A z → Cons arcs z → Le z r.1) ∨ (r = ([], false) ∧ ∀ z, AllC n A z → ¬ Cons arcs z)
def LSpec (n : Nat) (arcs : List Arc) (A : List (List Int)) (b : List Int) (r : List Int × Bool) : Prop :=
  (r.2 = true ∧ AllC n A r.1 ∧ Cons arcs r.1 ∧ Le b r.1 ∧ ∀ z, AllC n A z → Cons arcs z → Le b z → Le r.1 z) ∨ (r = ([], false) ∧ ∀ z, AllC n A z → Le b z → ¬ Cons arcs z)
theorem GSpec.uniq {n : Nat} {arcs : List Arc} {A : List (List Int)} {r s : List Int × Bool} (h : GSpec n arcs A r) (h' : GSpec n arcs A s) : r = s := by
  rcases h with ⟨h1, h2, h3, h4⟩ | ⟨h1, h2⟩
  · rcases h' with ⟨k1, k2, k3, k4⟩ | ⟨k1, k2⟩
    · exact Prod.ext (Le.antisymm h2.1 k2.1 (k4 _ h2 h3) (h4 _ k2 k3)) (h1.trans k1.symm)
    · exact absurd h3 (k2 _ h2)
  · rcases h' with ⟨k1, k2, k3, k4⟩ | ⟨k1, k2⟩
    · exact absurd k3 (h2 _ k2)
    · rw [h1, k1]
theorem LSpec.uniq {n : Nat} {arcs : List Arc} {A : List (List Int)} {b : List Int} {r s : List Int × Bool} (h : LSpec n arcs A b r) (h' : LSpec n arcs A b s) : r = s := by
  rcases h with ⟨h1, h2, h3, h4, h5⟩ | ⟨h1, h2⟩
  · rcases h' with ⟨k1, k2, k3, k4, k5⟩ | ⟨k1, k2⟩
    · exact Prod.ext (Le.antisymm h2.1 k2.1 (h5 _ k2 k3 k4) (k5 _ h2 h3 h4)) (h1.trans k1.symm)
    · exact absurd h3 (k2 _ h2 h4)
  · rcases h' with ⟨k1, k2, k3, k4, k5⟩ | ⟨k1, k2⟩
    · exact absurd k3 (h2 _ k2 k4)
    · rw [h1, k1]
end Go.Mine
