/- Recovery lines, plain: the searches answer the greatest and the least. -/
import Derived.Test.YtljpjekifbamfaaP22a
set_option linter.unusedSimpArgs false
set_option linter.unusedVariables false
set_option linter.unusedSectionVars false
namespace Go.Mine
open Go.RowKit
theorem lowS_low (r : List Int) (m : Int) : LowS r m (low r m) := by
  have : ∀ k, k ≤ r.length → ∃ o, LowS (r.take k) m o := by
    intro k
    induction k with
    | zero => exact fun _ => ⟨none, LowS.nil⟩
    | succ k ih =>
      intro hk
      obtain ⟨o, ho⟩ := ih (by omega)
      exact ⟨_, ho.step (y := r[k]) (by simp)⟩
  obtain ⟨o, ho⟩ := this r.length (Nat.le_refl _)
  rw [List.take_length] at ho
  rw [ho.low]; exact ho
theorem highS_high (r : List Int) (m : Int) : HighS r m (high r m) := by
  have : ∀ k, k ≤ r.length → ∃ o, HighS (r.take k) m o := by
    intro k
    induction k with
    | zero => exact fun _ => ⟨none, HighS.nil⟩
    | succ k ih =>
      intro hk
      obtain ⟨o, ho⟩ := ih (by omega)
      exact ⟨_, ho.step (y := r[k]) (by simp)⟩
  obtain ⟨o, ho⟩ := this r.length (Nat.le_refl _)
  rw [List.take_length] at ho
  rw [ho.high]; exact ho
noncomputable def gstep (arcs : List Arc) (A : List (List Int)) (x : List Int) : List Int ⊕ (List Int × Bool) :=
  match arcs.find? (orph · x) with
  | none => .inr (x, true)
  | some a => match low (rwI A a.to) (a.rcv - 1) with
    | none => .inr ([], false)
    | some y => .inl (x.set a.to.toNat y)
noncomputable def lstep (arcs : List Arc) (A : List (List Int)) (x : List Int) : List Int ⊕ (List Int × Bool) :=
  match arcs.find? (orph · x) with
  | none => .inr (x, true)
  | some a => match high (rwI A a.fr) a.ix with
    | none => .inr ([], false)
    | some y => .inl (x.set a.fr.toNat y)
theorem runG {n : Nat} {lens : List Int} {arcs : List Arc} {A : List (List Int)} {body : List Int → Option (List Int ⊕ (List Int × Bool))} {fuel : Nat} {x0 : List Int}
    (ha : ∀ a ∈ arcs, ArcG n lens a) (hA : AG n lens A) (hb : ∀ x, AllC n A x → body x = some (gstep arcs A x)) (h0 : AllC n A x0) (hm : ∀ z, AllC n A z → Cons arcs z → Le z x0) (hf : sm x0 < fuel) : Ok (iter body fuel x0) (GSpec n arcs A) := by
  refine Ok.run (fun m x => sm x = m ∧ AllC n A x ∧ ∀ z, AllC n A z → Cons arcs z → Le z x) ⟨rfl, h0, hm⟩ hf ?_
  rintro m x ⟨rfl, h1, h2⟩
  rw [hb x h1]
  unfold gstep
  cases hfd : arcs.find? (orph · x) with
  | none => exact Ok.ret (.inl ⟨rfl, h1, find_none.1 hfd, h2⟩)
  | some a =>
    have hor := orph_iff.1 (show orph a x = true from List.find?_some (p := (orph · x)) hfd)
    have hmem := List.mem_of_find?_eq_some hfd
    have hg := ha a hmem
    have key : ∀ z, AllC n A z → Cons arcs z → nI z a.to ≤ a.rcv - 1 := fun z hz hc => by
      have := orph_not.1 (hc a hmem)
      have h3 := (h2 z hz hc).int hz.1 hg.fr.1 hg.fr.2
      omega
    have hl := lowS_low (rwI A a.to) (a.rcv - 1)
    simp only
    cases hlo : low (rwI A a.to) (a.rcv - 1) with
    | none =>
      rw [hlo] at hl
      refine Ok.ret (.inr ⟨rfl, fun z hz hc => ?_⟩)
      have := hl _ (hz.int hg.to.1 hg.to.2)
      have := key z hz hc
      omega
    | some y =>
      rw [hlo] at hl
      have hy0 := (hA.int hg.to.1 hg.to.2).1 y hl.1
      have htl : a.to.toNat < x.length := by have := h1.1; have := hg.to; omega
      have hget : x[a.to.toNat]? = some (nI x a.to) := by simp [nI, htl]
      refine Ok.ret ⟨_, ?_, rfl, h1.set hg.to.1 hg.to.2 hl.1, fun z hz hc q hq => ?_⟩
      · have := sm_set (w := y) hget
        have := hl.2.1
        omega
      · rw [nI_set hg.to.1 (by omega) (by omega)]
        split
        · rename_i e
          rw [e]
          exact hl.2.2 _ (hz.int hg.to.1 hg.to.2) (key z hz hc)
        · exact h2 z hz hc q hq
theorem AllC.le {n B : Nat} {lens : List Int} {A : List (List Int)} {x : List Int} (hA : AG n lens A) (hB : ∀ y ∈ lens, y ≤ (B : Int)) (h : AllC n A x) : ∀ y ∈ x, y ≤ (B : Int) := by
  intro y hy
  obtain ⟨i, hi, rfl⟩ := List.getElem_of_mem hy
  have h1 := h.2 i (by have := h.1; omega)
  rw [nI_get hi] at h1
  have h2 := (hA.rng i (by have := h.1; omega) _ h1).2
  have h3 : nI lens (i : Int) ≤ B := by
    unfold nI
    cases e : lens[((i : Int)).toNat]? with
    | none => simp
    | some w => simpa using hB w (List.mem_of_getElem? e)
  omega
theorem runL {n B : Nat} {lens : List Int} {arcs : List Arc} {A : List (List Int)} {b : List Int} {body : List Int → Option (List Int ⊕ (List Int × Bool))} {fuel : Nat} {x0 : List Int}
    (ha : ∀ a ∈ arcs, ArcG n lens a) (hA : AG n lens A) (hB : ∀ y ∈ lens, y ≤ (B : Int)) (hb : ∀ x, AllC n A x → body x = some (lstep arcs A x)) (h0 : AllC n A x0) (hbl : b.length = n) (hbx : Le b x0) (hm : ∀ z, AllC n A z → Cons arcs z → Le b z → Le x0 z) (hf : n * B < fuel) : Ok (iter body fuel x0) (LSpec n arcs A b) := by
  have hsb : ∀ x, AllC n A x → sm x ≤ n * B := fun x hx => by have := sm_le (hx.le hA hB); rw [hx.1] at this; exact this
  refine Ok.run (m := n * B - sm x0) (fun m x => n * B - sm x = m ∧ AllC n A x ∧ Le b x ∧ ∀ z, AllC n A z → Cons arcs z → Le b z → Le x z) ⟨rfl, h0, hbx, hm⟩ (by omega) ?_
  rintro m x ⟨rfl, h1, hb1, h2⟩
  rw [hb x h1]
  unfold lstep
  cases hfd : arcs.find? (orph · x) with
  | none => exact Ok.ret (.inl ⟨rfl, h1, find_none.1 hfd, hb1, h2⟩)
  | some a =>
    have hor := orph_iff.1 (show orph a x = true from List.find?_some (p := (orph · x)) hfd)
    have hmem := List.mem_of_find?_eq_some hfd
    have hg := ha a hmem
    have key : ∀ z, AllC n A z → Cons arcs z → Le b z → a.ix ≤ nI z a.fr := fun z hz hc hbz => by
      have := orph_not.1 (hc a hmem)
      have h3 := (h2 z hz hc hbz).int h1.1 hg.to.1 hg.to.2
      omega
    have hl := highS_high (rwI A a.fr) a.ix
    simp only
    cases hlo : high (rwI A a.fr) a.ix with
    | none =>
      rw [hlo] at hl
      refine Ok.ret (.inr ⟨rfl, fun z hz hbz hc => ?_⟩)
      have := hl _ (hz.int hg.fr.1 hg.fr.2)
      have := key z hz hc hbz
      omega
    | some y =>
      rw [hlo] at hl
      have hy0 := (hA.int hg.fr.1 hg.fr.2).1 y hl.1
      have hx0 := (hA.int hg.fr.1 hg.fr.2).1 _ (h1.int hg.fr.1 hg.fr.2)
      have htl : a.fr.toNat < x.length := by have := h1.1; have := hg.fr; omega
      have hget : x[a.fr.toNat]? = some (nI x a.fr) := by simp [nI, htl]
      have hset := h1.set hg.fr.1 hg.fr.2 hl.1
      refine Ok.ret ⟨_, ?_, rfl, hset, fun q hq => ?_, fun z hz hc hbz q hq => ?_⟩
      · have := sm_set (w := y) hget
        have := hl.2.1
        have := hsb _ hset
        omega
      · rw [nI_set hg.fr.1 (by omega) (by omega)]
        split
        · rename_i e
          have h9 := hb1 q hq
          rw [e] at h9 ⊢
          have := hl.2.1
          omega
        · exact hb1 q hq
      · rw [nI_set hg.fr.1 (by omega) (by omega)]
        rw [hset.1] at hq
        split
        · rename_i e
          rw [e]
          exact hl.2.2 _ (hz.int hg.fr.1 hg.fr.2) (key z hz hc hbz)
        · exact h2 z hz hc hbz q (by rw [h1.1]; exact hq)
section
variable {fuel n B : Nat} {p : Pat} {A : List (List Int)} (hp : PatG n B p) (hn : n ≤ 5) (hB : B ≤ 64) (hf : 1000000 < fuel) (hA : AG n p.lens A)
include hp hn hB hf hA
theorem newRows_g : line_newRows fuel p.lens p.ckpts p.arcs A = some (List.replicate n 0, true) := by
  unfold line_newRows
  rw [show (⟨p.lens, p.ckpts, p.arcs⟩ : Pat) = p from rfl, check_g hp hn hB hf, Option.bind_some]
  have h1 := hp.len; have h2 := hA.len
  simp only [orM_some, Option.bind_some]
  rw [if_neg (by simp; omega), h1, mkL_nat (by omega)]
  rfl
theorem gbody {x : List Int} (hx : AllC n A x) : line_Greatest_B1 fuel p A x = some (gstep p.arcs A x) := by
  have hal := hp.al; have hAl := hA.len; have hxl := hx.1
  unfold line_Greatest_B1 gstep
  rw [lorphan_g hp.arc hx.1 (by omega) hf, Option.bind_some]
  cases hfd : p.arcs.find? (orph · x) with
  | none => rfl
  | some a =>
    have hg := hp.arc a (List.mem_of_find?_eq_some hfd)
    have hg2 := hg.to; have hr := hp.nI_rng a.to; have hr2 := hg.rcv
    simp only [Bool.not_true, Bool.false_eq_true, if_false]
    rw [w64_id (by omega) (by omega), lower_g hg.to.1 (by omega) (by omega) (hA.int hg.to.1 hg.to.2).2 hf, Option.bind_some]
    cases low (rwI A a.to) (a.rcv - 1) <;> rfl
theorem lens_rng {q : Nat} (hq : q < n) : 0 ≤ nI p.lens q ∧ nI p.lens q ≤ 64 := by have := hp.nI_rng q; omega
theorem smB {x : List Int} (hx : AllC n A x) : sm x < fuel := by
  have := sm_le (hx.le hA fun y hy => (hp.rng y hy).2)
  rw [hx.1] at this
  have : n * B ≤ 5 * 64 := Nat.mul_le_mul hn hB
  omega
theorem greatest_g : Ok (line_Greatest fuel p A) (GSpec n p.arcs A) := by
  have hl := hp.len; have hAl := hA.len
  unfold line_Greatest
  rw [newRows_g hp hn hB hf hA, Option.bind_some]
  simp only [Bool.not_true, Bool.false_eq_true, if_false]
  refine Ok.bind (Q := fun t => match t with | .inl x => AllC n A x ∧ ∀ z, AllC n A z → Le z x | .inr r => r = ([], false) ∧ ∀ z, ¬ AllC n A z) (Ok.for_ n (fun k s => s.2 = (k : Int) ∧ s.1.length = n ∧ ∀ q : Nat, q < k → LowS (rwI A q) (nI p.lens q) (some (nI s.1 q))) ⟨rfl, by simp, fun q hq => by omega⟩ (by omega) ?_) ?_
  · rintro k ⟨x, i⟩ hk ⟨hi, h1, h2⟩
    simp only at hi h1 h2
    subst hi
    simp only [line_Greatest_B2]
    refine Ok.iteP (fun hkl => ?_) (fun hkl => Ok.ret ?_)
    · have hkn : k < n := by omega
      rw [ati_nI (by omega) (by omega), Option.bind_some, lower_g (by omega) (by omega) (by omega) (hA.wid k hkn) hf, Option.bind_some]
      have hlo := lowS_low (rwI A k) (nI p.lens k)
      cases e : low (rwI A k) (nI p.lens k) with
      | none =>
        rw [e] at hlo
        refine Ok.ret ⟨rfl, fun z hz => ?_⟩
        have := hlo _ (hz.2 k hkn); have := (hA.rng k hkn _ (hz.2 k hkn)).2; omega
      | some y =>
        rw [e] at hlo
        refine Ok.ret ⟨hkn, w64_nat (by omega), by simp [setO, h1], fun q hq => ?_⟩
        simp only [setO]
        rw [nI_set (by omega) (by omega) (by omega)]
        split
        · rename_i e2; rw [show q = k by omega]; exact hlo
        · exact h2 q (by omega)
    · have e : k = n := by omega
      subst e
      exact ⟨⟨h1, fun q hq => (h2 q hq).1⟩, fun z hz q hq => (h2 q (by have := hz.1; omega)).2.2 _ (hz.2 q (by have := hz.1; omega)) (hA.rng q (by have := hz.1; omega) _ (hz.2 q (by have := hz.1; omega))).2⟩
  · rintro (x | r) ht
    · simp only [Sum.elim_inl, line_Greatest_K1]
      exact (runG hp.arc hA (fun x hx => gbody hp hn hB hf hA hx) ht.1 (fun z hz _ => ht.2 z hz) (smB hp hn hB hf hA ht.1)).bind fun t ht => Ok.ret ht
    · obtain ⟨rfl, h2⟩ := ht
      exact Ok.ret (.inr ⟨rfl, fun z hz => absurd hz (h2 z)⟩)
theorem nBf : n * B < fuel := by have : n * B ≤ 5 * 64 := Nat.mul_le_mul hn hB; omega
end
end Go.Mine
