/- Recovery lines, plain: what is drawn; LineFinds and LineMore. -/
import Derived.Test.YtdjkdbojmcdogaaP22b
set_option linter.unusedSimpArgs false
set_option linter.unusedVariables false
set_option linter.unusedSectionVars false
namespace Go.Mine
open Go.RowKit
theorem sameInts_refl {fuel : Nat} {x : List Int} (hl : x.length ≤ 1000) (hf : 1000000 < fuel) : ref03_SameInts fuel x x = some true := by
  unfold ref03_SameInts
  rw [if_neg (by simp)]
  refine Ok.eq ?_
  refine Ok.bind (Q := fun t => t = .inl ()) (Ok.for_ x.length (fun k s => s = (k : Int)) rfl (by omega) ?_) fun t ht => by subst ht; exact Ok.ret rfl
  rintro k s hk rfl
  unfold ref03_SameInts_B1
  refine Ok.iteP (fun hkl => ?_) (fun _ => Ok.ret rfl)
  rw [ati_nI (by omega) (by omega)]
  simp only [Option.bind_some]
  rw [if_neg (by simp)]
  exact Ok.ret ⟨by omega, w64_nat (by omega)⟩
theorem sameLists_refl {fuel : Nat} {A : List (List Int)} (hl : A.length ≤ 1000) (hw : ∀ r ∈ A, r.length ≤ 1000) (hf : 1000000 < fuel) : ref22_SameLists fuel A A = some true := by
  unfold ref22_SameLists
  rw [if_neg (by simp)]
  refine Ok.eq ?_
  refine Ok.bind (Q := fun t => t = .inl ()) (Ok.for_ A.length (fun k s => s = (k : Int)) rfl (by omega) ?_) fun t ht => by subst ht; exact Ok.ret rfl
  rintro k s hk rfl
  unfold ref22_SameLists_B1
  refine Ok.iteP (fun hkl => ?_) (fun _ => Ok.ret rfl)
  have hwk : (rwI A k).length ≤ 1000 := by
    unfold rwI; rw [List.getElem?_eq_getElem (by omega)]; exact hw _ (List.getElem_mem _)
  rw [ati_rw (by omega) (by omega)]
  simp only [Option.bind_some]
  rw [if_neg (by simp)]
  refine Ok.bind (Q := fun t => t = .inl ()) (Ok.for_ (rwI A k).length (fun j s => s = (j : Int)) rfl (by omega) ?_) fun t ht => by subst ht; exact Ok.ret ⟨by omega, w64_nat (by omega)⟩
  rintro j s hj rfl
  unfold ref22_SameLists_B2
  rw [ati_rw (by omega) (by omega)]
  simp only [Option.bind_some]
  refine Ok.iteP (fun hjl => ?_) (fun _ => Ok.ret rfl)
  rw [ati_nI (by omega) (by omega)]
  simp only [Option.bind_some]
  rw [if_neg (by simp)]
  exact Ok.ret ⟨by omega, w64_nat (by omega)⟩
theorem in_g {fuel : Nat} {x : List Int} {v : Int} (hl : x.length ≤ 1000) (hf : 1000000 < fuel) : law22_in fuel x v = some (decide (v ∈ x)) := by
  unfold law22_in
  refine Ok.eq ?_
  refine Ok.bind (Q := fun t => match t with | .inl _ => v ∉ x | .inr b => b = true ∧ v ∈ x) (Ok.for_ x.length (fun k s => s = (k : Int) ∧ v ∉ x.take k) ⟨rfl, by simp⟩ (by omega) ?_) ?_
  · rintro k s hk ⟨rfl, h1⟩
    unfold law22_in_B1
    refine Ok.iteP (fun hkl => ?_) (fun hkl => Ok.ret (by rw [List.take_of_length_le (by omega)] at h1; exact h1))
    refine (Ok.at (by omega) hkl).bind fun w hw => Ok.iteE (fun e => Ok.ret ⟨rfl, by subst e; exact List.mem_of_getElem? hw⟩) (fun e => Ok.ret ⟨by omega, w64_nat (by omega), fun hm => ?_⟩)
    rw [Int.toNat_natCast] at hw
    rcases mem_take_succ'.1 hm with h2 | h2
    · exact h1 h2
    · rw [hw] at h2; cases h2; exact e rfl
  · rintro (u | b) ht
    · exact Ok.ret (by simp at ht; simp [ht])
    · obtain ⟨rfl, h⟩ := ht; exact Ok.ret (by simp [h])
theorem rin_g {fuel : Nat} {x : List Int} {v : Int} (hl : x.length ≤ 1000) (hf : 1000000 < fuel) : ref22_in fuel x v = some (decide (v ∈ x)) := by
  unfold ref22_in
  refine Ok.eq ?_
  refine Ok.bind (Q := fun t => match t with | .inl _ => v ∉ x | .inr b => b = true ∧ v ∈ x) (Ok.for_ x.length (fun k s => s = (k : Int) ∧ v ∉ x.take k) ⟨rfl, by simp⟩ (by omega) ?_) ?_
  · rintro k s hk ⟨rfl, h1⟩
    unfold ref22_in_B1
    refine Ok.iteP (fun hkl => ?_) (fun hkl => Ok.ret (by rw [List.take_of_length_le (by omega)] at h1; exact h1))
    refine (Ok.at (by omega) hkl).bind fun w hw => Ok.iteE (fun e => Ok.ret ⟨rfl, by subst e; exact List.mem_of_getElem? hw⟩) (fun e => Ok.ret ⟨by omega, w64_nat (by omega), fun hm => ?_⟩)
    rw [Int.toNat_natCast] at hw
    rcases mem_take_succ'.1 hm with h2 | h2
    · exact h1 h2
    · rw [hw] at h2; cases h2; exact e rfl
  · rintro (u | b) ht
    · exact Ok.ret (by simp at ht; simp [ht])
    · obtain ⟨rfl, h⟩ := ht; exact Ok.ret (by simp [h])
theorem contains_g {fuel : Nat} {x : List Int} {v : Int} (hl : x.length ≤ 1000) (hf : 1000000 < fuel) : slices_Contains fuel x v = some (decide (v ∈ x)) := by
  unfold slices_Contains slices_Index
  refine Ok.eq ?_
  refine Ok.bind (Q := fun i => (0 ≤ i) = (v ∈ x)) (Ok.bind (Q := fun t => match t with | .inl _ => v ∉ x | .inr i => 0 ≤ i ∧ v ∈ x) (Ok.for_ x.length (fun k s => s = (k : Int) ∧ v ∉ x.take k) ⟨rfl, by simp⟩ (by omega) ?_) ?_) fun i hi => Ok.ret (by simp only [hi])
  · rintro k s hk ⟨rfl, h1⟩
    unfold slices_Index_B1
    refine Ok.iteP (fun hkl => ?_) (fun hkl => Ok.ret (by rw [List.take_of_length_le (by omega)] at h1; exact h1))
    refine (Ok.at (by omega) hkl).bind fun w hw => Ok.iteE (fun e => Ok.ret ⟨by simp, by subst e; exact List.mem_of_getElem? hw⟩) (fun e => Ok.ret ⟨by omega, w64_nat (by omega), fun hm => ?_⟩)
    rw [Int.toNat_natCast] at hw
    rcases mem_take_succ'.1 hm with h2 | h2
    · exact h1 h2
    · rw [hw] at h2; cases h2; exact e rfl
  · rintro (u | b) ht
    · exact Ok.ret (by simp at ht; simp [ht])
    · exact Ok.ret (by simp [ht.1, ht.2])
theorem rwI_snoc {A : List (List Int)} {r : List Int} {q : Nat} : rwI (A ++ [r]) q = if q = A.length then r else rwI A q := by
  unfold rwI
  rw [Int.toNat_natCast]
  split
  · rename_i e; subst e; simp
  · rename_i e
    rcases Nat.lt_or_ge q A.length with h | h
    · rw [List.getElem?_append_left h]
    · rw [List.getElem?_eq_none (by simp; omega), List.getElem?_eq_none h]
theorem nI_snoc {x : List Int} {v : Int} {q : Nat} : nI (x ++ [v]) q = if q = x.length then v else nI x q := by
  unfold nI
  rw [Int.toNat_natCast]
  split
  · rename_i e; subst e; simp
  · rename_i e
    rcases Nat.lt_or_ge q x.length with h | h
    · rw [List.getElem?_append_left h]
    · rw [List.getElem?_eq_none (by simp; omega), List.getElem?_eq_none h]
theorem allowed_g {fuel n : Nat} {p : Pat} {c : List Int} {i : Int} (hl : p.lens.length = n) (hn : n ≤ 5) (hr : ∀ q : Nat, q < n → 0 ≤ nI p.lens q ∧ nI p.lens q ≤ 64) (hf : 1000000 < fuel) (hc : COk c i) : Ok (make_Codes_Allowed fuel p c i) fun r => AG n p.lens r.1 ∧ COk c r.2 := by
  unfold make_Codes_Allowed
  refine Ok.bind (Q := fun t => AG n p.lens t.2 ∧ COk c t.1) (Ok.for_ n (fun k s => s.2.2 = (k : Int) ∧ COk c s.1 ∧ s.2.1.length = k ∧ ∀ q : Nat, q < k → (∀ y ∈ rwI s.2.1 q, 0 ≤ y ∧ y ≤ nI p.lens q) ∧ (rwI s.2.1 q).length ≤ 1000) ⟨rfl, hc, rfl, fun q hq => by omega⟩ (by omega) ?_) fun t ht => Ok.ret ht
  rintro k ⟨i1, A, j⟩ hk ⟨hj, hc1, hA, h1⟩
  simp only at hj hc1 hA h1
  subst hj
  simp only [make_Codes_Allowed_B1]
  refine Ok.iteP (fun hkl => ?_) (fun hkl => Ok.ret ?_)
  · have hkn : k < n := by omega
    have hrk := hr k hkn
    obtain ⟨m, hm⟩ := Int.eq_ofNat_of_zero_le hrk.1
    refine Ok.bind (Q := fun t => COk c t.1 ∧ (∀ y ∈ t.2, 0 ≤ y ∧ y ≤ nI p.lens k) ∧ t.2.length ≤ 1000) (Ok.for_ (m + 1) (fun k' s => s.2.2 = (k' : Int) ∧ COk c s.1 ∧ s.2.1.length ≤ k' ∧ ∀ y ∈ s.2.1, 0 ≤ y ∧ y ≤ nI p.lens k) ⟨rfl, hc1, by simp, by simp⟩ (by omega) ?_) fun t ht => ?_
    · rintro k' ⟨i2, r, j⟩ hk' ⟨hj, hc2, hr1, hr2⟩
      simp only at hj hc2 hr1 hr2
      subst hj
      simp only [make_Codes_Allowed_B2, if_true, Bool.false_eq_true, if_false]
      rw [ati_nI (by omega) (by omega), Option.bind_some]
      have hsn : ∀ i3, COk c i3 → k' ≤ m → Ok ((snoc r (k' : Int)).bind fun x => (some (Sum.inl (i3, x, w64 ((k' : Int) + 1))) : Option ((Int × List Int × Int) ⊕ (Int × List Int)))) fun o => Sum.elim (fun s' => k' < m + 1 ∧ s'.2.2 = ((k' + 1 : Nat) : Int) ∧ COk c s'.1 ∧ s'.2.1.length ≤ k' + 1 ∧ ∀ y ∈ s'.2.1, 0 ≤ y ∧ y ≤ nI p.lens k) (fun t => COk c t.1 ∧ (∀ y ∈ t.2, 0 ≤ y ∧ y ≤ nI p.lens k) ∧ t.2.length ≤ 1000) o := fun i3 h3 h4 => by
        refine (Ok.snoc (by omega)).bind fun x hx => Ok.ret ⟨by omega, w64_nat (by omega), h3, by simp [hx]; omega, fun y hy => ?_⟩
        simp only [hx] at hy
        rcases List.mem_append.1 hy with h5 | h5
        · exact hr2 y h5
        · simp at h5; omega
      have hno : ∀ i3, COk c i3 → k' ≤ m → Ok ((some (Sum.inl (i3, r, w64 ((k' : Int) + 1))) : Option ((Int × List Int × Int) ⊕ (Int × List Int)))) fun o => Sum.elim (fun s' => k' < m + 1 ∧ s'.2.2 = ((k' + 1 : Nat) : Int) ∧ COk c s'.1 ∧ s'.2.1.length ≤ k' + 1 ∧ ∀ y ∈ s'.2.1, 0 ≤ y ∧ y ≤ nI p.lens k) (fun t => COk c t.1 ∧ (∀ y ∈ t.2, 0 ≤ y ∧ y ≤ nI p.lens k) ∧ t.2.length ≤ 1000) o := fun i3 h3 h4 => Ok.ret ⟨by omega, w64_nat (by omega), h3, by simp only; omega, hr2⟩
      refine Ok.iteP (fun hkm => ?_) (fun hkm => Ok.ret ⟨hc2, hr2, by simp only; omega⟩)
      have hkm' : k' ≤ m := by omega
      refine Ok.iteE (fun e => ?_) (fun e => ?_)
      · refine (Ok.next hc2 (by omega)).bind fun x ⟨_, _, hc3, _⟩ => Ok.iteN (fun _ => hsn _ hc3 hkm') (fun _ => ?_)
        refine Ok.iteP (fun _ => ?_) (fun _ => hno _ hc3 hkm')
        exact (Ok.next hc3 (by omega)).bind fun x ⟨_, _, hc4, _⟩ => Ok.iteE (fun _ => hsn _ hc4 hkm') (fun _ => hno _ hc4 hkm')
      · refine Ok.iteP (fun _ => ?_) (fun _ => hno _ hc2 hkm')
        exact (Ok.next hc2 (by omega)).bind fun x ⟨_, _, hc4, _⟩ => Ok.iteE (fun _ => hsn _ hc4 hkm') (fun _ => hno _ hc4 hkm')
    · obtain ⟨t1, t2, t3⟩ := ht
      unfold make_Codes_Allowed_K2
      refine (Ok.snoc (by omega)).bind fun x hx => Ok.ret ⟨by omega, w64_nat (by omega), t1, by simp [hx, hA], fun q hq => ?_⟩
      simp only [hx]
      rw [rwI_snoc]
      split
      · rename_i e; rw [e, hA]; exact ⟨t2, t3⟩
      · exact h1 q (by omega)
  · have e : k = n := by omega
    subst e
    exact ⟨⟨hA, fun q hq => (h1 q hq).1, fun q hq => (h1 q hq).2⟩, hc1⟩
theorem cut_g {fuel n : Nat} {p : Pat} {c : List Int} {i : Int} (hl : p.lens.length = n) (hn : n ≤ 5) (hr : ∀ q : Nat, q < n → 0 ≤ nI p.lens q ∧ nI p.lens q ≤ 64) (hf : 1000000 < fuel) (hc : COk c i) : Ok (make_Codes_Cut fuel p c i) fun r => CutG n p.lens r.1 ∧ COk c r.2 := by
  unfold make_Codes_Cut
  refine Ok.bind (Q := fun t => CutG n p.lens t.2 ∧ COk c t.1) (Ok.for_ n (fun k s => s.2.2 = (k : Int) ∧ COk c s.1 ∧ s.2.1.length = k ∧ ∀ q : Nat, q < k → 0 ≤ nI s.2.1 q ∧ nI s.2.1 q ≤ nI p.lens q) ⟨rfl, hc, rfl, fun q hq => by omega⟩ (by omega) ?_) fun t ht => Ok.ret ht
  rintro k ⟨i1, x, j⟩ hk ⟨hj, hc1, hA, h1⟩
  simp only at hj hc1 hA h1
  subst hj
  simp only [make_Codes_Cut_B1]
  refine Ok.iteP (fun hkl => ?_) (fun hkl => Ok.ret ?_)
  · have hkn : k < n := by omega
    have hrk := hr k hkn
    rw [ati_nI (by omega) (by omega)]
    simp only [Option.bind_some]
    rw [w64_id (i := nI p.lens k + 1) (by omega) (by omega)]
    refine (Ok.next hc1 (by omega)).bind fun v ⟨v0, v1, hc2, _⟩ => (Ok.snoc (by omega)).bind fun y hy => Ok.ret ⟨by omega, w64_nat (by omega), hc2, by simp [hy, hA], fun q hq => ?_⟩
    simp only [hy]
    rw [nI_snoc, w64_id (by omega) (by omega)]
    split
    · rename_i e; rw [e, hA]; omega
    · exact h1 q (by omega)
  · have e : k = n := by omega
    subst e
    exact ⟨⟨hA, h1⟩, hc1⟩
theorem procs_g {fuel n : Nat} {c : List Int} {i : Int} (hn : n ≤ 5) (hf : 1000000 < fuel) (hc : COk c i) : Ok (make_Codes_Procs fuel (n : Int) c i) fun r => (∀ q : Int, q ∈ r.1 → 0 ≤ q ∧ q < (n : Int)) ∧ r.1.length ≤ n := by
  unfold make_Codes_Procs
  refine Ok.bind (Q := fun t => (∀ q : Int, q ∈ t.2 → 0 ≤ q ∧ q < (n : Int)) ∧ t.2.length ≤ n) (Ok.for_ n (fun k s => s.2.2 = (k : Int) ∧ COk c s.1 ∧ s.2.1.length ≤ k ∧ ∀ q : Int, q ∈ s.2.1 → 0 ≤ q ∧ q < (n : Int)) ⟨rfl, hc, by simp, by simp⟩ (by omega) ?_) fun t ht => Ok.ret ht
  rintro k ⟨i1, x, j⟩ hk ⟨hj, hc1, hA, h1⟩
  simp only at hj hc1 hA h1
  subst hj
  simp only [make_Codes_Procs_B1]
  refine Ok.iteP (fun hkl => ?_) (fun hkl => Ok.ret ⟨h1, by simp only; omega⟩)
  refine (Ok.next hc1 (by omega)).bind fun v ⟨v0, v1, hc2, _⟩ => Ok.iteE (fun _ => ?_) (fun _ => Ok.ret ⟨by omega, w64_nat (by omega), hc2, by simp only; omega, h1⟩)
  refine (Ok.snoc (by omega)).bind fun y hy => Ok.ret ⟨by omega, w64_nat (by omega), hc2, by simp [hy]; omega, fun q hq => ?_⟩
  simp only [hy] at hq
  rcases List.mem_append.1 hq with h5 | h5
  · exact h1 q h5
  · simp at h5; omega
theorem awake22 : law22_awake 10000000 = some true := by kernel_rfl
theorem LSpec.len {n : Nat} {arcs A b r} (h : LSpec n arcs A b r) : r.1.length ≤ n := by
  rcases h with ⟨_, h, _⟩ | ⟨h, _⟩
  · exact Nat.le_of_eq h.1
  · subst h; simp
theorem GSpec.len {n : Nat} {arcs A r} (h : GSpec n arcs A r) : r.1.length ≤ n := by
  rcases h with ⟨_, h, _⟩ | ⟨h, _⟩
  · exact Nat.le_of_eq h.1
  · subst h; simp
theorem lineFinds {a0 a1 : List Int} (h0 : ∀ x ∈ a0, U8 x) (h1 : ∀ x ∈ a1, U8 x) : law22_LineFinds 10000000 a0 a1 = some true := by
  unfold law22_LineFinds
  rw [awake22, Option.bind_some]
  simp only [Bool.not_true, Bool.false_eq_true, if_false]
  refine Ok.eq ?_
  refine (Ok.new (by omega) (by omega) h0).bind fun r hr => (pattern_g hr (m := 20) (by omega) (by omega)).bind fun P ⟨n, hn2, hn4, hp, _⟩ => ?_
  have hrg : ∀ q : Nat, q < n → 0 ≤ nI P.1.lens q ∧ nI P.1.lens q ≤ 64 := fun q _ => by have := hp.nI_rng q; omega
  refine (Ok.new (by omega) (by omega) h1).bind fun r2 hr2 => ?_
  simp only [show (⟨P.1.lens, P.1.ckpts, P.1.arcs⟩ : Pat) = P.1 from rfl]
  refine (allowed_g (n := n) hp.len (by omega) hrg (by omega) hr2).bind fun A ⟨hA, hc⟩ => (cut_g (n := n) hp.len (by omega) hrg (by omega) hc).bind fun x ⟨hx, _⟩ => ?_
  obtain ⟨g, e1, e2, hg⟩ := ggreatest (fuel := 10000000) hp (by omega) (by omega) (by omega) hA
  obtain ⟨l, e3, e4, hl⟩ := gleast (fuel := 10000000) hp (by omega) (by omega) (by omega) hA hx
  have := hg.len; have := hl.len
  rw [e1, e2, e3, e4]
  simp only [Option.bind_some, sameInts_refl (fuel := 10000000) (x := g.1) (by omega) (by omega), sameInts_refl (fuel := 10000000) (x := l.1) (by omega) (by omega), andM_some, beq_self_eq_true, Bool.and_self]
  exact Ok.ret rfl
end Go.Mine
