/- Recovery lines, plain: what is drawn; LineFinds and LineMore. -/
import Derived.Test.YtljpjekifbamfaaP22b
set_option linter.unusedSimpArgs false
set_option linter.unusedVariables false
set_option linter.unusedSectionVars false
namespace Go.Mine
open Go.RowKit
theorem sameInts_refl {fuel : Nat} {x : List Int} (hl : x.length ≤ 1000) (hf : 1000000 < fuel) : ref03_SameInts fuel x x = some true := by
  unfold ref03_SameInts
  rw [if_neg (by simp)]
  refine Ok.eq ?_
  refine Ok.bind (Q := fun t => t = .inl ()) (Ok.for_ x.length (fun k s => s = (k : Int)) rfl (by omega) ?_) fun t ht => by subst ht; exact Ok.ret rfl
  rintro k s hk rfl
  unfold ref03_SameInts_B1
  refine Ok.iteP (fun hkl => ?_) (fun _ => Ok.ret rfl)
  rw [ati_nI (by omega) (by omega)]
  simp only [Option.bind_some]
  rw [if_neg (by simp)]
  exact Ok.ret ⟨by omega, w64_nat (by omega)⟩
theorem contains_g {fuel : Nat} {x : List Int} {v : Int} (hl : x.length ≤ 1000) (hf : 1000000 < fuel) : slices_Contains fuel x v = some (decide (v ∈ x)) := by
  unfold slices_Contains slices_Index
  refine Ok.eq ?_
  refine Ok.bind (Q := fun i => (0 ≤ i) = (v ∈ x)) (Ok.bind (Q := fun t => match t with | .inl _ => v ∉ x | .inr i => 0 ≤ i ∧ v ∈ x) (Ok.for_ x.length (fun k s => s = (k : Int) ∧ v ∉ x.take k) ⟨rfl, by simp⟩ (by omega) ?_) ?_) fun i hi => Ok.ret (by simp only [hi])
  · rintro k s hk ⟨rfl, h1⟩
    unfold slices_Index_B1
    refine Ok.iteP (fun hkl => ?_) (fun hkl => Ok.ret (by rw [List.take_of_length_le (by omega)] at h1; exact h1))
    refine (Ok.at (by omega) hkl).bind fun w hw => Ok.iteE (fun e => Ok.ret ⟨by simp, by subst e; exact List.mem_of_getElem? hw⟩) (fun e => Ok.ret ⟨by omega, w64_nat (by omega), fun hm => ?_⟩)
    rw [Int.toNat_natCast] at hw
    rcases mem_take_succ'.1 hm with h2 | h2
    · exact h1 h2
    · rw [hw] at h2; cases h2; exact e rfl
  · rintro (u | b) ht
    · exact Ok.ret (by simp at ht; simp [ht])
    · exact Ok.ret (by simp [ht.1, ht.2])
theorem rwI_snoc {A : List (List Int)} {r : List Int} {q : Nat} : rwI (A ++ [r]) q = if q = A.length then r else rwI A q := by
  unfold rwI
  rw [Int.toNat_natCast]
  split
  · rename_i e; subst e; simp
  · rename_i e
    rcases Nat.lt_or_ge q A.length with h | h
    · rw [List.getElem?_append_left h]
    · rw [List.getElem?_eq_none (by simp; omega), List.getElem?_eq_none h]
theorem nI_snoc {x : List Int} {v : Int} {q : Nat} : nI (x ++ [v]) q = if q = x.length then v else nI x q := by
  unfold nI
  rw [Int.toNat_natCast]
  split
  · rename_i e; subst e; simp
  · rename_i e
    rcases Nat.lt_or_ge q x.length with h | h
    · rw [List.getElem?_append_left h]
    · rw [List.getElem?_eq_none (by simp; omega), List.getElem?_eq_none h]
theorem procs_g {fuel n : Nat} {c : List Int} {i : Int} (hn : n ≤ 5) (hf : 1000000 < fuel) (hc : COk c i) : Ok (make_Codes_Procs fuel (n : Int) c i) fun r => (∀ q : Int, q ∈ r.1 → 0 ≤ q ∧ q < (n : Int)) ∧ r.1.length ≤ n := by
  unfold make_Codes_Procs
  refine Ok.bind (Q := fun t => (∀ q : Int, q ∈ t.2 → 0 ≤ q ∧ q < (n : Int)) ∧ t.2.length ≤ n) (Ok.for_ n (fun k s => s.2.2 = (k : Int) ∧ COk c s.1 ∧ s.2.1.length ≤ k ∧ ∀ q : Int, q ∈ s.2.1 → 0 ≤ q ∧ q < (n : Int)) ⟨rfl, hc, by simp, by simp⟩ (by omega) ?_) fun t ht => Ok.ret ht
  rintro k ⟨i1, x, j⟩ hk ⟨hj, hc1, hA, h1⟩
  simp only at hj hc1 hA h1
  subst hj
  simp only [make_Codes_Procs_B1]
  refine Ok.iteP (fun hkl => ?_) (fun hkl => Ok.ret ⟨h1, by simp only; omega⟩)
  refine (Ok.next hc1 (by omega)).bind fun v ⟨v0, v1, hc2, _⟩ => Ok.iteE (fun _ => ?_) (fun _ => Ok.ret ⟨by omega, w64_nat (by omega), hc2, by simp only; omega, h1⟩)
  refine (Ok.snoc (by omega)).bind fun y hy => Ok.ret ⟨by omega, w64_nat (by omega), hc2, by simp [hy]; omega, fun q hq => ?_⟩
  simp only [hy] at hq
  rcases List.mem_append.1 hq with h5 | h5
  · exact h1 q h5
  · simp at h5; omega
theorem awake22 : law22_awake 10000000 = some true := by kernel_rfl
theorem LSpec.len {n : Nat} {arcs A b r} (h : LSpec n arcs A b r) : r.1.length ≤ n := by
  rcases h with ⟨_, h, _⟩ | ⟨h, _⟩
  · exact Nat.le_of_eq h.1
  · subst h; simp
theorem GSpec.len {n : Nat} {arcs A r} (h : GSpec n arcs A r) : r.1.length ≤ n := by
  rcases h with ⟨_, h, _⟩ | ⟨h, _⟩
  · exact Nat.le_of_eq h.1
  · subst h; simp
end Go.Mine
