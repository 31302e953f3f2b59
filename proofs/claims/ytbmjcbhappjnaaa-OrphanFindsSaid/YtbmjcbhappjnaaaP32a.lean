/- Chapter 32, plain: labels. -/
import Derived.Test.YtbmjcbhappjnaaaA32l
import Derived.Test.YtbmjcbhappjnaaaPmk
set_option linter.unusedSimpArgs false
set_option linter.unusedVariables false
namespace Go.Mine
open Go.RowKit
/-- the order of labels -/
def bef (a b : Lab) : Bool := decide (a.inc < b.inc) || (a.inc == b.inc && decide (a.index < b.index))
theorem before_eq {fuel : Nat} {a b : Lab} : orphan_Before fuel a b = some (bef a b) := by
  unfold orphan_Before bef; simp only [andM_some, orM_some, Option.bind_some]
theorem bef_irr {a : Lab} : bef a a = false := by simp [bef]
theorem bef_asym {a b : Lab} (h : bef a b = true) : bef b a = false := by simp [bef] at *; omega
theorem bef_eq {a b : Lab} (h : bef a b = false) (h2 : bef b a = false) : a = b := by
  simp [bef] at *
  cases a; cases b; simp at *; omega
def gtr (a b : Lab) : Lab := if bef a b = true then b else a
theorem gtr_comm {a b : Lab} : gtr a b = gtr b a := by
  unfold gtr
  cases h : bef a b <;> cases h2 : bef b a <;> simp
  · exact bef_eq h h2
  · rw [bef_asym h] at h2; cases h2
theorem gtr_idem {a b : Lab} : gtr (gtr a b) a = gtr a b := by
  unfold gtr
  cases h : bef a b <;> simp [bef_irr]
  simp [bef_asym h]
def zl : Lab := ⟨0, 0⟩
def atL (a : List Lab) (i : Nat) : Lab := a[i]?.getD zl
def mergeL (a b : List Lab) : List Lab := (List.range (max a.length b.length)).map fun i => gtr (atL a i) (atL b i)
theorem mergeL_length {a b : List Lab} : (mergeL a b).length = max a.length b.length := by simp [mergeL]
theorem atL_merge {a b : List Lab} {i : Nat} : atL (mergeL a b) i = gtr (atL a i) (atL b i) := by
  by_cases h : i < max a.length b.length
  · simp [atL, mergeL, h]
  · have h1 : a[i]? = none := by simp; omega
    have h2 : b[i]? = none := by simp; omega
    simp [atL, mergeL, h, h1, h2, gtr, bef_irr]
theorem mergeL_comm {a b : List Lab} : mergeL a b = mergeL b a := by
  unfold mergeL; rw [Nat.max_comm]; exact List.map_congr_left fun i _ => gtr_comm
theorem mergeL_idem {a b : List Lab} : mergeL (mergeL a b) a = mergeL a b := by
  rw [mergeL, mergeL_length, Nat.max_eq_left (Nat.le_max_left _ _)]
  exact List.map_congr_left fun i _ => by rw [atL_merge, gtr_idem]
theorem samelabels_eq {fuel : Nat} {a b : List Lab} (h : a.length < fuel) (hl : a.length ≤ 1000000) : ref32_SameLabels fuel a b = some (decide (a = b)) := by
  unfold ref32_SameLabels
  by_cases he : a.length = b.length
  · rw [if_neg (by simp [he])]
    rw [iter_any a.length (fun k => decide (a[k]? ≠ b[k]?)) false h (fun k hk => by
      unfold ref32_SameLabels_B1
      rw [if_pos (by simp [hk]), ati_get hk, ati_get (he ▸ hk), w64_nat (by omega)]
      simp only [Option.bind_some, List.getElem?_eq_getElem hk, List.getElem?_eq_getElem (he ▸ hk : k < b.length)]
      by_cases e : a[k] = b[k]
      · simp [e]
      · have : ¬ ((a[k]).inc = (b[k]'(he ▸ hk)).inc ∧ (a[k]).index = (b[k]'(he ▸ hk)).index) := fun ⟨e1, e2⟩ => e (by
          revert e1 e2; cases a[k]; cases b[k]'(he ▸ hk); simp; exact fun a b => ⟨a, b⟩)
        simp [e, this]) (by unfold ref32_SameLabels_B1; simp)]
    by_cases e : a = b
    · subst e; simp [ref32_SameLabels_K1]
    · have : ∃ k, k < a.length ∧ (decide (a[k]? ≠ b[k]?)) = true := Classical.byContradiction fun hn => e (List.ext_getElem he fun k h1 h2 => by
        have := fun hc => hn ⟨k, h1, hc⟩
        simpa [h1, h2] using this)
      rw [if_pos this]; simp [e]
  · rw [if_pos (by simp; omega)]
    have : a ≠ b := fun e => he (by rw [e])
    simp [this]
theorem range_succ_map {α : Type} {f : Nat → α} {k : Nat} : (List.range k).map f ++ [f k] = (List.range (k + 1)).map f := by rw [List.range_succ]; simp
theorem set_map_range {α : Type} {f : Nat → α} {n k : Nat} {v : α} : ((List.range n).map f).set k v = (List.range n).map fun i => if i = k then v else f i := by
  refine List.ext_getElem (by simp) fun i h1 h2 => ?_
  simp only [List.getElem_set, List.getElem_map, List.getElem_range]
  by_cases h : k = i
  · simp [h]
  · have : ¬ i = k := fun e => h e.symm
    simp [h, this]
theorem copy_pad {a : List Lab} {n : Nat} (h : a.length ≤ n) : copyL (List.replicate n zl) a = (List.range n).map fun i => atL a i := by
  refine List.ext_getElem (by simp [copyL]; omega) fun i h1 h2 => ?_
  simp at h2
  simp only [copyL, List.getElem_map, List.getElem_range, atL]
  by_cases hi : i < a.length
  · rw [List.getElem_append_left (by simp; omega)]; simp [hi]
  · rw [List.getElem_append_right (by simp; omega)]; simp [hi]
theorem merge_eq {fuel : Nat} {a b : List Lab} (ha : a.length ≤ 1000000) (hb : b.length ≤ 1000000) (hf : 1000000 < fuel) : orphan_Merge fuel a b = some (mergeL a b) := by
  unfold orphan_Merge
  rw [show (max (a.length : Int) (b.length : Int)) = ((max a.length b.length : Nat) : Int) by omega, mkL_nat (by omega), Option.bind_some, copyM, Option.bind_some, show (⟨0, 0⟩ : Lab) = zl from rfl, copy_pad (Nat.le_max_left _ _)]
  generalize hn : max a.length b.length = n
  obtain ⟨t, h1, h2⟩ := iter_for (fuel := fuel) (body := fun s => orphan_Merge_B1 fuel ((List.range n).map fun i => atL a i) b s.1 s.2) n (fun k s => s = ((List.range n).map fun i => if i < k then gtr (atL a i) (atL b i) else atL a i, (k : Int))) (fun t => t = mergeL a b) (by omega) (s0 := ((List.range n).map fun i => atL a i, 0)) (by simp) (by
    rintro k s hk rfl
    refine .inl ⟨_, ?_, rfl⟩
    simp only [orphan_Merge_B1, orphan_Merge_J1, before_eq]
    rw [if_pos (by simp; omega), w64_nat (by omega)]
    have e1 : ati ((List.range n).map fun i => if i < k then gtr (atL a i) (atL b i) else atL a i) (k : Int) = some (atL a k) := by rw [ati_get (by simpa using hk)]; simp
    have e2 : ∀ x, seti ((List.range n).map fun i => if i < k then gtr (atL a i) (atL b i) else atL a i) (k : Int) x = some ((List.range n).map fun i => if i = k then x else if i < k then gtr (atL a i) (atL b i) else atL a i) := fun x => by
      rw [seti_get (by simpa using hk), set_map_range]
    have e3 : (if decide ((k : Int) < (b.length : Int)) = true then (ati b (k : Int)).bind fun x => some ((⟨x.inc, x.index⟩ : Lab)) else some zl) = some (atL b k) := by
      by_cases h : k < b.length
      · rw [if_pos (by simp [h]), ati_get h]; simp [atL, h]
      · rw [if_neg (by simp; omega)]; simp [atL, h]
    have key : ∀ y : Lab, (Option.bind (some (bef (atL a k) y)) fun r => if r = true then (seti ((List.range n).map fun i => if i < k then gtr (atL a i) (atL b i) else atL a i) (k : Int) y).bind fun x => some (Sum.inl (x, ((k + 1 : Nat) : Int))) else some (Sum.inl (((List.range n).map fun i => if i < k then gtr (atL a i) (atL b i) else atL a i), ((k + 1 : Nat) : Int)))) = (some (Sum.inl ((List.range n).map fun i => if i = k then gtr (atL a k) y else if i < k then gtr (atL a i) (atL b i) else atL a i, ((k + 1 : Nat) : Int))) : Option ((List Lab × Int) ⊕ List Lab)) := fun y => by
      rw [Option.bind_some]
      cases hb2 : bef (atL a k) y
      · have e9 : gtr (atL a k) y = atL a k := by simp [gtr, hb2]
        rw [e9, if_neg (by simp)]
        congr 3
        refine List.map_congr_left fun i _ => ?_
        by_cases hi : i = k
        · subst hi; simp
        · simp [hi]
      · have e9 : gtr (atL a k) y = y := by simp [gtr, hb2]
        rw [e9, if_pos rfl, e2, Option.bind_some]
    have fin : ((List.range n).map fun i => if i = k then gtr (atL a k) (atL b k) else if i < k then gtr (atL a i) (atL b i) else atL a i) = (List.range n).map fun i => if i < k + 1 then gtr (atL a i) (atL b i) else atL a i := List.map_congr_left fun i _ => by
      by_cases hi : i = k
      · subst hi; simp
      · by_cases hl : i < k
        · simp [hi, hl, show i < k + 1 by omega]
        · simp [hi, hl, show ¬ i < k + 1 by omega]
    rw [← fin]
    by_cases h : k < b.length
    · rw [if_pos (by simp [h]), ati_get h, Option.bind_some, e1, Option.bind_some, show b[k] = atL b k by simp [atL, h]]
      have := key (atL b k)
      simpa [e1] using this
    · rw [if_neg (by simp; omega), e1, Option.bind_some]
      have e4 : atL b k = zl := by simp [atL, h]
      have := key (atL b k)
      rw [e4] at this ⊢
      simpa [e1, zl] using this) (by
    rintro s rfl
    refine ⟨_, ?_, rfl⟩
    simp only [orphan_Merge_B1]
    rw [if_neg (by simp)]
    unfold mergeL; rw [hn]
    congr 2
    exact List.map_congr_left fun i hi => by simp at hi; simp [hi])
  rw [h1, h2]; rfl
theorem awake32 : law32_awake 10000000 = some true := by kernel_rfl
end Go.Mine
