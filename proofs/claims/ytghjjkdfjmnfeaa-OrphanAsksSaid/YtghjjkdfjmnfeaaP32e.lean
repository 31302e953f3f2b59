/- Chapter 32, plain: orphans and premature vectors. -/
import Derived.Test.YtghjjkdfjmnfeaaA32e
import Derived.Test.YtghjjkdfjmnfeaaP32a
set_option linter.unusedSimpArgs false
set_option linter.unusedVariables false
namespace Go.Mine
open Go.RowKit
def undoneP (ends : List EndI) (q : Int) (x : Lab) (k : Nat) : Bool := match ends[k]? with | some e => e.proc == q && decide (x.inc ≤ e.inc) && decide (e.index < x.index) | none => false
open Classical in
noncomputable def undone (ends : List EndI) (q : Int) (x : Lab) : Bool := decide (∃ k, k < ends.length ∧ undoneP ends q x k = true)
theorem undone_eq {fuel : Nat} {ends : List EndI} {q : Int} {x : Lab} (hf : ends.length < fuel) (hl : ends.length ≤ 1000000) : incarnation_Undone fuel ends q x = some (undone ends q x) := by
  unfold incarnation_Undone undone
  rw [iter_any ends.length (undoneP ends q x) true hf (fun k hk => by
    unfold incarnation_Undone_B1
    rw [if_pos (by simp [hk]), ati_get hk, w64_nat (by omega)]
    simp only [Option.bind_some, andM_some, undoneP, List.getElem?_eq_getElem hk]
    split <;> rfl) (by unfold incarnation_Undone_B1; simp)]
  split
  · rename_i h; simp [h]
  · rename_i h; simp [h, incarnation_Undone_K1]
theorem rundone_eq {fuel : Nat} {ends : List EndI} {q : Int} {x : Lab} (hf : ends.length < fuel) (hl : ends.length ≤ 1000000) : ref31_Undone fuel ends q x = some (undone ends q x) := by
  unfold ref31_Undone undone
  rw [iter_any ends.length (undoneP ends q x) true hf (fun k hk => by
    unfold ref31_Undone_B1
    rw [if_pos (by simp [hk]), ati_get hk, w64_nat (by omega)]
    simp only [Option.bind_some, andM_some, undoneP, List.getElem?_eq_getElem hk]
    split <;> rfl) (by unfold ref31_Undone_B1; simp)]
  split
  · rename_i h; simp [h]
  · rename_i h; simp [h, ref31_Undone_K1]
def orphP (ends : List EndI) (v : List Lab) (k : Nat) : Prop := ∃ x, v[k]? = some x ∧ undone ends k x = true
open Classical in
noncomputable def orph (ends : List EndI) (v : List Lab) : Bool := decide (∃ k, k < v.length ∧ decide (orphP ends v k) = true)
open Classical in
theorem orphan_eq {fuel : Nat} {ends : List EndI} {v : List Lab} (hf : 1000000 < fuel) (hl : ends.length ≤ 1000000) (hv : v.length ≤ 1000000) : orphan_Orphan fuel ends v = some (orph ends v) := by
  unfold orphan_Orphan orph
  rw [iter_any v.length (fun k => decide (orphP ends v k)) true (by omega) (fun k hk => by
    unfold orphan_Orphan_B1
    rw [if_pos (by simp [hk]), ati_get hk, w64_nat (by omega)]
    simp only [Option.bind_some, undone_eq (show ends.length < fuel by omega) hl, orphP, List.getElem?_eq_getElem hk]
    cases h : undone ends (k : Int) v[k] <;> simp [h]) (by unfold orphan_Orphan_B1; simp)]
  split
  · rename_i h; simp only [Option.bind_some, Sum.elim_inr, h, decide_true]
  · rename_i h; simp only [Option.bind_some, Sum.elim_inl, orphan_Orphan_K1, h, decide_false]
open Classical in
theorem rorphan_eq {fuel : Nat} {ends : List EndI} {v : List Lab} (hf : 1000000 < fuel) (hl : ends.length ≤ 1000000) (hv : v.length ≤ 1000000) : ref32_Orphan fuel ends v = some (orph ends v) := by
  unfold ref32_Orphan orph
  rw [iter_any v.length (fun k => decide (orphP ends v k)) true (by omega) (fun k hk => by
    unfold ref32_Orphan_B1
    rw [if_pos (by simp [hk]), ati_get hk, w64_nat (by omega)]
    simp only [Option.bind_some, rundone_eq (show ends.length < fuel by omega) hl, orphP, List.getElem?_eq_getElem hk]
    cases h : undone ends (k : Int) v[k] <;> simp [h]) (by unfold ref32_Orphan_B1; simp)]
  split
  · rename_i h; simp only [Option.bind_some, Sum.elim_inr, h, decide_true]
  · rename_i h; simp only [Option.bind_some, Sum.elim_inl, ref32_Orphan_K1, h, decide_false]
/-- the next incarnation: the greatest end so far -/
def nextS (ends : List EndI) (q : Int) : Nat → Int × Bool
  | 0 => (0, false)
  | k + 1 => match ends[k]? with
    | some e => if e.proc == q && (!(nextS ends q k).2 || decide ((nextS ends q k).1 < e.inc)) then (e.inc, true) else nextS ends q k
    | none => nextS ends q k
def nextI (ends : List EndI) (q : Int) : Int := if (nextS ends q ends.length).2 = true then w64 ((nextS ends q ends.length).1 + 1) else 0
theorem nextI_eq {fuel : Nat} {ends : List EndI} {q : Int} (hf : ends.length < fuel) (hl : ends.length ≤ 1000000) : incarnation_Next fuel ends q = some (nextI ends q) := by
  unfold incarnation_Next
  obtain ⟨t, h1, h2⟩ := iter_for (fuel := fuel) (body := fun s => incarnation_Next_B1 fuel ends q s.1 s.2.1 s.2.2) ends.length (fun k s => s = ((nextS ends q k).1, (nextS ends q k).2, (k : Int))) (fun t => t = nextS ends q ends.length) hf (s0 := (0, false, 0)) rfl (by
    rintro k s hk rfl
    refine .inl ⟨_, ?_, rfl⟩
    simp only [incarnation_Next_B1]
    rw [if_pos (by simp [hk]), ati_get hk, w64_nat (by omega)]
    simp only [Option.bind_some, andM_some, orM_some, nextS, List.getElem?_eq_getElem hk]
    split <;> rfl) (by
    rintro s rfl
    exact ⟨_, by simp only [incarnation_Next_B1]; rw [if_neg (by simp)], rfl⟩)
  rw [h1, h2, Option.bind_some, incarnation_Next_K1, nextI]
  cases (nextS ends q ends.length).2 <;> rfl
theorem rnextI_eq {fuel : Nat} {ends : List EndI} {q : Int} (hf : ends.length < fuel) (hl : ends.length ≤ 1000000) : ref31_Next fuel ends q = some (nextI ends q) := by
  unfold ref31_Next
  obtain ⟨t, h1, h2⟩ := iter_for (fuel := fuel) (body := fun s => ref31_Next_B1 fuel ends q s.1 s.2.1 s.2.2) ends.length (fun k s => s = ((nextS ends q k).2, (nextS ends q k).1, (k : Int))) (fun t => t = ((nextS ends q ends.length).2, (nextS ends q ends.length).1)) hf (s0 := (false, 0, 0)) rfl (by
    rintro k s hk rfl
    refine .inl ⟨_, ?_, rfl⟩
    simp only [ref31_Next_B1]
    rw [if_pos (by simp [hk]), ati_get hk, w64_nat (by omega)]
    simp only [Option.bind_some, andM_some, orM_some, nextS, List.getElem?_eq_getElem hk]
    split <;> rfl) (by
    rintro s rfl
    exact ⟨_, by simp only [ref31_Next_B1]; rw [if_neg (by simp)], rfl⟩)
  rw [h1, h2, Option.bind_some, ref31_Next_K1, nextI]
  cases (nextS ends q ends.length).2 <;> rfl
def premP (ends : List EndI) (v : List Lab) (k : Nat) : Bool := match v[k]? with | some x => decide (nextI ends k < x.inc) | none => false
open Classical in
noncomputable def prem (ends : List EndI) (v : List Lab) : Bool := decide (∃ k, k < v.length ∧ premP ends v k = true)
theorem prem_eq {fuel : Nat} {ends : List EndI} {v : List Lab} (hf : 1000000 < fuel) (hl : ends.length ≤ 1000000) (hv : v.length ≤ 1000000) : orphan_Premature fuel ends v = some (prem ends v) := by
  unfold orphan_Premature prem
  rw [iter_any v.length (premP ends v) true (by omega) (fun k hk => by
    unfold orphan_Premature_B1
    rw [if_pos (by simp [hk]), ati_get hk, w64_nat (by omega)]
    simp only [Option.bind_some, nextI_eq (show ends.length < fuel by omega) hl, premP, List.getElem?_eq_getElem hk]
    split <;> rfl) (by unfold orphan_Premature_B1; simp)]
  split
  · rename_i h; simp only [Option.bind_some, Sum.elim_inr, h, decide_true]
  · rename_i h; simp only [Option.bind_some, Sum.elim_inl, orphan_Premature_K1, h, decide_false]
theorem rprem_eq {fuel : Nat} {ends : List EndI} {v : List Lab} (hf : 1000000 < fuel) (hl : ends.length ≤ 1000000) (hv : v.length ≤ 1000000) : ref32_Premature fuel ends v = some (prem ends v) := by
  unfold ref32_Premature prem
  rw [iter_any v.length (premP ends v) true (by omega) (fun k hk => by
    unfold ref32_Premature_B1
    rw [if_pos (by simp [hk]), ati_get hk, w64_nat (by omega)]
    simp only [Option.bind_some, rnextI_eq (show ends.length < fuel by omega) hl, premP, List.getElem?_eq_getElem hk]
    split <;> rfl) (by unfold ref32_Premature_B1; simp)]
  split
  · rename_i h; simp only [Option.bind_some, Sum.elim_inr, h, decide_true]
  · rename_i h; simp only [Option.bind_some, Sum.elim_inl, ref32_Premature_K1, h, decide_false]
theorem ends_ok {fuel : Nat} {c : List Int} {i : Int} (h : COk c i) (hf : 1000000 < fuel) : ∃ x j, make_Codes_Ends fuel 6 c i = some (x, j) ∧ x.length ≤ 1000 ∧ COk c j := by
  unfold make_Codes_Ends
  obtain ⟨n, j, e, n0, n1, hj, -⟩ := next_ok (fuel := fuel) (n := w64 (6 + 1)) h (by decide)
  have e7 : w64 (6 + 1) = 7 := by decide
  rw [e, Option.bind_some]
  rw [e7] at n1
  obtain ⟨t, h1, h2⟩ := iter_run (body := fun s => make_Codes_Ends_B1 fuel c s.1 s.2.1 s.2.2) (fun m s => COk c s.1 ∧ s.2.2 = (m : Int) ∧ s.2.1.length + m ≤ 1000) (fun t => COk c t.1 ∧ t.2.length ≤ 1000) (by
    rintro m ⟨i1, l, k⟩ ⟨hc, hk, hl⟩
    simp only at hc hk hl
    subst hk
    simp only [make_Codes_Ends_B1]
    by_cases hm : 0 < m
    · rw [if_pos (by simp; omega)]
      obtain ⟨x1, j1, e1, -, -, h1, -⟩ := next_ok (fuel := fuel) (n := 3) hc (by omega)
      obtain ⟨x2, j2, e2, -, -, h2, -⟩ := next_ok (fuel := fuel) (n := 4) h1 (by omega)
      obtain ⟨x3, j3, e3, -, -, h3, -⟩ := next_ok (fuel := fuel) (n := 6) h2 (by omega)
      simp only [e1, e2, e3, Option.bind_some]
      rw [snoc_ok (by omega), Option.bind_some, w64_eq (by omega) (by omega)]
      exact .inl ⟨_, rfl, m - 1, by omega, h3, by simp only; omega, by simp; omega⟩
    · rw [if_neg (by simp; omega)]
      exact .inr ⟨_, rfl, hc, by simp only; omega⟩) fuel n.toNat (j, [], n) ⟨hj, by simp only; omega, by simp only [List.length_nil]; omega⟩ (by omega)
  rw [h1, Option.bind_some]
  exact ⟨_, _, rfl, h2.2, h2.1⟩
theorem asks_ok {a : List EndI} {b : List Lab} {c : List Int} (hc : ∀ x ∈ c, U8 x) : law32_OrphanAsks 10000000 a b c = some true := by
  unfold law32_OrphanAsks
  rw [awake32]
  simp only [Option.bind_some, Bool.not_true, orM_false, orM_some, Bool.false_or]
  by_cases hl : 60 < a.length ∨ 60 < b.length
  · have : (decide (60 < (a.length : Int)) || decide (60 < (b.length : Int))) = true := by simp; omega
    rw [if_pos this, this]
  · have : ¬ (decide (60 < (a.length : Int)) || decide (60 < (b.length : Int))) = true := by simp; omega
    rw [if_neg this]
    obtain ⟨d, e0, h0⟩ := new_ok (fuel := 10000000) (n := 100) (by omega) (by omega) hc
    obtain ⟨x, j, e1, hx, hj⟩ := ends_ok (fuel := 10000000) h0 (by omega)
    simp only [e0, e1, Option.bind_some]
    obtain ⟨t, h1, h2⟩ := iter_for (fuel := 10000000) (body := fun s => law32_OrphanAsks_B1 10000000 (d, 0) s.1 s.2.1 s.2.2) 3 (fun k s => COk d s.1 ∧ s.2.1.length = k ∧ s.2.2 = (k : Int)) (fun t => t.length ≤ 1000) (by omega) (s0 := (j, [], 0)) ⟨hj, rfl, rfl⟩ (by
      rintro k ⟨i, l, m⟩ hk ⟨hi, h3, h4⟩
      simp only at hi h3 h4
      subst h4
      refine .inl ?_
      simp only [law32_OrphanAsks_B1]
      rw [if_pos (by simp; omega)]
      obtain ⟨x1, j1, e1, -, -, h1, -⟩ := next_ok (fuel := 10000000) (n := 4) hi (by omega)
      obtain ⟨x2, j2, e2, -, -, h2, -⟩ := next_ok (fuel := 10000000) (n := 6) h1 (by omega)
      simp only [e1, e2, Option.bind_some]
      rw [snoc_ok (by omega), Option.bind_some, w64_nat (by omega)]
      exact ⟨_, rfl, h2, by simp [h3], rfl⟩) (by
      rintro ⟨i, l, m⟩ ⟨hi, h3, h4⟩
      simp only at hi h3 h4
      subst h4
      simp only [law32_OrphanAsks_B1]
      rw [if_neg (by simp)]
      exact ⟨_, rfl, by omega⟩)
    rw [h1, Option.bind_some, law32_OrphanAsks_K1]
    simp only []
    rw [orphan_eq (by omega) (by omega) (by omega), rorphan_eq (by omega) (by omega) (by omega), orphan_eq (by omega) (by omega) (by omega), rorphan_eq (by omega) (by omega) (by omega), prem_eq (by omega) (by omega) (by omega), rprem_eq (by omega) (by omega) (by omega), prem_eq (by omega) (by omega) (by omega), rprem_eq (by omega) (by omega) (by omega)]
    simp [andM]
end Go.Mine
