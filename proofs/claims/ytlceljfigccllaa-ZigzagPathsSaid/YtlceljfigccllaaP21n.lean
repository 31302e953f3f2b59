/- All checkpoints, as the reference lists them. -/
import Derived.Test.YtlceljfigccllaaA19r
import Derived.Test.YtlceljfigccllaaP21d
set_option linter.unusedSimpArgs false
set_option linter.unusedVariables false
namespace Go.Mine
open Go.RowKit
theorem rall_g {n B : Nat} {p : Pat} (h : PatG n B p) (hn : n ≤ 5) (hB : B ≤ 64) : ref19_All 10000000 p = some (allL n p) := by
  have hk := h.ck
  unfold ref19_All
  refine Ok.eq (Ok.bind (Q := fun t => t = allL n p) (Ok.for_ n (fun k s => s.2 = (k : Int) ∧ s.1 = allL k p) ⟨rfl, by simp [allL]⟩ (by omega) ?_) fun t ht => by subst ht; exact Ok.ret rfl)
  rintro k ⟨L, i⟩ hk2 ⟨hi, hL⟩
  simp only at hi hL
  subst hi hL
  simp only [ref19_All_B1]
  refine Ok.iteP (fun hkl => ?_) (fun hkl => Ok.ret (by rw [show k = n by omega]; rfl))
  have hw := h.ckW k; have hal := allL_len h hB k
  refine Ok.bind (Q := fun t => t = allL (k + 1) p) (Ok.for_ ((ckR p k).length + 1) (fun j s => s.2 = (j : Int) ∧ s.1 = allL k p ++ allRow k j) ⟨rfl, by simp [allRow]⟩ (by omega) ?_) fun t ht => Ok.ret ⟨by omega, w64_nat (by omega), ht⟩
  rintro j ⟨L, i⟩ hj ⟨hi, hL⟩
  simp only at hi hL
  subst hi hL
  simp only [ref19_All_B2]
  rw [ati_ck (by omega) (by omega), Option.bind_some]
  refine Ok.iteP (fun hjl => ?_) (fun hjl => Ok.ret ?_)
  · refine (Ok.snoc (by simp [allRow]; omega)).bind fun y hy => Ok.ret ⟨by omega, w64_nat (by omega), ?_⟩
    subst hy
    simp only; rw [allRow_succ, List.append_assoc]
  · rw [show j = (ckR p k).length + 1 by omega]; exact allL_succ.symm
end Go.Mine
