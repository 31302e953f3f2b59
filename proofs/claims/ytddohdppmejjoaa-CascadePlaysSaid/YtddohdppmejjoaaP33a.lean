/- law33's first law: the first machine, or the error. -/
import Derived.Test.YtddohdppmejjoaaA33f
import Derived.Test.YtddohdppmejjoaaPl
set_option linter.unusedSimpArgs false
namespace Go.Mine
theorem awake33 : law33_awake 10000000 = some true := by kernel_rfl
/-- the first machine -/
def new33 (k : Int) : Cascade × Int := if 1 ≤ k ∧ k ≤ 5 then (⟨List.replicate k.toNat ⟨0, [], 0, []⟩, []⟩, 0) else (⟨[], []⟩, 3)
theorem cases5 {k : Int} (h : 1 ≤ k ∧ k ≤ 5) : k = 1 ∨ k = 2 ∨ k = 3 ∨ k = 4 ∨ k = 5 := by omega
theorem new_o (fuel : Nat) (k : Int) : cascade_New fuel k = some (new33 k) := by
  unfold cascade_New new33
  by_cases h : 1 ≤ k ∧ k ≤ 5
  · rcases cases5 h with rfl | rfl | rfl | rfl | rfl <;> rfl
  · rw [if_neg h]
    by_cases h1 : k < 1
    · simp [orM, h1]
    · have h2 : 5 < k := by omega
      simp [orM, h1, h2]
theorem rnew_o (fuel : Nat) (k : Int) : ref33_New fuel k = some (new33 k) := new_o fuel k
theorem same_new (k : Int) : ref33_Same 10000000 (⟨(new33 k).1.branches, []⟩ : Cascade) (⟨(new33 k).1.branches, []⟩ : Cascade) = some true := by
  unfold new33
  by_cases h : 1 ≤ k ∧ k ≤ 5
  · rcases cases5 h with rfl | rfl | rfl | rfl | rfl <;> kernel_rfl
  · rw [if_neg h]; kernel_rfl
theorem begins_B (a r : Int) (i : Nat) (hi : i < 2) : law33_CascadeBegins_B1 10000000 a r (i : Int) = some (.inl ((i + 1 : Nat) : Int)) := by
  unfold law33_CascadeBegins_B1
  rcases (by omega : i = 0 ∨ i = 1) with rfl | rfl
  · simp [ati, new_o, rnew_o, same_new, orM, w64]
    try rfl
  · simp [ati, new_o, rnew_o, same_new, orM, w64]
    try rfl
theorem begins_E (a r : Int) : law33_CascadeBegins_B1 10000000 a r 2 = some (.inr (.inl ())) := by
  unfold law33_CascadeBegins_B1; simp
theorem iterL {σ τ : Type} {body : σ → Option (σ ⊕ τ)} {n : Nat} {s s' : σ} (h : body s = some (.inl s')) : iter body (n + 1) s = iter body n s' := by
  show (body s).bind _ = _; rw [h]; rfl
theorem iterR {σ τ : Type} {body : σ → Option (σ ⊕ τ)} {n : Nat} {s : σ} {t : τ} (h : body s = some (.inr t)) : iter body (n + 1) s = some t := by
  show (body s).bind _ = _; rw [h]; rfl
theorem mod8 (fuel : Nat) (a : Int) : ∃ r, make_Mod fuel a 8 = some r := by
  unfold make_Mod remI
  simp
  split <;> exact ⟨_, rfl⟩
theorem cascadeBegins (a : Int) : law33_CascadeBegins 10000000 a = some true := by
  obtain ⟨r, hr⟩ := mod8 10000000 a
  unfold law33_CascadeBegins
  rw [awake33, Option.bind_some, if_neg (by simp), hr, Option.bind_some]
  have key : iter (fun s => law33_CascadeBegins_B1 10000000 a r s) 10000000 0 = some (.inl ()) :=
    (iterL (n := 9999999) (begins_B a r 0 (by omega))).trans ((iterL (n := 9999998) (begins_B a r 1 (by omega))).trans (iterR (n := 9999997) (begins_E a r)))
  rw [key]
  rfl
end Go.Mine
