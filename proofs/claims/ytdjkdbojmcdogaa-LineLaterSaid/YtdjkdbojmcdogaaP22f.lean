/- Recovery lines, plain: sets, failures. -/
import Derived.Test.YtdjkdbojmcdogaaP22c
set_option linter.unusedSimpArgs false
set_option linter.unusedVariables false
namespace Go.Mine
open Go.RowKit
def bitsL (n m : Nat) : List Int := ((List.range n).filter fun i => m.testBit i).map Int.ofNat
def setsB (n m : Nat) (k : Int) : List (List Int) := ((List.range m).map (bitsL n)).filter fun b => decide ((b.length : Int) ≤ k)
def setsL (n : Nat) (k : Int) : List (List Int) := setsB n (2 ^ n) k
theorem bits_l : ∀ n : Nat, n < 9 → ∀ m : Nat, m < 2 ^ n → iter (fun s => line_Sets_B2 10000000 (n : Int) (m : Int) s.1 s.2) 10000000 (([] : List Int), (0 : Int)) = some (bitsL n m) := by decide +kernel
theorem bits_r : ∀ n : Nat, n < 9 → ∀ m : Nat, m < 2 ^ n → iter (fun s => ref22_Sets_B2 10000000 (n : Int) (m : Int) s.1 s.2) 10000000 (([] : List Int), (0 : Int)) = some (bitsL n m) := by decide +kernel
theorem bits_c : ∀ n : Nat, n < 9 → ∀ m : Nat, m < 2 ^ n → math_bits_OnesCount 10000000 (m : Int) = some ((bitsL n m).length : Int) := by decide +kernel
theorem shl_l : ∀ n : Nat, n < 9 → shlK .u64 1 (n : Int) = some (((2 ^ n : Nat) : Int)) := by decide +kernel
theorem shl_r : ∀ n : Nat, n < 9 → shlK .i64 1 (wrK .u64 (n : Int)) = some (((2 ^ n : Nat) : Int)) := by decide +kernel
theorem wr_l : ∀ m : Nat, m < 257 → wrK .u64 ((m : Int) + 1) = ((m + 1 : Nat) : Int) := by decide +kernel
theorem pow_le : ∀ n : Nat, n < 9 → 2 ^ n ≤ 256 := by decide +kernel
theorem bitsL_len {n m : Nat} : (bitsL n m).length ≤ n := by
  unfold bitsL
  have := List.length_filter_le (fun i => m.testBit i) (List.range n)
  simpa using this
theorem setsB_len {n m : Nat} {k : Int} : (setsB n m k).length ≤ m := by
  unfold setsB
  have := List.length_filter_le (fun b : List Int => decide ((b.length : Int) ≤ k)) ((List.range m).map (bitsL n))
  simpa using this
theorem setsB_mem {n m : Nat} {k : Int} {s : List Int} : s ∈ setsB n m k ↔ (∃ j, j < m ∧ bitsL n j = s) ∧ (s.length : Int) ≤ k := by
  unfold setsB; simp
theorem setsB_succ {n m : Nat} {k : Int} : setsB n (m + 1) k = if ((bitsL n m).length : Int) ≤ k then setsB n m k ++ [bitsL n m] else setsB n m k := by
  unfold setsB
  rw [List.range_succ, List.map_append, List.filter_append]
  split
  · rename_i h; simp [h]
  · rename_i h; simp [h]
theorem sets_l {n : Nat} {k : Int} (hn : n < 9) (hk : 0 ≤ k) : line_Sets 10000000 (n : Int) k = some (setsL n k) := by
  have hp := pow_le n hn
  unfold line_Sets
  simp only [orM_some, Option.bind_some]
  rw [if_neg (by simp; omega), shl_l n hn, Option.bind_some]
  refine Ok.eq ?_
  refine Ok.bind (Q := fun t => t = setsL n k) (Ok.for_ (2 ^ n) (fun m s => s.2 = (m : Int) ∧ s.1 = setsB n m k) ⟨rfl, rfl⟩ (by omega) ?_) fun t ht => by subst ht; exact Ok.ret rfl
  rintro m ⟨acc, j⟩ hm ⟨hj, ha⟩
  simp only at hj ha
  subst hj ha
  simp only [line_Sets_B1]
  have hs := setsB_succ (n := n) (m := m) (k := k)
  refine Ok.iteP (fun hlt => ?_) (fun hlt => Ok.ret (by rw [show m = 2 ^ n by omega]; rfl))
  have hm' : m < 2 ^ n := by omega
  rw [bits_c n hn m hm', bits_l n hn m hm']
  simp only [Option.bind_some]
  refine Ok.iteP (fun hc => Ok.ret ⟨hm', wr_l m (by omega), ?_⟩) (fun hc => ?_)
  · rw [hs, if_neg (by omega)]
  · unfold line_Sets_K2
    refine (Ok.snoc (by have := setsB_len (n := n) (m := m) (k := k); omega)).bind fun x hx => Ok.ret ⟨hm', wr_l m (by omega), ?_⟩
    rw [hs, if_pos (by omega), hx]
theorem sets_r {n : Nat} {k : Int} (hn : n < 9) (hk : 0 ≤ k) : ref22_Sets 10000000 (n : Int) k = some (setsL n k) := by
  have hp := pow_le n hn
  unfold ref22_Sets
  simp only [orM_some, Option.bind_some]
  rw [if_neg (by simp; omega)]
  refine Ok.eq ?_
  refine Ok.bind (Q := fun t => t = setsL n k) (Ok.for_ (2 ^ n) (fun m s => s.2 = (m : Int) ∧ s.1 = setsB n m k) ⟨rfl, rfl⟩ (by omega) ?_) fun t ht => by subst ht; exact Ok.ret rfl
  rintro m ⟨acc, j⟩ hm ⟨hj, ha⟩
  simp only at hj ha
  subst hj ha
  simp only [ref22_Sets_B1]
  rw [shl_r n hn, Option.bind_some]
  have hs := setsB_succ (n := n) (m := m) (k := k)
  refine Ok.iteP (fun hlt => ?_) (fun hlt => Ok.ret (by rw [show m = 2 ^ n by omega]; rfl))
  have hm' : m < 2 ^ n := by omega
  rw [bits_r n hn m hm']
  simp only [Option.bind_some, ref22_Sets_K2]
  refine Ok.iteP (fun hc => ?_) (fun hc => Ok.ret ⟨hm', w64_nat (by omega), ?_⟩)
  · refine (Ok.snoc (by have := setsB_len (n := n) (m := m) (k := k); omega)).bind fun x hx => Ok.ret ⟨hm', w64_nat (by omega), ?_⟩
    rw [hs, if_pos (by omega), hx]
  · rw [hs, if_neg (by omega)]
/-- the sets of both, whatever is asked -/
def setsI (n k : Int) : List (List Int) := if n < 0 ∨ 16 < n ∨ k < 0 then [] else setsL n.toNat k
theorem setsI_l {n k : Int} (h : ¬ (8 < n ∧ n ≤ 16)) : line_Sets 10000000 n k = some (setsI n k) ∧ ref22_Sets 10000000 n k = some (setsI n k) := by
  unfold setsI
  split
  · rename_i hc
    unfold line_Sets ref22_Sets
    simp only [orM_some, Option.bind_some]
    rw [if_pos (by simp; omega), if_pos (by simp; omega)]
    exact ⟨rfl, rfl⟩
  · rename_i hc
    obtain ⟨m, rfl⟩ := Int.eq_ofNat_of_zero_le (show 0 ≤ n by omega)
    exact ⟨sets_l (by omega) (by omega), sets_r (by omega) (by omega)⟩
theorem setsI_same {n k : Int} (h : ¬ (8 < n ∧ n ≤ 16)) : ref22_SameLists 10000000 (setsI n k) (setsI n k) = some true := by
  refine sameLists_refl ?_ (fun r hr => ?_) (by omega)
  · unfold setsI
    split
    · simp
    · have := setsB_len (n := n.toNat) (m := 2 ^ n.toNat) (k := k); have := pow_le n.toNat (by omega); unfold setsL; omega
  · unfold setsI at hr
    split at hr
    · simp at hr
    · obtain ⟨⟨j, _, rfl⟩, _⟩ := setsB_mem.1 hr
      have := bitsL_len (n := n.toNat) (m := j); omega
theorem mod_g {fuel : Nat} {a b : Int} (hb : 0 < b) (hb2 : b ≤ 1000) : Ok (make_Mod fuel a b) fun r => 0 ≤ r ∧ r < b := by
  unfold make_Mod
  refine (Ok.rem (by omega)).bind fun x hx => ?_
  have h1 : x < b := by rw [hx]; exact Int.tmod_lt_of_pos _ hb
  have h2 : -b < x := by
    rw [hx]
    have := Int.lt_tmod_of_pos a hb
    omega
  refine Ok.iteP (fun hc => Ok.ret ?_) (fun hc => Ok.ret (by omega))
  rw [w64_id (by omega) (by omega)]; omega
theorem lineSets {a0 a1 : Int} : law22_LineSets 10000000 a0 a1 = some true := by
  unfold law22_LineSets
  rw [awake22, Option.bind_some]
  simp only [Bool.not_true, Bool.false_eq_true, if_false]
  refine Ok.eq ?_
  refine (mod_g (a := a0) (b := 9) (by omega) (by omega)).bind fun r ⟨r0, r1⟩ => ?_
  have hj : ∀ x, ¬ (8 < x ∧ x ≤ 16) → Ok (law22_LineSets_J1 10000000 r a1 x) fun b => b = true := fun x hx => by
    unfold law22_LineSets_J1
    have e : w64 (r - 1) = r - 1 := w64_id (by omega) (by omega)
    rw [e]
    have h1 : ¬ (8 < r - 1 ∧ r - 1 ≤ 16) := by omega
    obtain ⟨k, hk, k0, k1⟩ := mod_g (fuel := 10000000) (a := a1) (b := 6) (by omega) (by omega)
    simp only [hk, (setsI_l h1).1, (setsI_l h1).2, (setsI_l hx).1, (setsI_l hx).2, Option.bind_some, setsI_same h1, setsI_same hx, andM_true]
    exact Ok.ret rfl
  simp only [andM_some, Option.bind_some]
  exact Ok.ite (fun _ => hj 8 (by omega)) (fun e => hj a0 (by simp at e; omega))
end Go.Mine
