/- Recovery lines, plain: sets, failures. -/
import Derived.Test.YtljpjekifbamfaaP22c
set_option linter.unusedSimpArgs false
set_option linter.unusedVariables false
namespace Go.Mine
open Go.RowKit
def bitsL (n m : Nat) : List Int := ((List.range n).filter fun i => m.testBit i).map Int.ofNat
def setsB (n m : Nat) (k : Int) : List (List Int) := ((List.range m).map (bitsL n)).filter fun b => decide ((b.length : Int) ≤ k)
def setsL (n : Nat) (k : Int) : List (List Int) := setsB n (2 ^ n) k
theorem bits_l : ∀ n : Nat, n < 9 → ∀ m : Nat, m < 2 ^ n → iter (fun s => line_Sets_B2 10000000 (n : Int) (m : Int) s.1 s.2) 10000000 (([] : List Int), (0 : Int)) = some (bitsL n m) := by decide +kernel
theorem bits_c : ∀ n : Nat, n < 9 → ∀ m : Nat, m < 2 ^ n → math_bits_OnesCount 10000000 (m : Int) = some ((bitsL n m).length : Int) := by decide +kernel
theorem shl_l : ∀ n : Nat, n < 9 → shlK .u64 1 (n : Int) = some (((2 ^ n : Nat) : Int)) := by decide +kernel
theorem shl_r : ∀ n : Nat, n < 9 → shlK .i64 1 (wrK .u64 (n : Int)) = some (((2 ^ n : Nat) : Int)) := by decide +kernel
theorem wr_l : ∀ m : Nat, m < 257 → wrK .u64 ((m : Int) + 1) = ((m + 1 : Nat) : Int) := by decide +kernel
theorem pow_le : ∀ n : Nat, n < 9 → 2 ^ n ≤ 256 := by decide +kernel
theorem bitsL_len {n m : Nat} : (bitsL n m).length ≤ n := by
  unfold bitsL
  have := List.length_filter_le (fun i => m.testBit i) (List.range n)
  simpa using this
theorem setsB_len {n m : Nat} {k : Int} : (setsB n m k).length ≤ m := by
  unfold setsB
  have := List.length_filter_le (fun b : List Int => decide ((b.length : Int) ≤ k)) ((List.range m).map (bitsL n))
  simpa using this
theorem setsB_mem {n m : Nat} {k : Int} {s : List Int} : s ∈ setsB n m k ↔ (∃ j, j < m ∧ bitsL n j = s) ∧ (s.length : Int) ≤ k := by
  unfold setsB; simp
theorem setsB_succ {n m : Nat} {k : Int} : setsB n (m + 1) k = if ((bitsL n m).length : Int) ≤ k then setsB n m k ++ [bitsL n m] else setsB n m k := by
  unfold setsB
  rw [List.range_succ, List.map_append, List.filter_append]
  split
  · rename_i h; simp [h]
  · rename_i h; simp [h]
theorem sets_l {n : Nat} {k : Int} (hn : n < 9) (hk : 0 ≤ k) : line_Sets 10000000 (n : Int) k = some (setsL n k) := by
  have hp := pow_le n hn
  unfold line_Sets
  simp only [orM_some, Option.bind_some]
  rw [if_neg (by simp; omega), shl_l n hn, Option.bind_some]
  refine Ok.eq ?_
  refine Ok.bind (Q := fun t => t = setsL n k) (Ok.for_ (2 ^ n) (fun m s => s.2 = (m : Int) ∧ s.1 = setsB n m k) ⟨rfl, rfl⟩ (by omega) ?_) fun t ht => by subst ht; exact Ok.ret rfl
  rintro m ⟨acc, j⟩ hm ⟨hj, ha⟩
  simp only at hj ha
  subst hj ha
  simp only [line_Sets_B1]
  have hs := setsB_succ (n := n) (m := m) (k := k)
  refine Ok.iteP (fun hlt => ?_) (fun hlt => Ok.ret (by rw [show m = 2 ^ n by omega]; rfl))
  have hm' : m < 2 ^ n := by omega
  rw [bits_c n hn m hm', bits_l n hn m hm']
  simp only [Option.bind_some]
  refine Ok.iteP (fun hc => Ok.ret ⟨hm', wr_l m (by omega), ?_⟩) (fun hc => ?_)
  · rw [hs, if_neg (by omega)]
  · unfold line_Sets_K2
    refine (Ok.snoc (by have := setsB_len (n := n) (m := m) (k := k); omega)).bind fun x hx => Ok.ret ⟨hm', wr_l m (by omega), ?_⟩
    rw [hs, if_pos (by omega), hx]
/-- the sets of both, whatever is asked -/
def setsI (n k : Int) : List (List Int) := if n < 0 ∨ 16 < n ∨ k < 0 then [] else setsL n.toNat k
end Go.Mine
