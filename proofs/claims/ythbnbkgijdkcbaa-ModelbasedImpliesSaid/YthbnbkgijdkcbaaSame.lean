/- The comparisons of lists, of chapters 16 and 23. -/
import Derived.Test.YthbnbkgijdkcbaaData
set_option linter.unusedSimpArgs false
namespace Go.Proofs.Ythbnbkgijdkcbaa
open Go.RowKit Go.Mine
attribute [local irreducible] eseq ewp
variable {w : World}

theorem sameInts {S1 S2 : Nat → Prop} {v1 v2 : Value} {l1 l2 : List Int} (h1 : IsSlice Ty.int w S1 v1 l1) (h2 : IsSlice Ty.int w S2 v2 l2) (hl : l1.length ≤ 1000000000) :
    Gives Try.prog 13 [v1, v2] w fun v w' => v = .bool (decide (l1 = l2)) ∧ Below w.heap.size w w' := by
  refine fn_of Try.func13 rfl Try.ntmps13 (Nat.le_of_ble_eq_true rfl) ?_
  have hT := Below.refl w.heap.size w
  refine e_seq fun K hK => ?_
  refine e_region_text rfl ?_
  refine q_assign rfl rfl ?_
  refine eseq_nil ?_
  refine hK _ _ ?_; clear hK
  refine e_seq fun K hK => ?_
  refine e_seq fun K hK => ?_
  refine e_region_text rfl ?_
  refine q_move rfl rfl ?_
  refine q_lenS rfl h1 rfl ?_
  refine q_move rfl rfl ?_
  refine q_lenS rfl h2 rfl ?_
  refine q_neq rfl rfl rfl ?_
  refine eseq_nil ?_
  refine hK _ _ ?_; clear hK
  refine e_cond rfl (fun hb => ?_) (fun hb => ?_)
  · skip
    refine e_seq fun K hK => ?_
    refine e_region_text rfl ?_
    refine q_assign rfl rfl ?_
    refine eseq_nil ?_
    refine hK _ _ ?_; clear hK
    refine e_ret ?_
    have : l1 ≠ l2 := by rintro rfl; simp at hb
    exact ⟨_, res1 rfl rfl, by simp [this], hT⟩
  have hll : l1.length = l2.length := by simp at hb; omega
  refine e_skip ?_
  refine hK _ _ ?_; clear hK
  refine e_seq fun K hK => ?_
  refine e_seq fun K hK => ?_
  refine e_region_text rfl ?_
  refine q_assign rfl rfl ?_
  refine eseq_nil ?_
  refine hK _ _ ?_; clear hK
  refine e_block ?_
  refine e_loop (fun n E w' => ∃ k : Nat, k ≤ l1.length ∧ n = l1.length - k ∧ l1.take k = l2.take k ∧ w' = w ∧ E = [(0, v1), (1, v2), (5, .int .i64 k)]) l1.length ⟨_, ⟨0, by omega, by omega, rfl, rfl, rfl⟩, Sub.cons rfl (Sub.cons rfl (Sub.cons rfl (Sub.nil _)))⟩ ?_
  rintro n E w' ⟨k, hk, rfl, ht, rfl, rfl⟩
  refine e_seq fun K hK => ?_
  refine e_seq fun K hK => ?_
  refine e_region_text rfl ?_
  refine q_move rfl rfl ?_
  refine q_move rfl rfl ?_
  refine q_lenS rfl h1 rfl ?_
  refine q_lss rfl rfl rfl ?_
  refine eseq_nil ?_
  refine hK _ _ ?_; clear hK
  refine e_cond rfl (fun hb => ?_) (fun hb => ?_)
  · skip
    have hlt : k < l1.length := by simpa using hb
    have hlt2 : k < l2.length := by omega
    refine e_skip ?_
    refine hK _ _ ?_; clear hK
    refine e_seq fun K hK => ?_
    refine e_block ?_
    refine e_seq fun K hK => ?_
    refine e_region_draw mixed (fun _ => False) [0, 0, 3, 7, 0, 0, 48, 112, 255] [] [0, 1, 2, 3, 4, 5, 6, 7, 8] (by kernel_rfl) ?_
    refine q_move rfl rfl ?_
    refine q_move rfl rfl ?_
    first | refine q_indexSn (by infer_instance) rfl h1 rfl (by first | omega | decide) rfl fun b19 o19 f19 => ?_ | refine q_indexS (by infer_instance) rfl h1 rfl (by first | omega | decide) (by first | omega | decide) rfl fun b19 o19 f19 => ?_
    refine q_load rfl (El.intCell f19) rfl ?_
    refine q_move rfl rfl ?_
    refine q_move rfl rfl ?_
    first | refine q_indexSn (by infer_instance) rfl h2 rfl (by first | omega | decide) rfl fun b23 o23 f23 => ?_ | refine q_indexS (by infer_instance) rfl h2 rfl (by first | omega | decide) (by first | omega | decide) rfl fun b23 o23 f23 => ?_
    refine q_load rfl (El.intCell f23) rfl ?_
    refine q_neq rfl rfl rfl ?_
    refine eseq_nil ?_
    refine hK _ _ ?_; clear hK
    refine e_cond rfl (fun hb => ?_) (fun hb => ?_)
    · skip
      refine e_seq fun K hK => ?_
      refine e_region_text rfl ?_
      refine q_assign rfl rfl ?_
      refine eseq_nil ?_
      refine hK _ _ ?_; clear hK
      refine e_ret ?_
      have : l1 ≠ l2 := by rintro rfl; simp at hb
      exact ⟨_, res1 rfl rfl, by simp [this], hT⟩
    · skip
      refine e_skip ?_
      refine hK _ _ ?_; clear hK
      refine e_region_text rfl ?_
      refine q_move rfl rfl ?_
      refine q_add rfl rfl (wr64 (by omega) (by omega)) rfl ?_
      refine q_assign rfl rfl ?_
      refine eseq_nil ?_
      refine ⟨l1.length - (k + 1), _, by omega, ⟨k + 1, by omega, rfl, ?_, rfl, rfl⟩, Sub.cons rfl (Sub.cons rfl (Sub.cons rfl (Sub.nil _)))⟩
      have hh : l1[k] = l2[k] := by simpa [nth_eq hlt, nth_eq hlt2] using hb
      rw [List.take_succ_eq_append_getElem hlt, List.take_succ_eq_append_getElem hlt2, ht, hh]
  · skip
    have hge : k = l1.length := by simp at hb; omega
    refine e_exit ?_
    clear hK
    refine hK _ _ ?_; clear hK
    refine e_seq fun K hK => ?_
    refine e_region_text rfl ?_
    refine q_assign rfl rfl ?_
    refine eseq_nil ?_
    refine hK _ _ ?_; clear hK
    refine e_ret ?_
    refine ⟨_, res1 rfl rfl, ?_, hT⟩
    have : l1 = l2 := by
      rw [← List.take_of_length_le (Nat.le_of_eq hge.symm) (l := l1), ← List.take_of_length_le (show l2.length ≤ k by omega) (l := l2)]; exact ht
    simp [this]

theorem sameInts16 {S1 S2 : Nat → Prop} {v1 v2 : Value} {l1 l2 : List Int} (h1 : IsSlice Ty.int w S1 v1 l1) (h2 : IsSlice Ty.int w S2 v2 l2) (hl : l1.length ≤ 1000000000) :
    Gives Try.prog 42 [v1, v2] w fun v w' => v = .bool (decide (l1 = l2)) ∧ Below w.heap.size w w' := by
  refine fn_of Try.func42 rfl Try.ntmps42 (Nat.le_of_ble_eq_true rfl) ?_
  have hT := Below.refl w.heap.size w
  refine e_seq fun K hK => ?_
  refine e_region_text rfl ?_
  refine q_assign rfl rfl ?_
  refine eseq_nil ?_
  refine hK _ _ ?_; clear hK
  refine e_seq fun K hK => ?_
  refine e_seq fun K hK => ?_
  refine e_region_text rfl ?_
  refine q_move rfl rfl ?_
  refine q_lenS rfl h1 rfl ?_
  refine q_move rfl rfl ?_
  refine q_lenS rfl h2 rfl ?_
  refine q_neq rfl rfl rfl ?_
  refine eseq_nil ?_
  refine hK _ _ ?_; clear hK
  refine e_cond rfl (fun hb => ?_) (fun hb => ?_)
  · skip
    refine e_seq fun K hK => ?_
    refine e_region_text rfl ?_
    refine q_assign rfl rfl ?_
    refine eseq_nil ?_
    refine hK _ _ ?_; clear hK
    refine e_ret ?_
    have : l1 ≠ l2 := by rintro rfl; simp at hb
    exact ⟨_, res1 rfl rfl, by simp [this], hT⟩
  have hll : l1.length = l2.length := by simp at hb; omega
  refine e_skip ?_
  refine hK _ _ ?_; clear hK
  refine e_seq fun K hK => ?_
  refine e_seq fun K hK => ?_
  refine e_region_text rfl ?_
  refine q_assign rfl rfl ?_
  refine eseq_nil ?_
  refine hK _ _ ?_; clear hK
  refine e_block ?_
  refine e_loop (fun n E w' => ∃ k : Nat, k ≤ l1.length ∧ n = l1.length - k ∧ l1.take k = l2.take k ∧ w' = w ∧ E = [(0, v1), (1, v2), (5, .int .i64 k)]) l1.length ⟨_, ⟨0, by omega, by omega, rfl, rfl, rfl⟩, Sub.cons rfl (Sub.cons rfl (Sub.cons rfl (Sub.nil _)))⟩ ?_
  rintro n E w' ⟨k, hk, rfl, ht, rfl, rfl⟩
  refine e_seq fun K hK => ?_
  refine e_seq fun K hK => ?_
  refine e_region_text rfl ?_
  refine q_move rfl rfl ?_
  refine q_move rfl rfl ?_
  refine q_lenS rfl h1 rfl ?_
  refine q_lss rfl rfl rfl ?_
  refine eseq_nil ?_
  refine hK _ _ ?_; clear hK
  refine e_cond rfl (fun hb => ?_) (fun hb => ?_)
  · skip
    have hlt : k < l1.length := by simpa using hb
    have hlt2 : k < l2.length := by omega
    refine e_skip ?_
    refine hK _ _ ?_; clear hK
    refine e_seq fun K hK => ?_
    refine e_block ?_
    refine e_seq fun K hK => ?_
    refine e_region_draw mixed (fun _ => False) [0, 0, 3, 7, 0, 0, 48, 112, 255] [] [0, 1, 2, 3, 4, 5, 6, 7, 8] (by kernel_rfl) ?_
    refine q_move rfl rfl ?_
    refine q_move rfl rfl ?_
    first | refine q_indexSn (by infer_instance) rfl h1 rfl (by first | omega | decide) rfl fun b19 o19 f19 => ?_ | refine q_indexS (by infer_instance) rfl h1 rfl (by first | omega | decide) (by first | omega | decide) rfl fun b19 o19 f19 => ?_
    refine q_load rfl (El.intCell f19) rfl ?_
    refine q_move rfl rfl ?_
    refine q_move rfl rfl ?_
    first | refine q_indexSn (by infer_instance) rfl h2 rfl (by first | omega | decide) rfl fun b23 o23 f23 => ?_ | refine q_indexS (by infer_instance) rfl h2 rfl (by first | omega | decide) (by first | omega | decide) rfl fun b23 o23 f23 => ?_
    refine q_load rfl (El.intCell f23) rfl ?_
    refine q_neq rfl rfl rfl ?_
    refine eseq_nil ?_
    refine hK _ _ ?_; clear hK
    refine e_cond rfl (fun hb => ?_) (fun hb => ?_)
    · skip
      refine e_seq fun K hK => ?_
      refine e_region_text rfl ?_
      refine q_assign rfl rfl ?_
      refine eseq_nil ?_
      refine hK _ _ ?_; clear hK
      refine e_ret ?_
      have : l1 ≠ l2 := by rintro rfl; simp at hb
      exact ⟨_, res1 rfl rfl, by simp [this], hT⟩
    · skip
      refine e_skip ?_
      refine hK _ _ ?_; clear hK
      refine e_region_text rfl ?_
      refine q_move rfl rfl ?_
      refine q_add rfl rfl (wr64 (by omega) (by omega)) rfl ?_
      refine q_assign rfl rfl ?_
      refine eseq_nil ?_
      refine ⟨l1.length - (k + 1), _, by omega, ⟨k + 1, by omega, rfl, ?_, rfl, rfl⟩, Sub.cons rfl (Sub.cons rfl (Sub.cons rfl (Sub.nil _)))⟩
      have hh : l1[k] = l2[k] := by simpa [nth_eq hlt, nth_eq hlt2] using hb
      rw [List.take_succ_eq_append_getElem hlt, List.take_succ_eq_append_getElem hlt2, ht, hh]
  · skip
    have hge : k = l1.length := by simp at hb; omega
    refine e_exit ?_
    clear hK
    refine hK _ _ ?_; clear hK
    refine e_seq fun K hK => ?_
    refine e_region_text rfl ?_
    refine q_assign rfl rfl ?_
    refine eseq_nil ?_
    refine hK _ _ ?_; clear hK
    refine e_ret ?_
    refine ⟨_, res1 rfl rfl, ?_, hT⟩
    have : l1 = l2 := by
      rw [← List.take_of_length_le (Nat.le_of_eq hge.symm) (l := l1), ← List.take_of_length_le (show l2.length ≤ k by omega) (l := l2)]; exact ht
    simp [this]

theorem sameBools {S1 S2 : Nat → Prop} {v1 v2 : Value} {l1 l2 : List Bool} (h1 : IsSlice Ty.bool w S1 v1 l1) (h2 : IsSlice Ty.bool w S2 v2 l2) (hl : l1.length ≤ 1000000000) :
    Gives Try.prog 40 [v1, v2] w fun v w' => v = .bool (decide (l1 = l2)) ∧ Below w.heap.size w w' := by
  refine fn_of Try.func40 rfl Try.ntmps40 (Nat.le_of_ble_eq_true rfl) ?_
  have hT := Below.refl w.heap.size w
  refine e_seq fun K hK => ?_
  refine e_region_text rfl ?_
  refine q_assign rfl rfl ?_
  refine eseq_nil ?_
  refine hK _ _ ?_; clear hK
  refine e_seq fun K hK => ?_
  refine e_seq fun K hK => ?_
  refine e_region_text rfl ?_
  refine q_move rfl rfl ?_
  refine q_lenS rfl h1 rfl ?_
  refine q_move rfl rfl ?_
  refine q_lenS rfl h2 rfl ?_
  refine q_neq rfl rfl rfl ?_
  refine eseq_nil ?_
  refine hK _ _ ?_; clear hK
  refine e_cond rfl (fun hb => ?_) (fun hb => ?_)
  · skip
    refine e_seq fun K hK => ?_
    refine e_region_text rfl ?_
    refine q_assign rfl rfl ?_
    refine eseq_nil ?_
    refine hK _ _ ?_; clear hK
    refine e_ret ?_
    have : l1 ≠ l2 := by rintro rfl; simp at hb
    exact ⟨_, res1 rfl rfl, by simp [this], hT⟩
  have hll : l1.length = l2.length := by simp at hb; omega
  refine e_skip ?_
  refine hK _ _ ?_; clear hK
  refine e_seq fun K hK => ?_
  refine e_seq fun K hK => ?_
  refine e_region_text rfl ?_
  refine q_assign rfl rfl ?_
  refine eseq_nil ?_
  refine hK _ _ ?_; clear hK
  refine e_block ?_
  refine e_loop (fun n E w' => ∃ k : Nat, k ≤ l1.length ∧ n = l1.length - k ∧ l1.take k = l2.take k ∧ w' = w ∧ E = [(0, v1), (1, v2), (5, .int .i64 k)]) l1.length ⟨_, ⟨0, by omega, by omega, rfl, rfl, rfl⟩, Sub.cons rfl (Sub.cons rfl (Sub.cons rfl (Sub.nil _)))⟩ ?_
  rintro n E w' ⟨k, hk, rfl, ht, rfl, rfl⟩
  refine e_seq fun K hK => ?_
  refine e_seq fun K hK => ?_
  refine e_region_text rfl ?_
  refine q_move rfl rfl ?_
  refine q_move rfl rfl ?_
  refine q_lenS rfl h1 rfl ?_
  refine q_lss rfl rfl rfl ?_
  refine eseq_nil ?_
  refine hK _ _ ?_; clear hK
  refine e_cond rfl (fun hb => ?_) (fun hb => ?_)
  · skip
    have hlt : k < l1.length := by simpa using hb
    have hlt2 : k < l2.length := by omega
    refine e_skip ?_
    refine hK _ _ ?_; clear hK
    refine e_seq fun K hK => ?_
    refine e_block ?_
    refine e_seq fun K hK => ?_
    refine e_region_draw mixed (fun _ => False) [0, 0, 3, 7, 0, 0, 48, 112, 255] [] [0, 1, 2, 3, 4, 5, 6, 7, 8] (by kernel_rfl) ?_
    refine q_move rfl rfl ?_
    refine q_move rfl rfl ?_
    first | refine q_indexSn (by infer_instance) rfl h1 rfl (by first | omega | decide) rfl fun b19 o19 f19 => ?_ | refine q_indexS (by infer_instance) rfl h1 rfl (by first | omega | decide) (by first | omega | decide) rfl fun b19 o19 f19 => ?_
    refine q_load rfl (El.boolCell f19) rfl ?_
    refine q_move rfl rfl ?_
    refine q_move rfl rfl ?_
    first | refine q_indexSn (by infer_instance) rfl h2 rfl (by first | omega | decide) rfl fun b23 o23 f23 => ?_ | refine q_indexS (by infer_instance) rfl h2 rfl (by first | omega | decide) (by first | omega | decide) rfl fun b23 o23 f23 => ?_
    refine q_load rfl (El.boolCell f23) rfl ?_
    refine q_neqB rfl rfl rfl ?_
    refine eseq_nil ?_
    refine hK _ _ ?_; clear hK
    refine e_cond rfl (fun hb => ?_) (fun hb => ?_)
    · skip
      refine e_seq fun K hK => ?_
      refine e_region_text rfl ?_
      refine q_assign rfl rfl ?_
      refine eseq_nil ?_
      refine hK _ _ ?_; clear hK
      refine e_ret ?_
      have : l1 ≠ l2 := by rintro rfl; simp at hb
      exact ⟨_, res1 rfl rfl, by simp [this], hT⟩
    · skip
      refine e_skip ?_
      refine hK _ _ ?_; clear hK
      refine e_region_text rfl ?_
      refine q_move rfl rfl ?_
      refine q_add rfl rfl (wr64 (by omega) (by omega)) rfl ?_
      refine q_assign rfl rfl ?_
      refine eseq_nil ?_
      refine ⟨l1.length - (k + 1), _, by omega, ⟨k + 1, by omega, rfl, ?_, rfl, rfl⟩, Sub.cons rfl (Sub.cons rfl (Sub.cons rfl (Sub.nil _)))⟩
      have hh : l1[k] = l2[k] := by simpa [nth_eq hlt, nth_eq hlt2] using hb
      rw [List.take_succ_eq_append_getElem hlt, List.take_succ_eq_append_getElem hlt2, ht, hh]
  · skip
    have hge : k = l1.length := by simp at hb; omega
    refine e_exit ?_
    clear hK
    refine hK _ _ ?_; clear hK
    refine e_seq fun K hK => ?_
    refine e_region_text rfl ?_
    refine q_assign rfl rfl ?_
    refine eseq_nil ?_
    refine hK _ _ ?_; clear hK
    refine e_ret ?_
    refine ⟨_, res1 rfl rfl, ?_, hT⟩
    have : l1 = l2 := by
      rw [← List.take_of_length_le (Nat.le_of_eq hge.symm) (l := l1), ← List.take_of_length_le (show l2.length ≤ k by omega) (l := l2)]; exact ht
    simp [this]

theorem sameLists {S1 S2 : Nat → Prop} {v1 v2 : Value} {l1 l2 : List (List Int)} (h1 : IsSlice Ty.int.slice w S1 v1 l1) (h2 : IsSlice Ty.int.slice w S2 v2 l2) (hl : l1.length ≤ 1000000000) (hl' : ∀ x ∈ l1, x.length ≤ 1000000000) :
    Gives Try.prog 28 [v1, v2] w fun v w' => v = .bool (decide (l1 = l2)) ∧ Below w.heap.size w w' := by
  refine fn_of Try.func28 rfl Try.ntmps28 (Nat.le_of_ble_eq_true rfl) ?_
  have hT := Below.refl w.heap.size w
  refine e_seq fun K hK => ?_
  refine e_region_text rfl ?_
  refine q_assign rfl rfl ?_
  refine eseq_nil ?_
  refine hK _ _ ?_; clear hK
  refine e_seq fun K hK => ?_
  refine e_seq fun K hK => ?_
  refine e_region_text rfl ?_
  refine q_move rfl rfl ?_
  refine q_lenS rfl h1 rfl ?_
  refine q_move rfl rfl ?_
  refine q_lenS rfl h2 rfl ?_
  refine q_neq rfl rfl rfl ?_
  refine eseq_nil ?_
  refine hK _ _ ?_; clear hK
  refine e_cond rfl (fun hb => ?_) (fun hb => ?_)
  · skip
    refine e_seq fun K hK => ?_
    refine e_region_text rfl ?_
    refine q_assign rfl rfl ?_
    refine eseq_nil ?_
    refine hK _ _ ?_; clear hK
    refine e_ret ?_
    have : l1 ≠ l2 := by rintro rfl; simp at hb
    exact ⟨_, res1 rfl rfl, by simp [this], hT⟩
  have hll : l1.length = l2.length := by simp at hb; omega
  refine e_skip ?_
  refine hK _ _ ?_; clear hK
  refine e_seq fun K hK => ?_
  refine e_seq fun K hK => ?_
  refine e_region_text rfl ?_
  refine q_assign rfl rfl ?_
  refine eseq_nil ?_
  refine hK _ _ ?_; clear hK
  refine e_block ?_
  refine e_loop (fun n E w' => ∃ k : Nat, k ≤ l1.length ∧ n = l1.length - k ∧ l1.take k = l2.take k ∧ Below w.heap.size w w' ∧ E = [(0, v1), (1, v2), (5, .int .i64 k)]) l1.length ⟨_, ⟨0, by omega, by omega, rfl, hT, rfl⟩, Sub.cons rfl (Sub.cons rfl (Sub.cons rfl (Sub.nil _)))⟩ ?_
  rintro n E w' ⟨k, hk, rfl, ht, hT, rfl⟩
  replace h1 := h1.ext hT
  replace h2 := h2.ext hT
  refine e_seq fun K hK => ?_
  refine e_seq fun K hK => ?_
  refine e_region_text rfl ?_
  refine q_move rfl rfl ?_
  refine q_move rfl rfl ?_
  refine q_lenS rfl h1 rfl ?_
  refine q_lss rfl rfl rfl ?_
  refine eseq_nil ?_
  refine hK _ _ ?_; clear hK
  refine e_cond rfl (fun hb => ?_) (fun hb => ?_)
  · skip
    have hlt : k < l1.length := by simpa using hb
    have hlt2 : k < l2.length := by omega
    refine e_skip ?_
    refine hK _ _ ?_; clear hK
    refine e_seq fun K hK => ?_
    refine e_block ?_
    refine e_seq fun K hK => ?_
    refine e_region_draw mixed (fun _ => False) [0, 0, 3, 7, 0, 0, 48, 112, 255, 511] [] [0, 1, 2, 3, 4, 5, 6, 7, 8, 9] (by kernel_rfl) ?_
    refine q_move rfl rfl ?_
    refine q_move rfl rfl ?_
    first | refine q_indexSn (by infer_instance) rfl h1 rfl (by first | omega | decide) rfl fun b19 o19 f19 => ?_ | refine q_indexS (by infer_instance) rfl h1 rfl (by first | omega | decide) (by first | omega | decide) rfl fun b19 o19 f19 => ?_
    refine q_loadS rfl f19 rfl fun v20 f20 => ?_
    refine q_move rfl rfl ?_
    refine q_move rfl rfl ?_
    first | refine q_indexSn (by infer_instance) rfl h2 rfl (by first | omega | decide) rfl fun b23 o23 f23 => ?_ | refine q_indexS (by infer_instance) rfl h2 rfl (by first | omega | decide) (by first | omega | decide) rfl fun b23 o23 f23 => ?_
    refine q_loadS rfl f23 rfl fun v24 f24 => ?_
    refine q_call rfl (sameInts f20 f24 (by rw [nth_eq hlt]; exact hl' _ (by simp))) rfl ?_
    rintro _ w1 ⟨rfl, hB1⟩; refine ⟨fun _ => .of_below hB1, ?_⟩
    replace h1 := h1.ext hB1
    replace h2 := h2.ext hB1
    replace f19 := f19.ext hB1
    replace f20 := f20.ext hB1
    replace f23 := f23.ext hB1
    replace f24 := f24.ext hB1
    replace hT := hT.trans (Below.mono hB1 hT.size)
    refine q_not rfl rfl ?_
    refine eseq_nil ?_
    refine hK _ _ ?_; clear hK
    refine e_cond rfl (fun hb => ?_) (fun hb => ?_)
    · skip
      refine e_seq fun K hK => ?_
      refine e_region_text rfl ?_
      refine q_assign rfl rfl ?_
      refine eseq_nil ?_
      refine hK _ _ ?_; clear hK
      refine e_ret ?_
      have : l1 ≠ l2 := by rintro rfl; simp at hb
      exact ⟨_, res1 rfl rfl, by simp [this], hT⟩
    · skip
      refine e_skip ?_
      refine hK _ _ ?_; clear hK
      refine e_region_text rfl ?_
      refine q_move rfl rfl ?_
      refine q_add rfl rfl (wr64 (by omega) (by omega)) rfl ?_
      refine q_assign rfl rfl ?_
      refine eseq_nil ?_
      refine ⟨l1.length - (k + 1), _, by omega, ⟨k + 1, by omega, rfl, ?_, hT, rfl⟩, Sub.cons rfl (Sub.cons rfl (Sub.cons rfl (Sub.nil _)))⟩
      have hh : l1[k] = l2[k] := by simpa [nth_eq hlt, nth_eq hlt2] using hb
      rw [List.take_succ_eq_append_getElem hlt, List.take_succ_eq_append_getElem hlt2, ht, hh]
  · skip
    have hge : k = l1.length := by simp at hb; omega
    refine e_exit ?_
    clear hK
    refine hK _ _ ?_; clear hK
    refine e_seq fun K hK => ?_
    refine e_region_text rfl ?_
    refine q_assign rfl rfl ?_
    refine eseq_nil ?_
    refine hK _ _ ?_; clear hK
    refine e_ret ?_
    refine ⟨_, res1 rfl rfl, ?_, hT⟩
    have : l1 = l2 := by
      rw [← List.take_of_length_le (Nat.le_of_eq hge.symm) (l := l1), ← List.take_of_length_le (show l2.length ≤ k by omega) (l := l2)]; exact ht
    simp [this]
end Go.Proofs.Ythbnbkgijdkcbaa
