/- Printed walks: A31c. -/
import Derived.Test.YtddohdppmejjoaaA31b
import Derived.Test.YtddohdppmejjoaaLibE
import Derived.Test.YtddohdppmejjoaaShelf
set_option linter.unusedVariables false
set_option linter.unusedSimpArgs false
namespace Go.Mine
open Go.RowKit
def cmpI (x y : Int) : Int := if x < y then -1 else if y < x then 1 else 0
def sortE_cf (x y : EndI) : Int := (if (cmpI x.proc y.proc) ≠ 0 then cmpI x.proc y.proc else (if (cmpI y.inc x.inc) ≠ 0 then cmpI y.inc x.inc else (cmpI x.index y.index)))
def sortF_cf (x y : EndI) : Int := (if (cmpI x.proc y.proc) ≠ 0 then cmpI x.proc y.proc else (cmpI x.inc y.inc))
end Go.Mine
namespace Go.Proofs.Ytddohdppmejjoaa
open Go.RowKit Go.Mine
attribute [local irreducible] eseq ewp iter
theorem cmpW (W : World) (x y : Int) : Calls Try.prog 74 #[.int .i64 x, .int .i64 y] W fun e w' => e = .returned (.int .i64 (cmpI x y)) ∧ w' = W := by
  go_enter Try.func74, Try.ntmps74
  go_wp2
  all_goals (go_ret; refine ⟨?_, rfl⟩; unfold cmpI; simp_all)
  all_goals (rw [if_neg (by omega), if_neg (by omega)])
theorem orW2 (W : World) (b : Nat) (x y : Int) (h0 : W.cell? ⟨b, 0, none⟩ = some (.int .i64 x)) (h1 : W.cell? ⟨b, 1, none⟩ = some (.int .i64 y)) : Calls Try.prog 73 #[.slice (some ⟨b, 0, none⟩) 2 2] W fun e w' => e = .returned (.int .i64 (if x ≠ 0 then x else y)) ∧ w' = W := by
  obtain ⟨r, hr⟩ : ∃ r, r = (if x ≠ 0 then x else y) := ⟨_, rfl⟩
  rw [← hr]
  have HR : Hid (r = (if x ≠ 0 then x else y)) := hr
  clear hr
  go_enter Try.func73, Try.ntmps73
  go_wp2
  refine wp_loop_rounds 3 ?_
  rw [rounds_succ]
  go_wp2
  · go_ret; refine ⟨?_, rfl⟩; have := HR.out; simp_all
  rw [rounds_succ]
  go_wp2
  · go_ret; refine ⟨?_, rfl⟩; have := HR.out; simp_all
  rw [rounds_succ]
  go_wp2
  go_ret; refine ⟨?_, rfl⟩; have := HR.out; simp_all
theorem orW3 (W : World) (b : Nat) (x y z : Int) (h0 : W.cell? ⟨b, 0, none⟩ = some (.int .i64 x)) (h1 : W.cell? ⟨b, 1, none⟩ = some (.int .i64 y)) (h2 : W.cell? ⟨b, 2, none⟩ = some (.int .i64 z)) : Calls Try.prog 73 #[.slice (some ⟨b, 0, none⟩) 3 3] W fun e w' => e = .returned (.int .i64 (if x ≠ 0 then x else (if y ≠ 0 then y else z))) ∧ w' = W := by
  obtain ⟨r, hr⟩ : ∃ r, r = (if x ≠ 0 then x else (if y ≠ 0 then y else z)) := ⟨_, rfl⟩
  rw [← hr]
  have HR : Hid (r = (if x ≠ 0 then x else (if y ≠ 0 then y else z))) := hr
  clear hr
  go_enter Try.func73, Try.ntmps73
  go_wp2
  refine wp_loop_rounds 4 ?_
  rw [rounds_succ]
  go_wp2
  · go_ret; refine ⟨?_, rfl⟩; have := HR.out; simp_all
  rw [rounds_succ]
  go_wp2
  · go_ret; refine ⟨?_, rfl⟩; have := HR.out; simp_all
  rw [rounds_succ]
  go_wp2
  · go_ret; refine ⟨?_, rfl⟩; have := HR.out; simp_all
  rw [rounds_succ]
  go_wp2
  go_ret; refine ⟨?_, rfl⟩; have := HR.out; simp_all
set_option maxRecDepth 4000 in
theorem sortE_cmp (W : World) (x y : EndI) : Calls Try.prog 72 #[.agg (EndI.cells_ x).toArray, .agg (EndI.cells_ y).toArray] W fun e w' => e = .returned (.int .i64 (sortE_cf x y)) ∧ ∃ q os', w' = Sort.grow (W.drewN q) os' := by
  obtain ⟨w2, hw2⟩ : ∃ w2, w2 = (W.alloc (.cells ([.int .i64 x.proc, .int .i64 x.inc, .int .i64 x.index] : List Value).toArray 41)).alloc (.cells ([.int .i64 y.proc, .int .i64 y.inc, .int .i64 y.index] : List Value).toArray 41) := ⟨_, rfl⟩
  have hA0 : Blk w2 W.heap.size [.int .i64 x.proc, .int .i64 x.inc, .int .i64 x.index] 41 := by rw [hw2]; exact (alloc_blkD W _ _).ext (alloc_belowD _ _)
  have hA1 : Blk w2 (W.alloc (.cells ([.int .i64 x.proc, .int .i64 x.inc, .int .i64 x.index] : List Value).toArray 41)).heap.size [.int .i64 y.proc, .int .i64 y.inc, .int .i64 y.index] 41 := by rw [hw2]; exact alloc_blkD _ _ _
  have hB0 : Blk w2.drew W.heap.size [.int .i64 x.proc, .int .i64 x.inc, .int .i64 x.index] 41 := hA0
  have hB1 : Blk w2.drew (W.alloc (.cells ([.int .i64 x.proc, .int .i64 x.inc, .int .i64 x.index] : List Value).toArray 41)).heap.size [.int .i64 y.proc, .int .i64 y.inc, .int .i64 y.index] 41 := hA1
  have hG : Gr W w2 := by rw [hw2]; exact ((Gr.refl W).alloc _).alloc _
  replace hG := hG.drew
  refine d_fn (args := [.agg (EndI.cells_ x).toArray, .agg (EndI.cells_ y).toArray]) Try.func72 rfl Try.ntmps72 (Nat.le_of_ble_eq_true rfl) ?_
  refine d_seq fun K hK => ?_
  refine d_region_text rfl ?_
  refine d_box (cs := [.int .i64 x.proc, .int .i64 x.inc, .int .i64 x.index]) rfl rfl rfl ?_
  refine d_box (cs := [.int .i64 y.proc, .int .i64 y.inc, .int .i64 y.index]) rfl rfl rfl ?_
  refine d_assign rfl rfl ?_
  refine d_nil ?_
  refine hK _ _ ?_; clear hK
  refine d_seq fun K hK => ?_
  rw [← hw2]
  refine d_region_draw mixed (fun _ => False) [0, 1, 0, 4, 15, 0, 32, 0, 128, 511, 0, 1024, 0, 4096, 16383, 32767, 65535, 131071] [4, 9] [0, 1, 2, 3, 5, 6, 7, 8, 10, 11, 12, 13, 4, 9, 14, 15, 16, 17] (by kernel_rfl) ?_
  refine d_field rfl rfl ?_
  refine d_load rfl (Blk.cell hB0 rfl) rfl ?_
  refine d_field rfl rfl ?_
  refine d_load rfl (Blk.cell hB1 rfl) rfl ?_
  refine d_field rfl rfl ?_
  refine d_load rfl (Blk.cell hB1 rfl) rfl ?_
  refine d_field rfl rfl ?_
  refine d_load rfl (Blk.cell hB0 rfl) rfl ?_
  refine d_field rfl rfl ?_
  refine d_load rfl (Blk.cell hB0 rfl) rfl ?_
  refine d_field rfl rfl ?_
  refine d_load rfl (Blk.cell hB1 rfl) rfl ?_
  refine d_call rfl (cmpW _ _ _) rfl ?_
  refine d_call rfl (cmpW _ _ _) rfl ?_
  refine d_call rfl (cmpW _ _ _) rfl ?_
  refine d_sliceN ((Parts.cons rfl rfl (Parts.cons rfl rfl (Parts.cons rfl rfl Parts.nil)))) rfl rfl rfl rfl rfl ?_
  have hB2 := alloc_blkD w2.drew [.int .i64 (cmpI x.proc y.proc), .int .i64 (cmpI y.inc x.inc), .int .i64 (cmpI x.index y.index)] 3
  refine d_call rfl (orW3 _ _ _ _ _ (Blk.cell hB2 rfl) (Blk.cell hB2 rfl) (Blk.cell hB2 rfl)) rfl ?_
  refine d_assign rfl rfl ?_
  refine d_nil ?_
  refine hK _ _ ?_; clear hK
  exact d_ret ⟨rfl, _, res1 rfl rfl, rfl, hG.alloc _⟩
set_option maxRecDepth 4000 in
theorem sortF_cmp (W : World) (x y : EndI) : Calls Try.prog 75 #[.agg (EndI.cells_ x).toArray, .agg (EndI.cells_ y).toArray] W fun e w' => e = .returned (.int .i64 (sortF_cf x y)) ∧ ∃ q os', w' = Sort.grow (W.drewN q) os' := by
  obtain ⟨w2, hw2⟩ : ∃ w2, w2 = (W.alloc (.cells ([.int .i64 x.proc, .int .i64 x.inc, .int .i64 x.index] : List Value).toArray 41)).alloc (.cells ([.int .i64 y.proc, .int .i64 y.inc, .int .i64 y.index] : List Value).toArray 41) := ⟨_, rfl⟩
  have hA0 : Blk w2 W.heap.size [.int .i64 x.proc, .int .i64 x.inc, .int .i64 x.index] 41 := by rw [hw2]; exact (alloc_blkD W _ _).ext (alloc_belowD _ _)
  have hA1 : Blk w2 (W.alloc (.cells ([.int .i64 x.proc, .int .i64 x.inc, .int .i64 x.index] : List Value).toArray 41)).heap.size [.int .i64 y.proc, .int .i64 y.inc, .int .i64 y.index] 41 := by rw [hw2]; exact alloc_blkD _ _ _
  have hB0 : Blk w2.drew W.heap.size [.int .i64 x.proc, .int .i64 x.inc, .int .i64 x.index] 41 := hA0
  have hB1 : Blk w2.drew (W.alloc (.cells ([.int .i64 x.proc, .int .i64 x.inc, .int .i64 x.index] : List Value).toArray 41)).heap.size [.int .i64 y.proc, .int .i64 y.inc, .int .i64 y.index] 41 := hA1
  have hG : Gr W w2 := by rw [hw2]; exact ((Gr.refl W).alloc _).alloc _
  replace hG := hG.drew
  refine d_fn (args := [.agg (EndI.cells_ x).toArray, .agg (EndI.cells_ y).toArray]) Try.func75 rfl Try.ntmps75 (Nat.le_of_ble_eq_true rfl) ?_
  refine d_seq fun K hK => ?_
  refine d_region_text rfl ?_
  refine d_box (cs := [.int .i64 x.proc, .int .i64 x.inc, .int .i64 x.index]) rfl rfl rfl ?_
  refine d_box (cs := [.int .i64 y.proc, .int .i64 y.inc, .int .i64 y.index]) rfl rfl rfl ?_
  refine d_assign rfl rfl ?_
  refine d_nil ?_
  refine hK _ _ ?_; clear hK
  refine d_seq fun K hK => ?_
  rw [← hw2]
  refine d_region_draw mixed (fun _ => False) [0, 1, 0, 4, 15, 0, 32, 0, 128, 511, 1023, 2047, 4095] [4] [0, 1, 2, 3, 5, 6, 7, 8, 4, 9, 10, 11, 12] (by kernel_rfl) ?_
  refine d_field rfl rfl ?_
  refine d_load rfl (Blk.cell hB0 rfl) rfl ?_
  refine d_field rfl rfl ?_
  refine d_load rfl (Blk.cell hB1 rfl) rfl ?_
  refine d_field rfl rfl ?_
  refine d_load rfl (Blk.cell hB0 rfl) rfl ?_
  refine d_field rfl rfl ?_
  refine d_load rfl (Blk.cell hB1 rfl) rfl ?_
  refine d_call rfl (cmpW _ _ _) rfl ?_
  refine d_call rfl (cmpW _ _ _) rfl ?_
  refine d_sliceN ((Parts.cons rfl rfl (Parts.cons rfl rfl Parts.nil))) rfl rfl rfl rfl rfl ?_
  have hB2 := alloc_blkD w2.drew [.int .i64 (cmpI x.proc y.proc), .int .i64 (cmpI x.inc y.inc)] 3
  refine d_call rfl (orW2 _ _ _ _ (Blk.cell hB2 rfl) (Blk.cell hB2 rfl)) rfl ?_
  refine d_assign rfl rfl ?_
  refine d_nil ?_
  refine hK _ _ ?_; clear hK
  exact d_ret ⟨rfl, _, res1 rfl rfl, rfl, hG.alloc _⟩
end Go.Proofs.Ytddohdppmejjoaa
