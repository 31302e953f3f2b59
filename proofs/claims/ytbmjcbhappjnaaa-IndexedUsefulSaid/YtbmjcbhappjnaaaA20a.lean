/- Printed walks: A20a. -/
import Derived.Test.YtbmjcbhappjnaaaA16
import Derived.Test.YtbmjcbhappjnaaaLibE
import Derived.Test.YtbmjcbhappjnaaaShelf
set_option linter.unusedVariables false
set_option linter.unusedSimpArgs false
namespace Go.Mine
open Go.RowKit
def cmpI (x y : Int) : Int := if x < y then -1 else if y < x then 1 else 0
def cmpP_cf (x y : Pt) : Int := (if (cmpI x.proc y.proc) ≠ 0 then cmpI x.proc y.proc else (cmpI x.index y.index))
def sortP_cf (x y : Pt2) : Int := (if (cmpP_cf x.x0 y.x0) ≠ 0 then cmpP_cf x.x0 y.x0 else (cmpP_cf x.x1 y.x1))
end Go.Mine
namespace Go.Proofs.Ytbmjcbhappjnaaa
open Go.RowKit Go.Mine
attribute [local irreducible] eseq ewp iter
theorem cmpW (W : World) (x y : Int) : Calls Try.prog 115 #[.int .i64 x, .int .i64 y] W fun e w' => e = .returned (.int .i64 (cmpI x y)) ∧ w' = W := by
  go_enter Try.func115, Try.ntmps115
  go_wp2
  all_goals (go_ret; refine ⟨?_, rfl⟩; unfold cmpI; simp_all)
  all_goals (rw [if_neg (by omega), if_neg (by omega)])
theorem orW2 (W : World) (b : Nat) (x y : Int) (h0 : W.cell? ⟨b, 0, none⟩ = some (.int .i64 x)) (h1 : W.cell? ⟨b, 1, none⟩ = some (.int .i64 y)) : Calls Try.prog 114 #[.slice (some ⟨b, 0, none⟩) 2 2] W fun e w' => e = .returned (.int .i64 (if x ≠ 0 then x else y)) ∧ w' = W := by
  obtain ⟨r, hr⟩ : ∃ r, r = (if x ≠ 0 then x else y) := ⟨_, rfl⟩
  rw [← hr]
  have HR : Hid (r = (if x ≠ 0 then x else y)) := hr
  clear hr
  go_enter Try.func114, Try.ntmps114
  go_wp2
  refine wp_loop_rounds 3 ?_
  rw [rounds_succ]
  go_wp2
  · go_ret; refine ⟨?_, rfl⟩; have := HR.out; simp_all
  rw [rounds_succ]
  go_wp2
  · go_ret; refine ⟨?_, rfl⟩; have := HR.out; simp_all
  rw [rounds_succ]
  go_wp2
  go_ret; refine ⟨?_, rfl⟩; have := HR.out; simp_all
set_option maxRecDepth 4000 in
theorem cmpP_cmp (W : World) (x y : Pt) : Calls Try.prog 141 #[.agg (Pt.cells_ x).toArray, .agg (Pt.cells_ y).toArray] W fun e w' => e = .returned (.int .i64 (cmpP_cf x y)) ∧ ∃ q os', w' = Sort.grow (W.drewN q) os' := by
  obtain ⟨w2, hw2⟩ : ∃ w2, w2 = (W.alloc (.cells ([.int .i64 x.proc, .int .i64 x.index] : List Value).toArray 127)).alloc (.cells ([.int .i64 y.proc, .int .i64 y.index] : List Value).toArray 127) := ⟨_, rfl⟩
  have hA0 : Blk w2 W.heap.size [.int .i64 x.proc, .int .i64 x.index] 127 := by rw [hw2]; exact (alloc_blkD W _ _).ext (alloc_belowD _ _)
  have hA1 : Blk w2 (W.alloc (.cells ([.int .i64 x.proc, .int .i64 x.index] : List Value).toArray 127)).heap.size [.int .i64 y.proc, .int .i64 y.index] 127 := by rw [hw2]; exact alloc_blkD _ _ _
  have hB0 : Blk w2.drew W.heap.size [.int .i64 x.proc, .int .i64 x.index] 127 := hA0
  have hB1 : Blk w2.drew (W.alloc (.cells ([.int .i64 x.proc, .int .i64 x.index] : List Value).toArray 127)).heap.size [.int .i64 y.proc, .int .i64 y.index] 127 := hA1
  have hG : Gr W w2 := by rw [hw2]; exact ((Gr.refl W).alloc _).alloc _
  replace hG := hG.drew
  refine d_fn (args := [.agg (Pt.cells_ x).toArray, .agg (Pt.cells_ y).toArray]) Try.func141 rfl Try.ntmps141 (Nat.le_of_ble_eq_true rfl) ?_
  refine d_seq fun K hK => ?_
  refine d_region_text rfl ?_
  refine d_box (cs := [.int .i64 x.proc, .int .i64 x.index]) rfl rfl rfl ?_
  refine d_box (cs := [.int .i64 y.proc, .int .i64 y.index]) rfl rfl rfl ?_
  refine d_assign rfl rfl ?_
  refine d_nil ?_
  refine hK _ _ ?_; clear hK
  refine d_seq fun K hK => ?_
  rw [← hw2]
  refine d_region_draw mixed (fun _ => False) [0, 1, 0, 4, 15, 0, 32, 0, 128, 511, 1023, 2047, 4095] [4] [0, 1, 2, 3, 5, 6, 7, 8, 4, 9, 10, 11, 12] (by kernel_rfl) ?_
  refine d_field rfl rfl ?_
  refine d_load rfl (Blk.cell hB0 rfl) rfl ?_
  refine d_field rfl rfl ?_
  refine d_load rfl (Blk.cell hB1 rfl) rfl ?_
  refine d_field rfl rfl ?_
  refine d_load rfl (Blk.cell hB0 rfl) rfl ?_
  refine d_field rfl rfl ?_
  refine d_load rfl (Blk.cell hB1 rfl) rfl ?_
  refine d_call rfl (cmpW _ _ _) rfl ?_
  refine d_call rfl (cmpW _ _ _) rfl ?_
  refine d_sliceN ((Parts.cons rfl rfl (Parts.cons rfl rfl Parts.nil))) rfl rfl rfl rfl rfl ?_
  have hB2 := alloc_blkD w2.drew [.int .i64 (cmpI x.proc y.proc), .int .i64 (cmpI x.index y.index)] 3
  refine d_call rfl (orW2 _ _ _ _ (Blk.cell hB2 rfl) (Blk.cell hB2 rfl)) rfl ?_
  refine d_assign rfl rfl ?_
  refine d_nil ?_
  refine hK _ _ ?_; clear hK
  exact d_ret ⟨rfl, _, res1 rfl rfl, rfl, hG.alloc _⟩
set_option maxRecDepth 4000 in
theorem sortP_cmp (W : World) (x y : Pt2) : Calls Try.prog 140 #[.agg (Pt2.cells_ x).toArray, .agg (Pt2.cells_ y).toArray] W fun e w' => e = .returned (.int .i64 (sortP_cf x y)) ∧ ∃ q os', w' = Sort.grow (W.drewN q) os' := by
  obtain ⟨w2, hw2⟩ : ∃ w2, w2 = (W.alloc (.cells ([.int .i64 x.x0.proc, .int .i64 x.x0.index, .int .i64 x.x1.proc, .int .i64 x.x1.index] : List Value).toArray 189)).alloc (.cells ([.int .i64 y.x0.proc, .int .i64 y.x0.index, .int .i64 y.x1.proc, .int .i64 y.x1.index] : List Value).toArray 189) := ⟨_, rfl⟩
  have hA0 : Blk w2 W.heap.size [.int .i64 x.x0.proc, .int .i64 x.x0.index, .int .i64 x.x1.proc, .int .i64 x.x1.index] 189 := by rw [hw2]; exact (alloc_blkD W _ _).ext (alloc_belowD _ _)
  have hA1 : Blk w2 (W.alloc (.cells ([.int .i64 x.x0.proc, .int .i64 x.x0.index, .int .i64 x.x1.proc, .int .i64 x.x1.index] : List Value).toArray 189)).heap.size [.int .i64 y.x0.proc, .int .i64 y.x0.index, .int .i64 y.x1.proc, .int .i64 y.x1.index] 189 := by rw [hw2]; exact alloc_blkD _ _ _
  have hB0 : Blk w2.drew W.heap.size [.int .i64 x.x0.proc, .int .i64 x.x0.index, .int .i64 x.x1.proc, .int .i64 x.x1.index] 189 := hA0
  have hB1 : Blk w2.drew (W.alloc (.cells ([.int .i64 x.x0.proc, .int .i64 x.x0.index, .int .i64 x.x1.proc, .int .i64 x.x1.index] : List Value).toArray 189)).heap.size [.int .i64 y.x0.proc, .int .i64 y.x0.index, .int .i64 y.x1.proc, .int .i64 y.x1.index] 189 := hA1
  have hG : Gr W w2 := by rw [hw2]; exact ((Gr.refl W).alloc _).alloc _
  replace hG := hG.drew
  refine d_fn (args := [.agg (Pt2.cells_ x).toArray, .agg (Pt2.cells_ y).toArray]) Try.func140 rfl Try.ntmps140 (Nat.le_of_ble_eq_true rfl) ?_
  refine d_seq fun K hK => ?_
  refine d_region_text rfl ?_
  refine d_box (cs := [.int .i64 x.x0.proc, .int .i64 x.x0.index, .int .i64 x.x1.proc, .int .i64 x.x1.index]) rfl rfl rfl ?_
  refine d_box (cs := [.int .i64 y.x0.proc, .int .i64 y.x0.index, .int .i64 y.x1.proc, .int .i64 y.x1.index]) rfl rfl rfl ?_
  refine d_assign rfl rfl ?_
  refine d_nil ?_
  refine hK _ _ ?_; clear hK
  refine d_seq fun K hK => ?_
  rw [← hw2]
  refine d_region_draw mixed (fun _ => False) [0, 1, 0, 4, 15, 0, 32, 0, 128, 511, 1023, 2047, 4095] [4] [0, 1, 2, 3, 5, 6, 7, 8, 4, 9, 10, 11, 12] (by kernel_rfl) ?_
  refine d_indexC (k := 0) rfl rfl rfl rfl rfl ?_
  refine d_loadAgg rfl (Blk.cellsAt hB0 0 2 rfl) rfl rfl ?_
  refine d_indexC (k := 0) rfl rfl rfl rfl rfl ?_
  refine d_loadAgg rfl (Blk.cellsAt hB1 0 2 rfl) rfl rfl ?_
  refine d_indexC (k := 1) rfl rfl rfl rfl rfl ?_
  refine d_loadAgg rfl (Blk.cellsAt hB0 2 2 rfl) rfl rfl ?_
  refine d_indexC (k := 1) rfl rfl rfl rfl rfl ?_
  refine d_loadAgg rfl (Blk.cellsAt hB1 2 2 rfl) rfl rfl ?_
  refine d_callG rfl (cmpP_cmp _ x.x0 y.x0) rfl fun w3 hg3 => ?_
  replace hB0 := hB0.ext hg3.below; replace hB1 := hB1.ext hg3.below; replace hG := hG.trans hg3
  refine d_callG rfl (cmpP_cmp _ x.x1 y.x1) rfl fun w4 hg4 => ?_
  replace hB0 := hB0.ext hg4.below; replace hB1 := hB1.ext hg4.below; replace hG := hG.trans hg4
  refine d_sliceN ((Parts.cons rfl rfl (Parts.cons rfl rfl Parts.nil))) rfl rfl rfl rfl rfl ?_
  have hB2 := alloc_blkD w4 [.int .i64 (cmpP_cf x.x0 y.x0), .int .i64 (cmpP_cf x.x1 y.x1)] 3
  refine d_call rfl (orW2 _ _ _ _ (Blk.cell hB2 rfl) (Blk.cell hB2 rfl)) rfl ?_
  refine d_assign rfl rfl ?_
  refine d_nil ?_
  refine hK _ _ ?_; clear hK
  exact d_ret ⟨rfl, _, res1 rfl rfl, rfl, hG.alloc _⟩
end Go.Proofs.Ytbmjcbhappjnaaa
