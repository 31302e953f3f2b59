/-
  DERIVED: THE SHELF's CONTRACTS AT THIS DUMP, IN PLAIN WORDS (tools/lay-plain.mjs out of 'YtbmjcbhappjnaaaShelf.lean', which tools/lay-shelf.mjs wrote): THE SAME DECLARATIONS UNDER THE SAME NAMES: 'import', 'namespace', 'open', 'def', 'theorem' AND NOTHING ELSE: no command of the shelf's: FOR A HAND-IN. Each laying: the table of numbers ('.._ren') and one theorem, a field a fact of the dump's own or the kernel's comparison; each contract: ONE APPLICATION.
-/
import Derived.Shelf.SlSortCmp.NoneTotal
import Derived.Shelf.Spec.SlicesGrow
import Derived.Test.YtbmjcbhappjnaaaProg
import Derived.Test.YtbmjcbhappjnaaaA16
import Derived.Test.YtbmjcbhappjnaaaLibE
namespace Go.Proofs
open Go.Shelf
def Try.sort139_ren : Go.Shelf.Ren := ⟨fun | 6 => 139 | 15 => 137 | 14 => 157 | 28 => 155 | 29 => 156 | 20 => 163 | 21 => 164 | 22 => 165 | 23 => 166 | 24 => 167 | 25 => 168 | 26 => 169 | 27 => 170 | 46 => 172 | 47 => 159 | 48 => 160 | 49 => 173 | 50 => 174 | 57 => 175 | n => n, fun | 22 => 185 | 24 => 189 | 25 => 208 | 3 => 3 | 39 => 205 | 0 => 0 | 53 => 219 | 55 => 221 | 4 => 4 | 46 => 212 | 45 => 211 | 50 => 216 | 5 => 5 | 9 => 9 | 66 => 223 | 70 => 227 | 76 => 234 | 77 => 235 | n => n, fun | n => n⟩
theorem Try.sort139 : Go.Proofs.SlLaysF0.n6 Try.prog Try.sort139_ren := {
  mixed := by kernel_rfl
  f6 := ⟨Try.f139.name, by decide, Try.func139.trans (congrArg some (by kernel_rfl))⟩
  f14 := ⟨Try.f157.name, by decide, Try.func157.trans (congrArg some (by kernel_rfl))⟩
  f15 := Try.func137.trans (congrArg some (by kernel_rfl))
  f20 := ⟨Try.f163.name, by decide, Try.func163.trans (congrArg some (by kernel_rfl))⟩
  f21 := ⟨Try.f164.name, by decide, Try.func164.trans (congrArg some (by kernel_rfl))⟩
  f22 := ⟨Try.f165.name, by decide, Try.func165.trans (congrArg some (by kernel_rfl))⟩
  f23 := ⟨Try.f166.name, by decide, Try.func166.trans (congrArg some (by kernel_rfl))⟩
  f24 := ⟨Try.f167.name, by decide, Try.func167.trans (congrArg some (by kernel_rfl))⟩
  f25 := ⟨Try.f168.name, by decide, Try.func168.trans (congrArg some (by kernel_rfl))⟩
  f26 := ⟨Try.f169.name, by decide, Try.func169.trans (congrArg some (by kernel_rfl))⟩
  f27 := ⟨Try.f170.name, by decide, Try.func170.trans (congrArg some (by kernel_rfl))⟩
  f28 := Try.func155.trans (congrArg some (by kernel_rfl))
  f29 := Try.func156.trans (congrArg some (by kernel_rfl))
  f46 := ⟨Try.f172.name, by decide, Try.func172.trans (congrArg some (by kernel_rfl))⟩
  f47 := Try.func159.trans (congrArg some (by kernel_rfl))
  f48 := Try.func160.trans (congrArg some (by kernel_rfl))
  f49 := ⟨Try.f173.name, by decide, Try.func173.trans (congrArg some (by kernel_rfl))⟩
  f50 := ⟨Try.f174.name, by decide, Try.func174.trans (congrArg some (by kernel_rfl))⟩
  f57 := ⟨Try.f175.name, by decide, Try.func175.trans (congrArg some (by kernel_rfl))⟩
  t0 := Try.underlying0
  a0 := Try.isAgg0
  z0 := Try.sizeOf0
  v0 := Try.zeroValue0
  t3 := Try.underlying3
  a3 := Try.isAgg3
  z3 := Try.sizeOf3
  v3 := Try.zeroValue3
  t4 := Try.underlying4
  a4 := Try.isAgg4
  z4 := Try.sizeOf4
  v4 := Try.zeroValue4
  t5 := Try.underlying5
  a5 := Try.isAgg5
  z5 := Try.sizeOf5
  v5 := Try.zeroValue5
  t9 := Try.underlying9
  a9 := Try.isAgg9
  z9 := Try.sizeOf9
  v9 := Try.zeroValue9
  t22 := Try.underlying185
  a22 := Try.isAgg185
  z22 := Try.sizeOf185
  v22 := Try.zeroValue185
  t25 := Try.underlying208
  a25 := Try.isAgg208
  z25 := Try.sizeOf208
  v25 := Try.zeroValue208
  t39 := Try.underlying205
  a39 := Try.isAgg205
  z39 := Try.sizeOf205
  v39 := Try.zeroValue205
  t45 := Try.underlying211
  a45 := Try.isAgg211
  z45 := Try.sizeOf211
  v45 := Try.zeroValue211
  t46 := Try.underlying212
  a46 := Try.isAgg212
  z46 := Try.sizeOf212
  v46 := Try.zeroValue212
  t50 := Try.underlying216
  a50 := Try.isAgg216
  z50 := Try.sizeOf216
  v50 := Try.zeroValue216
  t53 := Try.underlying219
  a53 := Try.isAgg219
  z53 := Try.sizeOf219
  v53 := Try.zeroValue219
  t55 := Try.underlying221
  a55 := Try.isAgg221
  z55 := Try.sizeOf221
  v55 := Try.zeroValue221
  t66 := Try.underlying223
  a66 := Try.isAgg223
  z66 := Try.sizeOf223
  v66 := Try.zeroValue223
  t70 := Try.underlying227
  a70 := Try.isAgg227
  z70 := Try.sizeOf227
  v70 := Try.zeroValue227
  t76 := Try.underlying234
  a76 := Try.isAgg234
  z76 := Try.sizeOf234
  v76 := Try.zeroValue234
  t77 := Try.underlying235
  a77 := Try.isAgg235
  z77 := Try.sizeOf235
  v77 := Try.zeroValue235 }
end Go.Proofs
/- Printed walks: A20a. -/
set_option linter.unusedVariables false
set_option linter.unusedSimpArgs false
namespace Go.Mine
open Go.RowKit
def cmpI (x y : Int) : Int := if x < y then -1 else if y < x then 1 else 0
def cmpP_cf (x y : Pt) : Int := (if (cmpI x.proc y.proc) ≠ 0 then cmpI x.proc y.proc else (cmpI x.index y.index))
def sortP_cf (x y : Pt2) : Int := (if (cmpP_cf x.x0 y.x0) ≠ 0 then cmpP_cf x.x0 y.x0 else (cmpP_cf x.x1 y.x1))
end Go.Mine
namespace Go.Proofs.Ytbmjcbhappjnaaa
open Go.RowKit Go.Mine
attribute [local irreducible] eseq ewp iter
theorem cmpW (W : World) (x y : Int) : Calls Try.prog 115 #[.int .i64 x, .int .i64 y] W fun e w' => e = .returned (.int .i64 (cmpI x y)) ∧ w' = W := by
  go_enter Try.func115, Try.ntmps115
  go_wp2
  all_goals (go_ret; refine ⟨?_, rfl⟩; unfold cmpI; simp_all)
  all_goals (rw [if_neg (by omega), if_neg (by omega)])
theorem orW2 (W : World) (b : Nat) (x y : Int) (h0 : W.cell? ⟨b, 0, none⟩ = some (.int .i64 x)) (h1 : W.cell? ⟨b, 1, none⟩ = some (.int .i64 y)) : Calls Try.prog 114 #[.slice (some ⟨b, 0, none⟩) 2 2] W fun e w' => e = .returned (.int .i64 (if x ≠ 0 then x else y)) ∧ w' = W := by
  obtain ⟨r, hr⟩ : ∃ r, r = (if x ≠ 0 then x else y) := ⟨_, rfl⟩
  rw [← hr]
  have HR : Hid (r = (if x ≠ 0 then x else y)) := hr
  clear hr
  go_enter Try.func114, Try.ntmps114
  go_wp2
  refine wp_loop_rounds 3 ?_
  rw [rounds_succ]
  go_wp2
  · go_ret; refine ⟨?_, rfl⟩; have := HR.out; simp_all
  rw [rounds_succ]
  go_wp2
  · go_ret; refine ⟨?_, rfl⟩; have := HR.out; simp_all
  rw [rounds_succ]
  go_wp2
  go_ret; refine ⟨?_, rfl⟩; have := HR.out; simp_all
set_option maxRecDepth 4000 in
theorem cmpP_cmp (W : World) (x y : Pt) : Calls Try.prog 141 #[.agg (Pt.cells_ x).toArray, .agg (Pt.cells_ y).toArray] W fun e w' => e = .returned (.int .i64 (cmpP_cf x y)) ∧ ∃ q os', w' = Sort.grow (W.drewN q) os' := by
  obtain ⟨w2, hw2⟩ : ∃ w2, w2 = (W.alloc (.cells ([.int .i64 x.proc, .int .i64 x.index] : List Value).toArray 127)).alloc (.cells ([.int .i64 y.proc, .int .i64 y.index] : List Value).toArray 127) := ⟨_, rfl⟩
  have hA0 : Blk w2 W.heap.size [.int .i64 x.proc, .int .i64 x.index] 127 := by rw [hw2]; exact (alloc_blkD W _ _).ext (alloc_belowD _ _)
  have hA1 : Blk w2 (W.alloc (.cells ([.int .i64 x.proc, .int .i64 x.index] : List Value).toArray 127)).heap.size [.int .i64 y.proc, .int .i64 y.index] 127 := by rw [hw2]; exact alloc_blkD _ _ _
  have hB0 : Blk w2.drew W.heap.size [.int .i64 x.proc, .int .i64 x.index] 127 := hA0
  have hB1 : Blk w2.drew (W.alloc (.cells ([.int .i64 x.proc, .int .i64 x.index] : List Value).toArray 127)).heap.size [.int .i64 y.proc, .int .i64 y.index] 127 := hA1
  have hG : Gr W w2 := by rw [hw2]; exact ((Gr.refl W).alloc _).alloc _
  replace hG := hG.drew
  refine d_fn (args := [.agg (Pt.cells_ x).toArray, .agg (Pt.cells_ y).toArray]) Try.func141 rfl Try.ntmps141 (Nat.le_of_ble_eq_true rfl) ?_
  refine d_seq fun K hK => ?_
  refine d_region_text rfl ?_
  refine d_box (cs := [.int .i64 x.proc, .int .i64 x.index]) rfl rfl rfl ?_
  refine d_box (cs := [.int .i64 y.proc, .int .i64 y.index]) rfl rfl rfl ?_
  refine d_assign rfl rfl ?_
  refine d_nil ?_
  refine hK _ _ ?_; clear hK
  refine d_seq fun K hK => ?_
  rw [← hw2]
  refine d_region_draw mixed (fun _ => False) [0, 1, 0, 4, 15, 0, 32, 0, 128, 511, 1023, 2047, 4095] [4] [0, 1, 2, 3, 5, 6, 7, 8, 4, 9, 10, 11, 12] (by kernel_rfl) ?_
  refine d_field rfl rfl ?_
  refine d_load rfl (Blk.cell hB0 rfl) rfl ?_
  refine d_field rfl rfl ?_
  refine d_load rfl (Blk.cell hB1 rfl) rfl ?_
  refine d_field rfl rfl ?_
  refine d_load rfl (Blk.cell hB0 rfl) rfl ?_
  refine d_field rfl rfl ?_
  refine d_load rfl (Blk.cell hB1 rfl) rfl ?_
  refine d_call rfl (cmpW _ _ _) rfl ?_
  refine d_call rfl (cmpW _ _ _) rfl ?_
  refine d_sliceN ((Parts.cons rfl rfl (Parts.cons rfl rfl Parts.nil))) rfl rfl rfl rfl rfl ?_
  have hB2 := alloc_blkD w2.drew [.int .i64 (cmpI x.proc y.proc), .int .i64 (cmpI x.index y.index)] 3
  refine d_call rfl (orW2 _ _ _ _ (Blk.cell hB2 rfl) (Blk.cell hB2 rfl)) rfl ?_
  refine d_assign rfl rfl ?_
  refine d_nil ?_
  refine hK _ _ ?_; clear hK
  exact d_ret ⟨rfl, _, res1 rfl rfl, rfl, hG.alloc _⟩
set_option maxRecDepth 4000 in
theorem sortP_cmp (W : World) (x y : Pt2) : Calls Try.prog 140 #[.agg (Pt2.cells_ x).toArray, .agg (Pt2.cells_ y).toArray] W fun e w' => e = .returned (.int .i64 (sortP_cf x y)) ∧ ∃ q os', w' = Sort.grow (W.drewN q) os' := by
  obtain ⟨w2, hw2⟩ : ∃ w2, w2 = (W.alloc (.cells ([.int .i64 x.x0.proc, .int .i64 x.x0.index, .int .i64 x.x1.proc, .int .i64 x.x1.index] : List Value).toArray 189)).alloc (.cells ([.int .i64 y.x0.proc, .int .i64 y.x0.index, .int .i64 y.x1.proc, .int .i64 y.x1.index] : List Value).toArray 189) := ⟨_, rfl⟩
  have hA0 : Blk w2 W.heap.size [.int .i64 x.x0.proc, .int .i64 x.x0.index, .int .i64 x.x1.proc, .int .i64 x.x1.index] 189 := by rw [hw2]; exact (alloc_blkD W _ _).ext (alloc_belowD _ _)
  have hA1 : Blk w2 (W.alloc (.cells ([.int .i64 x.x0.proc, .int .i64 x.x0.index, .int .i64 x.x1.proc, .int .i64 x.x1.index] : List Value).toArray 189)).heap.size [.int .i64 y.x0.proc, .int .i64 y.x0.index, .int .i64 y.x1.proc, .int .i64 y.x1.index] 189 := by rw [hw2]; exact alloc_blkD _ _ _
  have hB0 : Blk w2.drew W.heap.size [.int .i64 x.x0.proc, .int .i64 x.x0.index, .int .i64 x.x1.proc, .int .i64 x.x1.index] 189 := hA0
  have hB1 : Blk w2.drew (W.alloc (.cells ([.int .i64 x.x0.proc, .int .i64 x.x0.index, .int .i64 x.x1.proc, .int .i64 x.x1.index] : List Value).toArray 189)).heap.size [.int .i64 y.x0.proc, .int .i64 y.x0.index, .int .i64 y.x1.proc, .int .i64 y.x1.index] 189 := hA1
  have hG : Gr W w2 := by rw [hw2]; exact ((Gr.refl W).alloc _).alloc _
  replace hG := hG.drew
  refine d_fn (args := [.agg (Pt2.cells_ x).toArray, .agg (Pt2.cells_ y).toArray]) Try.func140 rfl Try.ntmps140 (Nat.le_of_ble_eq_true rfl) ?_
  refine d_seq fun K hK => ?_
  refine d_region_text rfl ?_
  refine d_box (cs := [.int .i64 x.x0.proc, .int .i64 x.x0.index, .int .i64 x.x1.proc, .int .i64 x.x1.index]) rfl rfl rfl ?_
  refine d_box (cs := [.int .i64 y.x0.proc, .int .i64 y.x0.index, .int .i64 y.x1.proc, .int .i64 y.x1.index]) rfl rfl rfl ?_
  refine d_assign rfl rfl ?_
  refine d_nil ?_
  refine hK _ _ ?_; clear hK
  refine d_seq fun K hK => ?_
  rw [← hw2]
  refine d_region_draw mixed (fun _ => False) [0, 1, 0, 4, 15, 0, 32, 0, 128, 511, 1023, 2047, 4095] [4] [0, 1, 2, 3, 5, 6, 7, 8, 4, 9, 10, 11, 12] (by kernel_rfl) ?_
  refine d_indexC (k := 0) rfl rfl rfl rfl rfl ?_
  refine d_loadAgg rfl (Blk.cellsAt hB0 0 2 rfl) rfl rfl ?_
  refine d_indexC (k := 0) rfl rfl rfl rfl rfl ?_
  refine d_loadAgg rfl (Blk.cellsAt hB1 0 2 rfl) rfl rfl ?_
  refine d_indexC (k := 1) rfl rfl rfl rfl rfl ?_
  refine d_loadAgg rfl (Blk.cellsAt hB0 2 2 rfl) rfl rfl ?_
  refine d_indexC (k := 1) rfl rfl rfl rfl rfl ?_
  refine d_loadAgg rfl (Blk.cellsAt hB1 2 2 rfl) rfl rfl ?_
  refine d_callG rfl (cmpP_cmp _ x.x0 y.x0) rfl fun w3 hg3 => ?_
  replace hB0 := hB0.ext hg3.below; replace hB1 := hB1.ext hg3.below; replace hG := hG.trans hg3
  refine d_callG rfl (cmpP_cmp _ x.x1 y.x1) rfl fun w4 hg4 => ?_
  replace hB0 := hB0.ext hg4.below; replace hB1 := hB1.ext hg4.below; replace hG := hG.trans hg4
  refine d_sliceN ((Parts.cons rfl rfl (Parts.cons rfl rfl Parts.nil))) rfl rfl rfl rfl rfl ?_
  have hB2 := alloc_blkD w4 [.int .i64 (cmpP_cf x.x0 y.x0), .int .i64 (cmpP_cf x.x1 y.x1)] 3
  refine d_call rfl (orW2 _ _ _ _ (Blk.cell hB2 rfl) (Blk.cell hB2 rfl)) rfl ?_
  refine d_assign rfl rfl ?_
  refine d_nil ?_
  refine hK _ _ ?_; clear hK
  exact d_ret ⟨rfl, _, res1 rfl rfl, rfl, hG.alloc _⟩
end Go.Proofs.Ytbmjcbhappjnaaa
