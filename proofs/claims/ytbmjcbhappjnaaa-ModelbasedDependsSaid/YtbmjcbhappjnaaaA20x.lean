/- Printed walks: A20x. -/
import Derived.Test.YtbmjcbhappjnaaaA16
set_option linter.unusedVariables false
set_option linter.unusedSimpArgs false
namespace Go.Mine
open Go.RowKit
def Compact_K1 (fuel : Nat) (c0_0 : (List Pt2)) : Option ((List Pt2)) :=
  some c0_0
def Compact_K2 (fuel : Nat) (x824 : (List Pt2)) (x825 : Int) : Option ((Int) ⊕ (Unit ⊕ ((List Pt2)))) :=
  (dropL x824 x825).bind fun x827 => (dropL x824 x825).bind fun x829 => (some (clearL x824 (x825).toNat (⟨(⟨(0 : Int), (0 : Int)⟩ : Pt), (⟨(0 : Int), (0 : Int)⟩ : Pt)⟩ : Pt2))).bind fun x830 => (takeL x830 x825).bind fun x834 => some (Sum.inr (Sum.inr x834))
def Compact_B2 (fuel : Nat) (x582 : Int) (x783 : (List Pt2)) (x784 : Int) (x785 : Int) : Option (((List Pt2) × Int × Int) ⊕ ((List Pt2) × Int)) :=
  (dropL x783 x582).bind fun x837 => (if (decide (x785 < (x837.length : Int))) = true then (dropL x783 x582).bind fun x841 => (ati x841 x785).bind fun x842 => (dropL x783 x582).bind fun x845 => (ati x845 (w64 (x785 - 1))).bind fun x846 => (if (!((((x842.x0.proc == x846.x0.proc) && ((x842.x0.index == x846.x0.index) && true))) && ((((x842.x1.proc == x846.x1.proc) && ((x842.x1.index == x846.x1.index) && true))) && true))) = true then (dropL x783 x582).bind fun x851 => (ati x851 x785).bind fun x852 => (ati x783 x784).bind fun x855 => (seti x783 x784 x852).bind fun x857 => some (Sum.inl (x857, (w64 (x784 + 1)), (w64 (x785 + 1)))) else some (Sum.inl (x783, x784, (w64 (x785 + 1))))) else some (Sum.inr (x783, x784)))
def Compact_B1 (fuel : Nat) (c0_0 : (List Pt2)) (x582 : Int) : Option ((Int) ⊕ (Unit ⊕ ((List Pt2)))) :=
  (if (decide (x582 < (c0_0.length : Int))) = true then (ati c0_0 x582).bind fun x730 => (ati c0_0 (w64 (x582 - 1))).bind fun x733 => (if ((((x730.x0.proc == x733.x0.proc) && ((x730.x0.index == x733.x0.index) && true))) && ((((x730.x1.proc == x733.x1.proc) && ((x730.x1.index == x733.x1.index) && true))) && true)) = true then (dropL c0_0 x582).bind fun x738 => (iter (fun s => Compact_B2 fuel x582 s.1 s.2.1 s.2.2) fuel (c0_0, x582, 1)).bind (fun t => Compact_K2 fuel t.1 t.2) else some (Sum.inl (w64 (x582 + 1)))) else some (Sum.inr (Sum.inl ())))
def Compact (fuel : Nat) (c0_0 : (List Pt2)) : Option ((List Pt2)) :=
  (if (decide ((c0_0.length : Int) < 2)) = true then some c0_0 else (iter (fun s => Compact_B1 fuel c0_0 s) fuel 1).bind (fun t => Sum.elim (fun t => Compact_K1 fuel c0_0) (fun t => some t) t))
def pattern_Interval_K1 (fuel : Nat) (x141 : Int) : Option (Int) :=
  some x141
def pattern_Interval_B1 (fuel : Nat) (x91 : (List Int)) (a2 : Int) (x118 : Int) (x120 : Int) : Option ((Int × Int) ⊕ (Int)) :=
  (if (decide (x120 < (x91.length : Int))) = true then (ati x91 x120).bind fun x148 => (if (decide (x148 < a2)) = true then some (Sum.inl ((w64 (x118 + 1)), (w64 (x120 + 1)))) else some (Sum.inl (x118, (w64 (x120 + 1))))) else some (Sum.inr x118))
def pattern_Interval (fuel : Nat) (a0 : Pat) (a1 : Int) (a2 : Int) : Option (Int) :=
  (andM (decide (0 ≤ a1)) (some (decide (a1 < (a0.ckpts.length : Int))))).bind fun x88 => (if x88 = true then (ati a0.ckpts a1).bind fun x91 => (iter (fun s => pattern_Interval_B1 fuel x91 a2 s.1 s.2) fuel (0, 0)).bind (fun t => pattern_Interval_K1 fuel t) else some 0)
def depend_Index (fuel : Nat) (a0 : Pat) (a1 : Int) (a2 : Int) : Option (Int) :=
  (orM (decide (a1 < 0)) (some (decide ((a0.lens.length : Int) ≤ a1)))).bind fun x46 => (orM x46 (some (decide ((a0.ckpts.length : Int) ≤ a1)))).bind fun x50 => (orM x50 (some (decide (a2 < 0)))).bind fun x54 => (if x54 = true then some 0 else (ati a0.ckpts a1).bind fun x59 => (if (decide (a2 < (x59.length : Int))) = true then (ati a0.ckpts a1).bind fun x65 => (ati x65 a2).bind fun x68 => some x68 else (ati a0.lens a1).bind fun x71 => some x71))
end Go.Mine
namespace Go.Proofs.Ytbmjcbhappjnaaa
open Go.RowKit Go.Mine
attribute [local irreducible] eseq ewp iter
theorem pattern_Interval_w {F R : Nat → Prop} {w : World} {fuel : Nat} {a0 : Pat} {a1 : Int} {a2 : Int} {v1 : Value} {v2 : Value} {v3 : Value} {r : (Int)} (hS : Sep F R R w w []) (f1 : IsSlice Ty.int w R v1 a0.lens) (f2 : IsSlice (Ty.slice Ty.int) w R v2 a0.ckpts) (f3 : IsSlice arcTy w R v3 a0.arcs) (h : pattern_Interval fuel a0 a1 a2 = some r) :
    Gives Try.prog 135 [.agg #[v1, v2, v3], .int .i64 a1, .int .i64 a2] w fun u w1 => ∃ (R1 : Nat → Prop), u = .int .i64 r ∧ Sep F R R1 w w1 [] := by
  refine fn_of Try.func135 rfl Try.ntmps135 (Nat.le_of_ble_eq_true rfl) ?_
  unfold pattern_Interval at h
  refine e_seq fun K79 hK79 => ?_
  refine e_region_text rfl ?_
  refine q_boxB rfl rfl rfl fun w80 bl80 hg80 hb80 hB80 => ?_
  replace f1 := f1.ext hB80
  replace f2 := f2.ext hB80
  replace f3 := f3.ext hB80
  replace hS := hS.newBlk hB80 hg80 hb80
  refine q_assign rfl rfl ?_
  refine eseq_nil ?_
  refine hK79 _ _ ?_
  refine e_seq fun K82 hK82 => ?_
  refine e_region_text rfl ?_
  refine q_assign rfl rfl ?_
  refine eseq_nil ?_
  refine hK82 _ _ ?_
  refine e_seq fun K83 hK83 => ?_
  refine e_seq fun K84 hK84 => ?_
  refine e_region_text rfl ?_
  refine q_move rfl rfl ?_
  refine q_geq rfl rfl rfl ?_
  refine q_move rfl rfl ?_
  obtain ⟨x88, hx87, h⟩ := Option.of_bind h
  refine g_andM 5 hx87 rfl trivial rfl rfl ?_ ?_ ?_
  · intro hg87 hx87
    clear h
    have hT87 := Below.refl (World.heap w80).size w80
    refine g_run rfl ?_; refine q_move rfl rfl ?_
    refine g_run rfl ?_; refine q_field rfl rfl ?_
    refine g_run rfl ?_; refine q_load rfl (Blk.cell (hS.blk 0 rfl) rfl) rfl ?_
    refine g_run rfl ?_; refine q_lenS rfl f2 rfl ?_
    refine g_run rfl ?_; refine q_lss rfl rfl rfl ?_
    cases hx87
    exact eseq_nil ⟨hT87, Sub.set rfl (Sub.set rfl (Sub.set rfl (Sub.set rfl (Sub.set rfl (Sub.bool true rfl hg87))))), rfl⟩
  · intro hg87
    refine g_skip rfl rfl rfl ?_
    refine g_skip rfl rfl rfl ?_
    refine g_skip rfl rfl rfl ?_
    refine g_skip rfl rfl rfl ?_
    refine g_skip rfl rfl rfl ?_
    exact eseq_nil ⟨rfl, Sub.set rfl (Sub.set rfl (Sub.set rfl (Sub.set rfl (Sub.set rfl (Sub.bool false rfl hg87)))))⟩
  intro wm87 hBm87; clear hx87
  replace hS := hS.below hBm87
  replace f1 := f1.ext hBm87
  replace f2 := f2.ext hBm87
  replace f3 := f3.ext hBm87
  refine eseq_nil ?_
  refine hK84 _ _ ?_
  refine e_cond rfl (fun hc89 => ?_) (fun hc89 => ?_)
  · replace h := (if_pos hc89).symm.trans h
    refine e_seq fun K90 hK90 => ?_
    refine e_region_text rfl ?_
    refine q_field rfl rfl ?_
    refine q_load rfl (Blk.cell (hS.blk 0 rfl) rfl) rfl ?_
    refine q_move rfl rfl ?_
    obtain ⟨x91, hx91, h⟩ := Option.of_bind h
    refine q_atS (by infer_instance) rfl f2 rfl hx91 rfl fun b92 o92 hm92 f92 => ?_
    refine q_loadE rfl f92 rfl (fun v93 f93 => ?_)
    refine q_lenS rfl f93 rfl ?_
    refine q_move rfl rfl ?_
    refine eseq_nil ?_
    refine hK90 _ _ ?_
    refine e_block ?_
    obtain ⟨tl94, ht94, h⟩ := Option.of_bind h
    have hX94_0 : ∀ (x141 : Int) (R139 : Nat → Prop) (w140 : World) (E_ : Env), pattern_Interval_K1 fuel x141 = some r → Sep F R R139 w w140 [] → Sub [(7, .int .i64 x141)] E_ → K83 E_ w140 := by
      intro x141 R139 w140 E_ h hS  hsub
      refine hK83 _ _ (e_sub hsub ?_); clear hsub
      unfold pattern_Interval_K1 at h
      refine e_seq fun K142 hK142 => ?_
      refine e_region_text rfl ?_
      refine q_move rfl rfl ?_
      refine q_assign rfl rfl ?_
      refine eseq_nil ?_
      refine hK142 _ _ ?_
      refine e_ret ?_
      obtain rfl := Option.some.inj h
      exact ⟨_, res1 rfl rfl, _, rfl, hS⟩
    refine e_loop (fun m_ E_ w117 => ∃ (x118 : Int), ∃ (x120 : Int), ∃ (R116 : Nat → Prop), iter (fun s => pattern_Interval_B1 fuel x91 a2 s.1 s.2) m_ (x118, x120) = some tl94 ∧ Sep F R R116 w w117 [] ∧ IsSlice Ty.int w117 R116 v93 x91 ∧ E_ = [(2, .int .i64 a2), (7, .int .i64 x118), (23, v93), (24, .int .i64 (x91.length : Int)), (25, .int .i64 x120)]) _ ⟨_, ⟨0, 0, _, ht94, (hS.pickB [] 1 rfl rfl), f93, rfl⟩, Sub.cons rfl (Sub.cons rfl (Sub.cons rfl (Sub.cons rfl (Sub.cons rfl (Sub.nil _)))))⟩ ?_
    clear ht94 hS
    rintro m94 _ w117 ⟨x118, x120, R116, ht94, hS, f119, rfl⟩
    obtain ⟨m94, rfl, o94, ho94, ht94⟩ := iter_some ht94
    replace ho94 : pattern_Interval_B1 fuel x91 a2 x118 x120 = some o94 := ho94
    unfold pattern_Interval_B1 at ho94
    refine e_seq fun K143 hK143 => ?_
    refine e_region_text rfl ?_
    refine q_lss rfl rfl rfl ?_
    refine eseq_nil ?_
    refine hK143 _ _ ?_
    refine e_seq fun K144 hK144 => ?_
    refine e_cond rfl (fun hc145 => ?_) (fun hc145 => ?_)
    · replace ho94 := (if_pos hc145).symm.trans ho94
      refine e_skip ?_
      refine hK144 _ _ ?_
      refine e_seq fun K146 hK146 => ?_
      refine e_block ?_
      refine e_seq fun K147 hK147 => ?_
      refine e_region_text rfl ?_
      obtain ⟨x148, hx148, ho94⟩ := Option.of_bind ho94
      refine q_atS (by infer_instance) rfl f119 rfl hx148 rfl fun b149 o149 hm149 f149 => ?_
      refine q_load rfl (Elt.intCell f149) rfl ?_
      refine q_assign rfl rfl ?_
      refine eseq_nil ?_
      refine hK147 _ _ ?_
      refine e_seq fun K150 hK150 => ?_
      refine e_region_text rfl ?_
      refine q_move rfl rfl ?_
      refine q_move rfl rfl ?_
      refine q_lss rfl rfl rfl ?_
      refine eseq_nil ?_
      refine hK150 _ _ ?_
      refine e_cond rfl (fun hc151 => ?_) (fun hc151 => ?_)
      · replace ho94 := (if_pos hc151).symm.trans ho94
        refine e_region_text rfl ?_
        refine q_move rfl rfl ?_
        refine q_addW rfl rfl rfl ?_
        refine q_assign rfl rfl ?_
        refine eseq_nil ?_
        refine hK146 _ _ ?_
        refine e_region_text rfl ?_
        refine q_addW rfl rfl rfl ?_
        refine q_move rfl rfl ?_
        refine eseq_nil ?_
        obtain rfl := Option.some.inj ho94
        exact ⟨m94, _, Nat.lt_succ_self _, ⟨(w64 (x118 + 1)), (w64 (x120 + 1)), _, ht94, hS, f119, rfl⟩, Sub.cons rfl (Sub.cons rfl (Sub.cons rfl (Sub.cons rfl (Sub.cons rfl (Sub.nil _)))))⟩
      · replace ho94 := (if_neg (not_true hc151)).symm.trans ho94
        refine e_skip ?_
        refine hK146 _ _ ?_
        refine e_region_text rfl ?_
        refine q_addW rfl rfl rfl ?_
        refine q_move rfl rfl ?_
        refine eseq_nil ?_
        obtain rfl := Option.some.inj ho94
        exact ⟨m94, _, Nat.lt_succ_self _, ⟨x118, (w64 (x120 + 1)), _, ht94, hS, f119, rfl⟩, Sub.cons rfl (Sub.cons rfl (Sub.cons rfl (Sub.cons rfl (Sub.cons rfl (Sub.nil _)))))⟩
    · replace ho94 := (if_neg (not_true hc145)).symm.trans ho94
      refine e_exit ?_
      obtain rfl := Option.some.inj ho94
      obtain rfl := Option.some.inj ht94
      exact hX94_0 x118 _ _ _ h hS  (Sub.cons rfl (Sub.nil _))
  · replace h := (if_neg (not_true hc89)).symm.trans h
    refine e_skip ?_
    refine hK83 _ _ ?_
    refine e_seq fun K152 hK152 => ?_
    refine e_region_text rfl ?_
    refine q_move rfl rfl ?_
    refine q_assign rfl rfl ?_
    refine eseq_nil ?_
    refine hK152 _ _ ?_
    refine e_ret ?_
    obtain rfl := Option.some.inj h
    exact ⟨_, res1 rfl rfl, _, rfl, (hS.pickB [] 1 rfl rfl)⟩
theorem depend_Index_w {F R : Nat → Prop} {w : World} {fuel : Nat} {a0 : Pat} {a1 : Int} {a2 : Int} {v1 : Value} {v2 : Value} {v3 : Value} {r : (Int)} (hS : Sep F R R w w []) (f1 : IsSlice Ty.int w R v1 a0.lens) (f2 : IsSlice (Ty.slice Ty.int) w R v2 a0.ckpts) (f3 : IsSlice arcTy w R v3 a0.arcs) (h : depend_Index fuel a0 a1 a2 = some r) :
    Gives Try.prog 73 [.agg #[v1, v2, v3], .int .i64 a1, .int .i64 a2] w fun u w1 => ∃ (R1 : Nat → Prop), u = .int .i64 r ∧ Sep F R R1 w w1 [] := by
  refine fn_of Try.func73 rfl Try.ntmps73 (Nat.le_of_ble_eq_true rfl) ?_
  unfold depend_Index at h
  refine e_seq fun K38 hK38 => ?_
  refine e_region_text rfl ?_
  refine q_boxB rfl rfl rfl fun w39 bl39 hg39 hb39 hB39 => ?_
  replace f1 := f1.ext hB39
  replace f2 := f2.ext hB39
  replace f3 := f3.ext hB39
  replace hS := hS.newBlk hB39 hg39 hb39
  refine q_assign rfl rfl ?_
  refine eseq_nil ?_
  refine hK38 _ _ ?_
  refine e_seq fun K41 hK41 => ?_
  refine e_seq fun K42 hK42 => ?_
  refine e_region_text rfl ?_
  refine q_move rfl rfl ?_
  refine q_lss rfl rfl rfl ?_
  refine q_move rfl rfl ?_
  obtain ⟨x46, hx45, h⟩ := Option.of_bind h
  refine g_orM 5 hx45 rfl trivial rfl rfl ?_ ?_ ?_
  · intro hg45
    refine g_skip rfl rfl rfl ?_
    refine g_skip rfl rfl rfl ?_
    refine g_skip rfl rfl rfl ?_
    refine g_skip rfl rfl rfl ?_
    refine g_skip rfl rfl rfl ?_
    exact eseq_nil ⟨rfl, Sub.set rfl (Sub.set rfl (Sub.set rfl (Sub.set rfl (Sub.set rfl (Sub.bool true rfl hg45)))))⟩
  · intro hg45 hx45
    clear h
    have hT45 := Below.refl (World.heap w39).size w39
    refine g_run rfl ?_; refine q_move rfl rfl ?_
    refine g_run rfl ?_; refine q_field rfl rfl ?_
    refine g_run rfl ?_; refine q_load rfl (Blk.cell (hS.blk 0 rfl) rfl) rfl ?_
    refine g_run rfl ?_; refine q_lenS rfl f1 rfl ?_
    refine g_run rfl ?_; refine q_geq rfl rfl rfl ?_
    cases hx45
    exact eseq_nil ⟨hT45, Sub.set rfl (Sub.set rfl (Sub.set rfl (Sub.set rfl (Sub.set rfl (Sub.bool false rfl hg45))))), rfl⟩
  intro wm45 hBm45; clear hx45
  replace hS := hS.below hBm45
  replace f1 := f1.ext hBm45
  replace f2 := f2.ext hBm45
  replace f3 := f3.ext hBm45
  refine q_move rfl rfl ?_
  obtain ⟨x50, hx49, h⟩ := Option.of_bind h
  refine g_orM 5 hx49 rfl trivial rfl rfl ?_ ?_ ?_
  · intro hg49
    refine g_skip rfl rfl rfl ?_
    refine g_skip rfl rfl rfl ?_
    refine g_skip rfl rfl rfl ?_
    refine g_skip rfl rfl rfl ?_
    refine g_skip rfl rfl rfl ?_
    exact eseq_nil ⟨rfl, Sub.set rfl (Sub.set rfl (Sub.set rfl (Sub.set rfl (Sub.set rfl (Sub.bool true rfl hg49)))))⟩
  · intro hg49 hx49
    clear h
    have hT49 := Below.refl (World.heap wm45).size wm45
    refine g_run rfl ?_; refine q_move rfl rfl ?_
    refine g_run rfl ?_; refine q_field rfl rfl ?_
    refine g_run rfl ?_; refine q_load rfl (Blk.cell (hS.blk 0 rfl) rfl) rfl ?_
    refine g_run rfl ?_; refine q_lenS rfl f2 rfl ?_
    refine g_run rfl ?_; refine q_geq rfl rfl rfl ?_
    cases hx49
    exact eseq_nil ⟨hT49, Sub.set rfl (Sub.set rfl (Sub.set rfl (Sub.set rfl (Sub.set rfl (Sub.bool false rfl hg49))))), rfl⟩
  intro wm49 hBm49; clear hx49
  replace hS := hS.below hBm49
  replace f1 := f1.ext hBm49
  replace f2 := f2.ext hBm49
  replace f3 := f3.ext hBm49
  refine q_move rfl rfl ?_
  obtain ⟨x54, hx53, h⟩ := Option.of_bind h
  refine g_orM 2 hx53 rfl trivial rfl rfl ?_ ?_ ?_
  · intro hg53
    refine g_skip rfl rfl rfl ?_
    refine g_skip rfl rfl rfl ?_
    exact eseq_nil ⟨rfl, Sub.set rfl (Sub.set rfl (Sub.bool true rfl hg53))⟩
  · intro hg53 hx53
    clear h
    have hT53 := Below.refl (World.heap wm49).size wm49
    refine g_run rfl ?_; refine q_move rfl rfl ?_
    refine g_run rfl ?_; refine q_lss rfl rfl rfl ?_
    cases hx53
    exact eseq_nil ⟨hT53, Sub.set rfl (Sub.set rfl (Sub.bool false rfl hg53)), rfl⟩
  intro wm53 hBm53; clear hx53
  replace hS := hS.below hBm53
  replace f1 := f1.ext hBm53
  replace f2 := f2.ext hBm53
  replace f3 := f3.ext hBm53
  refine eseq_nil ?_
  refine hK42 _ _ ?_
  refine e_cond rfl (fun hc55 => ?_) (fun hc55 => ?_)
  · replace h := (if_pos hc55).symm.trans h
    refine e_seq fun K56 hK56 => ?_
    refine e_region_text rfl ?_
    refine q_assign rfl rfl ?_
    refine eseq_nil ?_
    refine hK56 _ _ ?_
    refine e_ret ?_
    obtain rfl := Option.some.inj h
    exact ⟨_, res1 rfl rfl, _, rfl, (hS.pickB [] 1 rfl rfl)⟩
  · replace h := (if_neg (not_true hc55)).symm.trans h
    refine e_skip ?_
    refine hK41 _ _ ?_
    refine e_seq fun K57 hK57 => ?_
    refine e_seq fun K58 hK58 => ?_
    refine e_region_text rfl ?_
    refine q_move rfl rfl ?_
    refine q_field rfl rfl ?_
    refine q_load rfl (Blk.cell (hS.blk 0 rfl) rfl) rfl ?_
    refine q_move rfl rfl ?_
    obtain ⟨x59, hx59, h⟩ := Option.of_bind h
    refine q_atS (by infer_instance) rfl f2 rfl hx59 rfl fun b60 o60 hm60 f60 => ?_
    refine q_loadE rfl f60 rfl (fun v61 f61 => ?_)
    refine q_lenS rfl f61 rfl ?_
    refine q_lss rfl rfl rfl ?_
    refine eseq_nil ?_
    refine hK58 _ _ ?_
    refine e_cond rfl (fun hc62 => ?_) (fun hc62 => ?_)
    · replace h := (if_pos hc62).symm.trans h
      refine e_seq fun K63 hK63 => ?_
      refine e_region_text rfl ?_
      refine q_field rfl rfl ?_
      refine q_load rfl (Blk.cell (hS.blk 0 rfl) rfl) rfl ?_
      refine q_move rfl rfl ?_
      obtain ⟨x65, hx65, h⟩ := Option.of_bind h
      refine q_atS (by infer_instance) rfl f2 rfl hx65 rfl fun b66 o66 hm66 f66 => ?_
      refine q_loadE rfl f66 rfl (fun v67 f67 => ?_)
      refine q_move rfl rfl ?_
      obtain ⟨x68, hx68, h⟩ := Option.of_bind h
      refine q_atS (by infer_instance) rfl f67 rfl hx68 rfl fun b69 o69 hm69 f69 => ?_
      refine q_load rfl (Elt.intCell f69) rfl ?_
      refine q_assign rfl rfl ?_
      refine eseq_nil ?_
      refine hK63 _ _ ?_
      refine e_ret ?_
      obtain rfl := Option.some.inj h
      exact ⟨_, res1 rfl rfl, _, rfl, (hS.pickB [] 1 rfl rfl)⟩
    · replace h := (if_neg (not_true hc62)).symm.trans h
      refine e_skip ?_
      refine hK57 _ _ ?_
      refine e_seq fun K70 hK70 => ?_
      refine e_region_text rfl ?_
      refine q_field rfl rfl ?_
      refine q_load rfl (Blk.cell (hS.blk 0 rfl) rfl) rfl ?_
      refine q_move rfl rfl ?_
      obtain ⟨x71, hx71, h⟩ := Option.of_bind h
      refine q_atS (by infer_instance) rfl f1 rfl hx71 rfl fun b72 o72 hm72 f72 => ?_
      refine q_load rfl (Elt.intCell f72) rfl ?_
      refine q_assign rfl rfl ?_
      refine eseq_nil ?_
      refine hK70 _ _ ?_
      refine e_ret ?_
      obtain rfl := Option.some.inj h
      exact ⟨_, res1 rfl rfl, _, rfl, (hS.pickB [] 1 rfl rfl)⟩
end Go.Proofs.Ytbmjcbhappjnaaa
