/- Printed walks: A19. -/
import Derived.Test.YtbmjcbhappjnaaaA17
import Derived.Test.YtbmjcbhappjnaaaA20x
import Derived.Test.YtbmjcbhappjnaaaA18a
set_option linter.unusedVariables false
set_option linter.unusedSimpArgs false
namespace Go.Mine
open Go.RowKit
def depend_exists (fuel : Nat) (a0 : Pat) (a1 : Pt) : Option (Bool) :=
  (pattern_Check fuel (⟨a0.lens, a0.ckpts, a0.arcs⟩ : Pat)).bind fun r42 => (orM (r42 != 0) (some (decide (a1.proc < 0)))).bind fun x46 => (orM x46 (some (decide ((a0.lens.length : Int) ≤ a1.proc)))).bind fun x50 => (if x50 = true then some false else (andM (decide (0 ≤ a1.index)) ((ati a0.ckpts a1.proc).bind fun x61 => some (decide (a1.index ≤ (x61.length : Int))))).bind fun x60 => some x60)
def depend_intervals_K1 (fuel : Nat) (x163 : (List Int)) : Option ((List Int)) :=
  (lenOk x163 5).bind fun u165 => (lenOk (List.replicate 5 (0 : Int)) 5).bind fun u167 => (lenOk x163 5).bind fun u168 => some x163
def depend_intervals_B1 (fuel : Nat) (r104 : ((List Int))) (a0 : Pat) (x138 : (List Int)) (x140 : Int) : Option (((List Int) × Int) ⊕ ((List Int))) :=
  (if (decide (x140 < (r104.length : Int))) = true then (ati r104 x140).bind fun x174 => (pattern_Interval fuel (⟨a0.lens, a0.ckpts, a0.arcs⟩ : Pat) x140 x174).bind fun r177 => (bnd x140 5).bind fun x178 => (seti x138 (((ix 0 x178 1) : Nat) : Int) r177).bind fun x180 => some (Sum.inl (x180, (w64 (x140 + 1)))) else some (Sum.inr x138))
def depend_intervals (fuel : Nat) (a0 : Pat) (a1 : Int) (a2 : Int) : Option ((List Int)) :=
  (causal_Clock fuel (⟨a0.lens, a0.ckpts, a0.arcs⟩ : Pat) a1 a2).bind fun r104 => (iter (fun s => depend_intervals_B1 fuel r104 a0 s.1 s.2) fuel ((List.replicate 5 (0 : Int)), 0)).bind (fun t => depend_intervals_K1 fuel t)
def depend_Vector (fuel : Nat) (a0 : Pat) (a1 : Int) (a2 : Int) : Option ((List Int)) :=
  (depend_exists fuel (⟨a0.lens, a0.ckpts, a0.arcs⟩ : Pat) (⟨a1, 0⟩ : Pt)).bind fun r48 => (orM (!r48) (some (decide (a2 < 0)))).bind fun x52 => (orM x52 ((ati a0.lens a1).bind fun x59 => some (decide (x59 < a2)))).bind fun x58 => (if x58 = true then some ([] : List Int) else (depend_intervals fuel (⟨a0.lens, a0.ckpts, a0.arcs⟩ : Pat) a1 a2).bind fun r67 => (lenOk (List.replicate 5 (0 : Int)) 5).bind fun u71 => (lenOk r67 5).bind fun u72 => (lenOk r67 5).bind fun u76 => (takeL r67 (a0.lens.length : Int)).bind fun x77 => (Clone_Int fuel x77).bind fun r79 => some r79)
def depend_Ckpt (fuel : Nat) (a0 : Pat) (a1 : Int) (a2 : Int) : Option ((List Int)) :=
  (depend_exists fuel (⟨a0.lens, a0.ckpts, a0.arcs⟩ : Pat) (⟨a1, a2⟩ : Pt)).bind fun r31 => (if (!r31) = true then some ([] : List Int) else (depend_Index fuel (⟨a0.lens, a0.ckpts, a0.arcs⟩ : Pat) a1 a2).bind fun r42 => (depend_Vector fuel (⟨a0.lens, a0.ckpts, a0.arcs⟩ : Pat) a1 r42).bind fun r44 => some r44)
end Go.Mine
namespace Go.Proofs.Ytbmjcbhappjnaaa
open Go.RowKit Go.Mine
attribute [local irreducible] eseq ewp iter
theorem depend_exists_w {F R : Nat → Prop} {w : World} {fuel : Nat} {a0 : Pat} {a1 : Pt} {v1 : Value} {v2 : Value} {v3 : Value} {r : (Bool)} (hS : Sep F R R w w []) (f1 : IsSlice Ty.int w R v1 a0.lens) (f2 : IsSlice (Ty.slice Ty.int) w R v2 a0.ckpts) (f3 : IsSlice arcTy w R v3 a0.arcs) (h : depend_exists fuel a0 a1 = some r) :
    Gives Try.prog 71 [.agg #[v1, v2, v3], .agg #[.int .i64 a1.proc, .int .i64 a1.index]] w fun u w1 => ∃ (R1 : Nat → Prop), u = .bool r ∧ Sep F R R1 w w1 [] := by
  refine fn_of Try.func71 rfl Try.ntmps71 (Nat.le_of_ble_eq_true rfl) ?_
  unfold depend_exists at h
  refine e_seq fun K34 hK34 => ?_
  refine e_region_text rfl ?_
  refine q_boxB rfl rfl rfl fun w35 bl35 hg35 hb35 hB35 => ?_
  replace f1 := f1.ext hB35
  replace f2 := f2.ext hB35
  replace f3 := f3.ext hB35
  replace hS := hS.newBlk hB35 hg35 hb35
  refine q_boxB rfl rfl rfl fun w37 bl37 hg37 hb37 hB37 => ?_
  replace f1 := f1.ext hB37
  replace f2 := f2.ext hB37
  replace f3 := f3.ext hB37
  replace hS := hS.newBlk hB37 hg37 hb37
  refine q_assign rfl rfl ?_
  refine eseq_nil ?_
  refine hK34 _ _ ?_
  refine e_seq fun K39 hK39 => ?_
  refine e_seq fun K40 hK40 => ?_
  refine e_region_text rfl ?_
  refine q_loadAgg rfl (Blk.cellsAt (hS.blk 1 rfl) 0 3 rfl) rfl rfl ?_
  obtain ⟨r42, hr42, h⟩ := Option.of_bind h
  refine q_call rfl (pattern_Check_w (a0 := (⟨a0.lens, a0.ckpts, a0.arcs⟩ : Pat)) (Sep.enter (As := []) hS) f1 f2 f3 hr42) rfl ?_
  rintro _ w41 ⟨R41, rfl, hC41⟩
  have hB41 : Below (World.heap w37).size w37 w41 := hC41.stepB0
  refine ⟨fun _ => .of_below hB41, ?_⟩
  replace f1 := (f1.ext hB41).mono fun k hk _ => hC41.ro0 k hk
  replace f2 := (f2.ext hB41).mono fun k hk _ => hC41.ro0 k hk
  replace f3 := (f3.ext hB41).mono fun k hk _ => hC41.ro0 k hk
  replace hS := Sep.leave (As := []) hS hC41; simp only [List.cons_append, List.nil_append] at hS
  refine q_neq rfl rfl rfl ?_
  refine q_move rfl rfl ?_
  obtain ⟨x46, hx45, h⟩ := Option.of_bind h
  refine g_orM 3 hx45 rfl trivial rfl rfl ?_ ?_ ?_
  · intro hg45
    refine g_skip rfl rfl rfl ?_
    refine g_skip rfl rfl rfl ?_
    refine g_skip rfl rfl rfl ?_
    exact eseq_nil ⟨rfl, Sub.set rfl (Sub.set rfl (Sub.set rfl (Sub.bool true rfl hg45)))⟩
  · intro hg45 hx45
    clear h
    have hT45 := Below.refl (World.heap w41).size w41
    refine g_run rfl ?_; refine q_field rfl rfl ?_
    refine g_run rfl ?_; refine q_load rfl (Blk.cell (hS.blk 0 rfl) rfl) rfl ?_
    refine g_run rfl ?_; refine q_lss rfl rfl rfl ?_
    cases hx45
    exact eseq_nil ⟨hT45, Sub.set rfl (Sub.set rfl (Sub.set rfl (Sub.bool false rfl hg45))), rfl⟩
  intro wm45 hBm45; clear hx45
  replace hS := hS.below hBm45
  replace f1 := f1.ext hBm45
  replace f2 := f2.ext hBm45
  replace f3 := f3.ext hBm45
  refine q_move rfl rfl ?_
  obtain ⟨x50, hx49, h⟩ := Option.of_bind h
  refine g_orM 6 hx49 rfl trivial rfl rfl ?_ ?_ ?_
  · intro hg49
    refine g_skip rfl rfl rfl ?_
    refine g_skip rfl rfl rfl ?_
    refine g_skip rfl rfl rfl ?_
    refine g_skip rfl rfl rfl ?_
    refine g_skip rfl rfl rfl ?_
    refine g_skip rfl rfl rfl ?_
    exact eseq_nil ⟨rfl, Sub.set rfl (Sub.set rfl (Sub.set rfl (Sub.set rfl (Sub.set rfl (Sub.set rfl (Sub.bool true rfl hg49))))))⟩
  · intro hg49 hx49
    clear h
    have hT49 := Below.refl (World.heap wm45).size wm45
    refine g_run rfl ?_; refine q_field rfl rfl ?_
    refine g_run rfl ?_; refine q_load rfl (Blk.cell (hS.blk 0 rfl) rfl) rfl ?_
    refine g_run rfl ?_; refine q_field rfl rfl ?_
    refine g_run rfl ?_; refine q_load rfl (Blk.cell (hS.blk 1 rfl) rfl) rfl ?_
    refine g_run rfl ?_; refine q_lenS rfl f1 rfl ?_
    refine g_run rfl ?_; refine q_geq rfl rfl rfl ?_
    cases hx49
    exact eseq_nil ⟨hT49, Sub.set rfl (Sub.set rfl (Sub.set rfl (Sub.set rfl (Sub.set rfl (Sub.set rfl (Sub.bool false rfl hg49)))))), rfl⟩
  intro wm49 hBm49; clear hx49
  replace hS := hS.below hBm49
  replace f1 := f1.ext hBm49
  replace f2 := f2.ext hBm49
  replace f3 := f3.ext hBm49
  refine eseq_nil ?_
  refine hK40 _ _ ?_
  refine e_cond rfl (fun hc51 => ?_) (fun hc51 => ?_)
  · replace h := (if_pos hc51).symm.trans h
    refine e_seq fun K52 hK52 => ?_
    refine e_region_text rfl ?_
    refine q_assign rfl rfl ?_
    refine eseq_nil ?_
    refine hK52 _ _ ?_
    refine e_ret ?_
    obtain rfl := Option.some.inj h
    exact ⟨_, res1 rfl rfl, _, rfl, (hS.pickB [] 2 rfl rfl)⟩
  · replace h := (if_neg (not_true hc51)).symm.trans h
    refine e_skip ?_
    refine hK39 _ _ ?_
    refine e_seq fun K53 hK53 => ?_
    refine e_region_draw mixed (fun _ => False) [0, 1, 3, 7, 15, 31, 15, 79, 15, 271, 975, 1999, 4047, 8191, 16383, 32767] [] [0, 1, 2, 3, 4, 5, 6, 7, 8, 9, 10, 11, 12, 13, 14, 15] (by kernel_rfl) ?_
    refine q_field rfl rfl ?_
    refine q_load rfl (Blk.cell (hS.blk 0 rfl) rfl) rfl ?_
    refine q_geq rfl rfl rfl ?_
    refine q_move rfl rfl ?_
    obtain ⟨x60, hx59, h⟩ := Option.of_bind h
    refine g_andM 10 hx59 rfl trivial rfl rfl ?_ ?_ ?_
    · intro hg59 hx59
      clear h
      have hT59 := Below.refl (World.heap wm49).size wm49
      refine g_run rfl ?_; refine q_field rfl rfl ?_
      refine g_run rfl ?_; refine q_load rfl (Blk.cell (hS.blk 0 rfl) rfl) rfl ?_
      refine g_run rfl ?_; refine q_field rfl rfl ?_
      refine g_run rfl ?_; refine q_load rfl (Blk.cell (hS.blk 1 rfl) rfl) rfl ?_
      refine g_run rfl ?_; refine q_field rfl rfl ?_
      refine g_run rfl ?_; refine q_load rfl (Blk.cell (hS.blk 0 rfl) rfl) rfl ?_
      obtain ⟨x61, hx61, hx59⟩ := Option.of_bind hx59
      refine g_run rfl ?_; refine q_atS (by infer_instance) rfl f2 rfl hx61 rfl fun b62 o62 hm62 f62 => ?_
      refine g_run rfl ?_; refine q_loadE rfl f62 rfl (fun v63 f63 => ?_)
      refine g_run rfl ?_; refine q_lenS rfl f63 rfl ?_
      refine g_run rfl ?_; refine q_leq rfl rfl rfl ?_
      cases hx59
      exact eseq_nil ⟨hT59, Sub.set rfl (Sub.set rfl (Sub.set rfl (Sub.set rfl (Sub.set rfl (Sub.set rfl (Sub.set rfl (Sub.set rfl (Sub.set rfl (Sub.set rfl (Sub.bool true rfl hg59)))))))))), rfl⟩
    · intro hg59
      refine g_skip rfl rfl rfl ?_
      refine g_skip rfl rfl rfl ?_
      refine g_skip rfl rfl rfl ?_
      refine g_skip rfl rfl rfl ?_
      refine g_skip rfl rfl rfl ?_
      refine g_skip rfl rfl rfl ?_
      refine g_skip rfl rfl rfl ?_
      refine g_skip rfl rfl rfl ?_
      refine g_skip rfl rfl rfl ?_
      refine g_skip rfl rfl rfl ?_
      exact eseq_nil ⟨rfl, Sub.set rfl (Sub.set rfl (Sub.set rfl (Sub.set rfl (Sub.set rfl (Sub.set rfl (Sub.set rfl (Sub.set rfl (Sub.set rfl (Sub.set rfl (Sub.bool false rfl hg59))))))))))⟩
    intro wm59 hBm59; clear hx59
    replace hS := hS.below hBm59
    refine q_assign rfl rfl ?_
    refine eseq_nil ?_
    refine hK53 _ _ ?_
    refine e_ret ?_
    obtain rfl := Option.some.inj h
    exact ⟨_, res1 rfl rfl, _, rfl, (hS.pickB [] 2 rfl rfl)⟩
theorem depend_intervals_w {F R : Nat → Prop} {w : World} {fuel : Nat} {a0 : Pat} {a1 : Int} {a2 : Int} {v1 : Value} {v2 : Value} {v3 : Value} {r : ((List Int))} (hS : Sep F R R w w []) (f1 : IsSlice Ty.int w R v1 a0.lens) (f2 : IsSlice (Ty.slice Ty.int) w R v2 a0.ckpts) (f3 : IsSlice arcTy w R v3 a0.arcs) (h : depend_intervals fuel a0 a1 a2 = some r) :
    Gives Try.prog 111 [.agg #[v1, v2, v3], .int .i64 a1, .int .i64 a2] w fun u w1 => ∃ (R1 : Nat → Prop), u = .agg (List.map encI r).toArray ∧ Sep F R R1 w w1 [] := by
  refine fn_of Try.func111 rfl Try.ntmps111 (Nat.le_of_ble_eq_true rfl) ?_
  unfold depend_intervals at h
  refine e_seq fun K93 hK93 => ?_
  refine e_region_text rfl ?_
  refine q_boxB rfl rfl rfl fun w94 bl94 hg94 hb94 hB94 => ?_
  replace f1 := f1.ext hB94
  replace f2 := f2.ext hB94
  replace f3 := f3.ext hB94
  replace hS := hS.newBlk hB94 hg94 hb94
  refine q_allocB rfl fun w96 bl96 hg96 hb96 hB96 => ?_
  replace f1 := f1.ext hB96
  replace f2 := f2.ext hB96
  replace f3 := f3.ext hB96
  replace hS := hS.newBlk hB96 hg96 hb96
  refine eseq_nil ?_
  refine hK93 _ _ ?_
  refine e_seq fun K98 hK98 => ?_
  refine e_region_text rfl ?_
  refine q_allocB rfl fun w99 bl99 hg99 hb99 hB99 => ?_
  replace f1 := f1.ext hB99
  replace f2 := f2.ext hB99
  replace f3 := f3.ext hB99
  replace hS := hS.newBlk hB99 hg99 hb99
  refine eseq_nil ?_
  refine hK98 _ _ ?_
  refine e_seq fun K101 hK101 => ?_
  refine e_seq fun K102 hK102 => ?_
  refine e_region_text rfl ?_
  refine q_loadAgg rfl (Blk.cellsAt (hS.blk 2 rfl) 0 3 rfl) rfl rfl ?_
  refine q_move rfl rfl ?_
  refine q_move rfl rfl ?_
  obtain ⟨r104, hr104, h⟩ := Option.of_bind h
  refine q_call rfl (causal_Clock_w (a0 := (⟨a0.lens, a0.ckpts, a0.arcs⟩ : Pat)) (Sep.enter (As := []) hS) f1 f2 f3 hr104) rfl ?_
  rintro v105 w103 ⟨_, R103, rfl, hC103, f105⟩
  have hB103 : Below (World.heap w99).size w99 w103 := hC103.stepB0
  refine ⟨fun _ => .of_below hB103, ?_⟩
  replace f1 := (f1.ext hB103).mono fun k hk _ => hC103.ro0 k hk
  replace f2 := (f2.ext hB103).mono fun k hk _ => hC103.ro0 k hk
  replace f3 := (f3.ext hB103).mono fun k hk _ => hC103.ro0 k hk
  replace hS := Sep.leave (As := []) hS hC103; simp only [List.cons_append, List.nil_append] at hS
  refine q_lenS rfl f105 rfl ?_
  refine q_move rfl rfl ?_
  refine eseq_nil ?_
  refine hK102 _ _ ?_
  refine e_block ?_
  obtain ⟨tl106, ht106, h⟩ := Option.of_bind h
  have hX106_0 : ∀ (x163 : (List Int)) (R161 : Nat → Prop) (w162 : World) (E_ : Env), depend_intervals_K1 fuel x163 = some r → Sep F R R161 w w162 [HP.blk bl96 (List.map encI (List.replicate 5 (0 : Int))) 175, HP.blk bl99 (List.map encI x163) 175] → Sub [(6, .pointer (some ⟨bl96, 0, none⟩)), (7, .pointer (some ⟨bl99, 0, none⟩))] E_ → K101 E_ w162 := by
    intro x163 R161 w162 E_ h hS  hsub
    refine hK101 _ _ (e_sub hsub ?_); clear hsub
    unfold depend_intervals_K1 at h
    refine e_seq fun K164 hK164 => ?_
    refine e_region_text rfl ?_
    obtain ⟨u165, hu165, h⟩ := Option.of_bind h
    refine q_loadAV rfl (hS.blk 1 rfl) hu165 rfl ?_
    obtain ⟨u167, hu167, h⟩ := Option.of_bind h
    obtain ⟨u168, hu168, h⟩ := Option.of_bind h
    refine q_storeAV rfl rfl (hS.blk 0 rfl) hu167 hu168 rfl rfl fun w166 hb166 hO166 => ?_
    have hk166 := hS.keptBlk 0 rfl hO166
    replace hS := hS.setBlk 0 rfl hb166 hO166; simp only [List.set] at hS
    refine eseq_nil ?_
    refine hK164 _ _ ?_
    refine e_ret ?_
    obtain rfl := Option.some.inj h
    exact ⟨_, resA rfl rfl (hS.blk 0 rfl) hu168, _, rfl, (hS.pickB [] 2 rfl rfl)⟩
  refine e_loop (fun m_ E_ w134 => ∃ (x138 : (List Int)), ∃ (x140 : Int), ∃ (R133 : Nat → Prop), iter (fun s => depend_intervals_B1 fuel r104 a0 s.1 s.2) m_ (x138, x140) = some tl106 ∧ Sep F R R133 w w134 [HP.blk bl94 [v1, v2, v3] 31, HP.blk bl96 (List.map encI (List.replicate 5 (0 : Int))) 175, HP.blk bl99 (List.map encI x138) 175] ∧ IsSlice Ty.int w134 R133 v1 a0.lens ∧ IsSlice (Ty.slice Ty.int) w134 R133 v2 a0.ckpts ∧ IsSlice arcTy w134 R133 v3 a0.arcs ∧ IsSlice Ty.int w134 R133 v105 r104 ∧ E_ = [(3, .pointer (some ⟨bl94, 0, none⟩)), (6, .pointer (some ⟨bl96, 0, none⟩)), (7, .pointer (some ⟨bl99, 0, none⟩)), (13, v105), (14, .int .i64 (r104.length : Int)), (15, .int .i64 x140)]) _ ⟨_, ⟨(List.replicate 5 (0 : Int)), 0, _, ht106, (hS.pickB [2, 1, 0] 3 rfl rfl), f1, f2, f3, f105, rfl⟩, Sub.cons rfl (Sub.cons rfl (Sub.cons rfl (Sub.cons rfl (Sub.cons rfl (Sub.cons rfl (Sub.nil _))))))⟩ ?_
  clear ht106 hS
  rintro m106 _ w134 ⟨x138, x140, R133, ht106, hS, f135, f136, f137, f139, rfl⟩
  obtain ⟨m106, rfl, o106, ho106, ht106⟩ := iter_some ht106
  replace ho106 : depend_intervals_B1 fuel r104 a0 x138 x140 = some o106 := ho106
  unfold depend_intervals_B1 at ho106
  refine e_seq fun K169 hK169 => ?_
  refine e_region_text rfl ?_
  refine q_lss rfl rfl rfl ?_
  refine eseq_nil ?_
  refine hK169 _ _ ?_
  refine e_seq fun K170 hK170 => ?_
  refine e_cond rfl (fun hc171 => ?_) (fun hc171 => ?_)
  · replace ho106 := (if_pos hc171).symm.trans ho106
    refine e_skip ?_
    refine hK170 _ _ ?_
    refine e_seq fun K172 hK172 => ?_
    refine e_block ?_
    refine e_seq fun K173 hK173 => ?_
    refine e_region_text rfl ?_
    refine q_move rfl rfl ?_
    obtain ⟨x174, hx174, ho106⟩ := Option.of_bind ho106
    refine q_atS (by infer_instance) rfl f139 rfl hx174 rfl fun b175 o175 hm175 f175 => ?_
    refine q_load rfl (Elt.intCell f175) rfl ?_
    refine q_assign rfl rfl ?_
    refine q_assign rfl rfl ?_
    refine eseq_nil ?_
    refine hK173 _ _ ?_
    refine e_region_text rfl ?_
    refine q_move rfl rfl ?_
    refine q_loadAgg rfl (Blk.cellsAt (hS.blk 0 rfl) 0 3 rfl) rfl rfl ?_
    refine q_move rfl rfl ?_
    refine q_move rfl rfl ?_
    obtain ⟨r177, hr177, ho106⟩ := Option.of_bind ho106
    refine q_call rfl (pattern_Interval_w (a0 := (⟨a0.lens, a0.ckpts, a0.arcs⟩ : Pat)) (Sep.enter (As := []) hS) f135 f136 f137 hr177) rfl ?_
    rintro _ w176 ⟨R176, rfl, hC176⟩
    have hB176 : Below (World.heap w134).size w134 w176 := hC176.stepB0
    refine ⟨fun _ => .of_below hB176, ?_⟩
    replace f135 := (f135.ext hB176).mono fun k hk _ => hC176.ro0 k hk
    replace f136 := (f136.ext hB176).mono fun k hk _ => hC176.ro0 k hk
    replace f137 := (f137.ext hB176).mono fun k hk _ => hC176.ro0 k hk
    replace f139 := (f139.ext hB176).mono fun k hk _ => hC176.ro0 k hk
    replace hS := Sep.leave (As := []) hS hC176; simp only [List.cons_append, List.nil_append] at hS
    obtain ⟨x178, hx178, ho106⟩ := Option.of_bind ho106
    refine q_indexA rfl rfl hx178 rfl ?_
    obtain ⟨x180, hx180, ho106⟩ := Option.of_bind ho106
    refine q_storeAI rfl rfl (hS.blk 2 rfl) hx180 rfl rfl fun w179 hb179 hO179 => ?_
    have hk179 := hS.keptBlk 2 rfl hO179
    replace f135 := f135.kept hk179
    replace f136 := f136.kept hk179
    replace f137 := f137.kept hk179
    replace f139 := f139.kept hk179
    replace hS := hS.setBlk 2 rfl hb179 hO179; simp only [List.set] at hS
    refine eseq_nil ?_
    refine hK172 _ _ ?_
    refine e_region_text rfl ?_
    refine q_addW rfl rfl rfl ?_
    refine q_move rfl rfl ?_
    refine eseq_nil ?_
    obtain rfl := Option.some.inj ho106
    exact ⟨m106, _, Nat.lt_succ_self _, ⟨x180, (w64 (x140 + 1)), _, ht106, hS, f135, f136, f137, f139, rfl⟩, Sub.cons rfl (Sub.cons rfl (Sub.cons rfl (Sub.cons rfl (Sub.cons rfl (Sub.cons rfl (Sub.nil _))))))⟩
  · replace ho106 := (if_neg (not_true hc171)).symm.trans ho106
    refine e_exit ?_
    obtain rfl := Option.some.inj ho106
    obtain rfl := Option.some.inj ht106
    exact hX106_0 x138 _ _ _ h (hS.pickB [1, 2] 3 rfl rfl)  (Sub.cons rfl (Sub.cons rfl (Sub.nil _)))
theorem depend_Vector_w {F R : Nat → Prop} {w : World} {fuel : Nat} {a0 : Pat} {a1 : Int} {a2 : Int} {v1 : Value} {v2 : Value} {v3 : Value} {r : ((List Int))} (hS : Sep F R R w w []) (f1 : IsSlice Ty.int w R v1 a0.lens) (f2 : IsSlice (Ty.slice Ty.int) w R v2 a0.ckpts) (f3 : IsSlice arcTy w R v3 a0.arcs) (h : depend_Vector fuel a0 a1 a2 = some r) :
    Gives Try.prog 72 [.agg #[v1, v2, v3], .int .i64 a1, .int .i64 a2] w fun u w1 => ∃ (v41 : Value), ∃ (R1 : Nat → Prop), u = v41 ∧ Sep F R R1 w w1 [HP.own Ty.int (fun _ => False) 3 v41 r] := by
  refine fn_of Try.func72 rfl Try.ntmps72 (Nat.le_of_ble_eq_true rfl) ?_
  unfold depend_Vector at h
  refine e_seq fun K42 hK42 => ?_
  refine e_region_text rfl ?_
  refine q_boxB rfl rfl rfl fun w43 bl43 hg43 hb43 hB43 => ?_
  replace f1 := f1.ext hB43
  replace f2 := f2.ext hB43
  replace f3 := f3.ext hB43
  replace hS := hS.newBlk hB43 hg43 hb43
  refine q_assign rfl rfl ?_
  refine eseq_nil ?_
  refine hK42 _ _ ?_
  refine e_seq fun K45 hK45 => ?_
  refine e_seq fun K46 hK46 => ?_
  refine e_region_text rfl ?_
  refine q_loadAgg rfl (Blk.cellsAt (hS.blk 0 rfl) 0 3 rfl) rfl rfl ?_
  refine q_move rfl rfl ?_
  refine q_build (Parts.cons rfl rfl Parts.nil) rfl rfl ?_
  obtain ⟨r48, hr48, h⟩ := Option.of_bind h
  refine q_call rfl (depend_exists_w (a0 := (⟨a0.lens, a0.ckpts, a0.arcs⟩ : Pat)) (a1 := (⟨a1, 0⟩ : Pt)) (Sep.enter (As := []) hS) f1 f2 f3 hr48) rfl ?_
  rintro _ w47 ⟨R47, rfl, hC47⟩
  have hB47 : Below (World.heap w43).size w43 w47 := hC47.stepB0
  refine ⟨fun _ => .of_below hB47, ?_⟩
  replace f1 := (f1.ext hB47).mono fun k hk _ => hC47.ro0 k hk
  replace f2 := (f2.ext hB47).mono fun k hk _ => hC47.ro0 k hk
  replace f3 := (f3.ext hB47).mono fun k hk _ => hC47.ro0 k hk
  replace hS := Sep.leave (As := []) hS hC47; simp only [List.cons_append, List.nil_append] at hS
  refine q_not rfl rfl ?_
  refine q_move rfl rfl ?_
  obtain ⟨x52, hx51, h⟩ := Option.of_bind h
  refine g_orM 2 hx51 rfl trivial rfl rfl ?_ ?_ ?_
  · intro hg51
    refine g_skip rfl rfl rfl ?_
    refine g_skip rfl rfl rfl ?_
    exact eseq_nil ⟨rfl, Sub.set rfl (Sub.set rfl (Sub.bool true rfl hg51))⟩
  · intro hg51 hx51
    clear h
    have hT51 := Below.refl (World.heap w47).size w47
    refine g_run rfl ?_; refine q_move rfl rfl ?_
    refine g_run rfl ?_; refine q_lss rfl rfl rfl ?_
    cases hx51
    exact eseq_nil ⟨hT51, Sub.set rfl (Sub.set rfl (Sub.bool false rfl hg51)), rfl⟩
  intro wm51 hBm51; clear hx51
  replace hS := hS.below hBm51
  replace f1 := f1.ext hBm51
  replace f2 := f2.ext hBm51
  replace f3 := f3.ext hBm51
  refine q_move rfl rfl ?_
  obtain ⟨x58, hx57, h⟩ := Option.of_bind h
  refine g_orM 7 hx57 rfl trivial rfl rfl ?_ ?_ ?_
  · intro hg57
    refine g_skip rfl rfl rfl ?_
    refine g_skip rfl rfl rfl ?_
    refine g_skip rfl rfl rfl ?_
    refine g_skip rfl rfl rfl ?_
    refine g_skip rfl rfl rfl ?_
    refine g_skip rfl rfl rfl ?_
    refine g_skip rfl rfl rfl ?_
    exact eseq_nil ⟨rfl, Sub.set rfl (Sub.set rfl (Sub.set rfl (Sub.set rfl (Sub.set rfl (Sub.set rfl (Sub.set rfl (Sub.bool true rfl hg57)))))))⟩
  · intro hg57 hx57
    clear h
    have hT57 := Below.refl (World.heap wm51).size wm51
    refine g_run rfl ?_; refine q_move rfl rfl ?_
    refine g_run rfl ?_; refine q_field rfl rfl ?_
    refine g_run rfl ?_; refine q_load rfl (Blk.cell (hS.blk 0 rfl) rfl) rfl ?_
    refine g_run rfl ?_; refine q_move rfl rfl ?_
    obtain ⟨x59, hx59, hx57⟩ := Option.of_bind hx57
    refine g_run rfl ?_; refine q_atS (by infer_instance) rfl f1 rfl hx59 rfl fun b60 o60 hm60 f60 => ?_
    refine g_run rfl ?_; refine q_load rfl (Elt.intCell f60) rfl ?_
    refine g_run rfl ?_; refine q_gtr rfl rfl rfl ?_
    cases hx57
    exact eseq_nil ⟨hT57, Sub.set rfl (Sub.set rfl (Sub.set rfl (Sub.set rfl (Sub.set rfl (Sub.set rfl (Sub.set rfl (Sub.bool false rfl hg57))))))), rfl⟩
  intro wm57 hBm57; clear hx57
  replace hS := hS.below hBm57
  replace f1 := f1.ext hBm57
  replace f2 := f2.ext hBm57
  replace f3 := f3.ext hBm57
  refine eseq_nil ?_
  refine hK46 _ _ ?_
  refine e_cond rfl (fun hc61 => ?_) (fun hc61 => ?_)
  · replace h := (if_pos hc61).symm.trans h
    refine e_seq fun K62 hK62 => ?_
    refine e_region_text rfl ?_
    refine q_assign rfl rfl ?_
    refine eseq_nil ?_
    refine hK62 _ _ ?_
    refine e_ret ?_
    replace hS := hS.nilOwn0 Ty.int 3
    obtain rfl := Option.some.inj h
    exact ⟨_, res1 rfl rfl, (.slice none 0 0), _, rfl, (hS.pickB [0] 2 rfl rfl)⟩
  · replace h := (if_neg (not_true hc61)).symm.trans h
    refine e_skip ?_
    refine hK45 _ _ ?_
    refine e_seq fun K65 hK65 => ?_
    refine e_region_text rfl ?_
    refine q_loadAgg rfl (Blk.cellsAt (hS.blk 0 rfl) 0 3 rfl) rfl rfl ?_
    refine q_move rfl rfl ?_
    refine q_move rfl rfl ?_
    obtain ⟨r67, hr67, h⟩ := Option.of_bind h
    refine q_call rfl (depend_intervals_w (a0 := (⟨a0.lens, a0.ckpts, a0.arcs⟩ : Pat)) (Sep.enter (As := []) hS) f1 f2 f3 hr67) rfl ?_
    rintro _ w66 ⟨R66, rfl, hC66⟩
    have hB66 : Below (World.heap wm57).size wm57 w66 := hC66.stepB0
    refine ⟨fun _ => .of_below hB66, ?_⟩
    replace f1 := (f1.ext hB66).mono fun k hk _ => hC66.ro0 k hk
    replace f2 := (f2.ext hB66).mono fun k hk _ => hC66.ro0 k hk
    replace f3 := (f3.ext hB66).mono fun k hk _ => hC66.ro0 k hk
    replace hS := Sep.leave (As := []) hS hC66; simp only [List.cons_append, List.nil_append] at hS
    refine q_allocB rfl fun w68 bl68 hg68 hb68 hB68 => ?_
    replace f1 := f1.ext hB68
    replace f2 := f2.ext hB68
    replace f3 := f3.ext hB68
    replace hS := hS.newBlk hB68 hg68 hb68
    obtain ⟨u71, hu71, h⟩ := Option.of_bind h
    obtain ⟨u72, hu72, h⟩ := Option.of_bind h
    refine q_storeAV rfl rfl (hS.blk 0 rfl) hu71 hu72 rfl rfl fun w70 hb70 hO70 => ?_
    have hk70 := hS.keptBlk 0 rfl hO70
    replace f1 := f1.kept hk70
    replace f2 := f2.kept hk70
    replace f3 := f3.kept hk70
    replace hS := hS.setBlk 0 rfl hb70 hO70; simp only [List.set] at hS
    refine eseq_nil ?_
    refine hK65 _ _ ?_
    refine e_seq fun K73 hK73 => ?_
    refine e_region_text rfl ?_
    refine q_field rfl rfl ?_
    refine q_load rfl (Blk.cell (hS.blk 1 rfl) rfl) rfl ?_
    refine q_lenS rfl f1 rfl ?_
    obtain ⟨R74, hS, hm74, f74⟩ := hS.lend 0 rfl; simp only [List.eraseIdx] at hS
    obtain ⟨u76, hu76, h⟩ := Option.of_bind h
    obtain ⟨x77, hx77, h⟩ := Option.of_bind h
    refine q_sliceArr rfl f74 hu76 rfl hx77 rfl fun v75 f75 => ?_
    obtain ⟨r79, hr79, h⟩ := Option.of_bind h
    refine q_call rfl (Clone_Int_w (Sep.enter (As := []) hS) f75 hr79) rfl ?_
    rintro v80 w78 ⟨_, R78, rfl, hC78⟩
    have hB78 : Below (World.heap w70).size w70 w78 := hC78.stepB0
    refine ⟨fun _ => .of_below hB78, ?_⟩
    replace f75 := (f75.ext hB78).mono fun k hk _ => hC78.ro0 k hk
    replace hS := Sep.leave (As := []) hS hC78; simp only [List.cons_append, List.nil_append] at hS
    refine q_assign rfl rfl ?_
    refine eseq_nil ?_
    refine hK73 _ _ ?_
    refine e_ret ?_
    obtain rfl := Option.some.inj h
    exact ⟨_, res1 rfl rfl, v80, _, rfl, (hS.pickB [0] 2 rfl rfl)⟩
theorem depend_Ckpt_w {F R : Nat → Prop} {w : World} {fuel : Nat} {a0 : Pat} {a1 : Int} {a2 : Int} {v1 : Value} {v2 : Value} {v3 : Value} {r : ((List Int))} (hS : Sep F R R w w []) (f1 : IsSlice Ty.int w R v1 a0.lens) (f2 : IsSlice (Ty.slice Ty.int) w R v2 a0.ckpts) (f3 : IsSlice arcTy w R v3 a0.arcs) (h : depend_Ckpt fuel a0 a1 a2 = some r) :
    Gives Try.prog 34 [.agg #[v1, v2, v3], .int .i64 a1, .int .i64 a2] w fun u w1 => ∃ (v24 : Value), ∃ (R1 : Nat → Prop), u = v24 ∧ Sep F R R1 w w1 [HP.own Ty.int (fun _ => False) 3 v24 r] := by
  refine fn_of Try.func34 rfl Try.ntmps34 (Nat.le_of_ble_eq_true rfl) ?_
  unfold depend_Ckpt at h
  refine e_seq fun K25 hK25 => ?_
  refine e_region_text rfl ?_
  refine q_boxB rfl rfl rfl fun w26 bl26 hg26 hb26 hB26 => ?_
  replace f1 := f1.ext hB26
  replace f2 := f2.ext hB26
  replace f3 := f3.ext hB26
  replace hS := hS.newBlk hB26 hg26 hb26
  refine q_assign rfl rfl ?_
  refine eseq_nil ?_
  refine hK25 _ _ ?_
  refine e_seq fun K28 hK28 => ?_
  refine e_seq fun K29 hK29 => ?_
  refine e_region_text rfl ?_
  refine q_loadAgg rfl (Blk.cellsAt (hS.blk 0 rfl) 0 3 rfl) rfl rfl ?_
  refine q_move rfl rfl ?_
  refine q_move rfl rfl ?_
  refine q_build (Parts.cons rfl rfl (Parts.cons rfl rfl Parts.nil)) rfl rfl ?_
  obtain ⟨r31, hr31, h⟩ := Option.of_bind h
  refine q_call rfl (depend_exists_w (a0 := (⟨a0.lens, a0.ckpts, a0.arcs⟩ : Pat)) (a1 := (⟨a1, a2⟩ : Pt)) (Sep.enter (As := []) hS) f1 f2 f3 hr31) rfl ?_
  rintro _ w30 ⟨R30, rfl, hC30⟩
  have hB30 : Below (World.heap w26).size w26 w30 := hC30.stepB0
  refine ⟨fun _ => .of_below hB30, ?_⟩
  replace f1 := (f1.ext hB30).mono fun k hk _ => hC30.ro0 k hk
  replace f2 := (f2.ext hB30).mono fun k hk _ => hC30.ro0 k hk
  replace f3 := (f3.ext hB30).mono fun k hk _ => hC30.ro0 k hk
  replace hS := Sep.leave (As := []) hS hC30; simp only [List.cons_append, List.nil_append] at hS
  refine q_not rfl rfl ?_
  refine eseq_nil ?_
  refine hK29 _ _ ?_
  refine e_cond rfl (fun hc32 => ?_) (fun hc32 => ?_)
  · replace h := (if_pos hc32).symm.trans h
    refine e_seq fun K33 hK33 => ?_
    refine e_region_text rfl ?_
    refine q_assign rfl rfl ?_
    refine eseq_nil ?_
    refine hK33 _ _ ?_
    refine e_ret ?_
    replace hS := hS.nilOwn0 Ty.int 3
    obtain rfl := Option.some.inj h
    exact ⟨_, res1 rfl rfl, (.slice none 0 0), _, rfl, (hS.pickB [0] 2 rfl rfl)⟩
  · replace h := (if_neg (not_true hc32)).symm.trans h
    refine e_skip ?_
    refine hK28 _ _ ?_
    refine e_seq fun K35 hK35 => ?_
    refine e_region_draw mixed (fun _ => False) [0, 0, 0, 0, 0, 28, 63, 127] [5] [0, 1, 2, 3, 4, 5, 6, 7] (by kernel_rfl) ?_
    refine q_loadAgg rfl (Blk.cellsAt (hS.blk 0 rfl) 0 3 rfl) rfl rfl ?_
    refine q_move rfl rfl ?_
    refine q_loadAgg rfl (Blk.cellsAt (hS.blk 0 rfl) 0 3 rfl) rfl rfl ?_
    refine q_move rfl rfl ?_
    refine q_move rfl rfl ?_
    obtain ⟨r42, hr42, h⟩ := Option.of_bind h
    refine q_call rfl (depend_Index_w (a0 := (⟨a0.lens, a0.ckpts, a0.arcs⟩ : Pat)) (Sep.enter (As := []) hS) f1 f2 f3 hr42) rfl ?_
    rintro _ w41 ⟨R41, rfl, hC41⟩
    have hB41 : Below (World.heap w30).size w30 w41 := hC41.stepB0
    refine ⟨fun _ => .of_below hB41, ?_⟩
    replace f1 := (f1.ext hB41).mono fun k hk _ => hC41.ro0 k hk
    replace f2 := (f2.ext hB41).mono fun k hk _ => hC41.ro0 k hk
    replace f3 := (f3.ext hB41).mono fun k hk _ => hC41.ro0 k hk
    replace hS := Sep.leave (As := []) hS hC41; simp only [List.cons_append, List.nil_append] at hS
    obtain ⟨r44, hr44, h⟩ := Option.of_bind h
    refine q_call rfl (depend_Vector_w (a0 := (⟨a0.lens, a0.ckpts, a0.arcs⟩ : Pat)) (Sep.enter (As := []) hS) f1 f2 f3 hr44) rfl ?_
    rintro v45 w43 ⟨_, R43, rfl, hC43⟩
    have hB43 : Below (World.heap w41).size w41 w43 := hC43.stepB0
    refine ⟨fun _ => .of_below hB43, ?_⟩
    replace f1 := (f1.ext hB43).mono fun k hk _ => hC43.ro0 k hk
    replace f2 := (f2.ext hB43).mono fun k hk _ => hC43.ro0 k hk
    replace f3 := (f3.ext hB43).mono fun k hk _ => hC43.ro0 k hk
    replace hS := Sep.leave (As := []) hS hC43; simp only [List.cons_append, List.nil_append] at hS
    refine q_assign rfl rfl ?_
    refine eseq_nil ?_
    refine hK35 _ _ ?_
    refine e_ret ?_
    obtain rfl := Option.some.inj h
    exact ⟨_, res1 rfl rfl, v45, _, rfl, (hS.pickB [0] 2 rfl rfl)⟩
end Go.Proofs.Ytbmjcbhappjnaaa
