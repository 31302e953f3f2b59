/- Printed walks: A19. -/
import Derived.Test.YtlceljfigccllaaA17
import Derived.Test.YtlceljfigccllaaA20x
import Derived.Test.YtlceljfigccllaaA18a
set_option linter.unusedVariables false
set_option linter.unusedSimpArgs false
namespace Go.Mine
open Go.RowKit
def depend_exists (fuel : Nat) (a0 : Pat) (a1 : Pt) : Option (Bool) :=
  (pattern_Check fuel (⟨a0.lens, a0.ckpts, a0.arcs⟩ : Pat)).bind fun r42 => (orM (r42 != 0) (some (decide (a1.proc < 0)))).bind fun x46 => (orM x46 (some (decide ((a0.lens.length : Int) ≤ a1.proc)))).bind fun x50 => (if x50 = true then some false else (andM (decide (0 ≤ a1.index)) ((ati a0.ckpts a1.proc).bind fun x61 => some (decide (a1.index ≤ (x61.length : Int))))).bind fun x60 => some x60)
def depend_intervals_K1 (fuel : Nat) (x163 : (List Int)) : Option ((List Int)) :=
  (lenOk x163 5).bind fun u165 => (lenOk (List.replicate 5 (0 : Int)) 5).bind fun u167 => (lenOk x163 5).bind fun u168 => some x163
def depend_intervals_B1 (fuel : Nat) (r104 : ((List Int))) (a0 : Pat) (x138 : (List Int)) (x140 : Int) : Option (((List Int) × Int) ⊕ ((List Int))) :=
  (if (decide (x140 < (r104.length : Int))) = true then (ati r104 x140).bind fun x174 => (pattern_Interval fuel (⟨a0.lens, a0.ckpts, a0.arcs⟩ : Pat) x140 x174).bind fun r177 => (bnd x140 5).bind fun x178 => (seti x138 (((ix 0 x178 1) : Nat) : Int) r177).bind fun x180 => some (Sum.inl (x180, (w64 (x140 + 1)))) else some (Sum.inr x138))
def depend_intervals (fuel : Nat) (a0 : Pat) (a1 : Int) (a2 : Int) : Option ((List Int)) :=
  (causal_Clock fuel (⟨a0.lens, a0.ckpts, a0.arcs⟩ : Pat) a1 a2).bind fun r104 => (iter (fun s => depend_intervals_B1 fuel r104 a0 s.1 s.2) fuel ((List.replicate 5 (0 : Int)), 0)).bind (fun t => depend_intervals_K1 fuel t)
def depend_extended (fuel : Nat) (a0 : Pat) (a1 : Pt) : Option ((List Int)) :=
  (depend_Index fuel (⟨a0.lens, a0.ckpts, a0.arcs⟩ : Pat) a1.proc a1.index).bind fun r42 => (depend_intervals fuel (⟨a0.lens, a0.ckpts, a0.arcs⟩ : Pat) a1.proc r42).bind fun r44 => (lenOk (List.replicate 5 (0 : Int)) 5).bind fun u46 => (lenOk r44 5).bind fun u47 => some r44
def depend_Vector (fuel : Nat) (a0 : Pat) (a1 : Int) (a2 : Int) : Option ((List Int)) :=
  (depend_exists fuel (⟨a0.lens, a0.ckpts, a0.arcs⟩ : Pat) (⟨a1, 0⟩ : Pt)).bind fun r48 => (orM (!r48) (some (decide (a2 < 0)))).bind fun x52 => (orM x52 ((ati a0.lens a1).bind fun x59 => some (decide (x59 < a2)))).bind fun x58 => (if x58 = true then some ([] : List Int) else (depend_intervals fuel (⟨a0.lens, a0.ckpts, a0.arcs⟩ : Pat) a1 a2).bind fun r67 => (lenOk (List.replicate 5 (0 : Int)) 5).bind fun u71 => (lenOk r67 5).bind fun u72 => (lenOk r67 5).bind fun u76 => (takeL r67 (a0.lens.length : Int)).bind fun x77 => (Clone_Int fuel x77).bind fun r79 => some r79)
def depend_Ckpt (fuel : Nat) (a0 : Pat) (a1 : Int) (a2 : Int) : Option ((List Int)) :=
  (depend_exists fuel (⟨a0.lens, a0.ckpts, a0.arcs⟩ : Pat) (⟨a1, a2⟩ : Pt)).bind fun r31 => (if (!r31) = true then some ([] : List Int) else (depend_Index fuel (⟨a0.lens, a0.ckpts, a0.arcs⟩ : Pat) a1 a2).bind fun r42 => (depend_Vector fuel (⟨a0.lens, a0.ckpts, a0.arcs⟩ : Pat) a1 r42).bind fun r44 => some r44)
def depend_Depends (fuel : Nat) (a0 : Pat) (a1 : Pt) (a2 : Pt) : Option (Bool) :=
  (depend_exists fuel (⟨a0.lens, a0.ckpts, a0.arcs⟩ : Pat) (⟨a2.proc, a2.index⟩ : Pt)).bind fun r46 => (orM (!r46) ((depend_exists fuel (⟨a0.lens, a0.ckpts, a0.arcs⟩ : Pat) (⟨a1.proc, a1.index⟩ : Pt)).bind fun r54 => some (!r54))).bind fun x52 => (if x52 = true then some false else (depend_extended fuel (⟨a0.lens, a0.ckpts, a0.arcs⟩ : Pat) (⟨a1.proc, a1.index⟩ : Pt)).bind fun r59 => (lenOk (List.replicate 5 (0 : Int)) 5).bind fun u63 => (lenOk r59 5).bind fun u65 => (bnd a2.proc 5).bind fun x67 => (ati r59 (((ix 0 x67 1) : Nat) : Int)).bind fun x68 => some (decide (a2.index < x68)))
def depend_Global_K2 (fuel : Nat) : Option (Bool) :=
  some true
def depend_Global_K3 (fuel : Nat) (x726 : Int) : Option ((Int) ⊕ (Unit ⊕ (Bool))) :=
  some (Sum.inl (w64 (x726 + 1)))
def depend_Global_B2 (fuel : Nat) (a1 : (List Int)) (x726 : Int) (r860 : ((List Int))) (x911 : Int) : Option ((Int) ⊕ (Unit ⊕ (Bool))) :=
  (if (decide (x911 < (a1.length : Int))) = true then (ati a1 x911).bind fun x951 => (andM (x911 != x726) ((bnd x911 5).bind fun x960 => (ati r860 (((ix 0 x960 1) : Nat) : Int)).bind fun x961 => some (decide (x951 < x961)))).bind fun x959 => (if x959 = true then some (Sum.inr (Sum.inr false)) else some (Sum.inl (w64 (x911 + 1)))) else some (Sum.inr (Sum.inl ())))
def depend_Global_B1 (fuel : Nat) (a1 : (List Int)) (a0 : Pat) (x726 : Int) : Option ((Int) ⊕ (Unit ⊕ (Bool))) :=
  (if (decide (x726 < (a1.length : Int))) = true then (ati a1 x726).bind fun x856 => (depend_extended fuel (⟨a0.lens, a0.ckpts, a0.arcs⟩ : Pat) (⟨x726, x856⟩ : Pt)).bind fun r860 => (lenOk (List.replicate 5 (0 : Int)) 5).bind fun u864 => (lenOk r860 5).bind fun u865 => (iter (fun s => depend_Global_B2 fuel a1 x726 r860 s) fuel 0).bind (fun t => Sum.elim (fun t => depend_Global_K3 fuel x726) (fun t => some (Sum.inr (Sum.inr t))) t) else some (Sum.inr (Sum.inl ())))
def depend_Global_K1 (fuel : Nat) (a1 : (List Int)) (a0 : Pat) : Option (Bool) :=
  (iter (fun s => depend_Global_B1 fuel a1 a0 s) fuel 0).bind (fun t => Sum.elim (fun t => depend_Global_K2 fuel) (fun t => some t) t)
def depend_Global_B3 (fuel : Nat) (a1 : (List Int)) (a0 : Pat) (x553 : Int) : Option ((Int) ⊕ (Unit ⊕ (Bool))) :=
  (if (decide (x553 < (a1.length : Int))) = true then (ati a1 x553).bind fun x969 => (orM (decide (x969 < 0)) ((ati a0.ckpts x553).bind fun x979 => some (decide ((x979.length : Int) < x969)))).bind fun x978 => (if x978 = true then some (Sum.inr (Sum.inr false)) else some (Sum.inl (w64 (x553 + 1)))) else some (Sum.inr (Sum.inl ())))
def depend_Global (fuel : Nat) (a0 : Pat) (a1 : (List Int)) : Option (Bool) :=
  (pattern_Check fuel (⟨a0.lens, a0.ckpts, a0.arcs⟩ : Pat)).bind fun r501 => (orM (r501 != 0) (some ((a1.length : Int) != (a0.lens.length : Int)))).bind fun x505 => (if x505 = true then some false else (iter (fun s => depend_Global_B3 fuel a1 a0 s) fuel 0).bind (fun t => Sum.elim (fun t => depend_Global_K1 fuel a1 a0) (fun t => some t) t))
end Go.Mine
namespace Go.Proofs.Ytlceljfigccllaa
open Go.RowKit Go.Mine
attribute [local irreducible] eseq ewp iter
theorem depend_exists_w {F R : Nat → Prop} {w : World} {fuel : Nat} {a0 : Pat} {a1 : Pt} {v1 : Value} {v2 : Value} {v3 : Value} {r : (Bool)} (hS : Sep F R R w w []) (f1 : IsSlice Ty.int w R v1 a0.lens) (f2 : IsSlice (Ty.slice Ty.int) w R v2 a0.ckpts) (f3 : IsSlice arcTy w R v3 a0.arcs) (h : depend_exists fuel a0 a1 = some r) :
    Gives Try.prog 67 [.agg #[v1, v2, v3], .agg #[.int .i64 a1.proc, .int .i64 a1.index]] w fun u w1 => ∃ (R1 : Nat → Prop), u = .bool r ∧ Sep F R R1 w w1 [] := by
  refine fn_of Try.func67 rfl Try.ntmps67 (Nat.le_of_ble_eq_true rfl) ?_
  unfold depend_exists at h
  refine e_seq fun K34 hK34 => ?_
  refine e_region_text rfl ?_
  refine q_boxB rfl rfl rfl fun w35 bl35 hg35 hb35 hB35 => ?_
  replace f1 := f1.ext hB35
  replace f2 := f2.ext hB35
  replace f3 := f3.ext hB35
  replace hS := hS.newBlk hB35 hg35 hb35
  refine q_boxB rfl rfl rfl fun w37 bl37 hg37 hb37 hB37 => ?_
  replace f1 := f1.ext hB37
  replace f2 := f2.ext hB37
  replace f3 := f3.ext hB37
  replace hS := hS.newBlk hB37 hg37 hb37
  refine q_assign rfl rfl ?_
  refine eseq_nil ?_
  refine hK34 _ _ ?_
  refine e_seq fun K39 hK39 => ?_
  refine e_seq fun K40 hK40 => ?_
  refine e_region_text rfl ?_
  refine q_loadAgg rfl (Blk.cellsAt (hS.blk 1 rfl) 0 3 rfl) rfl rfl ?_
  obtain ⟨r42, hr42, h⟩ := Option.of_bind h
  refine q_call rfl (pattern_Check_w (a0 := (⟨a0.lens, a0.ckpts, a0.arcs⟩ : Pat)) (Sep.enter (As := []) hS) f1 f2 f3 hr42) rfl ?_
  rintro _ w41 ⟨R41, rfl, hC41⟩
  have hB41 : Below (World.heap w37).size w37 w41 := hC41.stepB0
  refine ⟨fun _ => .of_below hB41, ?_⟩
  replace f1 := (f1.ext hB41).mono fun k hk _ => hC41.ro0 k hk
  replace f2 := (f2.ext hB41).mono fun k hk _ => hC41.ro0 k hk
  replace f3 := (f3.ext hB41).mono fun k hk _ => hC41.ro0 k hk
  replace hS := Sep.leave (As := []) hS hC41; simp only [List.cons_append, List.nil_append] at hS
  refine q_neq rfl rfl rfl ?_
  refine q_move rfl rfl ?_
  obtain ⟨x46, hx45, h⟩ := Option.of_bind h
  refine g_orM 3 hx45 rfl trivial rfl rfl ?_ ?_ ?_
  · intro hg45
    refine g_skip rfl rfl rfl ?_
    refine g_skip rfl rfl rfl ?_
    refine g_skip rfl rfl rfl ?_
    exact eseq_nil ⟨rfl, Sub.set rfl (Sub.set rfl (Sub.set rfl (Sub.bool true rfl hg45)))⟩
  · intro hg45 hx45
    clear h
    have hT45 := Below.refl (World.heap w41).size w41
    refine g_run rfl ?_; refine q_field rfl rfl ?_
    refine g_run rfl ?_; refine q_load rfl (Blk.cell (hS.blk 0 rfl) rfl) rfl ?_
    refine g_run rfl ?_; refine q_lss rfl rfl rfl ?_
    cases hx45
    exact eseq_nil ⟨hT45, Sub.set rfl (Sub.set rfl (Sub.set rfl (Sub.bool false rfl hg45))), rfl⟩
  intro wm45 hBm45; clear hx45
  replace hS := hS.below hBm45
  replace f1 := f1.ext hBm45
  replace f2 := f2.ext hBm45
  replace f3 := f3.ext hBm45
  refine q_move rfl rfl ?_
  obtain ⟨x50, hx49, h⟩ := Option.of_bind h
  refine g_orM 6 hx49 rfl trivial rfl rfl ?_ ?_ ?_
  · intro hg49
    refine g_skip rfl rfl rfl ?_
    refine g_skip rfl rfl rfl ?_
    refine g_skip rfl rfl rfl ?_
    refine g_skip rfl rfl rfl ?_
    refine g_skip rfl rfl rfl ?_
    refine g_skip rfl rfl rfl ?_
    exact eseq_nil ⟨rfl, Sub.set rfl (Sub.set rfl (Sub.set rfl (Sub.set rfl (Sub.set rfl (Sub.set rfl (Sub.bool true rfl hg49))))))⟩
  · intro hg49 hx49
    clear h
    have hT49 := Below.refl (World.heap wm45).size wm45
    refine g_run rfl ?_; refine q_field rfl rfl ?_
    refine g_run rfl ?_; refine q_load rfl (Blk.cell (hS.blk 0 rfl) rfl) rfl ?_
    refine g_run rfl ?_; refine q_field rfl rfl ?_
    refine g_run rfl ?_; refine q_load rfl (Blk.cell (hS.blk 1 rfl) rfl) rfl ?_
    refine g_run rfl ?_; refine q_lenS rfl f1 rfl ?_
    refine g_run rfl ?_; refine q_geq rfl rfl rfl ?_
    cases hx49
    exact eseq_nil ⟨hT49, Sub.set rfl (Sub.set rfl (Sub.set rfl (Sub.set rfl (Sub.set rfl (Sub.set rfl (Sub.bool false rfl hg49)))))), rfl⟩
  intro wm49 hBm49; clear hx49
  replace hS := hS.below hBm49
  replace f1 := f1.ext hBm49
  replace f2 := f2.ext hBm49
  replace f3 := f3.ext hBm49
  refine eseq_nil ?_
  refine hK40 _ _ ?_
  refine e_cond rfl (fun hc51 => ?_) (fun hc51 => ?_)
  · replace h := (if_pos hc51).symm.trans h
    refine e_seq fun K52 hK52 => ?_
    refine e_region_text rfl ?_
    refine q_assign rfl rfl ?_
    refine eseq_nil ?_
    refine hK52 _ _ ?_
    refine e_ret ?_
    obtain rfl := Option.some.inj h
    exact ⟨_, res1 rfl rfl, _, rfl, (hS.pickB [] 2 rfl rfl)⟩
  · replace h := (if_neg (not_true hc51)).symm.trans h
    refine e_skip ?_
    refine hK39 _ _ ?_
    refine e_seq fun K53 hK53 => ?_
    refine e_region_draw mixed (fun _ => False) [0, 1, 3, 7, 15, 31, 15, 79, 15, 271, 975, 1999, 4047, 8191, 16383, 32767] [] [0, 1, 2, 3, 4, 5, 6, 7, 8, 9, 10, 11, 12, 13, 14, 15] (by kernel_rfl) ?_
    refine q_field rfl rfl ?_
    refine q_load rfl (Blk.cell (hS.blk 0 rfl) rfl) rfl ?_
    refine q_geq rfl rfl rfl ?_
    refine q_move rfl rfl ?_
    obtain ⟨x60, hx59, h⟩ := Option.of_bind h
    refine g_andM 10 hx59 rfl trivial rfl rfl ?_ ?_ ?_
    · intro hg59 hx59
      clear h
      have hT59 := Below.refl (World.heap wm49).size wm49
      refine g_run rfl ?_; refine q_field rfl rfl ?_
      refine g_run rfl ?_; refine q_load rfl (Blk.cell (hS.blk 0 rfl) rfl) rfl ?_
      refine g_run rfl ?_; refine q_field rfl rfl ?_
      refine g_run rfl ?_; refine q_load rfl (Blk.cell (hS.blk 1 rfl) rfl) rfl ?_
      refine g_run rfl ?_; refine q_field rfl rfl ?_
      refine g_run rfl ?_; refine q_load rfl (Blk.cell (hS.blk 0 rfl) rfl) rfl ?_
      obtain ⟨x61, hx61, hx59⟩ := Option.of_bind hx59
      refine g_run rfl ?_; refine q_atS (by infer_instance) rfl f2 rfl hx61 rfl fun b62 o62 hm62 f62 => ?_
      refine g_run rfl ?_; refine q_loadE rfl f62 rfl (fun v63 f63 => ?_)
      refine g_run rfl ?_; refine q_lenS rfl f63 rfl ?_
      refine g_run rfl ?_; refine q_leq rfl rfl rfl ?_
      cases hx59
      exact eseq_nil ⟨hT59, Sub.set rfl (Sub.set rfl (Sub.set rfl (Sub.set rfl (Sub.set rfl (Sub.set rfl (Sub.set rfl (Sub.set rfl (Sub.set rfl (Sub.set rfl (Sub.bool true rfl hg59)))))))))), rfl⟩
    · intro hg59
      refine g_skip rfl rfl rfl ?_
      refine g_skip rfl rfl rfl ?_
      refine g_skip rfl rfl rfl ?_
      refine g_skip rfl rfl rfl ?_
      refine g_skip rfl rfl rfl ?_
      refine g_skip rfl rfl rfl ?_
      refine g_skip rfl rfl rfl ?_
      refine g_skip rfl rfl rfl ?_
      refine g_skip rfl rfl rfl ?_
      refine g_skip rfl rfl rfl ?_
      exact eseq_nil ⟨rfl, Sub.set rfl (Sub.set rfl (Sub.set rfl (Sub.set rfl (Sub.set rfl (Sub.set rfl (Sub.set rfl (Sub.set rfl (Sub.set rfl (Sub.set rfl (Sub.bool false rfl hg59))))))))))⟩
    intro wm59 hBm59; clear hx59
    replace hS := hS.below hBm59
    refine q_assign rfl rfl ?_
    refine eseq_nil ?_
    refine hK53 _ _ ?_
    refine e_ret ?_
    obtain rfl := Option.some.inj h
    exact ⟨_, res1 rfl rfl, _, rfl, (hS.pickB [] 2 rfl rfl)⟩
theorem depend_intervals_w {F R : Nat → Prop} {w : World} {fuel : Nat} {a0 : Pat} {a1 : Int} {a2 : Int} {v1 : Value} {v2 : Value} {v3 : Value} {r : ((List Int))} (hS : Sep F R R w w []) (f1 : IsSlice Ty.int w R v1 a0.lens) (f2 : IsSlice (Ty.slice Ty.int) w R v2 a0.ckpts) (f3 : IsSlice arcTy w R v3 a0.arcs) (h : depend_intervals fuel a0 a1 a2 = some r) :
    Gives Try.prog 105 [.agg #[v1, v2, v3], .int .i64 a1, .int .i64 a2] w fun u w1 => ∃ (R1 : Nat → Prop), u = .agg (List.map encI r).toArray ∧ Sep F R R1 w w1 [] := by
  refine fn_of Try.func105 rfl Try.ntmps105 (Nat.le_of_ble_eq_true rfl) ?_
  unfold depend_intervals at h
  refine e_seq fun K93 hK93 => ?_
  refine e_region_text rfl ?_
  refine q_boxB rfl rfl rfl fun w94 bl94 hg94 hb94 hB94 => ?_
  replace f1 := f1.ext hB94
  replace f2 := f2.ext hB94
  replace f3 := f3.ext hB94
  replace hS := hS.newBlk hB94 hg94 hb94
  refine q_allocB rfl fun w96 bl96 hg96 hb96 hB96 => ?_
  replace f1 := f1.ext hB96
  replace f2 := f2.ext hB96
  replace f3 := f3.ext hB96
  replace hS := hS.newBlk hB96 hg96 hb96
  refine eseq_nil ?_
  refine hK93 _ _ ?_
  refine e_seq fun K98 hK98 => ?_
  refine e_region_text rfl ?_
  refine q_allocB rfl fun w99 bl99 hg99 hb99 hB99 => ?_
  replace f1 := f1.ext hB99
  replace f2 := f2.ext hB99
  replace f3 := f3.ext hB99
  replace hS := hS.newBlk hB99 hg99 hb99
  refine eseq_nil ?_
  refine hK98 _ _ ?_
  refine e_seq fun K101 hK101 => ?_
  refine e_seq fun K102 hK102 => ?_
  refine e_region_text rfl ?_
  refine q_loadAgg rfl (Blk.cellsAt (hS.blk 2 rfl) 0 3 rfl) rfl rfl ?_
  refine q_move rfl rfl ?_
  refine q_move rfl rfl ?_
  obtain ⟨r104, hr104, h⟩ := Option.of_bind h
  refine q_call rfl (causal_Clock_w (a0 := (⟨a0.lens, a0.ckpts, a0.arcs⟩ : Pat)) (Sep.enter (As := []) hS) f1 f2 f3 hr104) rfl ?_
  rintro v105 w103 ⟨_, R103, rfl, hC103, f105⟩
  have hB103 : Below (World.heap w99).size w99 w103 := hC103.stepB0
  refine ⟨fun _ => .of_below hB103, ?_⟩
  replace f1 := (f1.ext hB103).mono fun k hk _ => hC103.ro0 k hk
  replace f2 := (f2.ext hB103).mono fun k hk _ => hC103.ro0 k hk
  replace f3 := (f3.ext hB103).mono fun k hk _ => hC103.ro0 k hk
  replace hS := Sep.leave (As := []) hS hC103; simp only [List.cons_append, List.nil_append] at hS
  refine q_lenS rfl f105 rfl ?_
  refine q_move rfl rfl ?_
  refine eseq_nil ?_
  refine hK102 _ _ ?_
  refine e_block ?_
  obtain ⟨tl106, ht106, h⟩ := Option.of_bind h
  have hX106_0 : ∀ (x163 : (List Int)) (R161 : Nat → Prop) (w162 : World) (E_ : Env), depend_intervals_K1 fuel x163 = some r → Sep F R R161 w w162 [HP.blk bl96 (List.map encI (List.replicate 5 (0 : Int))) 96, HP.blk bl99 (List.map encI x163) 96] → Sub [(6, .pointer (some ⟨bl96, 0, none⟩)), (7, .pointer (some ⟨bl99, 0, none⟩))] E_ → K101 E_ w162 := by
    intro x163 R161 w162 E_ h hS  hsub
    refine hK101 _ _ (e_sub hsub ?_); clear hsub
    unfold depend_intervals_K1 at h
    refine e_seq fun K164 hK164 => ?_
    refine e_region_text rfl ?_
    obtain ⟨u165, hu165, h⟩ := Option.of_bind h
    refine q_loadAV rfl (hS.blk 1 rfl) hu165 rfl ?_
    obtain ⟨u167, hu167, h⟩ := Option.of_bind h
    obtain ⟨u168, hu168, h⟩ := Option.of_bind h
    refine q_storeAV rfl rfl (hS.blk 0 rfl) hu167 hu168 rfl rfl fun w166 hb166 hO166 => ?_
    have hk166 := hS.keptBlk 0 rfl hO166
    replace hS := hS.setBlk 0 rfl hb166 hO166; simp only [List.set] at hS
    refine eseq_nil ?_
    refine hK164 _ _ ?_
    refine e_ret ?_
    obtain rfl := Option.some.inj h
    exact ⟨_, resA rfl rfl (hS.blk 0 rfl) hu168, _, rfl, (hS.pickB [] 2 rfl rfl)⟩
  refine e_loop (fun m_ E_ w134 => ∃ (x138 : (List Int)), ∃ (x140 : Int), ∃ (R133 : Nat → Prop), iter (fun s => depend_intervals_B1 fuel r104 a0 s.1 s.2) m_ (x138, x140) = some tl106 ∧ Sep F R R133 w w134 [HP.blk bl94 [v1, v2, v3] 28, HP.blk bl96 (List.map encI (List.replicate 5 (0 : Int))) 96, HP.blk bl99 (List.map encI x138) 96] ∧ IsSlice Ty.int w134 R133 v1 a0.lens ∧ IsSlice (Ty.slice Ty.int) w134 R133 v2 a0.ckpts ∧ IsSlice arcTy w134 R133 v3 a0.arcs ∧ IsSlice Ty.int w134 R133 v105 r104 ∧ E_ = [(3, .pointer (some ⟨bl94, 0, none⟩)), (6, .pointer (some ⟨bl96, 0, none⟩)), (7, .pointer (some ⟨bl99, 0, none⟩)), (13, v105), (14, .int .i64 (r104.length : Int)), (15, .int .i64 x140)]) _ ⟨_, ⟨(List.replicate 5 (0 : Int)), 0, _, ht106, (hS.pickB [2, 1, 0] 3 rfl rfl), f1, f2, f3, f105, rfl⟩, Sub.cons rfl (Sub.cons rfl (Sub.cons rfl (Sub.cons rfl (Sub.cons rfl (Sub.cons rfl (Sub.nil _))))))⟩ ?_
  clear ht106 hS
  rintro m106 _ w134 ⟨x138, x140, R133, ht106, hS, f135, f136, f137, f139, rfl⟩
  obtain ⟨m106, rfl, o106, ho106, ht106⟩ := iter_some ht106
  replace ho106 : depend_intervals_B1 fuel r104 a0 x138 x140 = some o106 := ho106
  unfold depend_intervals_B1 at ho106
  refine e_seq fun K169 hK169 => ?_
  refine e_region_text rfl ?_
  refine q_lss rfl rfl rfl ?_
  refine eseq_nil ?_
  refine hK169 _ _ ?_
  refine e_seq fun K170 hK170 => ?_
  refine e_cond rfl (fun hc171 => ?_) (fun hc171 => ?_)
  · replace ho106 := (if_pos hc171).symm.trans ho106
    refine e_skip ?_
    refine hK170 _ _ ?_
    refine e_seq fun K172 hK172 => ?_
    refine e_block ?_
    refine e_seq fun K173 hK173 => ?_
    refine e_region_text rfl ?_
    refine q_move rfl rfl ?_
    obtain ⟨x174, hx174, ho106⟩ := Option.of_bind ho106
    refine q_atS (by infer_instance) rfl f139 rfl hx174 rfl fun b175 o175 hm175 f175 => ?_
    refine q_load rfl (Elt.intCell f175) rfl ?_
    refine q_assign rfl rfl ?_
    refine q_assign rfl rfl ?_
    refine eseq_nil ?_
    refine hK173 _ _ ?_
    refine e_region_text rfl ?_
    refine q_move rfl rfl ?_
    refine q_loadAgg rfl (Blk.cellsAt (hS.blk 0 rfl) 0 3 rfl) rfl rfl ?_
    refine q_move rfl rfl ?_
    refine q_move rfl rfl ?_
    obtain ⟨r177, hr177, ho106⟩ := Option.of_bind ho106
    refine q_call rfl (pattern_Interval_w (a0 := (⟨a0.lens, a0.ckpts, a0.arcs⟩ : Pat)) (Sep.enter (As := []) hS) f135 f136 f137 hr177) rfl ?_
    rintro _ w176 ⟨R176, rfl, hC176⟩
    have hB176 : Below (World.heap w134).size w134 w176 := hC176.stepB0
    refine ⟨fun _ => .of_below hB176, ?_⟩
    replace f135 := (f135.ext hB176).mono fun k hk _ => hC176.ro0 k hk
    replace f136 := (f136.ext hB176).mono fun k hk _ => hC176.ro0 k hk
    replace f137 := (f137.ext hB176).mono fun k hk _ => hC176.ro0 k hk
    replace f139 := (f139.ext hB176).mono fun k hk _ => hC176.ro0 k hk
    replace hS := Sep.leave (As := []) hS hC176; simp only [List.cons_append, List.nil_append] at hS
    obtain ⟨x178, hx178, ho106⟩ := Option.of_bind ho106
    refine q_indexA rfl rfl hx178 rfl ?_
    obtain ⟨x180, hx180, ho106⟩ := Option.of_bind ho106
    refine q_storeAI rfl rfl (hS.blk 2 rfl) hx180 rfl rfl fun w179 hb179 hO179 => ?_
    have hk179 := hS.keptBlk 2 rfl hO179
    replace f135 := f135.kept hk179
    replace f136 := f136.kept hk179
    replace f137 := f137.kept hk179
    replace f139 := f139.kept hk179
    replace hS := hS.setBlk 2 rfl hb179 hO179; simp only [List.set] at hS
    refine eseq_nil ?_
    refine hK172 _ _ ?_
    refine e_region_text rfl ?_
    refine q_addW rfl rfl rfl ?_
    refine q_move rfl rfl ?_
    refine eseq_nil ?_
    obtain rfl := Option.some.inj ho106
    exact ⟨m106, _, Nat.lt_succ_self _, ⟨x180, (w64 (x140 + 1)), _, ht106, hS, f135, f136, f137, f139, rfl⟩, Sub.cons rfl (Sub.cons rfl (Sub.cons rfl (Sub.cons rfl (Sub.cons rfl (Sub.cons rfl (Sub.nil _))))))⟩
  · replace ho106 := (if_neg (not_true hc171)).symm.trans ho106
    refine e_exit ?_
    obtain rfl := Option.some.inj ho106
    obtain rfl := Option.some.inj ht106
    exact hX106_0 x138 _ _ _ h (hS.pickB [1, 2] 3 rfl rfl)  (Sub.cons rfl (Sub.cons rfl (Sub.nil _)))
theorem depend_extended_w {F R : Nat → Prop} {w : World} {fuel : Nat} {a0 : Pat} {a1 : Pt} {v1 : Value} {v2 : Value} {v3 : Value} {r : ((List Int))} (hS : Sep F R R w w []) (f1 : IsSlice Ty.int w R v1 a0.lens) (f2 : IsSlice (Ty.slice Ty.int) w R v2 a0.ckpts) (f3 : IsSlice arcTy w R v3 a0.arcs) (h : depend_extended fuel a0 a1 = some r) :
    Gives Try.prog 68 [.agg #[v1, v2, v3], .agg #[.int .i64 a1.proc, .int .i64 a1.index]] w fun u w1 => ∃ (R1 : Nat → Prop), u = .agg (List.map encI r).toArray ∧ Sep F R R1 w w1 [] := by
  refine fn_of Try.func68 rfl Try.ntmps68 (Nat.le_of_ble_eq_true rfl) ?_
  unfold depend_extended at h
  refine e_seq fun K26 hK26 => ?_
  refine e_region_text rfl ?_
  refine q_boxB rfl rfl rfl fun w27 bl27 hg27 hb27 hB27 => ?_
  replace f1 := f1.ext hB27
  replace f2 := f2.ext hB27
  replace f3 := f3.ext hB27
  replace hS := hS.newBlk hB27 hg27 hb27
  refine q_boxB rfl rfl rfl fun w29 bl29 hg29 hb29 hB29 => ?_
  replace f1 := f1.ext hB29
  replace f2 := f2.ext hB29
  replace f3 := f3.ext hB29
  replace hS := hS.newBlk hB29 hg29 hb29
  refine q_allocB rfl fun w31 bl31 hg31 hb31 hB31 => ?_
  replace f1 := f1.ext hB31
  replace f2 := f2.ext hB31
  replace f3 := f3.ext hB31
  replace hS := hS.newBlk hB31 hg31 hb31
  refine eseq_nil ?_
  refine hK26 _ _ ?_
  refine e_seq fun K33 hK33 => ?_
  refine e_region_draw mixed (fun _ => False) [0, 0, 2, 0, 0, 16, 0, 64, 248, 511, 1023] [8] [0, 1, 2, 3, 4, 5, 6, 7, 8, 9, 10] (by kernel_rfl) ?_
  refine q_loadAgg rfl (Blk.cellsAt (hS.blk 2 rfl) 0 3 rfl) rfl rfl ?_
  refine q_field rfl rfl ?_
  refine q_load rfl (Blk.cell (hS.blk 1 rfl) rfl) rfl ?_
  refine q_loadAgg rfl (Blk.cellsAt (hS.blk 2 rfl) 0 3 rfl) rfl rfl ?_
  refine q_field rfl rfl ?_
  refine q_load rfl (Blk.cell (hS.blk 1 rfl) rfl) rfl ?_
  refine q_field rfl rfl ?_
  refine q_load rfl (Blk.cell (hS.blk 1 rfl) rfl) rfl ?_
  obtain ⟨r42, hr42, h⟩ := Option.of_bind h
  refine q_call rfl (depend_Index_w (a0 := (⟨a0.lens, a0.ckpts, a0.arcs⟩ : Pat)) (Sep.enter (As := []) hS) f1 f2 f3 hr42) rfl ?_
  rintro _ w41 ⟨R41, rfl, hC41⟩
  have hB41 : Below (World.heap w31).size w31 w41 := hC41.stepB0
  refine ⟨fun _ => .of_below hB41, ?_⟩
  replace f1 := (f1.ext hB41).mono fun k hk _ => hC41.ro0 k hk
  replace f2 := (f2.ext hB41).mono fun k hk _ => hC41.ro0 k hk
  replace f3 := (f3.ext hB41).mono fun k hk _ => hC41.ro0 k hk
  replace hS := Sep.leave (As := []) hS hC41; simp only [List.cons_append, List.nil_append] at hS
  obtain ⟨r44, hr44, h⟩ := Option.of_bind h
  refine q_call rfl (depend_intervals_w (a0 := (⟨a0.lens, a0.ckpts, a0.arcs⟩ : Pat)) (Sep.enter (As := []) hS) f1 f2 f3 hr44) rfl ?_
  rintro _ w43 ⟨R43, rfl, hC43⟩
  have hB43 : Below (World.heap w41).size w41 w43 := hC43.stepB0
  refine ⟨fun _ => .of_below hB43, ?_⟩
  replace f1 := (f1.ext hB43).mono fun k hk _ => hC43.ro0 k hk
  replace f2 := (f2.ext hB43).mono fun k hk _ => hC43.ro0 k hk
  replace f3 := (f3.ext hB43).mono fun k hk _ => hC43.ro0 k hk
  replace hS := Sep.leave (As := []) hS hC43; simp only [List.cons_append, List.nil_append] at hS
  obtain ⟨u46, hu46, h⟩ := Option.of_bind h
  obtain ⟨u47, hu47, h⟩ := Option.of_bind h
  refine q_storeAV rfl rfl (hS.blk 0 rfl) hu46 hu47 rfl rfl fun w45 hb45 hO45 => ?_
  have hk45 := hS.keptBlk 0 rfl hO45
  replace hS := hS.setBlk 0 rfl hb45 hO45; simp only [List.set] at hS
  refine eseq_nil ?_
  refine hK33 _ _ ?_
  refine e_ret ?_
  obtain rfl := Option.some.inj h
  exact ⟨_, resA rfl rfl (hS.blk 0 rfl) hu47, _, rfl, (hS.pickB [] 3 rfl rfl)⟩
theorem depend_Vector_w {F R : Nat → Prop} {w : World} {fuel : Nat} {a0 : Pat} {a1 : Int} {a2 : Int} {v1 : Value} {v2 : Value} {v3 : Value} {r : ((List Int))} (hS : Sep F R R w w []) (f1 : IsSlice Ty.int w R v1 a0.lens) (f2 : IsSlice (Ty.slice Ty.int) w R v2 a0.ckpts) (f3 : IsSlice arcTy w R v3 a0.arcs) (h : depend_Vector fuel a0 a1 a2 = some r) :
    Gives Try.prog 92 [.agg #[v1, v2, v3], .int .i64 a1, .int .i64 a2] w fun u w1 => ∃ (v41 : Value), ∃ (R1 : Nat → Prop), u = v41 ∧ Sep F R R1 w w1 [HP.own Ty.int (fun _ => False) 3 v41 r] := by
  refine fn_of Try.func92 rfl Try.ntmps92 (Nat.le_of_ble_eq_true rfl) ?_
  unfold depend_Vector at h
  refine e_seq fun K42 hK42 => ?_
  refine e_region_text rfl ?_
  refine q_boxB rfl rfl rfl fun w43 bl43 hg43 hb43 hB43 => ?_
  replace f1 := f1.ext hB43
  replace f2 := f2.ext hB43
  replace f3 := f3.ext hB43
  replace hS := hS.newBlk hB43 hg43 hb43
  refine q_assign rfl rfl ?_
  refine eseq_nil ?_
  refine hK42 _ _ ?_
  refine e_seq fun K45 hK45 => ?_
  refine e_seq fun K46 hK46 => ?_
  refine e_region_text rfl ?_
  refine q_loadAgg rfl (Blk.cellsAt (hS.blk 0 rfl) 0 3 rfl) rfl rfl ?_
  refine q_move rfl rfl ?_
  refine q_build (Parts.cons rfl rfl Parts.nil) rfl rfl ?_
  obtain ⟨r48, hr48, h⟩ := Option.of_bind h
  refine q_call rfl (depend_exists_w (a0 := (⟨a0.lens, a0.ckpts, a0.arcs⟩ : Pat)) (a1 := (⟨a1, 0⟩ : Pt)) (Sep.enter (As := []) hS) f1 f2 f3 hr48) rfl ?_
  rintro _ w47 ⟨R47, rfl, hC47⟩
  have hB47 : Below (World.heap w43).size w43 w47 := hC47.stepB0
  refine ⟨fun _ => .of_below hB47, ?_⟩
  replace f1 := (f1.ext hB47).mono fun k hk _ => hC47.ro0 k hk
  replace f2 := (f2.ext hB47).mono fun k hk _ => hC47.ro0 k hk
  replace f3 := (f3.ext hB47).mono fun k hk _ => hC47.ro0 k hk
  replace hS := Sep.leave (As := []) hS hC47; simp only [List.cons_append, List.nil_append] at hS
  refine q_not rfl rfl ?_
  refine q_move rfl rfl ?_
  obtain ⟨x52, hx51, h⟩ := Option.of_bind h
  refine g_orM 2 hx51 rfl trivial rfl rfl ?_ ?_ ?_
  · intro hg51
    refine g_skip rfl rfl rfl ?_
    refine g_skip rfl rfl rfl ?_
    exact eseq_nil ⟨rfl, Sub.set rfl (Sub.set rfl (Sub.bool true rfl hg51))⟩
  · intro hg51 hx51
    clear h
    have hT51 := Below.refl (World.heap w47).size w47
    refine g_run rfl ?_; refine q_move rfl rfl ?_
    refine g_run rfl ?_; refine q_lss rfl rfl rfl ?_
    cases hx51
    exact eseq_nil ⟨hT51, Sub.set rfl (Sub.set rfl (Sub.bool false rfl hg51)), rfl⟩
  intro wm51 hBm51; clear hx51
  replace hS := hS.below hBm51
  replace f1 := f1.ext hBm51
  replace f2 := f2.ext hBm51
  replace f3 := f3.ext hBm51
  refine q_move rfl rfl ?_
  obtain ⟨x58, hx57, h⟩ := Option.of_bind h
  refine g_orM 7 hx57 rfl trivial rfl rfl ?_ ?_ ?_
  · intro hg57
    refine g_skip rfl rfl rfl ?_
    refine g_skip rfl rfl rfl ?_
    refine g_skip rfl rfl rfl ?_
    refine g_skip rfl rfl rfl ?_
    refine g_skip rfl rfl rfl ?_
    refine g_skip rfl rfl rfl ?_
    refine g_skip rfl rfl rfl ?_
    exact eseq_nil ⟨rfl, Sub.set rfl (Sub.set rfl (Sub.set rfl (Sub.set rfl (Sub.set rfl (Sub.set rfl (Sub.set rfl (Sub.bool true rfl hg57)))))))⟩
  · intro hg57 hx57
    clear h
    have hT57 := Below.refl (World.heap wm51).size wm51
    refine g_run rfl ?_; refine q_move rfl rfl ?_
    refine g_run rfl ?_; refine q_field rfl rfl ?_
    refine g_run rfl ?_; refine q_load rfl (Blk.cell (hS.blk 0 rfl) rfl) rfl ?_
    refine g_run rfl ?_; refine q_move rfl rfl ?_
    obtain ⟨x59, hx59, hx57⟩ := Option.of_bind hx57
    refine g_run rfl ?_; refine q_atS (by infer_instance) rfl f1 rfl hx59 rfl fun b60 o60 hm60 f60 => ?_
    refine g_run rfl ?_; refine q_load rfl (Elt.intCell f60) rfl ?_
    refine g_run rfl ?_; refine q_gtr rfl rfl rfl ?_
    cases hx57
    exact eseq_nil ⟨hT57, Sub.set rfl (Sub.set rfl (Sub.set rfl (Sub.set rfl (Sub.set rfl (Sub.set rfl (Sub.set rfl (Sub.bool false rfl hg57))))))), rfl⟩
  intro wm57 hBm57; clear hx57
  replace hS := hS.below hBm57
  replace f1 := f1.ext hBm57
  replace f2 := f2.ext hBm57
  replace f3 := f3.ext hBm57
  refine eseq_nil ?_
  refine hK46 _ _ ?_
  refine e_cond rfl (fun hc61 => ?_) (fun hc61 => ?_)
  · replace h := (if_pos hc61).symm.trans h
    refine e_seq fun K62 hK62 => ?_
    refine e_region_text rfl ?_
    refine q_assign rfl rfl ?_
    refine eseq_nil ?_
    refine hK62 _ _ ?_
    refine e_ret ?_
    replace hS := hS.nilOwn0 Ty.int 3
    obtain rfl := Option.some.inj h
    exact ⟨_, res1 rfl rfl, (.slice none 0 0), _, rfl, (hS.pickB [0] 2 rfl rfl)⟩
  · replace h := (if_neg (not_true hc61)).symm.trans h
    refine e_skip ?_
    refine hK45 _ _ ?_
    refine e_seq fun K65 hK65 => ?_
    refine e_region_text rfl ?_
    refine q_loadAgg rfl (Blk.cellsAt (hS.blk 0 rfl) 0 3 rfl) rfl rfl ?_
    refine q_move rfl rfl ?_
    refine q_move rfl rfl ?_
    obtain ⟨r67, hr67, h⟩ := Option.of_bind h
    refine q_call rfl (depend_intervals_w (a0 := (⟨a0.lens, a0.ckpts, a0.arcs⟩ : Pat)) (Sep.enter (As := []) hS) f1 f2 f3 hr67) rfl ?_
    rintro _ w66 ⟨R66, rfl, hC66⟩
    have hB66 : Below (World.heap wm57).size wm57 w66 := hC66.stepB0
    refine ⟨fun _ => .of_below hB66, ?_⟩
    replace f1 := (f1.ext hB66).mono fun k hk _ => hC66.ro0 k hk
    replace f2 := (f2.ext hB66).mono fun k hk _ => hC66.ro0 k hk
    replace f3 := (f3.ext hB66).mono fun k hk _ => hC66.ro0 k hk
    replace hS := Sep.leave (As := []) hS hC66; simp only [List.cons_append, List.nil_append] at hS
    refine q_allocB rfl fun w68 bl68 hg68 hb68 hB68 => ?_
    replace f1 := f1.ext hB68
    replace f2 := f2.ext hB68
    replace f3 := f3.ext hB68
    replace hS := hS.newBlk hB68 hg68 hb68
    obtain ⟨u71, hu71, h⟩ := Option.of_bind h
    obtain ⟨u72, hu72, h⟩ := Option.of_bind h
    refine q_storeAV rfl rfl (hS.blk 0 rfl) hu71 hu72 rfl rfl fun w70 hb70 hO70 => ?_
    have hk70 := hS.keptBlk 0 rfl hO70
    replace f1 := f1.kept hk70
    replace f2 := f2.kept hk70
    replace f3 := f3.kept hk70
    replace hS := hS.setBlk 0 rfl hb70 hO70; simp only [List.set] at hS
    refine eseq_nil ?_
    refine hK65 _ _ ?_
    refine e_seq fun K73 hK73 => ?_
    refine e_region_text rfl ?_
    refine q_field rfl rfl ?_
    refine q_load rfl (Blk.cell (hS.blk 1 rfl) rfl) rfl ?_
    refine q_lenS rfl f1 rfl ?_
    obtain ⟨R74, hS, hm74, f74⟩ := hS.lend 0 rfl; simp only [List.eraseIdx] at hS
    obtain ⟨u76, hu76, h⟩ := Option.of_bind h
    obtain ⟨x77, hx77, h⟩ := Option.of_bind h
    refine q_sliceArr rfl f74 hu76 rfl hx77 rfl fun v75 f75 => ?_
    obtain ⟨r79, hr79, h⟩ := Option.of_bind h
    refine q_call rfl (Clone_Int_w (Sep.enter (As := []) hS) f75 hr79) rfl ?_
    rintro v80 w78 ⟨_, R78, rfl, hC78⟩
    have hB78 : Below (World.heap w70).size w70 w78 := hC78.stepB0
    refine ⟨fun _ => .of_below hB78, ?_⟩
    replace f75 := (f75.ext hB78).mono fun k hk _ => hC78.ro0 k hk
    replace hS := Sep.leave (As := []) hS hC78; simp only [List.cons_append, List.nil_append] at hS
    refine q_assign rfl rfl ?_
    refine eseq_nil ?_
    refine hK73 _ _ ?_
    refine e_ret ?_
    obtain rfl := Option.some.inj h
    exact ⟨_, res1 rfl rfl, v80, _, rfl, (hS.pickB [0] 2 rfl rfl)⟩
theorem depend_Ckpt_w {F R : Nat → Prop} {w : World} {fuel : Nat} {a0 : Pat} {a1 : Int} {a2 : Int} {v1 : Value} {v2 : Value} {v3 : Value} {r : ((List Int))} (hS : Sep F R R w w []) (f1 : IsSlice Ty.int w R v1 a0.lens) (f2 : IsSlice (Ty.slice Ty.int) w R v2 a0.ckpts) (f3 : IsSlice arcTy w R v3 a0.arcs) (h : depend_Ckpt fuel a0 a1 a2 = some r) :
    Gives Try.prog 49 [.agg #[v1, v2, v3], .int .i64 a1, .int .i64 a2] w fun u w1 => ∃ (v24 : Value), ∃ (R1 : Nat → Prop), u = v24 ∧ Sep F R R1 w w1 [HP.own Ty.int (fun _ => False) 3 v24 r] := by
  refine fn_of Try.func49 rfl Try.ntmps49 (Nat.le_of_ble_eq_true rfl) ?_
  unfold depend_Ckpt at h
  refine e_seq fun K25 hK25 => ?_
  refine e_region_text rfl ?_
  refine q_boxB rfl rfl rfl fun w26 bl26 hg26 hb26 hB26 => ?_
  replace f1 := f1.ext hB26
  replace f2 := f2.ext hB26
  replace f3 := f3.ext hB26
  replace hS := hS.newBlk hB26 hg26 hb26
  refine q_assign rfl rfl ?_
  refine eseq_nil ?_
  refine hK25 _ _ ?_
  refine e_seq fun K28 hK28 => ?_
  refine e_seq fun K29 hK29 => ?_
  refine e_region_text rfl ?_
  refine q_loadAgg rfl (Blk.cellsAt (hS.blk 0 rfl) 0 3 rfl) rfl rfl ?_
  refine q_move rfl rfl ?_
  refine q_move rfl rfl ?_
  refine q_build (Parts.cons rfl rfl (Parts.cons rfl rfl Parts.nil)) rfl rfl ?_
  obtain ⟨r31, hr31, h⟩ := Option.of_bind h
  refine q_call rfl (depend_exists_w (a0 := (⟨a0.lens, a0.ckpts, a0.arcs⟩ : Pat)) (a1 := (⟨a1, a2⟩ : Pt)) (Sep.enter (As := []) hS) f1 f2 f3 hr31) rfl ?_
  rintro _ w30 ⟨R30, rfl, hC30⟩
  have hB30 : Below (World.heap w26).size w26 w30 := hC30.stepB0
  refine ⟨fun _ => .of_below hB30, ?_⟩
  replace f1 := (f1.ext hB30).mono fun k hk _ => hC30.ro0 k hk
  replace f2 := (f2.ext hB30).mono fun k hk _ => hC30.ro0 k hk
  replace f3 := (f3.ext hB30).mono fun k hk _ => hC30.ro0 k hk
  replace hS := Sep.leave (As := []) hS hC30; simp only [List.cons_append, List.nil_append] at hS
  refine q_not rfl rfl ?_
  refine eseq_nil ?_
  refine hK29 _ _ ?_
  refine e_cond rfl (fun hc32 => ?_) (fun hc32 => ?_)
  · replace h := (if_pos hc32).symm.trans h
    refine e_seq fun K33 hK33 => ?_
    refine e_region_text rfl ?_
    refine q_assign rfl rfl ?_
    refine eseq_nil ?_
    refine hK33 _ _ ?_
    refine e_ret ?_
    replace hS := hS.nilOwn0 Ty.int 3
    obtain rfl := Option.some.inj h
    exact ⟨_, res1 rfl rfl, (.slice none 0 0), _, rfl, (hS.pickB [0] 2 rfl rfl)⟩
  · replace h := (if_neg (not_true hc32)).symm.trans h
    refine e_skip ?_
    refine hK28 _ _ ?_
    refine e_seq fun K35 hK35 => ?_
    refine e_region_draw mixed (fun _ => False) [0, 0, 0, 0, 0, 28, 63, 127] [5] [0, 1, 2, 3, 4, 5, 6, 7] (by kernel_rfl) ?_
    refine q_loadAgg rfl (Blk.cellsAt (hS.blk 0 rfl) 0 3 rfl) rfl rfl ?_
    refine q_move rfl rfl ?_
    refine q_loadAgg rfl (Blk.cellsAt (hS.blk 0 rfl) 0 3 rfl) rfl rfl ?_
    refine q_move rfl rfl ?_
    refine q_move rfl rfl ?_
    obtain ⟨r42, hr42, h⟩ := Option.of_bind h
    refine q_call rfl (depend_Index_w (a0 := (⟨a0.lens, a0.ckpts, a0.arcs⟩ : Pat)) (Sep.enter (As := []) hS) f1 f2 f3 hr42) rfl ?_
    rintro _ w41 ⟨R41, rfl, hC41⟩
    have hB41 : Below (World.heap w30).size w30 w41 := hC41.stepB0
    refine ⟨fun _ => .of_below hB41, ?_⟩
    replace f1 := (f1.ext hB41).mono fun k hk _ => hC41.ro0 k hk
    replace f2 := (f2.ext hB41).mono fun k hk _ => hC41.ro0 k hk
    replace f3 := (f3.ext hB41).mono fun k hk _ => hC41.ro0 k hk
    replace hS := Sep.leave (As := []) hS hC41; simp only [List.cons_append, List.nil_append] at hS
    obtain ⟨r44, hr44, h⟩ := Option.of_bind h
    refine q_call rfl (depend_Vector_w (a0 := (⟨a0.lens, a0.ckpts, a0.arcs⟩ : Pat)) (Sep.enter (As := []) hS) f1 f2 f3 hr44) rfl ?_
    rintro v45 w43 ⟨_, R43, rfl, hC43⟩
    have hB43 : Below (World.heap w41).size w41 w43 := hC43.stepB0
    refine ⟨fun _ => .of_below hB43, ?_⟩
    replace f1 := (f1.ext hB43).mono fun k hk _ => hC43.ro0 k hk
    replace f2 := (f2.ext hB43).mono fun k hk _ => hC43.ro0 k hk
    replace f3 := (f3.ext hB43).mono fun k hk _ => hC43.ro0 k hk
    replace hS := Sep.leave (As := []) hS hC43; simp only [List.cons_append, List.nil_append] at hS
    refine q_assign rfl rfl ?_
    refine eseq_nil ?_
    refine hK35 _ _ ?_
    refine e_ret ?_
    obtain rfl := Option.some.inj h
    exact ⟨_, res1 rfl rfl, v45, _, rfl, (hS.pickB [0] 2 rfl rfl)⟩
theorem depend_Depends_w {F R : Nat → Prop} {w : World} {fuel : Nat} {a0 : Pat} {a1 : Pt} {a2 : Pt} {v1 : Value} {v2 : Value} {v3 : Value} {r : (Bool)} (hS : Sep F R R w w []) (f1 : IsSlice Ty.int w R v1 a0.lens) (f2 : IsSlice (Ty.slice Ty.int) w R v2 a0.ckpts) (f3 : IsSlice arcTy w R v3 a0.arcs) (h : depend_Depends fuel a0 a1 a2 = some r) :
    Gives Try.prog 28 [.agg #[v1, v2, v3], .agg #[.int .i64 a1.proc, .int .i64 a1.index], .agg #[.int .i64 a2.proc, .int .i64 a2.index]] w fun u w1 => ∃ (R1 : Nat → Prop), u = .bool r ∧ Sep F R R1 w w1 [] := by
  refine fn_of Try.func28 rfl Try.ntmps28 (Nat.le_of_ble_eq_true rfl) ?_
  unfold depend_Depends at h
  refine e_seq fun K36 hK36 => ?_
  refine e_region_text rfl ?_
  refine q_boxB rfl rfl rfl fun w37 bl37 hg37 hb37 hB37 => ?_
  replace f1 := f1.ext hB37
  replace f2 := f2.ext hB37
  replace f3 := f3.ext hB37
  replace hS := hS.newBlk hB37 hg37 hb37
  refine q_boxB rfl rfl rfl fun w39 bl39 hg39 hb39 hB39 => ?_
  replace f1 := f1.ext hB39
  replace f2 := f2.ext hB39
  replace f3 := f3.ext hB39
  replace hS := hS.newBlk hB39 hg39 hb39
  refine q_boxB rfl rfl rfl fun w41 bl41 hg41 hb41 hB41 => ?_
  replace f1 := f1.ext hB41
  replace f2 := f2.ext hB41
  replace f3 := f3.ext hB41
  replace hS := hS.newBlk hB41 hg41 hb41
  refine q_assign rfl rfl ?_
  refine eseq_nil ?_
  refine hK36 _ _ ?_
  refine e_seq fun K43 hK43 => ?_
  refine e_seq fun K44 hK44 => ?_
  refine e_region_text rfl ?_
  refine q_loadAgg rfl (Blk.cellsAt (hS.blk 2 rfl) 0 3 rfl) rfl rfl ?_
  refine q_loadAgg rfl (Blk.cellsAt (hS.blk 0 rfl) 0 2 rfl) rfl rfl ?_
  obtain ⟨r46, hr46, h⟩ := Option.of_bind h
  refine q_call rfl (depend_exists_w (a0 := (⟨a0.lens, a0.ckpts, a0.arcs⟩ : Pat)) (a1 := (⟨a2.proc, a2.index⟩ : Pt)) (Sep.enter (As := []) hS) f1 f2 f3 hr46) rfl ?_
  rintro _ w45 ⟨R45, rfl, hC45⟩
  have hB45 : Below (World.heap w41).size w41 w45 := hC45.stepB0
  refine ⟨fun _ => .of_below hB45, ?_⟩
  replace f1 := (f1.ext hB45).mono fun k hk _ => hC45.ro0 k hk
  replace f2 := (f2.ext hB45).mono fun k hk _ => hC45.ro0 k hk
  replace f3 := (f3.ext hB45).mono fun k hk _ => hC45.ro0 k hk
  replace hS := Sep.leave (As := []) hS hC45; simp only [List.cons_append, List.nil_append] at hS
  refine q_not rfl rfl ?_
  refine q_move rfl rfl ?_
  obtain ⟨x52, hx51, h⟩ := Option.of_bind h
  refine g_orM 4 hx51 rfl trivial rfl rfl ?_ ?_ ?_
  · intro hg51
    refine g_skip rfl rfl rfl ?_
    refine g_skip rfl rfl rfl ?_
    refine g_skip rfl rfl rfl ?_
    refine g_skip rfl rfl rfl ?_
    exact eseq_nil ⟨rfl, Sub.set rfl (Sub.set rfl (Sub.set rfl (Sub.set rfl (Sub.bool true rfl hg51))))⟩
  · intro hg51 hx51
    clear h
    have hT51 := Below.refl (World.heap w45).size w45
    refine g_run rfl ?_; refine q_loadAgg rfl (Blk.cellsAt (hS.blk 2 rfl) 0 3 rfl) rfl rfl ?_
    refine g_run rfl ?_; refine q_loadAgg rfl (Blk.cellsAt (hS.blk 1 rfl) 0 2 rfl) rfl rfl ?_
    obtain ⟨r54, hr54, hx51⟩ := Option.of_bind hx51
    refine g_run rfl ?_; refine q_call rfl (depend_exists_w (a0 := (⟨a0.lens, a0.ckpts, a0.arcs⟩ : Pat)) (a1 := (⟨a1.proc, a1.index⟩ : Pt)) (Sep.enter (As := []) hS) f1 f2 f3 hr54) rfl ?_
    rintro _ w53 ⟨R53, rfl, hC53⟩
    have hB53 : Below (World.heap w45).size w45 w53 := hC53.stepB0
    refine ⟨fun _ => .of_below hB53, ?_⟩
    replace f1 := (f1.ext hB53).mono fun k hk _ => hC53.ro0 k hk
    replace f2 := (f2.ext hB53).mono fun k hk _ => hC53.ro0 k hk
    replace f3 := (f3.ext hB53).mono fun k hk _ => hC53.ro0 k hk
    replace hT51 := hT51.trans (Below.mono hB53 hT51.size)
    replace hS := Sep.leave (As := []) hS hC53; simp only [List.cons_append, List.nil_append] at hS
    refine g_run rfl ?_; refine q_not rfl rfl ?_
    cases hx51
    exact eseq_nil ⟨hT51, Sub.set rfl (Sub.set rfl (Sub.set rfl (Sub.set rfl (Sub.bool false rfl hg51)))), rfl⟩
  intro wm51 hBm51; clear hx51
  replace hS := hS.below hBm51
  replace f1 := f1.ext hBm51
  replace f2 := f2.ext hBm51
  replace f3 := f3.ext hBm51
  refine eseq_nil ?_
  refine hK44 _ _ ?_
  refine e_cond rfl (fun hc55 => ?_) (fun hc55 => ?_)
  · replace h := (if_pos hc55).symm.trans h
    refine e_seq fun K56 hK56 => ?_
    refine e_region_text rfl ?_
    refine q_assign rfl rfl ?_
    refine eseq_nil ?_
    refine hK56 _ _ ?_
    refine e_ret ?_
    obtain rfl := Option.some.inj h
    exact ⟨_, res1 rfl rfl, _, rfl, (hS.pickB [] 3 rfl rfl)⟩
  · replace h := (if_neg (not_true hc55)).symm.trans h
    refine e_skip ?_
    refine hK43 _ _ ?_
    refine e_seq fun K57 hK57 => ?_
    refine e_region_text rfl ?_
    refine q_loadAgg rfl (Blk.cellsAt (hS.blk 2 rfl) 0 3 rfl) rfl rfl ?_
    refine q_loadAgg rfl (Blk.cellsAt (hS.blk 1 rfl) 0 2 rfl) rfl rfl ?_
    obtain ⟨r59, hr59, h⟩ := Option.of_bind h
    refine q_call rfl (depend_extended_w (a0 := (⟨a0.lens, a0.ckpts, a0.arcs⟩ : Pat)) (a1 := (⟨a1.proc, a1.index⟩ : Pt)) (Sep.enter (As := []) hS) f1 f2 f3 hr59) rfl ?_
    rintro _ w58 ⟨R58, rfl, hC58⟩
    have hB58 : Below (World.heap wm51).size wm51 w58 := hC58.stepB0
    refine ⟨fun _ => .of_below hB58, ?_⟩
    replace f1 := (f1.ext hB58).mono fun k hk _ => hC58.ro0 k hk
    replace f2 := (f2.ext hB58).mono fun k hk _ => hC58.ro0 k hk
    replace f3 := (f3.ext hB58).mono fun k hk _ => hC58.ro0 k hk
    replace hS := Sep.leave (As := []) hS hC58; simp only [List.cons_append, List.nil_append] at hS
    refine q_allocB rfl fun w60 bl60 hg60 hb60 hB60 => ?_
    replace hS := hS.newBlk hB60 hg60 hb60
    obtain ⟨u63, hu63, h⟩ := Option.of_bind h
    obtain ⟨u65, hu65, h⟩ := Option.of_bind h
    refine q_storeAV rfl rfl (hS.blk 0 rfl) hu63 hu65 rfl rfl fun w62 hb62 hO62 => ?_
    have hk62 := hS.keptBlk 0 rfl hO62
    replace hS := hS.setBlk 0 rfl hb62 hO62; simp only [List.set] at hS
    refine eseq_nil ?_
    refine hK57 _ _ ?_
    refine e_seq fun K66 hK66 => ?_
    refine e_region_draw mixed (fun _ => False) [0, 1, 3, 7, 0, 16, 63, 127] [] [0, 1, 2, 3, 4, 5, 6, 7] (by kernel_rfl) ?_
    refine q_field rfl rfl ?_
    refine q_load rfl (Blk.cell (hS.blk 1 rfl) rfl) rfl ?_
    obtain ⟨x67, hx67, h⟩ := Option.of_bind h
    refine q_indexA rfl rfl hx67 rfl ?_
    obtain ⟨x68, hx68, h⟩ := Option.of_bind h
    refine q_load rfl (Blk.atI (hS.blk 0 rfl) hx68) rfl ?_
    refine q_field rfl rfl ?_
    refine q_load rfl (Blk.cell (hS.blk 1 rfl) rfl) rfl ?_
    refine q_gtr rfl rfl rfl ?_
    refine q_assign rfl rfl ?_
    refine eseq_nil ?_
    refine hK66 _ _ ?_
    refine e_ret ?_
    obtain rfl := Option.some.inj h
    exact ⟨_, res1 rfl rfl, _, rfl, (hS.pickB [] 4 rfl rfl)⟩
theorem depend_Global_w {F R : Nat → Prop} {w : World} {fuel : Nat} {a0 : Pat} {a1 : (List Int)} {v1 : Value} {v2 : Value} {v3 : Value} {v4 : Value} {r : (Bool)} (hS : Sep F R R w w []) (f1 : IsSlice Ty.int w R v1 a0.lens) (f2 : IsSlice (Ty.slice Ty.int) w R v2 a0.ckpts) (f3 : IsSlice arcTy w R v3 a0.arcs) (f4 : IsSlice Ty.int w R v4 a1) (h : depend_Global fuel a0 a1 = some r) :
    Gives Try.prog 39 [.agg #[v1, v2, v3], v4] w fun u w1 => ∃ (R1 : Nat → Prop), u = .bool r ∧ Sep F R R1 w w1 [] := by
  refine fn_of Try.func39 rfl Try.ntmps39 (Nat.le_of_ble_eq_true rfl) ?_
  unfold depend_Global at h
  refine e_seq fun K495 hK495 => ?_
  refine e_region_text rfl ?_
  refine q_boxB rfl rfl rfl fun w496 bl496 hg496 hb496 hB496 => ?_
  replace f1 := f1.ext hB496
  replace f2 := f2.ext hB496
  replace f3 := f3.ext hB496
  replace f4 := f4.ext hB496
  replace hS := hS.newBlk hB496 hg496 hb496
  refine q_assign rfl rfl ?_
  refine eseq_nil ?_
  refine hK495 _ _ ?_
  refine e_seq fun K498 hK498 => ?_
  refine e_seq fun K499 hK499 => ?_
  refine e_region_text rfl ?_
  refine q_loadAgg rfl (Blk.cellsAt (hS.blk 0 rfl) 0 3 rfl) rfl rfl ?_
  obtain ⟨r501, hr501, h⟩ := Option.of_bind h
  refine q_call rfl (pattern_Check_w (a0 := (⟨a0.lens, a0.ckpts, a0.arcs⟩ : Pat)) (Sep.enter (As := []) hS) f1 f2 f3 hr501) rfl ?_
  rintro _ w500 ⟨R500, rfl, hC500⟩
  have hB500 : Below (World.heap w496).size w496 w500 := hC500.stepB0
  refine ⟨fun _ => .of_below hB500, ?_⟩
  replace f4 := (f4.ext hB500).mono fun k hk _ => hC500.ro0 k hk
  replace f1 := (f1.ext hB500).mono fun k hk _ => hC500.ro0 k hk
  replace f2 := (f2.ext hB500).mono fun k hk _ => hC500.ro0 k hk
  replace f3 := (f3.ext hB500).mono fun k hk _ => hC500.ro0 k hk
  replace hS := Sep.leave (As := []) hS hC500; simp only [List.cons_append, List.nil_append] at hS
  refine q_neq rfl rfl rfl ?_
  refine q_move rfl rfl ?_
  obtain ⟨x505, hx504, h⟩ := Option.of_bind h
  refine g_orM 6 hx504 rfl trivial rfl rfl ?_ ?_ ?_
  · intro hg504
    refine g_skip rfl rfl rfl ?_
    refine g_skip rfl rfl rfl ?_
    refine g_skip rfl rfl rfl ?_
    refine g_skip rfl rfl rfl ?_
    refine g_skip rfl rfl rfl ?_
    refine g_skip rfl rfl rfl ?_
    exact eseq_nil ⟨rfl, Sub.set rfl (Sub.set rfl (Sub.set rfl (Sub.set rfl (Sub.set rfl (Sub.set rfl (Sub.bool true rfl hg504))))))⟩
  · intro hg504 hx504
    clear h
    have hT504 := Below.refl (World.heap w500).size w500
    refine g_run rfl ?_; refine q_move rfl rfl ?_
    refine g_run rfl ?_; refine q_lenS rfl f4 rfl ?_
    refine g_run rfl ?_; refine q_field rfl rfl ?_
    refine g_run rfl ?_; refine q_load rfl (Blk.cell (hS.blk 0 rfl) rfl) rfl ?_
    refine g_run rfl ?_; refine q_lenS rfl f1 rfl ?_
    refine g_run rfl ?_; refine q_neq rfl rfl rfl ?_
    cases hx504
    exact eseq_nil ⟨hT504, Sub.set rfl (Sub.set rfl (Sub.set rfl (Sub.set rfl (Sub.set rfl (Sub.set rfl (Sub.bool false rfl hg504)))))), rfl⟩
  intro wm504 hBm504; clear hx504
  replace hS := hS.below hBm504
  replace f4 := f4.ext hBm504
  replace f1 := f1.ext hBm504
  replace f2 := f2.ext hBm504
  replace f3 := f3.ext hBm504
  refine eseq_nil ?_
  refine hK499 _ _ ?_
  refine e_cond rfl (fun hc506 => ?_) (fun hc506 => ?_)
  · replace h := (if_pos hc506).symm.trans h
    refine e_seq fun K507 hK507 => ?_
    refine e_region_text rfl ?_
    refine q_assign rfl rfl ?_
    refine eseq_nil ?_
    refine hK507 _ _ ?_
    refine e_ret ?_
    obtain rfl := Option.some.inj h
    exact ⟨_, res1 rfl rfl, _, rfl, (hS.pickB [] 1 rfl rfl)⟩
  · replace h := (if_neg (not_true hc506)).symm.trans h
    refine e_skip ?_
    refine hK498 _ _ ?_
    refine e_seq fun K508 hK508 => ?_
    refine e_seq fun K509 hK509 => ?_
    refine e_region_text rfl ?_
    refine q_move rfl rfl ?_
    refine q_lenS rfl f4 rfl ?_
    refine q_move rfl rfl ?_
    refine eseq_nil ?_
    refine hK509 _ _ ?_
    refine e_block ?_
    obtain ⟨tl510, ht510, h⟩ := Option.of_bind h
    have hX510_0 : ∀ (R582 : Nat → Prop) (w583 : World) (E_ : Env), depend_Global_K1 fuel a1 a0 = some r → Sep F R R582 w w583 [HP.blk bl496 [v1, v2, v3] 28] → IsSlice Ty.int w583 R582 v4 a1 → IsSlice Ty.int w583 R582 v1 a0.lens → IsSlice (Ty.slice Ty.int) w583 R582 v2 a0.ckpts → IsSlice arcTy w583 R582 v3 a0.arcs → Sub [(1, v4), (2, .pointer (some ⟨bl496, 0, none⟩))] E_ → K508 E_ w583 := by
      intro R582 w583 E_ h hS f584 f585 f586 f587 hsub
      refine hK508 _ _ (e_sub hsub ?_); clear hsub
      unfold depend_Global_K1 at h
      refine e_seq fun K588 hK588 => ?_
      refine e_seq fun K589 hK589 => ?_
      refine e_region_text rfl ?_
      refine q_move rfl rfl ?_
      refine q_lenS rfl f584 rfl ?_
      refine q_move rfl rfl ?_
      refine eseq_nil ?_
      refine hK589 _ _ ?_
      refine e_block ?_
      obtain ⟨tl590, ht590, h⟩ := Option.of_bind h
      have hX590_2 : ∀ (R848 : Nat → Prop) (w849 : World) (E_ : Env), depend_Global_K2 fuel = some r → Sep F R R848 w w849 [] → Sub [] E_ → K588 E_ w849 := by
        intro R848 w849 E_ h hS  hsub
        refine hK588 _ _ (e_sub hsub ?_); clear hsub
        unfold depend_Global_K2 at h
        refine e_seq fun K850 hK850 => ?_
        refine e_region_text rfl ?_
        refine q_assign rfl rfl ?_
        refine eseq_nil ?_
        refine hK850 _ _ ?_
        refine e_ret ?_
        obtain rfl := Option.some.inj h
        exact ⟨_, res1 rfl rfl, _, rfl, hS⟩
      refine e_loop (fun m_ E_ w720 => ∃ (x726 : Int), ∃ (R719 : Nat → Prop), iter (fun s => depend_Global_B1 fuel a1 a0 s) m_ x726 = some tl590 ∧ Sep F R R719 w w720 [HP.blk bl496 [v1, v2, v3] 28] ∧ IsSlice Ty.int w720 R719 v4 a1 ∧ IsSlice Ty.int w720 R719 v1 a0.lens ∧ IsSlice (Ty.slice Ty.int) w720 R719 v2 a0.ckpts ∧ IsSlice arcTy w720 R719 v3 a0.arcs ∧ IsSlice Ty.int w720 R719 v4 a1 ∧ E_ = [(1, v4), (2, .pointer (some ⟨bl496, 0, none⟩)), (43, v4), (44, .int .i64 (a1.length : Int)), (45, .int .i64 x726)]) _ ⟨_, ⟨0, _, ht590, hS, f584, f585, f586, f587, f584, rfl⟩, Sub.cons rfl (Sub.cons rfl (Sub.cons rfl (Sub.cons rfl (Sub.cons rfl (Sub.nil _)))))⟩ ?_
      clear ht590 hS
      rintro m590 _ w720 ⟨x726, R719, ht590, hS, f721, f722, f723, f724, f725, rfl⟩
      obtain ⟨m590, rfl, o590, ho590, ht590⟩ := iter_some ht590
      replace ho590 : depend_Global_B1 fuel a1 a0 x726 = some o590 := ho590
      unfold depend_Global_B1 at ho590
      refine e_seq fun K851 hK851 => ?_
      refine e_region_text rfl ?_
      refine q_lss rfl rfl rfl ?_
      refine eseq_nil ?_
      refine hK851 _ _ ?_
      refine e_seq fun K852 hK852 => ?_
      refine e_cond rfl (fun hc853 => ?_) (fun hc853 => ?_)
      · replace ho590 := (if_pos hc853).symm.trans ho590
        refine e_skip ?_
        refine hK852 _ _ ?_
        refine e_seq fun K854 hK854 => ?_
        refine e_block ?_
        refine e_seq fun K855 hK855 => ?_
        refine e_region_text rfl ?_
        refine q_move rfl rfl ?_
        obtain ⟨x856, hx856, ho590⟩ := Option.of_bind ho590
        refine q_atS (by infer_instance) rfl f725 rfl hx856 rfl fun b857 o857 hm857 f857 => ?_
        refine q_load rfl (Elt.intCell f857) rfl ?_
        refine q_assign rfl rfl ?_
        refine q_assign rfl rfl ?_
        refine eseq_nil ?_
        refine hK855 _ _ ?_
        refine e_seq fun K858 hK858 => ?_
        refine e_region_text rfl ?_
        refine q_loadAgg rfl (Blk.cellsAt (hS.blk 0 rfl) 0 3 rfl) rfl rfl ?_
        refine q_move rfl rfl ?_
        refine q_move rfl rfl ?_
        refine q_build (Parts.cons rfl rfl (Parts.cons rfl rfl Parts.nil)) rfl rfl ?_
        obtain ⟨r860, hr860, ho590⟩ := Option.of_bind ho590
        refine q_call rfl (depend_extended_w (a0 := (⟨a0.lens, a0.ckpts, a0.arcs⟩ : Pat)) (a1 := (⟨x726, x856⟩ : Pt)) (Sep.enter (As := []) hS) f722 f723 f724 hr860) rfl ?_
        rintro _ w859 ⟨R859, rfl, hC859⟩
        have hB859 : Below (World.heap w720).size w720 w859 := hC859.stepB0
        refine ⟨fun _ => .of_below hB859, ?_⟩
        replace f721 := (f721.ext hB859).mono fun k hk _ => hC859.ro0 k hk
        replace f722 := (f722.ext hB859).mono fun k hk _ => hC859.ro0 k hk
        replace f723 := (f723.ext hB859).mono fun k hk _ => hC859.ro0 k hk
        replace f724 := (f724.ext hB859).mono fun k hk _ => hC859.ro0 k hk
        replace f725 := (f725.ext hB859).mono fun k hk _ => hC859.ro0 k hk
        replace hS := Sep.leave (As := []) hS hC859; simp only [List.cons_append, List.nil_append] at hS
        refine q_allocB rfl fun w861 bl861 hg861 hb861 hB861 => ?_
        replace f721 := f721.ext hB861
        replace f722 := f722.ext hB861
        replace f723 := f723.ext hB861
        replace f724 := f724.ext hB861
        replace f725 := f725.ext hB861
        replace hS := hS.newBlk hB861 hg861 hb861
        obtain ⟨u864, hu864, ho590⟩ := Option.of_bind ho590
        obtain ⟨u865, hu865, ho590⟩ := Option.of_bind ho590
        refine q_storeAV rfl rfl (hS.blk 0 rfl) hu864 hu865 rfl rfl fun w863 hb863 hO863 => ?_
        have hk863 := hS.keptBlk 0 rfl hO863
        replace f721 := f721.kept hk863
        replace f722 := f722.kept hk863
        replace f723 := f723.kept hk863
        replace f724 := f724.kept hk863
        replace f725 := f725.kept hk863
        replace hS := hS.setBlk 0 rfl hb863 hO863; simp only [List.set] at hS
        refine eseq_nil ?_
        refine hK858 _ _ ?_
        refine e_seq fun K866 hK866 => ?_
        refine e_region_text rfl ?_
        refine q_move rfl rfl ?_
        refine q_lenS rfl f721 rfl ?_
        refine q_move rfl rfl ?_
        refine eseq_nil ?_
        refine hK866 _ _ ?_
        refine e_block ?_
        obtain ⟨tl867, ht867, ho590⟩ := Option.of_bind ho590
        have hX867_4 : ∀ (R939 : Nat → Prop) (w940 : World) (E_ : Env), depend_Global_K3 fuel x726 = some o590 → Sep F R R939 w w940 [HP.blk bl496 [v1, v2, v3] 28] → IsSlice Ty.int w940 R939 v4 a1 → IsSlice Ty.int w940 R939 v1 a0.lens → IsSlice (Ty.slice Ty.int) w940 R939 v2 a0.ckpts → IsSlice arcTy w940 R939 v3 a0.arcs → IsSlice Ty.int w940 R939 v4 a1 → Sub [(1, v4), (2, .pointer (some ⟨bl496, 0, none⟩)), (43, v4), (44, .int .i64 (a1.length : Int)), (45, .int .i64 x726)] E_ → K854 E_ w940 := by
          intro R939 w940 E_ ho590 hS f941 f942 f943 f944 f945 hsub
          refine hK854 _ _ (e_sub hsub ?_); clear hsub
          unfold depend_Global_K3 at ho590
          refine e_region_text rfl ?_
          refine q_addW rfl rfl rfl ?_
          refine q_move rfl rfl ?_
          refine eseq_nil ?_
          obtain rfl := Option.some.inj ho590
          exact ⟨m590, _, Nat.lt_succ_self _, ⟨(w64 (x726 + 1)), _, ht590, hS, f941, f942, f943, f944, f945, rfl⟩, Sub.cons rfl (Sub.cons rfl (Sub.cons rfl (Sub.cons rfl (Sub.cons rfl (Sub.nil _)))))⟩
        refine e_loop (fun m_ E_ w904 => ∃ (x911 : Int), ∃ (R903 : Nat → Prop), iter (fun s => depend_Global_B2 fuel a1 x726 r860 s) m_ x911 = some tl867 ∧ Sep F R R903 w w904 [HP.blk bl496 [v1, v2, v3] 28, HP.blk bl861 (List.map encI r860) 96] ∧ IsSlice Ty.int w904 R903 v4 a1 ∧ IsSlice Ty.int w904 R903 v1 a0.lens ∧ IsSlice (Ty.slice Ty.int) w904 R903 v2 a0.ckpts ∧ IsSlice arcTy w904 R903 v3 a0.arcs ∧ IsSlice Ty.int w904 R903 v4 a1 ∧ IsSlice Ty.int w904 R903 v4 a1 ∧ E_ = [(1, v4), (2, .pointer (some ⟨bl496, 0, none⟩)), (7, .int .i64 x726), (9, .pointer (some ⟨bl861, 0, none⟩)), (43, v4), (44, .int .i64 (a1.length : Int)), (45, .int .i64 x726), (55, v4), (56, .int .i64 (a1.length : Int)), (57, .int .i64 x911)]) _ ⟨_, ⟨0, _, ht867, (hS.pickB [1, 0] 2 rfl rfl), f721, f722, f723, f724, f725, f721, rfl⟩, Sub.cons rfl (Sub.cons rfl (Sub.cons rfl (Sub.cons rfl (Sub.cons rfl (Sub.cons rfl (Sub.cons rfl (Sub.cons rfl (Sub.cons rfl (Sub.cons rfl (Sub.nil _))))))))))⟩ ?_
        clear ht867 hS
        rintro m867 _ w904 ⟨x911, R903, ht867, hS, f905, f906, f907, f908, f909, f910, rfl⟩
        obtain ⟨m867, rfl, o867, ho867, ht867⟩ := iter_some ht867
        replace ho867 : depend_Global_B2 fuel a1 x726 r860 x911 = some o867 := ho867
        unfold depend_Global_B2 at ho867
        refine e_seq fun K946 hK946 => ?_
        refine e_region_text rfl ?_
        refine q_lss rfl rfl rfl ?_
        refine eseq_nil ?_
        refine hK946 _ _ ?_
        refine e_seq fun K947 hK947 => ?_
        refine e_cond rfl (fun hc948 => ?_) (fun hc948 => ?_)
        · replace ho867 := (if_pos hc948).symm.trans ho867
          refine e_skip ?_
          refine hK947 _ _ ?_
          refine e_seq fun K949 hK949 => ?_
          refine e_block ?_
          refine e_seq fun K950 hK950 => ?_
          refine e_region_text rfl ?_
          refine q_move rfl rfl ?_
          obtain ⟨x951, hx951, ho867⟩ := Option.of_bind ho867
          refine q_atS (by infer_instance) rfl f910 rfl hx951 rfl fun b952 o952 hm952 f952 => ?_
          refine q_load rfl (Elt.intCell f952) rfl ?_
          refine q_assign rfl rfl ?_
          refine q_assign rfl rfl ?_
          refine eseq_nil ?_
          refine hK950 _ _ ?_
          refine e_seq fun K953 hK953 => ?_
          refine e_region_text rfl ?_
          refine q_move rfl rfl ?_
          refine q_move rfl rfl ?_
          refine q_neq rfl rfl rfl ?_
          refine q_move rfl rfl ?_
          obtain ⟨x959, hx958, ho867⟩ := Option.of_bind ho867
          refine g_andM 5 hx958 rfl trivial rfl rfl ?_ ?_ ?_
          · intro hg958 hx958
            clear ho867
            have hT958 := Below.refl (World.heap w904).size w904
            refine g_run rfl ?_; refine q_move rfl rfl ?_
            obtain ⟨x960, hx960, hx958⟩ := Option.of_bind hx958
            refine g_run rfl ?_; refine q_indexA rfl rfl hx960 rfl ?_
            obtain ⟨x961, hx961, hx958⟩ := Option.of_bind hx958
            refine g_run rfl ?_; refine q_load rfl (Blk.atI (hS.blk 1 rfl) hx961) rfl ?_
            refine g_run rfl ?_; refine q_move rfl rfl ?_
            refine g_run rfl ?_; refine q_gtr rfl rfl rfl ?_
            cases hx958
            exact eseq_nil ⟨hT958, Sub.set rfl (Sub.set rfl (Sub.set rfl (Sub.set rfl (Sub.set rfl (Sub.bool true rfl hg958))))), rfl⟩
          · intro hg958
            refine g_skip rfl rfl rfl ?_
            refine g_skip rfl rfl rfl ?_
            refine g_skip rfl rfl rfl ?_
            refine g_skip rfl rfl rfl ?_
            refine g_skip rfl rfl rfl ?_
            exact eseq_nil ⟨rfl, Sub.set rfl (Sub.set rfl (Sub.set rfl (Sub.set rfl (Sub.set rfl (Sub.bool false rfl hg958)))))⟩
          intro wm958 hBm958; clear hx958
          replace hS := hS.below hBm958
          replace f905 := f905.ext hBm958
          replace f906 := f906.ext hBm958
          replace f907 := f907.ext hBm958
          replace f908 := f908.ext hBm958
          replace f909 := f909.ext hBm958
          replace f910 := f910.ext hBm958
          refine eseq_nil ?_
          refine hK953 _ _ ?_
          refine e_cond rfl (fun hc962 => ?_) (fun hc962 => ?_)
          · replace ho867 := (if_pos hc962).symm.trans ho867
            refine e_seq fun K963 hK963 => ?_
            refine e_region_text rfl ?_
            refine q_assign rfl rfl ?_
            refine eseq_nil ?_
            refine hK963 _ _ ?_
            refine e_ret ?_
            obtain rfl := Option.some.inj ho867
            obtain rfl := Option.some.inj ht867
            obtain rfl := Option.some.inj ho590
            obtain rfl := Option.some.inj ht590
            obtain rfl := Option.some.inj h
            exact ⟨_, res1 rfl rfl, _, rfl, (hS.pickB [] 2 rfl rfl)⟩
          · replace ho867 := (if_neg (not_true hc962)).symm.trans ho867
            refine e_skip ?_
            refine hK949 _ _ ?_
            refine e_region_text rfl ?_
            refine q_addW rfl rfl rfl ?_
            refine q_move rfl rfl ?_
            refine eseq_nil ?_
            obtain rfl := Option.some.inj ho867
            exact ⟨m867, _, Nat.lt_succ_self _, ⟨(w64 (x911 + 1)), _, ht867, hS, f905, f906, f907, f908, f909, f910, rfl⟩, Sub.cons rfl (Sub.cons rfl (Sub.cons rfl (Sub.cons rfl (Sub.cons rfl (Sub.cons rfl (Sub.cons rfl (Sub.cons rfl (Sub.cons rfl (Sub.cons rfl (Sub.nil _))))))))))⟩
        · replace ho867 := (if_neg (not_true hc948)).symm.trans ho867
          refine e_exit ?_
          obtain rfl := Option.some.inj ho867
          obtain rfl := Option.some.inj ht867
          exact hX867_4  _ _ _ ho590 (hS.pickB [0] 2 rfl rfl) f905 f906 f907 f908 f909 (Sub.cons rfl (Sub.cons rfl (Sub.cons rfl (Sub.cons rfl (Sub.cons rfl (Sub.nil _))))))
      · replace ho590 := (if_neg (not_true hc853)).symm.trans ho590
        refine e_exit ?_
        obtain rfl := Option.some.inj ho590
        obtain rfl := Option.some.inj ht590
        exact hX590_2  _ _ _ h (hS.pickB [] 1 rfl rfl)  (Sub.nil _)
    refine e_loop (fun m_ E_ w547 => ∃ (x553 : Int), ∃ (R546 : Nat → Prop), iter (fun s => depend_Global_B3 fuel a1 a0 s) m_ x553 = some tl510 ∧ Sep F R R546 w w547 [HP.blk bl496 [v1, v2, v3] 28] ∧ IsSlice Ty.int w547 R546 v4 a1 ∧ IsSlice Ty.int w547 R546 v1 a0.lens ∧ IsSlice (Ty.slice Ty.int) w547 R546 v2 a0.ckpts ∧ IsSlice arcTy w547 R546 v3 a0.arcs ∧ IsSlice Ty.int w547 R546 v4 a1 ∧ E_ = [(1, v4), (2, .pointer (some ⟨bl496, 0, none⟩)), (23, v4), (24, .int .i64 (a1.length : Int)), (25, .int .i64 x553)]) _ ⟨_, ⟨0, _, ht510, hS, f4, f1, f2, f3, f4, rfl⟩, Sub.cons rfl (Sub.cons rfl (Sub.cons rfl (Sub.cons rfl (Sub.cons rfl (Sub.nil _)))))⟩ ?_
    clear ht510 hS
    rintro m510 _ w547 ⟨x553, R546, ht510, hS, f548, f549, f550, f551, f552, rfl⟩
    obtain ⟨m510, rfl, o510, ho510, ht510⟩ := iter_some ht510
    replace ho510 : depend_Global_B3 fuel a1 a0 x553 = some o510 := ho510
    unfold depend_Global_B3 at ho510
    refine e_seq fun K964 hK964 => ?_
    refine e_region_text rfl ?_
    refine q_lss rfl rfl rfl ?_
    refine eseq_nil ?_
    refine hK964 _ _ ?_
    refine e_seq fun K965 hK965 => ?_
    refine e_cond rfl (fun hc966 => ?_) (fun hc966 => ?_)
    · replace ho510 := (if_pos hc966).symm.trans ho510
      refine e_skip ?_
      refine hK965 _ _ ?_
      refine e_seq fun K967 hK967 => ?_
      refine e_block ?_
      refine e_seq fun K968 hK968 => ?_
      refine e_region_text rfl ?_
      refine q_move rfl rfl ?_
      obtain ⟨x969, hx969, ho510⟩ := Option.of_bind ho510
      refine q_atS (by infer_instance) rfl f552 rfl hx969 rfl fun b970 o970 hm970 f970 => ?_
      refine q_load rfl (Elt.intCell f970) rfl ?_
      refine q_assign rfl rfl ?_
      refine q_assign rfl rfl ?_
      refine eseq_nil ?_
      refine hK968 _ _ ?_
      refine e_seq fun K971 hK971 => ?_
      refine e_region_text rfl ?_
      refine q_move rfl rfl ?_
      refine q_lss rfl rfl rfl ?_
      refine q_move rfl rfl ?_
      obtain ⟨x978, hx977, ho510⟩ := Option.of_bind ho510
      refine g_orM 8 hx977 rfl trivial rfl rfl ?_ ?_ ?_
      · intro hg977
        refine g_skip rfl rfl rfl ?_
        refine g_skip rfl rfl rfl ?_
        refine g_skip rfl rfl rfl ?_
        refine g_skip rfl rfl rfl ?_
        refine g_skip rfl rfl rfl ?_
        refine g_skip rfl rfl rfl ?_
        refine g_skip rfl rfl rfl ?_
        refine g_skip rfl rfl rfl ?_
        exact eseq_nil ⟨rfl, Sub.set rfl (Sub.set rfl (Sub.set rfl (Sub.set rfl (Sub.set rfl (Sub.set rfl (Sub.set rfl (Sub.set rfl (Sub.bool true rfl hg977))))))))⟩
      · intro hg977 hx977
        clear ho510
        have hT977 := Below.refl (World.heap w547).size w547
        refine g_run rfl ?_; refine q_move rfl rfl ?_
        refine g_run rfl ?_; refine q_field rfl rfl ?_
        refine g_run rfl ?_; refine q_load rfl (Blk.cell (hS.blk 0 rfl) rfl) rfl ?_
        refine g_run rfl ?_; refine q_move rfl rfl ?_
        obtain ⟨x979, hx979, hx977⟩ := Option.of_bind hx977
        refine g_run rfl ?_; refine q_atS (by infer_instance) rfl f550 rfl hx979 rfl fun b980 o980 hm980 f980 => ?_
        refine g_run rfl ?_; refine q_loadE rfl f980 rfl (fun v981 f981 => ?_)
        refine g_run rfl ?_; refine q_lenS rfl f981 rfl ?_
        refine g_run rfl ?_; refine q_gtr rfl rfl rfl ?_
        cases hx977
        exact eseq_nil ⟨hT977, Sub.set rfl (Sub.set rfl (Sub.set rfl (Sub.set rfl (Sub.set rfl (Sub.set rfl (Sub.set rfl (Sub.set rfl (Sub.bool false rfl hg977)))))))), rfl⟩
      intro wm977 hBm977; clear hx977
      replace hS := hS.below hBm977
      replace f548 := f548.ext hBm977
      replace f549 := f549.ext hBm977
      replace f550 := f550.ext hBm977
      replace f551 := f551.ext hBm977
      replace f552 := f552.ext hBm977
      refine eseq_nil ?_
      refine hK971 _ _ ?_
      refine e_cond rfl (fun hc982 => ?_) (fun hc982 => ?_)
      · replace ho510 := (if_pos hc982).symm.trans ho510
        refine e_seq fun K983 hK983 => ?_
        refine e_region_text rfl ?_
        refine q_assign rfl rfl ?_
        refine eseq_nil ?_
        refine hK983 _ _ ?_
        refine e_ret ?_
        obtain rfl := Option.some.inj ho510
        obtain rfl := Option.some.inj ht510
        obtain rfl := Option.some.inj h
        exact ⟨_, res1 rfl rfl, _, rfl, (hS.pickB [] 1 rfl rfl)⟩
      · replace ho510 := (if_neg (not_true hc982)).symm.trans ho510
        refine e_skip ?_
        refine hK967 _ _ ?_
        refine e_region_text rfl ?_
        refine q_addW rfl rfl rfl ?_
        refine q_move rfl rfl ?_
        refine eseq_nil ?_
        obtain rfl := Option.some.inj ho510
        exact ⟨m510, _, Nat.lt_succ_self _, ⟨(w64 (x553 + 1)), _, ht510, hS, f548, f549, f550, f551, f552, rfl⟩, Sub.cons rfl (Sub.cons rfl (Sub.cons rfl (Sub.cons rfl (Sub.cons rfl (Sub.nil _)))))⟩
    · replace ho510 := (if_neg (not_true hc966)).symm.trans ho510
      refine e_exit ?_
      obtain rfl := Option.some.inj ho510
      obtain rfl := Option.some.inj ht510
      exact hX510_0  _ _ _ h hS f548 f549 f550 f551 (Sub.cons rfl (Sub.cons rfl (Sub.nil _)))
end Go.Proofs.Ytlceljfigccllaa
