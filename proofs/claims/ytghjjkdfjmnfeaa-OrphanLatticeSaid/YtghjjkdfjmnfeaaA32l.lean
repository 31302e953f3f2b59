/- Printed walks: A32l. -/
import Derived.Test.YtghjjkdfjmnfeaaA32a
set_option linter.unusedVariables false
set_option linter.unusedSimpArgs false
namespace Go.Mine
open Go.RowKit
def ref32_Before (fuel : Nat) (a0 : Lab) (a1 : Lab) : Option (Bool) :=
  (orM (decide (a0.inc < a1.inc)) ((andM (a0.inc == a1.inc) (some (decide (a0.index < a1.index)))).bind fun x28 => some x28)).bind fun x26 => some x26
def ref32_at (fuel : Nat) (a0 : (List Lab)) (a1 : Int) : Option (Lab) :=
  (if (decide (a1 < (a0.length : Int))) = true then (ati a0 a1).bind fun x22 => some (⟨x22.inc, x22.index⟩ : Lab) else some (⟨0, 0⟩ : Lab))
def ref32_Merge_K1 (fuel : Nat) (x267 : (List Lab)) : Option ((List Lab)) :=
  some x267
def ref32_Merge_J1 (fuel : Nat) (x216 : (List Lab)) (x217 : Int) (x296 : Int) (x297 : Int) : Option (((List Lab) × Int) ⊕ ((List Lab))) :=
  (snoc x216 (⟨x296, x297⟩ : Lab)).bind fun x301 => some (Sum.inl (x301, (w64 (x217 + 1))))
def ref32_Merge_B1 (fuel : Nat) (a0 : (List Lab)) (a1 : (List Lab)) (x216 : (List Lab)) (x217 : Int) : Option (((List Lab) × Int) ⊕ ((List Lab))) :=
  (if (decide (x217 < (max (a0.length : Int) (a1.length : Int)))) = true then (ref32_at fuel a0 x217).bind fun r276 => (ref32_at fuel a1 x217).bind fun r278 => (ref32_Before fuel (⟨r276.inc, r276.index⟩ : Lab) (⟨r278.inc, r278.index⟩ : Lab)).bind fun r304 => (if r304 = true then ref32_Merge_J1 fuel x216 x217 r278.inc r278.index else ref32_Merge_J1 fuel x216 x217 r276.inc r276.index) else some (Sum.inr x216))
def ref32_Merge (fuel : Nat) (a0 : (List Lab)) (a1 : (List Lab)) : Option ((List Lab)) :=
  (iter (fun s => ref32_Merge_B1 fuel a0 a1 s.1 s.2) fuel (([] : List Lab), 0)).bind (fun t => ref32_Merge_K1 fuel t)
def law32_OrphanLabels_K1 (fuel : Nat) (a0 : (List Lab)) (a1 : (List Lab)) (r301 : (Int × Int)) (r303 : (Int × Int)) (r305 : (Int × Int)) (r307 : (Int × Int)) : Option (Bool) :=
  (orphan_Merge fuel a0 a1).bind fun r420 => (orphan_Before fuel (⟨r301.1, r303.1⟩ : Lab) (⟨r305.1, r307.1⟩ : Lab)).bind fun r453 => (ref32_Before fuel (⟨r301.1, r303.1⟩ : Lab) (⟨r305.1, r307.1⟩ : Lab)).bind fun r455 => (andM (r453 == r455) ((orphan_Before fuel (⟨r301.1, r303.1⟩ : Lab) (⟨r301.1, r303.1⟩ : Lab)).bind fun r463 => some (!r463))).bind fun x461 => (andM x461 ((ref32_Merge fuel a0 a1).bind fun r474 => (ref32_SameLabels fuel r420 r474).bind fun r477 => some r477)).bind fun x472 => (andM x472 ((orphan_Merge fuel a1 a0).bind fun r488 => (ref32_SameLabels fuel r420 r488).bind fun r491 => some r491)).bind fun x486 => (andM x486 ((orphan_Merge fuel r420 a0).bind fun r502 => (ref32_SameLabels fuel r420 r502).bind fun r505 => some r505)).bind fun x500 => some x500
def law32_OrphanLabels_B1 (fuel : Nat) (a0 : (List Lab)) (a1 : (List Lab)) (x369 : Int) : Option ((Int) ⊕ (Unit ⊕ (Bool))) :=
  (if (decide (x369 < (min (a0.length : Int) (a1.length : Int)))) = true then (ati a0 x369).bind fun x527 => (ati a1 x369).bind fun x530 => (ati a0 x369).bind fun x533 => (ati a1 x369).bind fun x536 => (orphan_Before fuel x527 x530).bind fun r540 => (ref32_Before fuel x533 x536).bind fun r542 => (if (r540 != r542) = true then some (Sum.inr (Sum.inr false)) else some (Sum.inl (w64 (x369 + 1)))) else some (Sum.inr (Sum.inl ())))
def law32_OrphanLabels (fuel : Nat) (a0 : (List Lab)) (a1 : (List Lab)) (a2 : (List Int)) : Option (Bool) :=
  (law32_awake fuel).bind fun r279 => (orM (!r279) (some (decide (60 < (a0.length : Int))))).bind fun x283 => (orM x283 (some (decide (60 < (a1.length : Int))))).bind fun x287 => (if x287 = true then (orM (decide (60 < (a0.length : Int))) (some (decide (60 < (a1.length : Int))))).bind fun x293 => some x293 else (make_New fuel a2 60).bind fun r296 => (make_Codes_Next fuel 3 r296.1 r296.2).bind fun r301 => (make_Codes_Next fuel 3 r296.1 r301.2).bind fun r303 => (make_Codes_Next fuel 3 r296.1 r303.2).bind fun r305 => (make_Codes_Next fuel 3 r296.1 r305.2).bind fun r307 => (iter (fun s => law32_OrphanLabels_B1 fuel a0 a1 s) fuel 0).bind (fun t => Sum.elim (fun t => law32_OrphanLabels_K1 fuel a0 a1 r301 r303 r305 r307) (fun t => some t) t))
end Go.Mine
namespace Go.Proofs.Ytghjjkdfjmnfeaa
open Go.RowKit Go.Mine
attribute [local irreducible] eseq ewp iter
theorem ref32_Before_w {F R : Nat → Prop} {w : World} {fuel : Nat} {a0 : Lab} {a1 : Lab} {r : (Bool)} (hS : Sep F R R w w []) (h : ref32_Before fuel a0 a1 = some r) :
    Gives Try.prog 15 [.agg #[.int .i64 a0.inc, .int .i64 a0.index], .agg #[.int .i64 a1.inc, .int .i64 a1.index]] w fun u w1 => ∃ (R1 : Nat → Prop), u = .bool r ∧ Sep F R R1 w w1 [] := by
  refine fn_of Try.func15 rfl Try.ntmps15 (Nat.le_of_ble_eq_true rfl) ?_
  unfold ref32_Before at h
  refine e_seq fun K15 hK15 => ?_
  refine e_region_text rfl ?_
  refine q_boxB rfl rfl rfl fun w16 bl16 hg16 hb16 hB16 => ?_
  replace hS := hS.newBlk hB16 hg16 hb16
  refine q_boxB rfl rfl rfl fun w18 bl18 hg18 hb18 hB18 => ?_
  replace hS := hS.newBlk hB18 hg18 hb18
  refine q_assign rfl rfl ?_
  refine eseq_nil ?_
  refine hK15 _ _ ?_
  refine e_seq fun K20 hK20 => ?_
  refine e_region_text rfl ?_
  refine q_field rfl rfl ?_
  refine q_load rfl (Blk.cell (hS.blk 1 rfl) rfl) rfl ?_
  refine q_field rfl rfl ?_
  refine q_load rfl (Blk.cell (hS.blk 0 rfl) rfl) rfl ?_
  refine q_lss rfl rfl rfl ?_
  refine q_move rfl rfl ?_
  obtain ⟨x26, hx25, h⟩ := Option.of_bind h
  refine g_orM 12 hx25 rfl trivial rfl rfl ?_ ?_ ?_
  · intro hg25
    refine g_skip rfl rfl rfl ?_
    refine g_skip rfl rfl rfl ?_
    refine g_skip rfl rfl rfl ?_
    refine g_skip rfl rfl rfl ?_
    refine g_skip rfl rfl rfl ?_
    refine g_skip rfl rfl rfl ?_
    refine g_skipU rfl rfl ?_
    refine g_skipU rfl rfl ?_
    refine g_skipU rfl rfl ?_
    refine g_skipU rfl rfl ?_
    refine g_skipU rfl rfl ?_
    refine g_skip rfl rfl rfl ?_
    exact eseq_nil ⟨rfl, Sub.set rfl (Sub.set rfl (Sub.set rfl (Sub.set rfl (Sub.set rfl (Sub.set rfl (Sub.set rfl (Sub.set rfl (Sub.set rfl (Sub.set rfl (Sub.set rfl (Sub.set rfl (Sub.bool true rfl hg25))))))))))))⟩
  · intro hg25 hx25
    clear h
    have hT25 := Below.refl (World.heap w18).size w18
    refine g_run rfl ?_; refine q_field rfl rfl ?_
    refine g_run rfl ?_; refine q_load rfl (Blk.cell (hS.blk 1 rfl) rfl) rfl ?_
    refine g_run rfl ?_; refine q_field rfl rfl ?_
    refine g_run rfl ?_; refine q_load rfl (Blk.cell (hS.blk 0 rfl) rfl) rfl ?_
    refine g_run rfl ?_; refine q_eql rfl rfl rfl ?_
    refine g_run rfl ?_; refine q_move rfl rfl ?_
    obtain ⟨x28, hx27, hx25⟩ := Option.of_bind hx25
    refine g_andM 5 hx27 rfl rfl rfl rfl ?_ ?_ ?_
    · intro hg27 hx27
      clear hx25
      have hT27 := Below.refl (World.heap w18).size w18
      refine g_run rfl ?_; refine q_field rfl rfl ?_
      refine g_run rfl ?_; refine q_load rfl (Blk.cell (hS.blk 1 rfl) rfl) rfl ?_
      refine g_run rfl ?_; refine q_field rfl rfl ?_
      refine g_run rfl ?_; refine q_load rfl (Blk.cell (hS.blk 0 rfl) rfl) rfl ?_
      refine g_run rfl ?_; refine q_lss rfl rfl rfl ?_
      cases hx27
      exact eseq_nil ⟨hT27, Sub.set rfl (Sub.set rfl (Sub.set rfl (Sub.set rfl (Sub.set rfl (Sub.bool true rfl hg27))))), rfl⟩
    · intro hg27
      refine g_skip rfl rfl rfl ?_
      refine g_skip rfl rfl rfl ?_
      refine g_skip rfl rfl rfl ?_
      refine g_skip rfl rfl rfl ?_
      refine g_skip rfl rfl rfl ?_
      exact eseq_nil ⟨rfl, Sub.set rfl (Sub.set rfl (Sub.set rfl (Sub.set rfl (Sub.set rfl (Sub.bool false rfl hg27)))))⟩
    intro wm27 hBm27; clear hx27
    replace hS := hS.below hBm27
    replace hT25 := hT25.trans (Below.mono hBm27 hT25.size)
    cases hx25
    exact eseq_nil ⟨hT25, Sub.set rfl (Sub.set rfl (Sub.set rfl (Sub.set rfl (Sub.set rfl (Sub.set rfl (Sub.set rfl (Sub.bool false rfl hg25))))))), rfl⟩
  intro wm25 hBm25; clear hx25
  replace hS := hS.below hBm25
  refine q_assign rfl rfl ?_
  refine eseq_nil ?_
  refine hK20 _ _ ?_
  refine e_ret ?_
  obtain rfl := Option.some.inj h
  exact ⟨_, res1 rfl rfl, _, rfl, (hS.pickB [] 2 rfl rfl)⟩
theorem ref32_at_w {F R : Nat → Prop} {w : World} {fuel : Nat} {a0 : (List Lab)} {a1 : Int} {v1 : Value} {r : (Lab)} (hS : Sep F R R w w []) (f1 : IsSlice labTy w R v1 a0) (h : ref32_at fuel a0 a1 = some r) :
    Gives Try.prog 48 [v1, .int .i64 a1] w fun u w1 => ∃ (R1 : Nat → Prop), u = .agg #[.int .i64 r.inc, .int .i64 r.index] ∧ Sep F R R1 w w1 [] := by
  refine fn_of Try.func48 rfl Try.ntmps48 (Nat.le_of_ble_eq_true rfl) ?_
  unfold ref32_at at h
  refine e_seq fun K15 hK15 => ?_
  refine e_region_text rfl ?_
  refine q_allocB rfl fun w16 bl16 hg16 hb16 hB16 => ?_
  replace f1 := f1.ext hB16
  replace hS := hS.newBlk hB16 hg16 hb16
  refine eseq_nil ?_
  refine hK15 _ _ ?_
  refine e_seq fun K18 hK18 => ?_
  refine e_seq fun K19 hK19 => ?_
  refine e_region_text rfl ?_
  refine q_move rfl rfl ?_
  refine q_move rfl rfl ?_
  refine q_lenS rfl f1 rfl ?_
  refine q_lss rfl rfl rfl ?_
  refine eseq_nil ?_
  refine hK19 _ _ ?_
  refine e_cond rfl (fun hc20 => ?_) (fun hc20 => ?_)
  · replace h := (if_pos hc20).symm.trans h
    refine e_seq fun K21 hK21 => ?_
    refine e_region_text rfl ?_
    refine q_move rfl rfl ?_
    refine q_move rfl rfl ?_
    obtain ⟨x22, hx22, h⟩ := Option.of_bind h
    refine q_atS (by infer_instance) rfl f1 rfl hx22 rfl fun b23 o23 hm23 f23 => ?_
    have hc24 := Lab_open f23
    refine q_loadAgg rfl hc24 rfl rfl ?_
    refine q_storeAgg rfl rfl (hS.blk 0 rfl) rfl (Nat.le_of_ble_eq_true rfl) (all_cons rfl (all_cons rfl (all_nil))) rfl rfl fun w25 hb25 hO25 => ?_
    simp only [setN, List.set, List.take, List.drop] at hb25
    have hk25 := hS.keptBlk 0 rfl hO25
    replace hS := hS.setBlk 0 rfl hb25 hO25; simp only [List.set] at hS
    refine eseq_nil ?_
    refine hK21 _ _ ?_
    refine e_ret ?_
    obtain rfl := Option.some.inj h
    exact ⟨_, resC1 rfl rfl ((hS.blk 0 rfl).cellsAt 0 2 rfl) rfl, _, rfl, (hS.pickB [] 1 rfl rfl)⟩
  · replace h := (if_neg (not_true hc20)).symm.trans h
    refine e_skip ?_
    refine hK18 _ _ ?_
    refine e_seq fun K26 hK26 => ?_
    refine e_region_text rfl ?_
    refine q_build Parts.nil rfl rfl ?_
    refine q_storeAgg rfl rfl (hS.blk 0 rfl) rfl (Nat.le_of_ble_eq_true rfl) (all_cons rfl (all_cons rfl (all_nil))) rfl rfl fun w27 hb27 hO27 => ?_
    simp only [setN, List.set, List.take, List.drop] at hb27
    have hk27 := hS.keptBlk 0 rfl hO27
    replace hS := hS.setBlk 0 rfl hb27 hO27; simp only [List.set] at hS
    refine eseq_nil ?_
    refine hK26 _ _ ?_
    refine e_ret ?_
    obtain rfl := Option.some.inj h
    exact ⟨_, resC1 rfl rfl ((hS.blk 0 rfl).cellsAt 0 2 rfl) rfl, _, rfl, (hS.pickB [] 1 rfl rfl)⟩
theorem ref32_Merge_w {F R : Nat → Prop} {w : World} {fuel : Nat} {a0 : (List Lab)} {a1 : (List Lab)} {v1 : Value} {v2 : Value} {r : ((List Lab))} (hS : Sep F R R w w []) (f1 : IsSlice labTy w R v1 a0) (f2 : IsSlice labTy w R v2 a1) (h : ref32_Merge fuel a0 a1 = some r) :
    Gives Try.prog 18 [v1, v2] w fun u w1 => ∃ (v155 : Value), ∃ (R1 : Nat → Prop), u = v155 ∧ Sep F R R1 w w1 [HP.own labTy (fun _ => False) 29 v155 r] := by
  refine fn_of Try.func18 rfl Try.ntmps18 (Nat.le_of_ble_eq_true rfl) ?_
  unfold ref32_Merge at h
  refine e_seq fun K156 hK156 => ?_
  refine e_region_text rfl ?_
  refine q_assign rfl rfl ?_
  refine eseq_nil ?_
  refine hK156 _ _ ?_
  refine e_seq fun K157 hK157 => ?_
  refine e_region_text rfl ?_
  refine q_assign rfl rfl ?_
  refine eseq_nil ?_
  refine hK157 _ _ ?_
  refine e_seq fun K158 hK158 => ?_
  refine e_seq fun K159 hK159 => ?_
  refine e_region_text rfl ?_
  refine q_assign rfl rfl ?_
  refine eseq_nil ?_
  refine hK159 _ _ ?_
  refine e_block ?_
  obtain ⟨tl160, ht160, h⟩ := Option.of_bind h
  have hX160_0 : ∀ (x267 : (List Lab)) (v266 : Value) (R263 : Nat → Prop) (w264 : World) (E_ : Env), ref32_Merge_K1 fuel x267 = some r → Sep F R R263 w w264 [HP.own labTy (fun _ => False) 29 v266 x267] → Sub [(5, v266)] E_ → K158 E_ w264 := by
    intro x267 v266 R263 w264 E_ h hS  hsub
    refine hK158 _ _ (e_sub hsub ?_); clear hsub
    unfold ref32_Merge_K1 at h
    refine e_seq fun K268 hK268 => ?_
    refine e_region_text rfl ?_
    refine q_move rfl rfl ?_
    refine q_assign rfl rfl ?_
    refine eseq_nil ?_
    refine hK268 _ _ ?_
    refine e_ret ?_
    obtain rfl := Option.some.inj h
    exact ⟨_, res1 rfl rfl, v266, _, rfl, hS⟩
  replace hS := hS.nilOwn0 labTy 29
  refine e_loop (fun m_ E_ w211 => ∃ (x216 : (List Lab)), ∃ (x217 : Int), ∃ (v215 : Value), ∃ (R210 : Nat → Prop), iter (fun s => ref32_Merge_B1 fuel a0 a1 s.1 s.2) m_ (x216, x217) = some tl160 ∧ Sep F R R210 w w211 [HP.own labTy (fun _ => False) 29 v215 x216] ∧ IsSlice labTy w211 R210 v1 a0 ∧ IsSlice labTy w211 R210 v2 a1 ∧ E_ = [(0, v1), (1, v2), (5, v215), (6, .int .i64 x217)]) _ ⟨_, ⟨([] : List Lab), 0, (.slice none 0 0), _, ht160, hS, f1, f2, rfl⟩, Sub.cons rfl (Sub.cons rfl (Sub.cons rfl (Sub.cons rfl (Sub.nil _))))⟩ ?_
  clear ht160 hS
  rintro m160 _ w211 ⟨x216, x217, v215, R210, ht160, hS, f212, f213, rfl⟩
  obtain ⟨m160, rfl, o160, ho160, ht160⟩ := iter_some ht160
  replace ho160 : ref32_Merge_B1 fuel a0 a1 x216 x217 = some o160 := ho160
  unfold ref32_Merge_B1 at ho160
  refine e_seq fun K270 hK270 => ?_
  refine e_seq fun K271 hK271 => ?_
  refine e_region_text rfl ?_
  refine q_move rfl rfl ?_
  refine q_move rfl rfl ?_
  refine q_lenS rfl f212 rfl ?_
  refine q_move rfl rfl ?_
  refine q_lenS rfl f213 rfl ?_
  refine q_max rfl rfl rfl ?_
  refine q_lss rfl rfl rfl ?_
  refine eseq_nil ?_
  refine hK271 _ _ ?_
  refine e_cond rfl (fun hc272 => ?_) (fun hc272 => ?_)
  · replace ho160 := (if_pos hc272).symm.trans ho160
    refine e_skip ?_
    refine hK270 _ _ ?_
    refine e_seq fun K273 hK273 => ?_
    refine e_block ?_
    refine e_seq fun K274 hK274 => ?_
    refine e_region_text rfl ?_
    refine q_move rfl rfl ?_
    refine q_move rfl rfl ?_
    obtain ⟨r276, hr276, ho160⟩ := Option.of_bind ho160
    refine q_call rfl (ref32_at_w (Sep.enter (As := []) hS) f212 hr276) rfl ?_
    rintro _ w275 ⟨R275, rfl, hC275⟩
    have hB275 : Below (World.heap w211).size w211 w275 := hC275.stepB0
    refine ⟨fun _ => .of_below hB275, ?_⟩
    replace f212 := (f212.ext hB275).mono fun k hk _ => hC275.ro0 k hk
    replace f213 := (f213.ext hB275).mono fun k hk _ => hC275.ro0 k hk
    replace hS := Sep.leave (As := []) hS hC275; simp only [List.cons_append, List.nil_append] at hS
    refine q_move rfl rfl ?_
    refine q_move rfl rfl ?_
    obtain ⟨r278, hr278, ho160⟩ := Option.of_bind ho160
    refine q_call rfl (ref32_at_w (Sep.enter (As := []) hS) f213 hr278) rfl ?_
    rintro _ w277 ⟨R277, rfl, hC277⟩
    have hB277 : Below (World.heap w275).size w275 w277 := hC277.stepB0
    refine ⟨fun _ => .of_below hB277, ?_⟩
    replace f212 := (f212.ext hB277).mono fun k hk _ => hC277.ro0 k hk
    replace f213 := (f213.ext hB277).mono fun k hk _ => hC277.ro0 k hk
    replace hS := Sep.leave (As := []) hS hC277; simp only [List.cons_append, List.nil_append] at hS
    refine q_allocB rfl fun w279 bl279 hg279 hb279 hB279 => ?_
    replace f212 := f212.ext hB279
    replace f213 := f213.ext hB279
    replace hS := hS.newBlk hB279 hg279 hb279
    refine q_allocB rfl fun w281 bl281 hg281 hb281 hB281 => ?_
    replace f212 := f212.ext hB281
    replace f213 := f213.ext hB281
    replace hS := hS.newBlk hB281 hg281 hb281
    refine q_storeAgg rfl rfl (hS.blk 1 rfl) rfl (Nat.le_of_ble_eq_true rfl) (all_cons rfl (all_cons rfl (all_nil))) rfl rfl fun w283 hb283 hO283 => ?_
    simp only [setN, List.set, List.take, List.drop] at hb283
    have hk283 := hS.keptBlk 1 rfl hO283
    replace f212 := f212.kept hk283
    replace f213 := f213.kept hk283
    replace hS := hS.setBlk 1 rfl hb283 hO283; simp only [List.set] at hS
    refine q_storeAgg rfl rfl (hS.blk 0 rfl) rfl (Nat.le_of_ble_eq_true rfl) (all_cons rfl (all_cons rfl (all_nil))) rfl rfl fun w284 hb284 hO284 => ?_
    simp only [setN, List.set, List.take, List.drop] at hb284
    have hk284 := hS.keptBlk 0 rfl hO284
    replace f212 := f212.kept hk284
    replace f213 := f213.kept hk284
    replace hS := hS.setBlk 0 rfl hb284 hO284; simp only [List.set] at hS
    refine eseq_nil ?_
    refine hK274 _ _ ?_
    refine e_seq fun K285 hK285 => ?_
    have hJ285 : ∀ (x296 : Int) (x297 : Int) (R291 : Nat → Prop) (w292 : World) (E_ : Env), ref32_Merge_J1 fuel x216 x217 x296 x297 = some o160 → Sep F R R291 w w292 [HP.own labTy (fun _ => False) 29 v215 x216, HP.blk bl279 [.int .i64 x296, .int .i64 x297] 29] → IsSlice labTy w292 R291 v1 a0 → IsSlice labTy w292 R291 v2 a1 → Sub [(0, v1), (1, v2), (5, v215), (6, .int .i64 x217), (7, .pointer (some ⟨bl279, 0, none⟩))] E_ → K285 E_ w292 := by
      intro x296 x297 R291 w292 E_ ho160 hS f293 f294 hsub
      refine hK285 _ _ (e_sub hsub ?_); clear hsub
      unfold ref32_Merge_J1 at ho160
      refine e_region_text rfl ?_
      refine q_move rfl rfl ?_
      refine q_loadAgg rfl (Blk.cellsAt (hS.blk 1 rfl) 0 2 rfl) rfl rfl ?_
      refine q_litO (T := labTy) (S := (fun _ => False)) (cells := [[.int .i64 x296, .int .i64 x297]]) (ys := [(⟨x296, x297⟩ : Lab)]) ((Parts.cons rfl rfl Parts.nil)) rfl rfl rfl rfl rfl rfl rfl (fun w1 hB => ⟨⟨[_], _, rfl, rfl, rfl⟩, trivial⟩) (fun _ h => h.elim) rfl fun w298 v298 ho298 hv298 hB298 => ?_
      replace f293 := f293.ext hB298
      replace f294 := f294.ext hB298
      replace hS := hS.newOwnS hB298 ho298 hv298 (fun _ h => h.elim)
      obtain ⟨x301, hx301, ho160⟩ := Option.of_bind ho160
      refine q_catOwn (T := labTy) rfl rfl rfl rfl (hS.own 1 rfl) rfl (hS.own 0 rfl) (fun _ h _ => h.elim) (snoc_cat hx301) (Nat.zero_le _) rfl (fun h => by cases h) fun v300 w300 hw300 hgr300 hnw300 => ?_
      have hk300 := hS.keptOwn 1 rfl hgr300
      replace f293 := f293.kept hk300
      replace f294 := f294.kept hk300
      replace hS := hS.setOwn 1 rfl hw300 hgr300 hnw300; simp only [List.set] at hS
      refine q_assign rfl rfl ?_
      refine eseq_nil ?_
      refine hK273 _ _ ?_
      refine e_region_text rfl ?_
      refine q_move rfl rfl ?_
      refine q_addW rfl rfl rfl ?_
      refine q_assign rfl rfl ?_
      refine eseq_nil ?_
      obtain rfl := Option.some.inj ho160
      exact ⟨m160, _, Nat.lt_succ_self _, ⟨x301, (w64 (x217 + 1)), v300, _, ht160, (hS.pickB [1] 3 rfl rfl), f293, f294, rfl⟩, Sub.cons rfl (Sub.cons rfl (Sub.cons rfl (Sub.cons rfl (Sub.nil _))))⟩
    refine e_seq fun K302 hK302 => ?_
    refine e_region_text rfl ?_
    refine q_loadAgg rfl (Blk.cellsAt (hS.blk 1 rfl) 0 2 rfl) rfl rfl ?_
    refine q_loadAgg rfl (Blk.cellsAt (hS.blk 0 rfl) 0 2 rfl) rfl rfl ?_
    obtain ⟨r304, hr304, ho160⟩ := Option.of_bind ho160
    refine q_call rfl (ref32_Before_w (a0 := (⟨r276.inc, r276.index⟩ : Lab)) (a1 := (⟨r278.inc, r278.index⟩ : Lab)) (Sep.enter (As := []) hS)  hr304) rfl ?_
    rintro _ w303 ⟨R303, rfl, hC303⟩
    have hB303 : Below (World.heap w284).size w284 w303 := hC303.stepB0
    refine ⟨fun _ => .of_below hB303, ?_⟩
    replace f212 := (f212.ext hB303).mono fun k hk _ => hC303.ro0 k hk
    replace f213 := (f213.ext hB303).mono fun k hk _ => hC303.ro0 k hk
    replace hS := Sep.leave (As := []) hS hC303; simp only [List.cons_append, List.nil_append] at hS
    refine eseq_nil ?_
    refine hK302 _ _ ?_
    refine e_cond rfl (fun hc305 => ?_) (fun hc305 => ?_)
    · replace ho160 := (if_pos hc305).symm.trans ho160
      refine e_region_text rfl ?_
      refine q_loadAgg rfl (Blk.cellsAt (hS.blk 0 rfl) 0 2 rfl) rfl rfl ?_
      refine q_storeAgg rfl rfl (hS.blk 1 rfl) rfl (Nat.le_of_ble_eq_true rfl) (all_cons rfl (all_cons rfl (all_nil))) rfl rfl fun w306 hb306 hO306 => ?_
      simp only [setN, List.set, List.take, List.drop] at hb306
      have hk306 := hS.keptBlk 1 rfl hO306
      replace f212 := f212.kept hk306
      replace f213 := f213.kept hk306
      replace hS := hS.setBlk 1 rfl hb306 hO306; simp only [List.set] at hS
      refine eseq_nil ?_
      exact hJ285 r278.inc r278.index _ _ _ ho160 (hS.pickB [2, 1] 3 rfl rfl) f212 f213 (Sub.cons rfl (Sub.cons rfl (Sub.cons rfl (Sub.cons rfl (Sub.cons rfl (Sub.nil _))))))
    · replace ho160 := (if_neg (not_true hc305)).symm.trans ho160
      refine e_skip ?_
      exact hJ285 r276.inc r276.index _ _ _ ho160 (hS.pickB [2, 1] 3 rfl rfl) f212 f213 (Sub.cons rfl (Sub.cons rfl (Sub.cons rfl (Sub.cons rfl (Sub.cons rfl (Sub.nil _))))))
  · replace ho160 := (if_neg (not_true hc272)).symm.trans ho160
    refine e_exit ?_
    obtain rfl := Option.some.inj ho160
    obtain rfl := Option.some.inj ht160
    exact hX160_0 x216 v215 _ _ _ h hS  (Sub.cons rfl (Sub.nil _))
theorem law32_OrphanLabels_w {F R : Nat → Prop} {w : World} {fuel : Nat} {a0 : (List Lab)} {a1 : (List Lab)} {a2 : (List Int)} {v1 : Value} {v2 : Value} {v3 : Value} {r : (Bool)} (hS : Sep F R R w w []) (f1 : IsSlice labTy w R v1 a0) (f2 : IsSlice labTy w R v2 a1) (f3 : IsSlice Ty.u8 w R v3 a2) (h : law32_OrphanLabels fuel a0 a1 a2 = some r) :
    Gives Try.prog 3 [v1, v2, v3] w fun u w1 => ∃ (R1 : Nat → Prop), u = .bool r ∧ Sep F R R1 w w1 [] := by
  refine fn_of Try.func3 rfl Try.ntmps3 (Nat.le_of_ble_eq_true rfl) ?_
  unfold law32_OrphanLabels at h
  refine e_seq fun K275 hK275 => ?_
  refine e_region_text rfl ?_
  refine q_assign rfl rfl ?_
  refine eseq_nil ?_
  refine hK275 _ _ ?_
  refine e_seq fun K276 hK276 => ?_
  refine e_seq fun K277 hK277 => ?_
  refine e_region_text rfl ?_
  obtain ⟨r279, hr279, h⟩ := Option.of_bind h
  refine q_call rfl (law32_awake_w (Sep.enter (As := []) hS)  hr279) rfl ?_
  rintro _ w278 ⟨R278, rfl, hC278⟩
  have hB278 : Below (World.heap w).size w w278 := hC278.stepB0
  refine ⟨fun _ => .of_below hB278, ?_⟩
  replace f1 := (f1.ext hB278).mono fun k hk _ => hC278.ro0 k hk
  replace f2 := (f2.ext hB278).mono fun k hk _ => hC278.ro0 k hk
  replace f3 := (f3.ext hB278).mono fun k hk _ => hC278.ro0 k hk
  replace hS := Sep.leave (As := []) hS hC278; simp only [List.cons_append, List.nil_append] at hS
  refine q_not rfl rfl ?_
  refine q_move rfl rfl ?_
  obtain ⟨x283, hx282, h⟩ := Option.of_bind h
  refine g_orM 3 hx282 rfl trivial rfl rfl ?_ ?_ ?_
  · intro hg282
    refine g_skip rfl rfl rfl ?_
    refine g_skip rfl rfl rfl ?_
    refine g_skip rfl rfl rfl ?_
    exact eseq_nil ⟨rfl, Sub.set rfl (Sub.set rfl (Sub.set rfl (Sub.bool true rfl hg282)))⟩
  · intro hg282 hx282
    clear h
    have hT282 := Below.refl (World.heap w278).size w278
    refine g_run rfl ?_; refine q_move rfl rfl ?_
    refine g_run rfl ?_; refine q_lenS rfl f1 rfl ?_
    refine g_run rfl ?_; refine q_gtr rfl rfl rfl ?_
    cases hx282
    exact eseq_nil ⟨hT282, Sub.set rfl (Sub.set rfl (Sub.set rfl (Sub.bool false rfl hg282))), rfl⟩
  intro wm282 hBm282; clear hx282
  replace hS := hS.below hBm282
  replace f1 := f1.ext hBm282
  replace f2 := f2.ext hBm282
  replace f3 := f3.ext hBm282
  refine q_move rfl rfl ?_
  obtain ⟨x287, hx286, h⟩ := Option.of_bind h
  refine g_orM 3 hx286 rfl trivial rfl rfl ?_ ?_ ?_
  · intro hg286
    refine g_skip rfl rfl rfl ?_
    refine g_skip rfl rfl rfl ?_
    refine g_skip rfl rfl rfl ?_
    exact eseq_nil ⟨rfl, Sub.set rfl (Sub.set rfl (Sub.set rfl (Sub.bool true rfl hg286)))⟩
  · intro hg286 hx286
    clear h
    have hT286 := Below.refl (World.heap wm282).size wm282
    refine g_run rfl ?_; refine q_move rfl rfl ?_
    refine g_run rfl ?_; refine q_lenS rfl f2 rfl ?_
    refine g_run rfl ?_; refine q_gtr rfl rfl rfl ?_
    cases hx286
    exact eseq_nil ⟨hT286, Sub.set rfl (Sub.set rfl (Sub.set rfl (Sub.bool false rfl hg286))), rfl⟩
  intro wm286 hBm286; clear hx286
  replace hS := hS.below hBm286
  replace f1 := f1.ext hBm286
  replace f2 := f2.ext hBm286
  replace f3 := f3.ext hBm286
  refine eseq_nil ?_
  refine hK277 _ _ ?_
  refine e_cond rfl (fun hc288 => ?_) (fun hc288 => ?_)
  · replace h := (if_pos hc288).symm.trans h
    refine e_seq fun K289 hK289 => ?_
    refine e_region_text rfl ?_
    refine q_move rfl rfl ?_
    refine q_lenS rfl f1 rfl ?_
    refine q_gtr rfl rfl rfl ?_
    refine q_move rfl rfl ?_
    obtain ⟨x293, hx292, h⟩ := Option.of_bind h
    refine g_orM 3 hx292 rfl trivial rfl rfl ?_ ?_ ?_
    · intro hg292
      refine g_skip rfl rfl rfl ?_
      refine g_skip rfl rfl rfl ?_
      refine g_skip rfl rfl rfl ?_
      exact eseq_nil ⟨rfl, Sub.set rfl (Sub.set rfl (Sub.set rfl (Sub.bool true rfl hg292)))⟩
    · intro hg292 hx292
      clear h
      have hT292 := Below.refl (World.heap wm286).size wm286
      refine g_run rfl ?_; refine q_move rfl rfl ?_
      refine g_run rfl ?_; refine q_lenS rfl f2 rfl ?_
      refine g_run rfl ?_; refine q_gtr rfl rfl rfl ?_
      cases hx292
      exact eseq_nil ⟨hT292, Sub.set rfl (Sub.set rfl (Sub.set rfl (Sub.bool false rfl hg292))), rfl⟩
    intro wm292 hBm292; clear hx292
    replace hS := hS.below hBm292
    refine q_assign rfl rfl ?_
    refine eseq_nil ?_
    refine hK289 _ _ ?_
    refine e_ret ?_
    obtain rfl := Option.some.inj h
    exact ⟨_, res1 rfl rfl, _, rfl, hS⟩
  · replace h := (if_neg (not_true hc288)).symm.trans h
    refine e_skip ?_
    refine hK276 _ _ ?_
    refine e_seq fun K294 hK294 => ?_
    refine e_region_text rfl ?_
    refine q_move rfl rfl ?_
    obtain ⟨r296, hr296, h⟩ := Option.of_bind h
    refine q_call rfl (make_New_w (Sep.enter (As := []) hS) f3 hr296) rfl ?_
    rintro _ w295 ⟨B297, v298, R295, rfl, hC295, f298⟩
    have hB295 : Below (World.heap wm286).size wm286 w295 := hC295.stepB0
    refine ⟨fun _ => .of_below hB295, ?_⟩
    replace f1 := (f1.ext hB295).mono fun k hk _ => hC295.ro0 k hk
    replace f2 := (f2.ext hB295).mono fun k hk _ => hC295.ro0 k hk
    replace f3 := (f3.ext hB295).mono fun k hk _ => hC295.ro0 k hk
    replace hS := Sep.leave (As := []) hS hC295; simp only [List.cons_append, List.nil_append] at hS
    refine q_assign rfl rfl ?_
    refine eseq_nil ?_
    refine hK294 _ _ ?_
    refine e_seq fun K299 hK299 => ?_
    refine e_region_text rfl ?_
    refine q_move rfl rfl ?_
    obtain ⟨r301, hr301, h⟩ := Option.of_bind h
    refine q_call rfl (make_Codes_Next_w (Sep.enter (As := [_]) hS) f298 hr301) rfl ?_
    rintro _ w300 ⟨R300, rfl, hC300⟩
    refine ⟨(fun h => by cases h), ?_⟩
    have hk300 := hC300.keptR (Sep.offFeet (As := [_]) hS)
    replace f1 := (f1.kept hk300).mono fun k hk _ => hC300.ro0 k hk
    replace f2 := (f2.kept hk300).mono fun k hk _ => hC300.ro0 k hk
    replace f298 := (f298.kept hk300).mono fun k hk _ => hC300.ro0 k hk
    replace hS := Sep.leave (As := [_]) hS hC300; simp only [List.cons_append, List.nil_append] at hS
    refine q_move rfl rfl ?_
    obtain ⟨r303, hr303, h⟩ := Option.of_bind h
    refine q_call rfl (make_Codes_Next_w (Sep.enter (As := [_]) hS) f298 hr303) rfl ?_
    rintro _ w302 ⟨R302, rfl, hC302⟩
    refine ⟨(fun h => by cases h), ?_⟩
    have hk302 := hC302.keptR (Sep.offFeet (As := [_]) hS)
    replace f1 := (f1.kept hk302).mono fun k hk _ => hC302.ro0 k hk
    replace f2 := (f2.kept hk302).mono fun k hk _ => hC302.ro0 k hk
    replace f298 := (f298.kept hk302).mono fun k hk _ => hC302.ro0 k hk
    replace hS := Sep.leave (As := [_]) hS hC302; simp only [List.cons_append, List.nil_append] at hS
    refine q_build (Parts.cons rfl rfl (Parts.cons rfl rfl Parts.nil)) rfl rfl ?_
    refine q_move rfl rfl ?_
    obtain ⟨r305, hr305, h⟩ := Option.of_bind h
    refine q_call rfl (make_Codes_Next_w (Sep.enter (As := [_]) hS) f298 hr305) rfl ?_
    rintro _ w304 ⟨R304, rfl, hC304⟩
    refine ⟨(fun h => by cases h), ?_⟩
    have hk304 := hC304.keptR (Sep.offFeet (As := [_]) hS)
    replace f1 := (f1.kept hk304).mono fun k hk _ => hC304.ro0 k hk
    replace f2 := (f2.kept hk304).mono fun k hk _ => hC304.ro0 k hk
    replace f298 := (f298.kept hk304).mono fun k hk _ => hC304.ro0 k hk
    replace hS := Sep.leave (As := [_]) hS hC304; simp only [List.cons_append, List.nil_append] at hS
    refine q_move rfl rfl ?_
    obtain ⟨r307, hr307, h⟩ := Option.of_bind h
    refine q_call rfl (make_Codes_Next_w (Sep.enter (As := [_]) hS) f298 hr307) rfl ?_
    rintro _ w306 ⟨R306, rfl, hC306⟩
    refine ⟨(fun h => by cases h), ?_⟩
    have hk306 := hC306.keptR (Sep.offFeet (As := [_]) hS)
    replace f1 := (f1.kept hk306).mono fun k hk _ => hC306.ro0 k hk
    replace f2 := (f2.kept hk306).mono fun k hk _ => hC306.ro0 k hk
    replace f298 := (f298.kept hk306).mono fun k hk _ => hC306.ro0 k hk
    replace hS := Sep.leave (As := [_]) hS hC306; simp only [List.cons_append, List.nil_append] at hS
    refine q_build (Parts.cons rfl rfl (Parts.cons rfl rfl Parts.nil)) rfl rfl ?_
    refine q_allocB rfl fun w308 bl308 hg308 hb308 hB308 => ?_
    replace f1 := f1.ext hB308
    replace f2 := f2.ext hB308
    replace hS := hS.newBlk hB308 hg308 hb308
    refine q_allocB rfl fun w310 bl310 hg310 hb310 hB310 => ?_
    replace f1 := f1.ext hB310
    replace f2 := f2.ext hB310
    replace hS := hS.newBlk hB310 hg310 hb310
    refine q_storeAgg rfl rfl (hS.blk 1 rfl) rfl (Nat.le_of_ble_eq_true rfl) (all_cons rfl (all_cons rfl (all_nil))) rfl rfl fun w312 hb312 hO312 => ?_
    simp only [setN, List.set, List.take, List.drop] at hb312
    have hk312 := hS.keptBlk 1 rfl hO312
    replace f1 := f1.kept hk312
    replace f2 := f2.kept hk312
    replace hS := hS.setBlk 1 rfl hb312 hO312; simp only [List.set] at hS
    refine q_storeAgg rfl rfl (hS.blk 0 rfl) rfl (Nat.le_of_ble_eq_true rfl) (all_cons rfl (all_cons rfl (all_nil))) rfl rfl fun w313 hb313 hO313 => ?_
    simp only [setN, List.set, List.take, List.drop] at hb313
    have hk313 := hS.keptBlk 0 rfl hO313
    replace f1 := f1.kept hk313
    replace f2 := f2.kept hk313
    replace hS := hS.setBlk 0 rfl hb313 hO313; simp only [List.set] at hS
    refine eseq_nil ?_
    refine hK299 _ _ ?_
    refine e_seq fun K314 hK314 => ?_
    refine e_seq fun K315 hK315 => ?_
    refine e_region_text rfl ?_
    refine q_assign rfl rfl ?_
    refine eseq_nil ?_
    refine hK315 _ _ ?_
    refine e_block ?_
    obtain ⟨tl316, ht316, h⟩ := Option.of_bind h
    have hX316_0 : ∀ (R414 : Nat → Prop) (w415 : World) (E_ : Env), law32_OrphanLabels_K1 fuel a0 a1 r301 r303 r305 r307 = some r → Sep F R R414 w w415 [HP.blk bl308 [.int .i64 r301.1, .int .i64 r303.1] 29, HP.blk bl310 [.int .i64 r305.1, .int .i64 r307.1] 29] → IsSlice labTy w415 R414 v1 a0 → IsSlice labTy w415 R414 v2 a1 → Sub [(0, v1), (1, v2), (8, .pointer (some ⟨bl308, 0, none⟩)), (9, .pointer (some ⟨bl310, 0, none⟩))] E_ → K314 E_ w415 := by
      intro R414 w415 E_ h hS f416 f417 hsub
      refine hK314 _ _ (e_sub hsub ?_); clear hsub
      unfold law32_OrphanLabels_K1 at h
      refine e_seq fun K418 hK418 => ?_
      refine e_region_text rfl ?_
      refine q_move rfl rfl ?_
      refine q_move rfl rfl ?_
      obtain ⟨r420, hr420, h⟩ := Option.of_bind h
      refine q_call rfl (orphan_Merge_w (Sep.enter (As := []) hS) f416 f417 hr420) rfl ?_
      rintro v421 w419 ⟨_, R419, rfl, hC419⟩
      have hB419 : Below (World.heap w415).size w415 w419 := hC419.stepB0
      refine ⟨fun _ => .of_below hB419, ?_⟩
      replace f416 := (f416.ext hB419).mono fun k hk _ => hC419.ro0 k hk
      replace f417 := (f417.ext hB419).mono fun k hk _ => hC419.ro0 k hk
      replace hS := Sep.leave (As := []) hS hC419; simp only [List.cons_append, List.nil_append] at hS
      refine q_assign rfl rfl ?_
      refine eseq_nil ?_
      refine hK418 _ _ ?_
      refine e_seq fun K422 hK422 => ?_
      refine e_region_draw mixed (fun _ => False) [0, 0, 3, 0, 0, 31, 63, 127, 255, 255, 1023, 2047, 4095, 8191, 16383, 16383, 16383, 114687, 262143, 524287, 1048575, 2097151, 2097151, 2097151, 14680063, 33554431, 67108863, 134217727, 268435455, 268435455, 268435455, 1879048191, 4294967295, 8589934591, 17179869183] [2] [0, 1, 3, 4, 2, 5, 6, 7, 8, 9, 10, 11, 12, 13, 14, 15, 16, 17, 18, 19, 20, 21, 22, 23, 24, 25, 26, 27, 28, 29, 30, 31, 32, 33, 34] (by kernel_rfl) ?_
      refine q_loadAgg rfl (Blk.cellsAt (hS.blk 1 rfl) 0 2 rfl) rfl rfl ?_
      refine q_loadAgg rfl (Blk.cellsAt (hS.blk 2 rfl) 0 2 rfl) rfl rfl ?_
      refine q_loadAgg rfl (Blk.cellsAt (hS.blk 1 rfl) 0 2 rfl) rfl rfl ?_
      refine q_loadAgg rfl (Blk.cellsAt (hS.blk 2 rfl) 0 2 rfl) rfl rfl ?_
      obtain ⟨r453, hr453, h⟩ := Option.of_bind h
      refine q_call rfl (orphan_Before_w (a0 := (⟨r301.1, r303.1⟩ : Lab)) (a1 := (⟨r305.1, r307.1⟩ : Lab)) (Sep.enter (As := []) hS)  hr453) rfl ?_
      rintro _ w452 ⟨R452, rfl, hC452⟩
      have hB452 : Below (World.heap w419).size w419 w452 := hC452.stepB0
      refine ⟨fun _ => .of_below hB452, ?_⟩
      replace f416 := (f416.ext hB452).mono fun k hk _ => hC452.ro0 k hk
      replace f417 := (f417.ext hB452).mono fun k hk _ => hC452.ro0 k hk
      replace hS := Sep.leave (As := []) hS hC452; simp only [List.cons_append, List.nil_append] at hS
      obtain ⟨r455, hr455, h⟩ := Option.of_bind h
      refine q_call rfl (ref32_Before_w (a0 := (⟨r301.1, r303.1⟩ : Lab)) (a1 := (⟨r305.1, r307.1⟩ : Lab)) (Sep.enter (As := []) hS)  hr455) rfl ?_
      rintro _ w454 ⟨R454, rfl, hC454⟩
      have hB454 : Below (World.heap w452).size w452 w454 := hC454.stepB0
      refine ⟨fun _ => .of_below hB454, ?_⟩
      replace f416 := (f416.ext hB454).mono fun k hk _ => hC454.ro0 k hk
      replace f417 := (f417.ext hB454).mono fun k hk _ => hC454.ro0 k hk
      replace hS := Sep.leave (As := []) hS hC454; simp only [List.cons_append, List.nil_append] at hS
      refine q_eqlB rfl rfl rfl ?_
      refine q_move rfl rfl ?_
      obtain ⟨x461, hx460, h⟩ := Option.of_bind h
      refine g_andM 4 hx460 rfl trivial rfl rfl ?_ ?_ ?_
      · intro hg460 hx460
        clear h
        have hT460 := Below.refl (World.heap w454).size w454
        refine g_run rfl ?_; refine q_loadAgg rfl (Blk.cellsAt (hS.blk 1 rfl) 0 2 rfl) rfl rfl ?_
        refine g_run rfl ?_; refine q_loadAgg rfl (Blk.cellsAt (hS.blk 1 rfl) 0 2 rfl) rfl rfl ?_
        obtain ⟨r463, hr463, hx460⟩ := Option.of_bind hx460
        refine g_run rfl ?_; refine q_call rfl (orphan_Before_w (a0 := (⟨r301.1, r303.1⟩ : Lab)) (a1 := (⟨r301.1, r303.1⟩ : Lab)) (Sep.enter (As := []) hS)  hr463) rfl ?_
        rintro _ w462 ⟨R462, rfl, hC462⟩
        have hB462 : Below (World.heap w454).size w454 w462 := hC462.stepB0
        refine ⟨fun _ => .of_below hB462, ?_⟩
        replace f416 := (f416.ext hB462).mono fun k hk _ => hC462.ro0 k hk
        replace f417 := (f417.ext hB462).mono fun k hk _ => hC462.ro0 k hk
        replace hT460 := hT460.trans (Below.mono hB462 hT460.size)
        replace hS := Sep.leave (As := []) hS hC462; simp only [List.cons_append, List.nil_append] at hS
        refine g_run rfl ?_; refine q_not rfl rfl ?_
        cases hx460
        exact eseq_nil ⟨hT460, Sub.set rfl (Sub.set rfl (Sub.set rfl (Sub.set rfl (Sub.bool true rfl hg460)))), rfl⟩
      · intro hg460
        refine g_skip rfl rfl rfl ?_
        refine g_skip rfl rfl rfl ?_
        refine g_skip rfl rfl rfl ?_
        refine g_skip rfl rfl rfl ?_
        exact eseq_nil ⟨rfl, Sub.set rfl (Sub.set rfl (Sub.set rfl (Sub.set rfl (Sub.bool false rfl hg460))))⟩
      intro wm460 hBm460; clear hx460
      replace hS := hS.below hBm460
      replace f416 := f416.ext hBm460
      replace f417 := f417.ext hBm460
      refine q_move rfl rfl ?_
      obtain ⟨x472, hx471, h⟩ := Option.of_bind h
      refine g_andM 5 hx471 rfl trivial rfl rfl ?_ ?_ ?_
      · intro hg471 hx471
        clear h
        have hT471 := Below.refl (World.heap wm460).size wm460
        refine g_run rfl ?_; refine q_move rfl rfl ?_
        refine g_run rfl ?_; refine q_move rfl rfl ?_
        refine g_run rfl ?_; refine q_move rfl rfl ?_
        obtain ⟨r474, hr474, hx471⟩ := Option.of_bind hx471
        refine g_run rfl ?_; refine q_call rfl (ref32_Merge_w (Sep.enter (As := []) hS) f416 f417 hr474) rfl ?_
        rintro v475 w473 ⟨_, R473, rfl, hC473⟩
        have hB473 : Below (World.heap wm460).size wm460 w473 := hC473.stepB0
        refine ⟨fun _ => .of_below hB473, ?_⟩
        replace f416 := (f416.ext hB473).mono fun k hk _ => hC473.ro0 k hk
        replace f417 := (f417.ext hB473).mono fun k hk _ => hC473.ro0 k hk
        replace hT471 := hT471.trans (Below.mono hB473 hT471.size)
        replace hS := Sep.leave (As := []) hS hC473; simp only [List.cons_append, List.nil_append] at hS
        obtain ⟨r477, hr477, hx471⟩ := Option.of_bind hx471
        refine g_run rfl ?_; refine q_call rfl (ref32_SameLabels_w (Sep.all w473) ((hS.isl 1 rfl)).old ((hS.isl 0 rfl)).old hr477) rfl ?_
        rintro _ w476 ⟨R476, rfl, hC476⟩
        have hB476 : Below (World.heap w473).size w473 w476 := hC476.stepBF
        refine ⟨fun _ => .of_below hB476, ?_⟩
        replace f416 := f416.ext hB476
        replace f417 := f417.ext hB476
        replace hT471 := hT471.trans (Below.mono hB476 hT471.size)
        replace hS := hS.below hB476
        cases hx471
        exact eseq_nil ⟨hT471, Sub.set rfl (Sub.set rfl (Sub.set rfl (Sub.set rfl (Sub.set rfl (Sub.bool true rfl hg471))))), rfl⟩
      · intro hg471
        refine g_skip rfl rfl rfl ?_
        refine g_skip rfl rfl rfl ?_
        refine g_skip rfl rfl rfl ?_
        refine g_skip rfl rfl rfl ?_
        refine g_skip rfl rfl rfl ?_
        exact eseq_nil ⟨rfl, Sub.set rfl (Sub.set rfl (Sub.set rfl (Sub.set rfl (Sub.set rfl (Sub.bool false rfl hg471)))))⟩
      intro wm471 hBm471; clear hx471
      replace hS := hS.below hBm471
      replace f416 := f416.ext hBm471
      replace f417 := f417.ext hBm471
      refine q_move rfl rfl ?_
      obtain ⟨x486, hx485, h⟩ := Option.of_bind h
      refine g_andM 5 hx485 rfl trivial rfl rfl ?_ ?_ ?_
      · intro hg485 hx485
        clear h
        have hT485 := Below.refl (World.heap wm471).size wm471
        refine g_run rfl ?_; refine q_move rfl rfl ?_
        refine g_run rfl ?_; refine q_move rfl rfl ?_
        refine g_run rfl ?_; refine q_move rfl rfl ?_
        obtain ⟨r488, hr488, hx485⟩ := Option.of_bind hx485
        refine g_run rfl ?_; refine q_call rfl (orphan_Merge_w (Sep.enter (As := []) hS) f417 f416 hr488) rfl ?_
        rintro v489 w487 ⟨_, R487, rfl, hC487⟩
        have hB487 : Below (World.heap wm471).size wm471 w487 := hC487.stepB0
        refine ⟨fun _ => .of_below hB487, ?_⟩
        replace f416 := (f416.ext hB487).mono fun k hk _ => hC487.ro0 k hk
        replace f417 := (f417.ext hB487).mono fun k hk _ => hC487.ro0 k hk
        replace hT485 := hT485.trans (Below.mono hB487 hT485.size)
        replace hS := Sep.leave (As := []) hS hC487; simp only [List.cons_append, List.nil_append] at hS
        obtain ⟨r491, hr491, hx485⟩ := Option.of_bind hx485
        refine g_run rfl ?_; refine q_call rfl (ref32_SameLabels_w (Sep.all w487) ((hS.isl 1 rfl)).old ((hS.isl 0 rfl)).old hr491) rfl ?_
        rintro _ w490 ⟨R490, rfl, hC490⟩
        have hB490 : Below (World.heap w487).size w487 w490 := hC490.stepBF
        refine ⟨fun _ => .of_below hB490, ?_⟩
        replace f416 := f416.ext hB490
        replace hT485 := hT485.trans (Below.mono hB490 hT485.size)
        replace hS := hS.below hB490
        cases hx485
        exact eseq_nil ⟨hT485, Sub.set rfl (Sub.set rfl (Sub.set rfl (Sub.set rfl (Sub.set rfl (Sub.bool true rfl hg485))))), rfl⟩
      · intro hg485
        refine g_skip rfl rfl rfl ?_
        refine g_skip rfl rfl rfl ?_
        refine g_skip rfl rfl rfl ?_
        refine g_skip rfl rfl rfl ?_
        refine g_skip rfl rfl rfl ?_
        exact eseq_nil ⟨rfl, Sub.set rfl (Sub.set rfl (Sub.set rfl (Sub.set rfl (Sub.set rfl (Sub.bool false rfl hg485)))))⟩
      intro wm485 hBm485; clear hx485
      replace hS := hS.below hBm485
      replace f416 := f416.ext hBm485
      refine q_move rfl rfl ?_
      obtain ⟨x500, hx499, h⟩ := Option.of_bind h
      refine g_andM 5 hx499 rfl trivial rfl rfl ?_ ?_ ?_
      · intro hg499 hx499
        clear h
        have hT499 := Below.refl (World.heap wm485).size wm485
        refine g_run rfl ?_; refine q_move rfl rfl ?_
        refine g_run rfl ?_; refine q_move rfl rfl ?_
        refine g_run rfl ?_; refine q_move rfl rfl ?_
        obtain ⟨r502, hr502, hx499⟩ := Option.of_bind hx499
        refine g_run rfl ?_; refine q_call rfl (orphan_Merge_w (Sep.all wm485) ((hS.isl 0 rfl)).old (f416).old hr502) rfl ?_
        rintro v503 w501 ⟨_, R501, rfl, hC501⟩
        have hB501 : Below (World.heap wm485).size wm485 w501 := hC501.stepBF
        refine ⟨fun _ => .of_below hB501, ?_⟩
        replace f416 := f416.ext hB501
        replace hT499 := hT499.trans (Below.mono hB501 hT499.size)
        replace hS := hS.newOwnS hB501 (hC501.own 0 rfl) (hC501.fresh 0 rfl) (fun _ h => h.elim)
        obtain ⟨r505, hr505, hx499⟩ := Option.of_bind hx499
        refine g_run rfl ?_; refine q_call rfl (ref32_SameLabels_w (Sep.all w501) ((hS.isl 1 rfl)).old ((hS.isl 0 rfl)).old hr505) rfl ?_
        rintro _ w504 ⟨R504, rfl, hC504⟩
        have hB504 : Below (World.heap w501).size w501 w504 := hC504.stepBF
        refine ⟨fun _ => .of_below hB504, ?_⟩
        replace hT499 := hT499.trans (Below.mono hB504 hT499.size)
        replace hS := hS.below hB504
        cases hx499
        exact eseq_nil ⟨hT499, Sub.set rfl (Sub.set rfl (Sub.set rfl (Sub.set rfl (Sub.set rfl (Sub.bool true rfl hg499))))), rfl⟩
      · intro hg499
        refine g_skip rfl rfl rfl ?_
        refine g_skip rfl rfl rfl ?_
        refine g_skip rfl rfl rfl ?_
        refine g_skip rfl rfl rfl ?_
        refine g_skip rfl rfl rfl ?_
        exact eseq_nil ⟨rfl, Sub.set rfl (Sub.set rfl (Sub.set rfl (Sub.set rfl (Sub.set rfl (Sub.bool false rfl hg499)))))⟩
      intro wm499 hBm499; clear hx499
      replace hS := hS.below hBm499
      refine q_assign rfl rfl ?_
      refine eseq_nil ?_
      refine hK422 _ _ ?_
      refine e_ret ?_
      obtain rfl := Option.some.inj h
      exact ⟨_, res1 rfl rfl, _, rfl, (hS.pickB [] 3 rfl rfl)⟩
    refine e_loop (fun m_ E_ w366 => ∃ (x369 : Int), ∃ (R365 : Nat → Prop), iter (fun s => law32_OrphanLabels_B1 fuel a0 a1 s) m_ x369 = some tl316 ∧ Sep F R R365 w w366 [HP.blk bl308 [.int .i64 r301.1, .int .i64 r303.1] 29, HP.blk bl310 [.int .i64 r305.1, .int .i64 r307.1] 29] ∧ IsSlice labTy w366 R365 v1 a0 ∧ IsSlice labTy w366 R365 v2 a1 ∧ E_ = [(0, v1), (1, v2), (8, .pointer (some ⟨bl308, 0, none⟩)), (9, .pointer (some ⟨bl310, 0, none⟩)), (10, .int .i64 x369)]) _ ⟨_, ⟨0, _, ht316, (hS.pickB [1, 0] 3 rfl rfl), f1, f2, rfl⟩, Sub.cons rfl (Sub.cons rfl (Sub.cons rfl (Sub.cons rfl (Sub.cons rfl (Sub.nil _)))))⟩ ?_
    clear ht316 hS
    rintro m316 _ w366 ⟨x369, R365, ht316, hS, f367, f368, rfl⟩
    obtain ⟨m316, rfl, o316, ho316, ht316⟩ := iter_some ht316
    replace ho316 : law32_OrphanLabels_B1 fuel a0 a1 x369 = some o316 := ho316
    unfold law32_OrphanLabels_B1 at ho316
    refine e_seq fun K506 hK506 => ?_
    refine e_seq fun K507 hK507 => ?_
    refine e_region_text rfl ?_
    refine q_move rfl rfl ?_
    refine q_move rfl rfl ?_
    refine q_lenS rfl f367 rfl ?_
    refine q_move rfl rfl ?_
    refine q_lenS rfl f368 rfl ?_
    refine q_min rfl rfl rfl ?_
    refine q_lss rfl rfl rfl ?_
    refine eseq_nil ?_
    refine hK507 _ _ ?_
    refine e_cond rfl (fun hc508 => ?_) (fun hc508 => ?_)
    · replace ho316 := (if_pos hc508).symm.trans ho316
      refine e_skip ?_
      refine hK506 _ _ ?_
      refine e_seq fun K509 hK509 => ?_
      refine e_block ?_
      refine e_seq fun K510 hK510 => ?_
      refine e_region_draw mixed (fun _ => False) [0, 0, 3, 7, 0, 0, 48, 112, 255, 0, 0, 1536, 3584, 0, 0, 24576, 57344, 131071, 262143] [8] [0, 1, 2, 3, 4, 5, 6, 7, 9, 10, 11, 12, 13, 14, 15, 16, 8, 17, 18] (by kernel_rfl) ?_
      refine q_move rfl rfl ?_
      refine q_move rfl rfl ?_
      obtain ⟨x527, hx527, ho316⟩ := Option.of_bind ho316
      refine q_atS (by infer_instance) rfl f367 rfl hx527 rfl fun b528 o528 hm528 f528 => ?_
      have hc529 := Lab_open f528
      refine q_loadAgg rfl hc529 rfl rfl ?_
      refine q_move rfl rfl ?_
      refine q_move rfl rfl ?_
      obtain ⟨x530, hx530, ho316⟩ := Option.of_bind ho316
      refine q_atS (by infer_instance) rfl f368 rfl hx530 rfl fun b531 o531 hm531 f531 => ?_
      have hc532 := Lab_open f531
      refine q_loadAgg rfl hc532 rfl rfl ?_
      refine q_move rfl rfl ?_
      refine q_move rfl rfl ?_
      obtain ⟨x533, hx533, ho316⟩ := Option.of_bind ho316
      refine q_atS (by infer_instance) rfl f367 rfl hx533 rfl fun b534 o534 hm534 f534 => ?_
      have hc535 := Lab_open f534
      refine q_loadAgg rfl hc535 rfl rfl ?_
      refine q_move rfl rfl ?_
      refine q_move rfl rfl ?_
      obtain ⟨x536, hx536, ho316⟩ := Option.of_bind ho316
      refine q_atS (by infer_instance) rfl f368 rfl hx536 rfl fun b537 o537 hm537 f537 => ?_
      have hc538 := Lab_open f537
      refine q_loadAgg rfl hc538 rfl rfl ?_
      obtain ⟨r540, hr540, ho316⟩ := Option.of_bind ho316
      refine q_call rfl (orphan_Before_w (a0 := x527) (a1 := x530) (Sep.enter (As := []) hS)  hr540) rfl ?_
      rintro _ w539 ⟨R539, rfl, hC539⟩
      have hB539 : Below (World.heap w366).size w366 w539 := hC539.stepB0
      refine ⟨fun _ => .of_below hB539, ?_⟩
      replace f367 := (f367.ext hB539).mono fun k hk _ => hC539.ro0 k hk
      replace f368 := (f368.ext hB539).mono fun k hk _ => hC539.ro0 k hk
      replace hS := Sep.leave (As := []) hS hC539; simp only [List.cons_append, List.nil_append] at hS
      obtain ⟨r542, hr542, ho316⟩ := Option.of_bind ho316
      refine q_call rfl (ref32_Before_w (a0 := x533) (a1 := x536) (Sep.enter (As := []) hS)  hr542) rfl ?_
      rintro _ w541 ⟨R541, rfl, hC541⟩
      have hB541 : Below (World.heap w539).size w539 w541 := hC541.stepB0
      refine ⟨fun _ => .of_below hB541, ?_⟩
      replace f367 := (f367.ext hB541).mono fun k hk _ => hC541.ro0 k hk
      replace f368 := (f368.ext hB541).mono fun k hk _ => hC541.ro0 k hk
      replace hS := Sep.leave (As := []) hS hC541; simp only [List.cons_append, List.nil_append] at hS
      refine q_neqB rfl rfl rfl ?_
      refine eseq_nil ?_
      refine hK510 _ _ ?_
      refine e_cond rfl (fun hc543 => ?_) (fun hc543 => ?_)
      · replace ho316 := (if_pos hc543).symm.trans ho316
        refine e_seq fun K544 hK544 => ?_
        refine e_region_text rfl ?_
        refine q_assign rfl rfl ?_
        refine eseq_nil ?_
        refine hK544 _ _ ?_
        refine e_ret ?_
        obtain rfl := Option.some.inj ho316
        obtain rfl := Option.some.inj ht316
        obtain rfl := Option.some.inj h
        exact ⟨_, res1 rfl rfl, _, rfl, (hS.pickB [] 2 rfl rfl)⟩
      · replace ho316 := (if_neg (not_true hc543)).symm.trans ho316
        refine e_skip ?_
        refine hK509 _ _ ?_
        refine e_region_text rfl ?_
        refine q_move rfl rfl ?_
        refine q_addW rfl rfl rfl ?_
        refine q_assign rfl rfl ?_
        refine eseq_nil ?_
        obtain rfl := Option.some.inj ho316
        exact ⟨m316, _, Nat.lt_succ_self _, ⟨(w64 (x369 + 1)), _, ht316, hS, f367, f368, rfl⟩, Sub.cons rfl (Sub.cons rfl (Sub.cons rfl (Sub.cons rfl (Sub.cons rfl (Sub.nil _)))))⟩
    · replace ho316 := (if_neg (not_true hc508)).symm.trans ho316
      refine e_exit ?_
      obtain rfl := Option.some.inj ho316
      obtain rfl := Option.some.inj ht316
      exact hX316_0  _ _ _ h hS f367 f368 (Sub.cons rfl (Sub.cons rfl (Sub.cons rfl (Sub.cons rfl (Sub.nil _)))))
end Go.Proofs.Ytghjjkdfjmnfeaa
