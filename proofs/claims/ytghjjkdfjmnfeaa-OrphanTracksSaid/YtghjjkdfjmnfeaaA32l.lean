/- Printed walks: A32l. -/
import Derived.Test.YtghjjkdfjmnfeaaA32a
set_option linter.unusedVariables false
set_option linter.unusedSimpArgs false
namespace Go.Mine
open Go.RowKit
def ref32_Before (fuel : Nat) (a0 : Lab) (a1 : Lab) : Option (Bool) :=
  (orM (decide (a0.inc < a1.inc)) ((andM (a0.inc == a1.inc) (some (decide (a0.index < a1.index)))).bind fun x20 => some x20)).bind fun x18 => some x18
def ref32_at (fuel : Nat) (a0 : (List Lab)) (a1 : Int) : Option (Lab) :=
  (if (decide (a1 < (a0.length : Int))) = true then (ati a0 a1).bind fun x22 => some (⟨x22.inc, x22.index⟩ : Lab) else some (⟨0, 0⟩ : Lab))
def ref32_Merge_K1 (fuel : Nat) (x267 : (List Lab)) : Option ((List Lab)) :=
  some x267
def ref32_Merge_J1 (fuel : Nat) (x216 : (List Lab)) (x217 : Int) (x296 : Int) (x297 : Int) : Option (((List Lab) × Int) ⊕ ((List Lab))) :=
  (snoc x216 (⟨x296, x297⟩ : Lab)).bind fun x301 => some (Sum.inl (x301, (w64 (x217 + 1))))
def ref32_Merge_B1 (fuel : Nat) (a0 : (List Lab)) (a1 : (List Lab)) (x216 : (List Lab)) (x217 : Int) : Option (((List Lab) × Int) ⊕ ((List Lab))) :=
  (if (decide (x217 < (max (a0.length : Int) (a1.length : Int)))) = true then (ref32_at fuel a0 x217).bind fun r276 => (ref32_at fuel a1 x217).bind fun r278 => (ref32_Before fuel (⟨r276.inc, r276.index⟩ : Lab) (⟨r278.inc, r278.index⟩ : Lab)).bind fun r304 => (if r304 = true then ref32_Merge_J1 fuel x216 x217 r278.inc r278.index else ref32_Merge_J1 fuel x216 x217 r276.inc r276.index) else some (Sum.inr x216))
def ref32_Merge (fuel : Nat) (a0 : (List Lab)) (a1 : (List Lab)) : Option ((List Lab)) :=
  (iter (fun s => ref32_Merge_B1 fuel a0 a1 s.1 s.2) fuel (([] : List Lab), 0)).bind (fun t => ref32_Merge_K1 fuel t)
def law32_OrphanLabels_K1 (fuel : Nat) (a0 : (List Lab)) (a1 : (List Lab)) (r264 : (Int × Int)) (r266 : (Int × Int)) (r268 : (Int × Int)) (r270 : (Int × Int)) : Option (Bool) :=
  (orphan_Merge fuel a0 a1).bind fun r383 => (orphan_Before fuel (⟨r264.1, r266.1⟩ : Lab) (⟨r268.1, r270.1⟩ : Lab)).bind fun r416 => (ref32_Before fuel (⟨r264.1, r266.1⟩ : Lab) (⟨r268.1, r270.1⟩ : Lab)).bind fun r418 => (andM (r416 == r418) ((orphan_Before fuel (⟨r264.1, r266.1⟩ : Lab) (⟨r264.1, r266.1⟩ : Lab)).bind fun r422 => some (!r422))).bind fun x420 => (andM x420 ((ref32_Merge fuel a0 a1).bind fun r426 => (ref32_SameLabels fuel r383 r426).bind fun r429 => some r429)).bind fun x424 => (andM x424 ((orphan_Merge fuel a1 a0).bind fun r433 => (ref32_SameLabels fuel r383 r433).bind fun r436 => some r436)).bind fun x431 => (andM x431 ((orphan_Merge fuel r383 a0).bind fun r440 => (ref32_SameLabels fuel r383 r440).bind fun r443 => some r443)).bind fun x438 => some x438
def law32_OrphanLabels_B1 (fuel : Nat) (a0 : (List Lab)) (a1 : (List Lab)) (x332 : Int) : Option ((Int) ⊕ (Unit ⊕ (Bool))) :=
  (if (decide (x332 < (min (a0.length : Int) (a1.length : Int)))) = true then (ati a0 x332).bind fun x465 => (ati a1 x332).bind fun x468 => (ati a0 x332).bind fun x471 => (ati a1 x332).bind fun x474 => (orphan_Before fuel x465 x468).bind fun r478 => (ref32_Before fuel x471 x474).bind fun r480 => (if (r478 != r480) = true then some (Sum.inr (Sum.inr false)) else some (Sum.inl (w64 (x332 + 1)))) else some (Sum.inr (Sum.inl ())))
def law32_OrphanLabels (fuel : Nat) (a0 : (List Lab)) (a1 : (List Lab)) (a2 : (List Int)) : Option (Bool) :=
  (law32_awake fuel).bind fun r248 => (orM (!r248) (some (decide (60 < (a0.length : Int))))).bind fun x250 => (orM x250 (some (decide (60 < (a1.length : Int))))).bind fun x252 => (if x252 = true then (orM (decide (60 < (a0.length : Int))) (some (decide (60 < (a1.length : Int))))).bind fun x256 => some x256 else (make_New fuel a2 60).bind fun r259 => (make_Codes_Next fuel 3 r259.1 r259.2).bind fun r264 => (make_Codes_Next fuel 3 r259.1 r264.2).bind fun r266 => (make_Codes_Next fuel 3 r259.1 r266.2).bind fun r268 => (make_Codes_Next fuel 3 r259.1 r268.2).bind fun r270 => (iter (fun s => law32_OrphanLabels_B1 fuel a0 a1 s) fuel 0).bind (fun t => Sum.elim (fun t => law32_OrphanLabels_K1 fuel a0 a1 r264 r266 r268 r270) (fun t => some t) t))
end Go.Mine
namespace Go.Proofs.Ytghjjkdfjmnfeaa
open Go.RowKit Go.Mine
attribute [local irreducible] eseq ewp iter
theorem ref32_Before_w {F R : Nat → Prop} {w : World} {fuel : Nat} {a0 : Lab} {a1 : Lab} {r : (Bool)} (hS : Sep F R R w w []) (h : ref32_Before fuel a0 a1 = some r) :
    Gives Try.prog 15 [.agg #[.int .i64 a0.inc, .int .i64 a0.index], .agg #[.int .i64 a1.inc, .int .i64 a1.index]] w fun u w1 => ∃ (R1 : Nat → Prop), u = .bool r ∧ Sep F R R1 w w1 [] := by
  refine fn_of Try.func15 rfl Try.ntmps15 (Nat.le_of_ble_eq_true rfl) ?_
  unfold ref32_Before at h
  refine e_seq fun K11 hK11 => ?_
  refine e_region_text rfl ?_
  refine q_boxB rfl rfl rfl fun w12 bl12 hg12 hb12 hB12 => ?_
  replace hS := hS.newBlk hB12 hg12 hb12
  refine q_boxB rfl rfl rfl fun w14 bl14 hg14 hb14 hB14 => ?_
  replace hS := hS.newBlk hB14 hg14 hb14
  refine q_assign rfl rfl ?_
  refine eseq_nil ?_
  refine hK11 _ _ ?_
  refine e_seq fun K16 hK16 => ?_
  refine e_region_text rfl ?_
  refine q_field rfl rfl ?_
  refine q_load rfl (Blk.cell (hS.blk 1 rfl) rfl) rfl ?_
  refine q_field rfl rfl ?_
  refine q_load rfl (Blk.cell (hS.blk 0 rfl) rfl) rfl ?_
  refine q_lss rfl rfl rfl ?_
  refine q_move rfl rfl ?_
  obtain ⟨x18, hx17, h⟩ := Option.of_bind h
  refine g_orM 12 hx17 rfl trivial rfl rfl ?_ ?_ ?_
  · intro hg17
    refine g_skip rfl rfl rfl ?_
    refine g_skip rfl rfl rfl ?_
    refine g_skip rfl rfl rfl ?_
    refine g_skip rfl rfl rfl ?_
    refine g_skip rfl rfl rfl ?_
    refine g_skip rfl rfl rfl ?_
    refine g_skipU rfl rfl ?_
    refine g_skipU rfl rfl ?_
    refine g_skipU rfl rfl ?_
    refine g_skipU rfl rfl ?_
    refine g_skipU rfl rfl ?_
    refine g_skip rfl rfl rfl ?_
    exact eseq_nil ⟨rfl, Sub.set rfl (Sub.set rfl (Sub.set rfl (Sub.set rfl (Sub.set rfl (Sub.set rfl (Sub.set rfl (Sub.set rfl (Sub.set rfl (Sub.set rfl (Sub.set rfl (Sub.set rfl (Sub.bool true rfl hg17))))))))))))⟩
  · intro hg17 hx17
    clear h
    have hT17 := Below.refl (World.heap w14).size w14
    refine g_run rfl ?_; refine q_field rfl rfl ?_
    refine g_run rfl ?_; refine q_load rfl (Blk.cell (hS.blk 1 rfl) rfl) rfl ?_
    refine g_run rfl ?_; refine q_field rfl rfl ?_
    refine g_run rfl ?_; refine q_load rfl (Blk.cell (hS.blk 0 rfl) rfl) rfl ?_
    refine g_run rfl ?_; refine q_eql rfl rfl rfl ?_
    refine g_run rfl ?_; refine q_move rfl rfl ?_
    obtain ⟨x20, hx19, hx17⟩ := Option.of_bind hx17
    refine g_andM 5 hx19 rfl rfl rfl rfl ?_ ?_ ?_
    · intro hg19 hx19
      clear hx17
      have hT19 := Below.refl (World.heap w14).size w14
      refine g_run rfl ?_; refine q_field rfl rfl ?_
      refine g_run rfl ?_; refine q_load rfl (Blk.cell (hS.blk 1 rfl) rfl) rfl ?_
      refine g_run rfl ?_; refine q_field rfl rfl ?_
      refine g_run rfl ?_; refine q_load rfl (Blk.cell (hS.blk 0 rfl) rfl) rfl ?_
      refine g_run rfl ?_; refine q_lss rfl rfl rfl ?_
      cases hx19
      exact eseq_nil ⟨hT19, Sub.set rfl (Sub.set rfl (Sub.set rfl (Sub.set rfl (Sub.set rfl (Sub.bool true rfl hg19))))), rfl⟩
    · intro hg19
      refine g_skip rfl rfl rfl ?_
      refine g_skip rfl rfl rfl ?_
      refine g_skip rfl rfl rfl ?_
      refine g_skip rfl rfl rfl ?_
      refine g_skip rfl rfl rfl ?_
      exact eseq_nil ⟨rfl, Sub.set rfl (Sub.set rfl (Sub.set rfl (Sub.set rfl (Sub.set rfl (Sub.bool false rfl hg19)))))⟩
    intro wm19 hBm19; clear hx19
    replace hS := hS.below hBm19
    replace hT17 := hT17.trans (Below.mono hBm19 hT17.size)
    cases hx17
    exact eseq_nil ⟨hT17, Sub.set rfl (Sub.set rfl (Sub.set rfl (Sub.set rfl (Sub.set rfl (Sub.set rfl (Sub.set rfl (Sub.bool false rfl hg17))))))), rfl⟩
  intro wm17 hBm17; clear hx17
  replace hS := hS.below hBm17
  refine q_assign rfl rfl ?_
  refine eseq_nil ?_
  refine hK16 _ _ ?_
  refine e_ret ?_
  obtain rfl := Option.some.inj h
  exact ⟨_, res1 rfl rfl, _, rfl, (hS.pickB [] 2 rfl rfl)⟩
theorem ref32_at_w {F R : Nat → Prop} {w : World} {fuel : Nat} {a0 : (List Lab)} {a1 : Int} {v1 : Value} {r : (Lab)} (hS : Sep F R R w w []) (f1 : IsSlice labTy w R v1 a0) (h : ref32_at fuel a0 a1 = some r) :
    Gives Try.prog 48 [v1, .int .i64 a1] w fun u w1 => ∃ (R1 : Nat → Prop), u = .agg #[.int .i64 r.inc, .int .i64 r.index] ∧ Sep F R R1 w w1 [] := by
  refine fn_of Try.func48 rfl Try.ntmps48 (Nat.le_of_ble_eq_true rfl) ?_
  unfold ref32_at at h
  refine e_seq fun K15 hK15 => ?_
  refine e_region_text rfl ?_
  refine q_allocB rfl fun w16 bl16 hg16 hb16 hB16 => ?_
  replace f1 := f1.ext hB16
  replace hS := hS.newBlk hB16 hg16 hb16
  refine eseq_nil ?_
  refine hK15 _ _ ?_
  refine e_seq fun K18 hK18 => ?_
  refine e_seq fun K19 hK19 => ?_
  refine e_region_text rfl ?_
  refine q_move rfl rfl ?_
  refine q_move rfl rfl ?_
  refine q_lenS rfl f1 rfl ?_
  refine q_lss rfl rfl rfl ?_
  refine eseq_nil ?_
  refine hK19 _ _ ?_
  refine e_cond rfl (fun hc20 => ?_) (fun hc20 => ?_)
  · replace h := (if_pos hc20).symm.trans h
    refine e_seq fun K21 hK21 => ?_
    refine e_region_text rfl ?_
    refine q_move rfl rfl ?_
    refine q_move rfl rfl ?_
    obtain ⟨x22, hx22, h⟩ := Option.of_bind h
    refine q_atS (by infer_instance) rfl f1 rfl hx22 rfl fun b23 o23 hm23 f23 => ?_
    have hc24 := Lab_open f23
    refine q_loadAgg rfl hc24 rfl rfl ?_
    refine q_storeAgg rfl rfl (hS.blk 0 rfl) rfl (Nat.le_of_ble_eq_true rfl) (all_cons rfl (all_cons rfl (all_nil))) rfl rfl fun w25 hb25 hO25 => ?_
    simp only [setN, List.set, List.take, List.drop] at hb25
    have hk25 := hS.keptBlk 0 rfl hO25
    replace hS := hS.setBlk 0 rfl hb25 hO25; simp only [List.set] at hS
    refine eseq_nil ?_
    refine hK21 _ _ ?_
    refine e_ret ?_
    obtain rfl := Option.some.inj h
    exact ⟨_, resC1 rfl rfl ((hS.blk 0 rfl).cellsAt 0 2 rfl) rfl, _, rfl, (hS.pickB [] 1 rfl rfl)⟩
  · replace h := (if_neg (not_true hc20)).symm.trans h
    refine e_skip ?_
    refine hK18 _ _ ?_
    refine e_seq fun K26 hK26 => ?_
    refine e_region_text rfl ?_
    refine q_build Parts.nil rfl rfl ?_
    refine q_storeAgg rfl rfl (hS.blk 0 rfl) rfl (Nat.le_of_ble_eq_true rfl) (all_cons rfl (all_cons rfl (all_nil))) rfl rfl fun w27 hb27 hO27 => ?_
    simp only [setN, List.set, List.take, List.drop] at hb27
    have hk27 := hS.keptBlk 0 rfl hO27
    replace hS := hS.setBlk 0 rfl hb27 hO27; simp only [List.set] at hS
    refine eseq_nil ?_
    refine hK26 _ _ ?_
    refine e_ret ?_
    obtain rfl := Option.some.inj h
    exact ⟨_, resC1 rfl rfl ((hS.blk 0 rfl).cellsAt 0 2 rfl) rfl, _, rfl, (hS.pickB [] 1 rfl rfl)⟩
theorem ref32_Merge_w {F R : Nat → Prop} {w : World} {fuel : Nat} {a0 : (List Lab)} {a1 : (List Lab)} {v1 : Value} {v2 : Value} {r : ((List Lab))} (hS : Sep F R R w w []) (f1 : IsSlice labTy w R v1 a0) (f2 : IsSlice labTy w R v2 a1) (h : ref32_Merge fuel a0 a1 = some r) :
    Gives Try.prog 18 [v1, v2] w fun u w1 => ∃ (v155 : Value), ∃ (R1 : Nat → Prop), u = v155 ∧ Sep F R R1 w w1 [HP.own labTy (fun _ => False) 29 v155 r] := by
  refine fn_of Try.func18 rfl Try.ntmps18 (Nat.le_of_ble_eq_true rfl) ?_
  unfold ref32_Merge at h
  refine e_seq fun K156 hK156 => ?_
  refine e_region_text rfl ?_
  refine q_assign rfl rfl ?_
  refine eseq_nil ?_
  refine hK156 _ _ ?_
  refine e_seq fun K157 hK157 => ?_
  refine e_region_text rfl ?_
  refine q_assign rfl rfl ?_
  refine eseq_nil ?_
  refine hK157 _ _ ?_
  refine e_seq fun K158 hK158 => ?_
  refine e_seq fun K159 hK159 => ?_
  refine e_region_text rfl ?_
  refine q_assign rfl rfl ?_
  refine eseq_nil ?_
  refine hK159 _ _ ?_
  refine e_block ?_
  obtain ⟨tl160, ht160, h⟩ := Option.of_bind h
  have hX160_0 : ∀ (x267 : (List Lab)) (v266 : Value) (R263 : Nat → Prop) (w264 : World) (E_ : Env), ref32_Merge_K1 fuel x267 = some r → Sep F R R263 w w264 [HP.own labTy (fun _ => False) 29 v266 x267] → Sub [(5, v266)] E_ → K158 E_ w264 := by
    intro x267 v266 R263 w264 E_ h hS  hsub
    refine hK158 _ _ (e_sub hsub ?_); clear hsub
    unfold ref32_Merge_K1 at h
    refine e_seq fun K268 hK268 => ?_
    refine e_region_text rfl ?_
    refine q_move rfl rfl ?_
    refine q_assign rfl rfl ?_
    refine eseq_nil ?_
    refine hK268 _ _ ?_
    refine e_ret ?_
    obtain rfl := Option.some.inj h
    exact ⟨_, res1 rfl rfl, v266, _, rfl, hS⟩
  replace hS := hS.nilOwn0 labTy 29
  refine e_loop (fun m_ E_ w211 => ∃ (x216 : (List Lab)), ∃ (x217 : Int), ∃ (v215 : Value), ∃ (R210 : Nat → Prop), iter (fun s => ref32_Merge_B1 fuel a0 a1 s.1 s.2) m_ (x216, x217) = some tl160 ∧ Sep F R R210 w w211 [HP.own labTy (fun _ => False) 29 v215 x216] ∧ IsSlice labTy w211 R210 v1 a0 ∧ IsSlice labTy w211 R210 v2 a1 ∧ E_ = [(0, v1), (1, v2), (5, v215), (6, .int .i64 x217)]) _ ⟨_, ⟨([] : List Lab), 0, (.slice none 0 0), _, ht160, hS, f1, f2, rfl⟩, Sub.cons rfl (Sub.cons rfl (Sub.cons rfl (Sub.cons rfl (Sub.nil _))))⟩ ?_
  clear ht160 hS
  rintro m160 _ w211 ⟨x216, x217, v215, R210, ht160, hS, f212, f213, rfl⟩
  obtain ⟨m160, rfl, o160, ho160, ht160⟩ := iter_some ht160
  replace ho160 : ref32_Merge_B1 fuel a0 a1 x216 x217 = some o160 := ho160
  unfold ref32_Merge_B1 at ho160
  refine e_seq fun K270 hK270 => ?_
  refine e_seq fun K271 hK271 => ?_
  refine e_region_text rfl ?_
  refine q_move rfl rfl ?_
  refine q_move rfl rfl ?_
  refine q_lenS rfl f212 rfl ?_
  refine q_move rfl rfl ?_
  refine q_lenS rfl f213 rfl ?_
  refine q_max rfl rfl rfl ?_
  refine q_lss rfl rfl rfl ?_
  refine eseq_nil ?_
  refine hK271 _ _ ?_
  refine e_cond rfl (fun hc272 => ?_) (fun hc272 => ?_)
  · replace ho160 := (if_pos hc272).symm.trans ho160
    refine e_skip ?_
    refine hK270 _ _ ?_
    refine e_seq fun K273 hK273 => ?_
    refine e_block ?_
    refine e_seq fun K274 hK274 => ?_
    refine e_region_text rfl ?_
    refine q_move rfl rfl ?_
    refine q_move rfl rfl ?_
    obtain ⟨r276, hr276, ho160⟩ := Option.of_bind ho160
    refine q_call rfl (ref32_at_w (Sep.enter (As := []) hS) f212 hr276) rfl ?_
    rintro _ w275 ⟨R275, rfl, hC275⟩
    have hB275 : Below (World.heap w211).size w211 w275 := hC275.stepB0
    refine ⟨fun _ => .of_below hB275, ?_⟩
    replace f212 := (f212.ext hB275).mono fun k hk _ => hC275.ro0 k hk
    replace f213 := (f213.ext hB275).mono fun k hk _ => hC275.ro0 k hk
    replace hS := Sep.leave (As := []) hS hC275; simp only [List.cons_append, List.nil_append] at hS
    refine q_move rfl rfl ?_
    refine q_move rfl rfl ?_
    obtain ⟨r278, hr278, ho160⟩ := Option.of_bind ho160
    refine q_call rfl (ref32_at_w (Sep.enter (As := []) hS) f213 hr278) rfl ?_
    rintro _ w277 ⟨R277, rfl, hC277⟩
    have hB277 : Below (World.heap w275).size w275 w277 := hC277.stepB0
    refine ⟨fun _ => .of_below hB277, ?_⟩
    replace f212 := (f212.ext hB277).mono fun k hk _ => hC277.ro0 k hk
    replace f213 := (f213.ext hB277).mono fun k hk _ => hC277.ro0 k hk
    replace hS := Sep.leave (As := []) hS hC277; simp only [List.cons_append, List.nil_append] at hS
    refine q_allocB rfl fun w279 bl279 hg279 hb279 hB279 => ?_
    replace f212 := f212.ext hB279
    replace f213 := f213.ext hB279
    replace hS := hS.newBlk hB279 hg279 hb279
    refine q_allocB rfl fun w281 bl281 hg281 hb281 hB281 => ?_
    replace f212 := f212.ext hB281
    replace f213 := f213.ext hB281
    replace hS := hS.newBlk hB281 hg281 hb281
    refine q_storeAgg rfl rfl (hS.blk 1 rfl) rfl (Nat.le_of_ble_eq_true rfl) (all_cons rfl (all_cons rfl (all_nil))) rfl rfl fun w283 hb283 hO283 => ?_
    simp only [setN, List.set, List.take, List.drop] at hb283
    have hk283 := hS.keptBlk 1 rfl hO283
    replace f212 := f212.kept hk283
    replace f213 := f213.kept hk283
    replace hS := hS.setBlk 1 rfl hb283 hO283; simp only [List.set] at hS
    refine q_storeAgg rfl rfl (hS.blk 0 rfl) rfl (Nat.le_of_ble_eq_true rfl) (all_cons rfl (all_cons rfl (all_nil))) rfl rfl fun w284 hb284 hO284 => ?_
    simp only [setN, List.set, List.take, List.drop] at hb284
    have hk284 := hS.keptBlk 0 rfl hO284
    replace f212 := f212.kept hk284
    replace f213 := f213.kept hk284
    replace hS := hS.setBlk 0 rfl hb284 hO284; simp only [List.set] at hS
    refine eseq_nil ?_
    refine hK274 _ _ ?_
    refine e_seq fun K285 hK285 => ?_
    have hJ285 : ∀ (x296 : Int) (x297 : Int) (R291 : Nat → Prop) (w292 : World) (E_ : Env), ref32_Merge_J1 fuel x216 x217 x296 x297 = some o160 → Sep F R R291 w w292 [HP.own labTy (fun _ => False) 29 v215 x216, HP.blk bl279 [.int .i64 x296, .int .i64 x297] 29] → IsSlice labTy w292 R291 v1 a0 → IsSlice labTy w292 R291 v2 a1 → Sub [(0, v1), (1, v2), (5, v215), (6, .int .i64 x217), (7, .pointer (some ⟨bl279, 0, none⟩))] E_ → K285 E_ w292 := by
      intro x296 x297 R291 w292 E_ ho160 hS f293 f294 hsub
      refine hK285 _ _ (e_sub hsub ?_); clear hsub
      unfold ref32_Merge_J1 at ho160
      refine e_region_text rfl ?_
      refine q_move rfl rfl ?_
      refine q_loadAgg rfl (Blk.cellsAt (hS.blk 1 rfl) 0 2 rfl) rfl rfl ?_
      refine q_litO (T := labTy) (S := (fun _ => False)) (cells := [[.int .i64 x296, .int .i64 x297]]) (ys := [(⟨x296, x297⟩ : Lab)]) ((Parts.cons rfl rfl Parts.nil)) rfl rfl rfl rfl rfl rfl rfl (fun w1 hB => ⟨⟨[_], _, rfl, rfl, rfl⟩, trivial⟩) (fun _ h => h.elim) rfl fun w298 v298 ho298 hv298 hB298 => ?_
      replace f293 := f293.ext hB298
      replace f294 := f294.ext hB298
      replace hS := hS.newOwnS hB298 ho298 hv298 (fun _ h => h.elim)
      obtain ⟨x301, hx301, ho160⟩ := Option.of_bind ho160
      refine q_catOwn (T := labTy) rfl rfl rfl rfl (hS.own 1 rfl) rfl (hS.own 0 rfl) (fun _ h _ => h.elim) (snoc_cat hx301) (Nat.zero_le _) rfl (fun h => by cases h) fun v300 w300 hw300 hgr300 hnw300 => ?_
      have hk300 := hS.keptOwn 1 rfl hgr300
      replace f293 := f293.kept hk300
      replace f294 := f294.kept hk300
      replace hS := hS.setOwn 1 rfl hw300 hgr300 hnw300; simp only [List.set] at hS
      refine q_assign rfl rfl ?_
      refine eseq_nil ?_
      refine hK273 _ _ ?_
      refine e_region_text rfl ?_
      refine q_move rfl rfl ?_
      refine q_addW rfl rfl rfl ?_
      refine q_assign rfl rfl ?_
      refine eseq_nil ?_
      obtain rfl := Option.some.inj ho160
      exact ⟨m160, _, Nat.lt_succ_self _, ⟨x301, (w64 (x217 + 1)), v300, _, ht160, (hS.pickB [1] 3 rfl rfl), f293, f294, rfl⟩, Sub.cons rfl (Sub.cons rfl (Sub.cons rfl (Sub.cons rfl (Sub.nil _))))⟩
    refine e_seq fun K302 hK302 => ?_
    refine e_region_text rfl ?_
    refine q_loadAgg rfl (Blk.cellsAt (hS.blk 1 rfl) 0 2 rfl) rfl rfl ?_
    refine q_loadAgg rfl (Blk.cellsAt (hS.blk 0 rfl) 0 2 rfl) rfl rfl ?_
    obtain ⟨r304, hr304, ho160⟩ := Option.of_bind ho160
    refine q_call rfl (ref32_Before_w (a0 := (⟨r276.inc, r276.index⟩ : Lab)) (a1 := (⟨r278.inc, r278.index⟩ : Lab)) (Sep.enter (As := []) hS)  hr304) rfl ?_
    rintro _ w303 ⟨R303, rfl, hC303⟩
    have hB303 : Below (World.heap w284).size w284 w303 := hC303.stepB0
    refine ⟨fun _ => .of_below hB303, ?_⟩
    replace f212 := (f212.ext hB303).mono fun k hk _ => hC303.ro0 k hk
    replace f213 := (f213.ext hB303).mono fun k hk _ => hC303.ro0 k hk
    replace hS := Sep.leave (As := []) hS hC303; simp only [List.cons_append, List.nil_append] at hS
    refine eseq_nil ?_
    refine hK302 _ _ ?_
    refine e_cond rfl (fun hc305 => ?_) (fun hc305 => ?_)
    · replace ho160 := (if_pos hc305).symm.trans ho160
      refine e_region_text rfl ?_
      refine q_loadAgg rfl (Blk.cellsAt (hS.blk 0 rfl) 0 2 rfl) rfl rfl ?_
      refine q_storeAgg rfl rfl (hS.blk 1 rfl) rfl (Nat.le_of_ble_eq_true rfl) (all_cons rfl (all_cons rfl (all_nil))) rfl rfl fun w306 hb306 hO306 => ?_
      simp only [setN, List.set, List.take, List.drop] at hb306
      have hk306 := hS.keptBlk 1 rfl hO306
      replace f212 := f212.kept hk306
      replace f213 := f213.kept hk306
      replace hS := hS.setBlk 1 rfl hb306 hO306; simp only [List.set] at hS
      refine eseq_nil ?_
      exact hJ285 r278.inc r278.index _ _ _ ho160 (hS.pickB [2, 1] 3 rfl rfl) f212 f213 (Sub.cons rfl (Sub.cons rfl (Sub.cons rfl (Sub.cons rfl (Sub.cons rfl (Sub.nil _))))))
    · replace ho160 := (if_neg (not_true hc305)).symm.trans ho160
      refine e_skip ?_
      exact hJ285 r276.inc r276.index _ _ _ ho160 (hS.pickB [2, 1] 3 rfl rfl) f212 f213 (Sub.cons rfl (Sub.cons rfl (Sub.cons rfl (Sub.cons rfl (Sub.cons rfl (Sub.nil _))))))
  · replace ho160 := (if_neg (not_true hc272)).symm.trans ho160
    refine e_exit ?_
    obtain rfl := Option.some.inj ho160
    obtain rfl := Option.some.inj ht160
    exact hX160_0 x216 v215 _ _ _ h hS  (Sub.cons rfl (Sub.nil _))
theorem law32_OrphanLabels_w {F R : Nat → Prop} {w : World} {fuel : Nat} {a0 : (List Lab)} {a1 : (List Lab)} {a2 : (List Int)} {v1 : Value} {v2 : Value} {v3 : Value} {r : (Bool)} (hS : Sep F R R w w []) (f1 : IsSlice labTy w R v1 a0) (f2 : IsSlice labTy w R v2 a1) (f3 : IsSlice Ty.u8 w R v3 a2) (h : law32_OrphanLabels fuel a0 a1 a2 = some r) :
    Gives Try.prog 3 [v1, v2, v3] w fun u w1 => ∃ (R1 : Nat → Prop), u = .bool r ∧ Sep F R R1 w w1 [] := by
  refine fn_of Try.func3 rfl Try.ntmps3 (Nat.le_of_ble_eq_true rfl) ?_
  unfold law32_OrphanLabels at h
  refine e_seq fun K244 hK244 => ?_
  refine e_region_text rfl ?_
  refine q_assign rfl rfl ?_
  refine eseq_nil ?_
  refine hK244 _ _ ?_
  refine e_seq fun K245 hK245 => ?_
  refine e_seq fun K246 hK246 => ?_
  refine e_region_text rfl ?_
  obtain ⟨r248, hr248, h⟩ := Option.of_bind h
  refine q_call rfl (law32_awake_w (Sep.enter (As := []) hS)  hr248) rfl ?_
  rintro _ w247 ⟨R247, rfl, hC247⟩
  have hB247 : Below (World.heap w).size w w247 := hC247.stepB0
  refine ⟨fun _ => .of_below hB247, ?_⟩
  replace f1 := (f1.ext hB247).mono fun k hk _ => hC247.ro0 k hk
  replace f2 := (f2.ext hB247).mono fun k hk _ => hC247.ro0 k hk
  replace f3 := (f3.ext hB247).mono fun k hk _ => hC247.ro0 k hk
  replace hS := Sep.leave (As := []) hS hC247; simp only [List.cons_append, List.nil_append] at hS
  refine q_not rfl rfl ?_
  refine q_move rfl rfl ?_
  obtain ⟨x250, hx249, h⟩ := Option.of_bind h
  refine g_orM 3 hx249 rfl trivial rfl rfl ?_ ?_ ?_
  · intro hg249
    refine g_skip rfl rfl rfl ?_
    refine g_skip rfl rfl rfl ?_
    refine g_skip rfl rfl rfl ?_
    exact eseq_nil ⟨rfl, Sub.set rfl (Sub.set rfl (Sub.set rfl (Sub.bool true rfl hg249)))⟩
  · intro hg249 hx249
    clear h
    have hT249 := Below.refl (World.heap w247).size w247
    refine g_run rfl ?_; refine q_move rfl rfl ?_
    refine g_run rfl ?_; refine q_lenS rfl f1 rfl ?_
    refine g_run rfl ?_; refine q_gtr rfl rfl rfl ?_
    cases hx249
    exact eseq_nil ⟨hT249, Sub.set rfl (Sub.set rfl (Sub.set rfl (Sub.bool false rfl hg249))), rfl⟩
  intro wm249 hBm249; clear hx249
  replace hS := hS.below hBm249
  replace f1 := f1.ext hBm249
  replace f2 := f2.ext hBm249
  replace f3 := f3.ext hBm249
  refine q_move rfl rfl ?_
  obtain ⟨x252, hx251, h⟩ := Option.of_bind h
  refine g_orM 3 hx251 rfl trivial rfl rfl ?_ ?_ ?_
  · intro hg251
    refine g_skip rfl rfl rfl ?_
    refine g_skip rfl rfl rfl ?_
    refine g_skip rfl rfl rfl ?_
    exact eseq_nil ⟨rfl, Sub.set rfl (Sub.set rfl (Sub.set rfl (Sub.bool true rfl hg251)))⟩
  · intro hg251 hx251
    clear h
    have hT251 := Below.refl (World.heap wm249).size wm249
    refine g_run rfl ?_; refine q_move rfl rfl ?_
    refine g_run rfl ?_; refine q_lenS rfl f2 rfl ?_
    refine g_run rfl ?_; refine q_gtr rfl rfl rfl ?_
    cases hx251
    exact eseq_nil ⟨hT251, Sub.set rfl (Sub.set rfl (Sub.set rfl (Sub.bool false rfl hg251))), rfl⟩
  intro wm251 hBm251; clear hx251
  replace hS := hS.below hBm251
  replace f1 := f1.ext hBm251
  replace f2 := f2.ext hBm251
  replace f3 := f3.ext hBm251
  refine eseq_nil ?_
  refine hK246 _ _ ?_
  refine e_cond rfl (fun hc253 => ?_) (fun hc253 => ?_)
  · replace h := (if_pos hc253).symm.trans h
    refine e_seq fun K254 hK254 => ?_
    refine e_region_text rfl ?_
    refine q_move rfl rfl ?_
    refine q_lenS rfl f1 rfl ?_
    refine q_gtr rfl rfl rfl ?_
    refine q_move rfl rfl ?_
    obtain ⟨x256, hx255, h⟩ := Option.of_bind h
    refine g_orM 3 hx255 rfl trivial rfl rfl ?_ ?_ ?_
    · intro hg255
      refine g_skip rfl rfl rfl ?_
      refine g_skip rfl rfl rfl ?_
      refine g_skip rfl rfl rfl ?_
      exact eseq_nil ⟨rfl, Sub.set rfl (Sub.set rfl (Sub.set rfl (Sub.bool true rfl hg255)))⟩
    · intro hg255 hx255
      clear h
      have hT255 := Below.refl (World.heap wm251).size wm251
      refine g_run rfl ?_; refine q_move rfl rfl ?_
      refine g_run rfl ?_; refine q_lenS rfl f2 rfl ?_
      refine g_run rfl ?_; refine q_gtr rfl rfl rfl ?_
      cases hx255
      exact eseq_nil ⟨hT255, Sub.set rfl (Sub.set rfl (Sub.set rfl (Sub.bool false rfl hg255))), rfl⟩
    intro wm255 hBm255; clear hx255
    replace hS := hS.below hBm255
    refine q_assign rfl rfl ?_
    refine eseq_nil ?_
    refine hK254 _ _ ?_
    refine e_ret ?_
    obtain rfl := Option.some.inj h
    exact ⟨_, res1 rfl rfl, _, rfl, hS⟩
  · replace h := (if_neg (not_true hc253)).symm.trans h
    refine e_skip ?_
    refine hK245 _ _ ?_
    refine e_seq fun K257 hK257 => ?_
    refine e_region_text rfl ?_
    refine q_move rfl rfl ?_
    obtain ⟨r259, hr259, h⟩ := Option.of_bind h
    refine q_call rfl (make_New_w (Sep.enter (As := []) hS) f3 hr259) rfl ?_
    rintro _ w258 ⟨B260, v261, R258, rfl, hC258, f261⟩
    have hB258 : Below (World.heap wm251).size wm251 w258 := hC258.stepB0
    refine ⟨fun _ => .of_below hB258, ?_⟩
    replace f1 := (f1.ext hB258).mono fun k hk _ => hC258.ro0 k hk
    replace f2 := (f2.ext hB258).mono fun k hk _ => hC258.ro0 k hk
    replace f3 := (f3.ext hB258).mono fun k hk _ => hC258.ro0 k hk
    replace hS := Sep.leave (As := []) hS hC258; simp only [List.cons_append, List.nil_append] at hS
    refine q_assign rfl rfl ?_
    refine eseq_nil ?_
    refine hK257 _ _ ?_
    refine e_seq fun K262 hK262 => ?_
    refine e_region_text rfl ?_
    refine q_move rfl rfl ?_
    obtain ⟨r264, hr264, h⟩ := Option.of_bind h
    refine q_call rfl (make_Codes_Next_w (Sep.enter (As := [_]) hS) f261 hr264) rfl ?_
    rintro _ w263 ⟨R263, rfl, hC263⟩
    refine ⟨(fun h => by cases h), ?_⟩
    have hk263 := hC263.keptR (Sep.offFeet (As := [_]) hS)
    replace f1 := (f1.kept hk263).mono fun k hk _ => hC263.ro0 k hk
    replace f2 := (f2.kept hk263).mono fun k hk _ => hC263.ro0 k hk
    replace f261 := (f261.kept hk263).mono fun k hk _ => hC263.ro0 k hk
    replace hS := Sep.leave (As := [_]) hS hC263; simp only [List.cons_append, List.nil_append] at hS
    refine q_move rfl rfl ?_
    obtain ⟨r266, hr266, h⟩ := Option.of_bind h
    refine q_call rfl (make_Codes_Next_w (Sep.enter (As := [_]) hS) f261 hr266) rfl ?_
    rintro _ w265 ⟨R265, rfl, hC265⟩
    refine ⟨(fun h => by cases h), ?_⟩
    have hk265 := hC265.keptR (Sep.offFeet (As := [_]) hS)
    replace f1 := (f1.kept hk265).mono fun k hk _ => hC265.ro0 k hk
    replace f2 := (f2.kept hk265).mono fun k hk _ => hC265.ro0 k hk
    replace f261 := (f261.kept hk265).mono fun k hk _ => hC265.ro0 k hk
    replace hS := Sep.leave (As := [_]) hS hC265; simp only [List.cons_append, List.nil_append] at hS
    refine q_build (Parts.cons rfl rfl (Parts.cons rfl rfl Parts.nil)) rfl rfl ?_
    refine q_move rfl rfl ?_
    obtain ⟨r268, hr268, h⟩ := Option.of_bind h
    refine q_call rfl (make_Codes_Next_w (Sep.enter (As := [_]) hS) f261 hr268) rfl ?_
    rintro _ w267 ⟨R267, rfl, hC267⟩
    refine ⟨(fun h => by cases h), ?_⟩
    have hk267 := hC267.keptR (Sep.offFeet (As := [_]) hS)
    replace f1 := (f1.kept hk267).mono fun k hk _ => hC267.ro0 k hk
    replace f2 := (f2.kept hk267).mono fun k hk _ => hC267.ro0 k hk
    replace f261 := (f261.kept hk267).mono fun k hk _ => hC267.ro0 k hk
    replace hS := Sep.leave (As := [_]) hS hC267; simp only [List.cons_append, List.nil_append] at hS
    refine q_move rfl rfl ?_
    obtain ⟨r270, hr270, h⟩ := Option.of_bind h
    refine q_call rfl (make_Codes_Next_w (Sep.enter (As := [_]) hS) f261 hr270) rfl ?_
    rintro _ w269 ⟨R269, rfl, hC269⟩
    refine ⟨(fun h => by cases h), ?_⟩
    have hk269 := hC269.keptR (Sep.offFeet (As := [_]) hS)
    replace f1 := (f1.kept hk269).mono fun k hk _ => hC269.ro0 k hk
    replace f2 := (f2.kept hk269).mono fun k hk _ => hC269.ro0 k hk
    replace f261 := (f261.kept hk269).mono fun k hk _ => hC269.ro0 k hk
    replace hS := Sep.leave (As := [_]) hS hC269; simp only [List.cons_append, List.nil_append] at hS
    refine q_build (Parts.cons rfl rfl (Parts.cons rfl rfl Parts.nil)) rfl rfl ?_
    refine q_allocB rfl fun w271 bl271 hg271 hb271 hB271 => ?_
    replace f1 := f1.ext hB271
    replace f2 := f2.ext hB271
    replace hS := hS.newBlk hB271 hg271 hb271
    refine q_allocB rfl fun w273 bl273 hg273 hb273 hB273 => ?_
    replace f1 := f1.ext hB273
    replace f2 := f2.ext hB273
    replace hS := hS.newBlk hB273 hg273 hb273
    refine q_storeAgg rfl rfl (hS.blk 1 rfl) rfl (Nat.le_of_ble_eq_true rfl) (all_cons rfl (all_cons rfl (all_nil))) rfl rfl fun w275 hb275 hO275 => ?_
    simp only [setN, List.set, List.take, List.drop] at hb275
    have hk275 := hS.keptBlk 1 rfl hO275
    replace f1 := f1.kept hk275
    replace f2 := f2.kept hk275
    replace hS := hS.setBlk 1 rfl hb275 hO275; simp only [List.set] at hS
    refine q_storeAgg rfl rfl (hS.blk 0 rfl) rfl (Nat.le_of_ble_eq_true rfl) (all_cons rfl (all_cons rfl (all_nil))) rfl rfl fun w276 hb276 hO276 => ?_
    simp only [setN, List.set, List.take, List.drop] at hb276
    have hk276 := hS.keptBlk 0 rfl hO276
    replace f1 := f1.kept hk276
    replace f2 := f2.kept hk276
    replace hS := hS.setBlk 0 rfl hb276 hO276; simp only [List.set] at hS
    refine eseq_nil ?_
    refine hK262 _ _ ?_
    refine e_seq fun K277 hK277 => ?_
    refine e_seq fun K278 hK278 => ?_
    refine e_region_text rfl ?_
    refine q_assign rfl rfl ?_
    refine eseq_nil ?_
    refine hK278 _ _ ?_
    refine e_block ?_
    obtain ⟨tl279, ht279, h⟩ := Option.of_bind h
    have hX279_0 : ∀ (R377 : Nat → Prop) (w378 : World) (E_ : Env), law32_OrphanLabels_K1 fuel a0 a1 r264 r266 r268 r270 = some r → Sep F R R377 w w378 [HP.blk bl271 [.int .i64 r264.1, .int .i64 r266.1] 29, HP.blk bl273 [.int .i64 r268.1, .int .i64 r270.1] 29] → IsSlice labTy w378 R377 v1 a0 → IsSlice labTy w378 R377 v2 a1 → Sub [(0, v1), (1, v2), (8, .pointer (some ⟨bl271, 0, none⟩)), (9, .pointer (some ⟨bl273, 0, none⟩))] E_ → K277 E_ w378 := by
      intro R377 w378 E_ h hS f379 f380 hsub
      refine hK277 _ _ (e_sub hsub ?_); clear hsub
      unfold law32_OrphanLabels_K1 at h
      refine e_seq fun K381 hK381 => ?_
      refine e_region_text rfl ?_
      refine q_move rfl rfl ?_
      refine q_move rfl rfl ?_
      obtain ⟨r383, hr383, h⟩ := Option.of_bind h
      refine q_call rfl (orphan_Merge_w (Sep.enter (As := []) hS) f379 f380 hr383) rfl ?_
      rintro v384 w382 ⟨_, R382, rfl, hC382⟩
      have hB382 : Below (World.heap w378).size w378 w382 := hC382.stepB0
      refine ⟨fun _ => .of_below hB382, ?_⟩
      replace f379 := (f379.ext hB382).mono fun k hk _ => hC382.ro0 k hk
      replace f380 := (f380.ext hB382).mono fun k hk _ => hC382.ro0 k hk
      replace hS := Sep.leave (As := []) hS hC382; simp only [List.cons_append, List.nil_append] at hS
      refine q_assign rfl rfl ?_
      refine eseq_nil ?_
      refine hK381 _ _ ?_
      refine e_seq fun K385 hK385 => ?_
      refine e_region_draw mixed (fun _ => False) [0, 0, 3, 0, 0, 31, 63, 127, 255, 255, 1023, 2047, 4095, 8191, 16383, 16383, 16383, 114687, 262143, 524287, 1048575, 2097151, 2097151, 2097151, 14680063, 33554431, 67108863, 134217727, 268435455, 268435455, 268435455, 1879048191, 4294967295, 8589934591, 17179869183] [2] [0, 1, 3, 4, 2, 5, 6, 7, 8, 9, 10, 11, 12, 13, 14, 15, 16, 17, 18, 19, 20, 21, 22, 23, 24, 25, 26, 27, 28, 29, 30, 31, 32, 33, 34] (by kernel_rfl) ?_
      refine q_loadAgg rfl (Blk.cellsAt (hS.blk 1 rfl) 0 2 rfl) rfl rfl ?_
      refine q_loadAgg rfl (Blk.cellsAt (hS.blk 2 rfl) 0 2 rfl) rfl rfl ?_
      refine q_loadAgg rfl (Blk.cellsAt (hS.blk 1 rfl) 0 2 rfl) rfl rfl ?_
      refine q_loadAgg rfl (Blk.cellsAt (hS.blk 2 rfl) 0 2 rfl) rfl rfl ?_
      obtain ⟨r416, hr416, h⟩ := Option.of_bind h
      refine q_call rfl (orphan_Before_w (a0 := (⟨r264.1, r266.1⟩ : Lab)) (a1 := (⟨r268.1, r270.1⟩ : Lab)) (Sep.enter (As := []) hS)  hr416) rfl ?_
      rintro _ w415 ⟨R415, rfl, hC415⟩
      have hB415 : Below (World.heap w382).size w382 w415 := hC415.stepB0
      refine ⟨fun _ => .of_below hB415, ?_⟩
      replace f379 := (f379.ext hB415).mono fun k hk _ => hC415.ro0 k hk
      replace f380 := (f380.ext hB415).mono fun k hk _ => hC415.ro0 k hk
      replace hS := Sep.leave (As := []) hS hC415; simp only [List.cons_append, List.nil_append] at hS
      obtain ⟨r418, hr418, h⟩ := Option.of_bind h
      refine q_call rfl (ref32_Before_w (a0 := (⟨r264.1, r266.1⟩ : Lab)) (a1 := (⟨r268.1, r270.1⟩ : Lab)) (Sep.enter (As := []) hS)  hr418) rfl ?_
      rintro _ w417 ⟨R417, rfl, hC417⟩
      have hB417 : Below (World.heap w415).size w415 w417 := hC417.stepB0
      refine ⟨fun _ => .of_below hB417, ?_⟩
      replace f379 := (f379.ext hB417).mono fun k hk _ => hC417.ro0 k hk
      replace f380 := (f380.ext hB417).mono fun k hk _ => hC417.ro0 k hk
      replace hS := Sep.leave (As := []) hS hC417; simp only [List.cons_append, List.nil_append] at hS
      refine q_eqlB rfl rfl rfl ?_
      refine q_move rfl rfl ?_
      obtain ⟨x420, hx419, h⟩ := Option.of_bind h
      refine g_andM 4 hx419 rfl trivial rfl rfl ?_ ?_ ?_
      · intro hg419 hx419
        clear h
        have hT419 := Below.refl (World.heap w417).size w417
        refine g_run rfl ?_; refine q_loadAgg rfl (Blk.cellsAt (hS.blk 1 rfl) 0 2 rfl) rfl rfl ?_
        refine g_run rfl ?_; refine q_loadAgg rfl (Blk.cellsAt (hS.blk 1 rfl) 0 2 rfl) rfl rfl ?_
        obtain ⟨r422, hr422, hx419⟩ := Option.of_bind hx419
        refine g_run rfl ?_; refine q_call rfl (orphan_Before_w (a0 := (⟨r264.1, r266.1⟩ : Lab)) (a1 := (⟨r264.1, r266.1⟩ : Lab)) (Sep.enter (As := []) hS)  hr422) rfl ?_
        rintro _ w421 ⟨R421, rfl, hC421⟩
        have hB421 : Below (World.heap w417).size w417 w421 := hC421.stepB0
        refine ⟨fun _ => .of_below hB421, ?_⟩
        replace f379 := (f379.ext hB421).mono fun k hk _ => hC421.ro0 k hk
        replace f380 := (f380.ext hB421).mono fun k hk _ => hC421.ro0 k hk
        replace hT419 := hT419.trans (Below.mono hB421 hT419.size)
        replace hS := Sep.leave (As := []) hS hC421; simp only [List.cons_append, List.nil_append] at hS
        refine g_run rfl ?_; refine q_not rfl rfl ?_
        cases hx419
        exact eseq_nil ⟨hT419, Sub.set rfl (Sub.set rfl (Sub.set rfl (Sub.set rfl (Sub.bool true rfl hg419)))), rfl⟩
      · intro hg419
        refine g_skip rfl rfl rfl ?_
        refine g_skip rfl rfl rfl ?_
        refine g_skip rfl rfl rfl ?_
        refine g_skip rfl rfl rfl ?_
        exact eseq_nil ⟨rfl, Sub.set rfl (Sub.set rfl (Sub.set rfl (Sub.set rfl (Sub.bool false rfl hg419))))⟩
      intro wm419 hBm419; clear hx419
      replace hS := hS.below hBm419
      replace f379 := f379.ext hBm419
      replace f380 := f380.ext hBm419
      refine q_move rfl rfl ?_
      obtain ⟨x424, hx423, h⟩ := Option.of_bind h
      refine g_andM 5 hx423 rfl trivial rfl rfl ?_ ?_ ?_
      · intro hg423 hx423
        clear h
        have hT423 := Below.refl (World.heap wm419).size wm419
        refine g_run rfl ?_; refine q_move rfl rfl ?_
        refine g_run rfl ?_; refine q_move rfl rfl ?_
        refine g_run rfl ?_; refine q_move rfl rfl ?_
        obtain ⟨r426, hr426, hx423⟩ := Option.of_bind hx423
        refine g_run rfl ?_; refine q_call rfl (ref32_Merge_w (Sep.enter (As := []) hS) f379 f380 hr426) rfl ?_
        rintro v427 w425 ⟨_, R425, rfl, hC425⟩
        have hB425 : Below (World.heap wm419).size wm419 w425 := hC425.stepB0
        refine ⟨fun _ => .of_below hB425, ?_⟩
        replace f379 := (f379.ext hB425).mono fun k hk _ => hC425.ro0 k hk
        replace f380 := (f380.ext hB425).mono fun k hk _ => hC425.ro0 k hk
        replace hT423 := hT423.trans (Below.mono hB425 hT423.size)
        replace hS := Sep.leave (As := []) hS hC425; simp only [List.cons_append, List.nil_append] at hS
        obtain ⟨r429, hr429, hx423⟩ := Option.of_bind hx423
        refine g_run rfl ?_; refine q_call rfl (ref32_SameLabels_w (Sep.all w425) ((hS.isl 1 rfl)).old ((hS.isl 0 rfl)).old hr429) rfl ?_
        rintro _ w428 ⟨R428, rfl, hC428⟩
        have hB428 : Below (World.heap w425).size w425 w428 := hC428.stepBF
        refine ⟨fun _ => .of_below hB428, ?_⟩
        replace f379 := f379.ext hB428
        replace f380 := f380.ext hB428
        replace hT423 := hT423.trans (Below.mono hB428 hT423.size)
        replace hS := hS.below hB428
        cases hx423
        exact eseq_nil ⟨hT423, Sub.set rfl (Sub.set rfl (Sub.set rfl (Sub.set rfl (Sub.set rfl (Sub.bool true rfl hg423))))), rfl⟩
      · intro hg423
        refine g_skip rfl rfl rfl ?_
        refine g_skip rfl rfl rfl ?_
        refine g_skip rfl rfl rfl ?_
        refine g_skip rfl rfl rfl ?_
        refine g_skip rfl rfl rfl ?_
        exact eseq_nil ⟨rfl, Sub.set rfl (Sub.set rfl (Sub.set rfl (Sub.set rfl (Sub.set rfl (Sub.bool false rfl hg423)))))⟩
      intro wm423 hBm423; clear hx423
      replace hS := hS.below hBm423
      replace f379 := f379.ext hBm423
      replace f380 := f380.ext hBm423
      refine q_move rfl rfl ?_
      obtain ⟨x431, hx430, h⟩ := Option.of_bind h
      refine g_andM 5 hx430 rfl trivial rfl rfl ?_ ?_ ?_
      · intro hg430 hx430
        clear h
        have hT430 := Below.refl (World.heap wm423).size wm423
        refine g_run rfl ?_; refine q_move rfl rfl ?_
        refine g_run rfl ?_; refine q_move rfl rfl ?_
        refine g_run rfl ?_; refine q_move rfl rfl ?_
        obtain ⟨r433, hr433, hx430⟩ := Option.of_bind hx430
        refine g_run rfl ?_; refine q_call rfl (orphan_Merge_w (Sep.enter (As := []) hS) f380 f379 hr433) rfl ?_
        rintro v434 w432 ⟨_, R432, rfl, hC432⟩
        have hB432 : Below (World.heap wm423).size wm423 w432 := hC432.stepB0
        refine ⟨fun _ => .of_below hB432, ?_⟩
        replace f379 := (f379.ext hB432).mono fun k hk _ => hC432.ro0 k hk
        replace f380 := (f380.ext hB432).mono fun k hk _ => hC432.ro0 k hk
        replace hT430 := hT430.trans (Below.mono hB432 hT430.size)
        replace hS := Sep.leave (As := []) hS hC432; simp only [List.cons_append, List.nil_append] at hS
        obtain ⟨r436, hr436, hx430⟩ := Option.of_bind hx430
        refine g_run rfl ?_; refine q_call rfl (ref32_SameLabels_w (Sep.all w432) ((hS.isl 1 rfl)).old ((hS.isl 0 rfl)).old hr436) rfl ?_
        rintro _ w435 ⟨R435, rfl, hC435⟩
        have hB435 : Below (World.heap w432).size w432 w435 := hC435.stepBF
        refine ⟨fun _ => .of_below hB435, ?_⟩
        replace f379 := f379.ext hB435
        replace hT430 := hT430.trans (Below.mono hB435 hT430.size)
        replace hS := hS.below hB435
        cases hx430
        exact eseq_nil ⟨hT430, Sub.set rfl (Sub.set rfl (Sub.set rfl (Sub.set rfl (Sub.set rfl (Sub.bool true rfl hg430))))), rfl⟩
      · intro hg430
        refine g_skip rfl rfl rfl ?_
        refine g_skip rfl rfl rfl ?_
        refine g_skip rfl rfl rfl ?_
        refine g_skip rfl rfl rfl ?_
        refine g_skip rfl rfl rfl ?_
        exact eseq_nil ⟨rfl, Sub.set rfl (Sub.set rfl (Sub.set rfl (Sub.set rfl (Sub.set rfl (Sub.bool false rfl hg430)))))⟩
      intro wm430 hBm430; clear hx430
      replace hS := hS.below hBm430
      replace f379 := f379.ext hBm430
      refine q_move rfl rfl ?_
      obtain ⟨x438, hx437, h⟩ := Option.of_bind h
      refine g_andM 5 hx437 rfl trivial rfl rfl ?_ ?_ ?_
      · intro hg437 hx437
        clear h
        have hT437 := Below.refl (World.heap wm430).size wm430
        refine g_run rfl ?_; refine q_move rfl rfl ?_
        refine g_run rfl ?_; refine q_move rfl rfl ?_
        refine g_run rfl ?_; refine q_move rfl rfl ?_
        obtain ⟨r440, hr440, hx437⟩ := Option.of_bind hx437
        refine g_run rfl ?_; refine q_call rfl (orphan_Merge_w (Sep.all wm430) ((hS.isl 0 rfl)).old (f379).old hr440) rfl ?_
        rintro v441 w439 ⟨_, R439, rfl, hC439⟩
        have hB439 : Below (World.heap wm430).size wm430 w439 := hC439.stepBF
        refine ⟨fun _ => .of_below hB439, ?_⟩
        replace f379 := f379.ext hB439
        replace hT437 := hT437.trans (Below.mono hB439 hT437.size)
        replace hS := hS.newOwnS hB439 (hC439.own 0 rfl) (hC439.fresh 0 rfl) (fun _ h => h.elim)
        obtain ⟨r443, hr443, hx437⟩ := Option.of_bind hx437
        refine g_run rfl ?_; refine q_call rfl (ref32_SameLabels_w (Sep.all w439) ((hS.isl 1 rfl)).old ((hS.isl 0 rfl)).old hr443) rfl ?_
        rintro _ w442 ⟨R442, rfl, hC442⟩
        have hB442 : Below (World.heap w439).size w439 w442 := hC442.stepBF
        refine ⟨fun _ => .of_below hB442, ?_⟩
        replace hT437 := hT437.trans (Below.mono hB442 hT437.size)
        replace hS := hS.below hB442
        cases hx437
        exact eseq_nil ⟨hT437, Sub.set rfl (Sub.set rfl (Sub.set rfl (Sub.set rfl (Sub.set rfl (Sub.bool true rfl hg437))))), rfl⟩
      · intro hg437
        refine g_skip rfl rfl rfl ?_
        refine g_skip rfl rfl rfl ?_
        refine g_skip rfl rfl rfl ?_
        refine g_skip rfl rfl rfl ?_
        refine g_skip rfl rfl rfl ?_
        exact eseq_nil ⟨rfl, Sub.set rfl (Sub.set rfl (Sub.set rfl (Sub.set rfl (Sub.set rfl (Sub.bool false rfl hg437)))))⟩
      intro wm437 hBm437; clear hx437
      replace hS := hS.below hBm437
      refine q_assign rfl rfl ?_
      refine eseq_nil ?_
      refine hK385 _ _ ?_
      refine e_ret ?_
      obtain rfl := Option.some.inj h
      exact ⟨_, res1 rfl rfl, _, rfl, (hS.pickB [] 3 rfl rfl)⟩
    refine e_loop (fun m_ E_ w329 => ∃ (x332 : Int), ∃ (R328 : Nat → Prop), iter (fun s => law32_OrphanLabels_B1 fuel a0 a1 s) m_ x332 = some tl279 ∧ Sep F R R328 w w329 [HP.blk bl271 [.int .i64 r264.1, .int .i64 r266.1] 29, HP.blk bl273 [.int .i64 r268.1, .int .i64 r270.1] 29] ∧ IsSlice labTy w329 R328 v1 a0 ∧ IsSlice labTy w329 R328 v2 a1 ∧ E_ = [(0, v1), (1, v2), (8, .pointer (some ⟨bl271, 0, none⟩)), (9, .pointer (some ⟨bl273, 0, none⟩)), (10, .int .i64 x332)]) _ ⟨_, ⟨0, _, ht279, (hS.pickB [1, 0] 3 rfl rfl), f1, f2, rfl⟩, Sub.cons rfl (Sub.cons rfl (Sub.cons rfl (Sub.cons rfl (Sub.cons rfl (Sub.nil _)))))⟩ ?_
    clear ht279 hS
    rintro m279 _ w329 ⟨x332, R328, ht279, hS, f330, f331, rfl⟩
    obtain ⟨m279, rfl, o279, ho279, ht279⟩ := iter_some ht279
    replace ho279 : law32_OrphanLabels_B1 fuel a0 a1 x332 = some o279 := ho279
    unfold law32_OrphanLabels_B1 at ho279
    refine e_seq fun K444 hK444 => ?_
    refine e_seq fun K445 hK445 => ?_
    refine e_region_text rfl ?_
    refine q_move rfl rfl ?_
    refine q_move rfl rfl ?_
    refine q_lenS rfl f330 rfl ?_
    refine q_move rfl rfl ?_
    refine q_lenS rfl f331 rfl ?_
    refine q_min rfl rfl rfl ?_
    refine q_lss rfl rfl rfl ?_
    refine eseq_nil ?_
    refine hK445 _ _ ?_
    refine e_cond rfl (fun hc446 => ?_) (fun hc446 => ?_)
    · replace ho279 := (if_pos hc446).symm.trans ho279
      refine e_skip ?_
      refine hK444 _ _ ?_
      refine e_seq fun K447 hK447 => ?_
      refine e_block ?_
      refine e_seq fun K448 hK448 => ?_
      refine e_region_draw mixed (fun _ => False) [0, 0, 3, 7, 0, 0, 48, 112, 255, 0, 0, 1536, 3584, 0, 0, 24576, 57344, 131071, 262143] [8] [0, 1, 2, 3, 4, 5, 6, 7, 9, 10, 11, 12, 13, 14, 15, 16, 8, 17, 18] (by kernel_rfl) ?_
      refine q_move rfl rfl ?_
      refine q_move rfl rfl ?_
      obtain ⟨x465, hx465, ho279⟩ := Option.of_bind ho279
      refine q_atS (by infer_instance) rfl f330 rfl hx465 rfl fun b466 o466 hm466 f466 => ?_
      have hc467 := Lab_open f466
      refine q_loadAgg rfl hc467 rfl rfl ?_
      refine q_move rfl rfl ?_
      refine q_move rfl rfl ?_
      obtain ⟨x468, hx468, ho279⟩ := Option.of_bind ho279
      refine q_atS (by infer_instance) rfl f331 rfl hx468 rfl fun b469 o469 hm469 f469 => ?_
      have hc470 := Lab_open f469
      refine q_loadAgg rfl hc470 rfl rfl ?_
      refine q_move rfl rfl ?_
      refine q_move rfl rfl ?_
      obtain ⟨x471, hx471, ho279⟩ := Option.of_bind ho279
      refine q_atS (by infer_instance) rfl f330 rfl hx471 rfl fun b472 o472 hm472 f472 => ?_
      have hc473 := Lab_open f472
      refine q_loadAgg rfl hc473 rfl rfl ?_
      refine q_move rfl rfl ?_
      refine q_move rfl rfl ?_
      obtain ⟨x474, hx474, ho279⟩ := Option.of_bind ho279
      refine q_atS (by infer_instance) rfl f331 rfl hx474 rfl fun b475 o475 hm475 f475 => ?_
      have hc476 := Lab_open f475
      refine q_loadAgg rfl hc476 rfl rfl ?_
      obtain ⟨r478, hr478, ho279⟩ := Option.of_bind ho279
      refine q_call rfl (orphan_Before_w (a0 := x465) (a1 := x468) (Sep.enter (As := []) hS)  hr478) rfl ?_
      rintro _ w477 ⟨R477, rfl, hC477⟩
      have hB477 : Below (World.heap w329).size w329 w477 := hC477.stepB0
      refine ⟨fun _ => .of_below hB477, ?_⟩
      replace f330 := (f330.ext hB477).mono fun k hk _ => hC477.ro0 k hk
      replace f331 := (f331.ext hB477).mono fun k hk _ => hC477.ro0 k hk
      replace hS := Sep.leave (As := []) hS hC477; simp only [List.cons_append, List.nil_append] at hS
      obtain ⟨r480, hr480, ho279⟩ := Option.of_bind ho279
      refine q_call rfl (ref32_Before_w (a0 := x471) (a1 := x474) (Sep.enter (As := []) hS)  hr480) rfl ?_
      rintro _ w479 ⟨R479, rfl, hC479⟩
      have hB479 : Below (World.heap w477).size w477 w479 := hC479.stepB0
      refine ⟨fun _ => .of_below hB479, ?_⟩
      replace f330 := (f330.ext hB479).mono fun k hk _ => hC479.ro0 k hk
      replace f331 := (f331.ext hB479).mono fun k hk _ => hC479.ro0 k hk
      replace hS := Sep.leave (As := []) hS hC479; simp only [List.cons_append, List.nil_append] at hS
      refine q_neqB rfl rfl rfl ?_
      refine eseq_nil ?_
      refine hK448 _ _ ?_
      refine e_cond rfl (fun hc481 => ?_) (fun hc481 => ?_)
      · replace ho279 := (if_pos hc481).symm.trans ho279
        refine e_seq fun K482 hK482 => ?_
        refine e_region_text rfl ?_
        refine q_assign rfl rfl ?_
        refine eseq_nil ?_
        refine hK482 _ _ ?_
        refine e_ret ?_
        obtain rfl := Option.some.inj ho279
        obtain rfl := Option.some.inj ht279
        obtain rfl := Option.some.inj h
        exact ⟨_, res1 rfl rfl, _, rfl, (hS.pickB [] 2 rfl rfl)⟩
      · replace ho279 := (if_neg (not_true hc481)).symm.trans ho279
        refine e_skip ?_
        refine hK447 _ _ ?_
        refine e_region_text rfl ?_
        refine q_move rfl rfl ?_
        refine q_addW rfl rfl rfl ?_
        refine q_assign rfl rfl ?_
        refine eseq_nil ?_
        obtain rfl := Option.some.inj ho279
        exact ⟨m279, _, Nat.lt_succ_self _, ⟨(w64 (x332 + 1)), _, ht279, hS, f330, f331, rfl⟩, Sub.cons rfl (Sub.cons rfl (Sub.cons rfl (Sub.cons rfl (Sub.cons rfl (Sub.nil _)))))⟩
    · replace ho279 := (if_neg (not_true hc446)).symm.trans ho279
      refine e_exit ?_
      obtain rfl := Option.some.inj ho279
      obtain rfl := Option.some.inj ht279
      exact hX279_0  _ _ _ h hS f330 f331 (Sub.cons rfl (Sub.cons rfl (Sub.cons rfl (Sub.cons rfl (Sub.nil _)))))
end Go.Proofs.Ytghjjkdfjmnfeaa
