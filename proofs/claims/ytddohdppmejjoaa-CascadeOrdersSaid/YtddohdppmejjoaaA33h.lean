/- Printed walks: A33h. -/
import Derived.Test.YtddohdppmejjoaaA33g
set_option linter.unusedVariables false
set_option linter.unusedSimpArgs false
namespace Go.Mine
open Go.RowKit
def law33_CascadeLate_K1 (fuel : Nat) : Option (Bool) :=
  some true
def law33_CascadeLate_B1 (fuel : Nat) (r272 : (Cascade × (List Int) × Int × Bool)) (x373 : Int) : Option ((Int) ⊕ (Unit ⊕ (Bool))) :=
  (if (decide (x373 < (r272.1.flight.length : Int))) = true then (ati r272.1.flight x373).bind fun x460 => (orM (decide (x460.to < 0)) (some (decide ((r272.1.branches.length : Int) ≤ x460.to)))).bind fun x471 => (orM x471 (some x460.news)).bind fun x475 => (if x475 = true then some (Sum.inr (Sum.inr false)) else (ati r272.1.branches x460.to).bind fun x479 => (incarnation_Undone fuel x479.ends x460.frm (⟨x460.sent.inc, x460.sent.index⟩ : Lab)).bind fun r484 => (cascade_Step fuel (⟨r272.1.branches, r272.1.flight⟩ : Cascade) (⟨2, 0, x373⟩ : Shock)).bind fun r487 => (if (r487.2 != 0) = true then (if (r487.2 != 4) = true then some (Sum.inr (Sum.inr false)) else some (Sum.inl (w64 (x373 + 1)))) else (orM ((r487.1.branches.length : Int) != (r272.1.branches.length : Int)) ((ati r487.1.branches x460.to).bind fun x513 => (ati r272.1.branches x460.to).bind fun x517 => some (r484 != ((x513.events.length : Int) == (x517.events.length : Int))))).bind fun x512 => (if x512 = true then some (Sum.inr (Sum.inr false)) else some (Sum.inl (w64 (x373 + 1)))))) else some (Sum.inr (Sum.inl ())))
def law33_CascadeLate (fuel : Nat) (a0 : (List Int)) : Option (Bool) :=
  (law33_awake fuel).bind fun r267 => (if (!r267) = true then some false else (law33_settled fuel a0).bind fun r272 => (if (!r272.2.2.2) = true then some false else (iter (fun s => law33_CascadeLate_B1 fuel r272 s) fuel 0).bind (fun t => Sum.elim (fun t => law33_CascadeLate_K1 fuel) (fun t => some t) t)))
def law33_CascadeAgrees_K1 (fuel : Nat) : Option (Bool) :=
  some true
def law33_CascadeAgrees_K2 (fuel : Nat) (x677 : Int) : Option ((Int) ⊕ (Unit ⊕ (Bool))) :=
  some (Sum.inl (w64 (x677 + 1)))
def law33_CascadeAgrees_B2 (fuel : Nat) (r505 : ((List (List Evt)))) (r495 : (Cascade)) (x677 : Int) (x867 : Int) : Option ((Int) ⊕ (Unit ⊕ (Bool))) :=
  (if (decide (x867 < (r505.length : Int))) = true then (ati r495.branches x677).bind fun x927 => (ati r505 x867).bind fun x931 => (ati r505 x867).bind fun x934 => (incarnation_Kept fuel x927.ends x867 x931).bind fun r938 => (if (r938 != (x934.length : Int)) = true then some (Sum.inr (Sum.inr false)) else some (Sum.inl (w64 (x867 + 1)))) else some (Sum.inr (Sum.inl ())))
def law33_CascadeAgrees_B1 (fuel : Nat) (r495 : (Cascade)) (r505 : ((List (List Evt)))) (x677 : Int) : Option ((Int) ⊕ (Unit ⊕ (Bool))) :=
  (if (decide (x677 < (r495.branches.length : Int))) = true then (iter (fun s => law33_CascadeAgrees_B2 fuel r505 r495 x677 s) fuel 0).bind (fun t => Sum.elim (fun t => law33_CascadeAgrees_K2 fuel x677) (fun t => some (Sum.inr (Sum.inr t))) t) else some (Sum.inr (Sum.inl ())))
def law33_CascadeAgrees (fuel : Nat) (a0 : (List Int)) : Option (Bool) :=
  (law33_awake fuel).bind fun r476 => (if (!r476) = true then some false else (law33_play fuel a0 70).bind fun r481 => (if (!r481.2.2.2) = true then some false else (cascade_Settle fuel (⟨r481.1.branches, r481.1.flight⟩ : Cascade)).bind fun r495 => (cascade_Lineages fuel (⟨r495.branches, r495.flight⟩ : Cascade)).bind fun r505 => (cascade_Quiet fuel (⟨r495.branches, r495.flight⟩ : Cascade)).bind fun r510 => (orM (!r510) (some ((r495.branches.length : Int) != (r481.1.branches.length : Int)))).bind fun x514 => (orM x514 ((ref32_Full fuel r505).bind fun r525 => (orphan_Consistent fuel r505 r525).bind fun r528 => some (!r528))).bind fun x523 => (if x523 = true then some false else (iter (fun s => law33_CascadeAgrees_B1 fuel r495 r505 s) fuel 0).bind (fun t => Sum.elim (fun t => law33_CascadeAgrees_K1 fuel) (fun t => some t) t))))
def law33_CascadeIdle (fuel : Nat) (a0 : (List Int)) (a1 : Int) : Option (Bool) :=
  (law33_awake fuel).bind fun r177 => (if (!r177) = true then some false else (law33_settled fuel a0).bind fun r182 => (if (!r182.2.2.2) = true then some false else (remI (w64 a1) (r182.1.branches.length : Int)).bind fun x195 => (cascade_Step fuel (⟨r182.1.branches, r182.1.flight⟩ : Cascade) (⟨3, x195, 0⟩ : Shock)).bind fun r198 => (cascade_Step fuel (⟨r198.1.branches, r198.1.flight⟩ : Cascade) (⟨4, x195, 0⟩ : Shock)).bind fun r208 => (orM (r198.2 != 0) (some (r208.2 != 0))).bind fun x219 => (orM x219 (some ((r208.1.branches.length : Int) != (r182.1.branches.length : Int)))).bind fun x223 => (if x223 = true then some false else (cascade_Settle fuel (⟨r182.1.branches, r182.1.flight⟩ : Cascade)).bind fun r286 => (ref33_Same fuel r286 (⟨r182.1.branches, r182.1.flight⟩ : Cascade)).bind fun r290 => (andM r290 ((cascade_Settle fuel (⟨r208.1.branches, r208.1.flight⟩ : Cascade)).bind fun r314 => (cascade_Lineages fuel r314).bind fun r320 => (cascade_Lineages fuel (⟨r182.1.branches, r182.1.flight⟩ : Cascade)).bind fun r323 => (ref32_SameLineages fuel r320 r323).bind fun r326 => some r326)).bind fun x310 => (andM x310 ((ati r208.1.branches x195).bind fun x337 => (ati r182.1.branches x195).bind fun x340 => some (x337.inc == (w64 (x340.inc + 1))))).bind fun x336 => some x336)))
def law33_CascadeSettles_K1 (fuel : Nat) (r312 : ((List (List Evt)))) (x485 : (List Branch)) (x488 : (List Letter)) (x493 : (List Int)) : Option (Bool) :=
  (orphan_Lower fuel r312 x493).bind fun r496 => (cascade_Settle fuel (⟨x485, x488⟩ : Cascade)).bind fun r500 => (cascade_Lineages fuel r500).bind fun r506 => (ref32_Full fuel r506).bind fun r510 => (ref23_SameInts fuel r510 r496).bind fun r513 => (andM r513 ((law33_beginnings fuel r506 r312).bind fun r521 => some r521)).bind fun x519 => some x519
def law33_CascadeSettles_B1 (fuel : Nat) (r312 : ((List (List Evt)))) (a1 : Int) (x401 : (List Branch)) (x404 : (List Letter)) (x409 : (List Int)) (x410 : Int) : Option (((List Branch) × (List Letter) × (List Int) × Int) ⊕ (((List Branch) × (List Letter) × (List Int)) ⊕ (Bool))) :=
  (if (decide (x410 < (r312.length : Int))) = true then (shrK .u8 a1 x410).bind fun x528 => (if ((andK .u8 x528 1) == 0) = true then some (Sum.inl (x401, x404, x409, (w64 (x410 + 1)))) else (ati x401 x410).bind fun x532 => (orM (decide (x532.stable < 0)) ((ati x401 x410).bind fun x545 => (ati r312 x410).bind fun x548 => some (decide ((x548.length : Int) < x545.stable)))).bind fun x544 => (if x544 = true then some (Sum.inr (Sum.inr false)) else (ati x401 x410).bind fun x554 => (ati x409 x410).bind fun x557 => (seti x409 x410 x554.stable).bind fun x559 => (cascade_Step fuel (⟨x401, x404⟩ : Cascade) (⟨4, x410, 0⟩ : Shock)).bind fun r562 => (if (r562.2 != 0) = true then some (Sum.inr (Sum.inr false)) else some (Sum.inl (r562.1.branches, r562.1.flight, x559, (w64 (x410 + 1))))))) else some (Sum.inr (Sum.inl (x401, x404, x409))))
def law33_CascadeSettles (fuel : Nat) (a0 : (List Int)) (a1 : Int) : Option (Bool) :=
  (law33_awake fuel).bind fun r293 => (if (!r293) = true then some false else (law33_settled fuel a0).bind fun r298 => (if (!r298.2.2.2) = true then some false else (cascade_Lineages fuel (⟨r298.1.branches, r298.1.flight⟩ : Cascade)).bind fun r312 => (ref32_Full fuel r312).bind fun r316 => (iter (fun s => law33_CascadeSettles_B1 fuel r312 a1 s.1 s.2.1 s.2.2.1 s.2.2.2) fuel (r298.1.branches, r298.1.flight, r316, 0)).bind (fun t => Sum.elim (fun t => law33_CascadeSettles_K1 fuel r312 t.1 t.2.1 t.2.2) (fun t => some t) t)))
def law33_CascadeOrders_K2 (fuel : Nat) (x545 : (List Branch)) (x548 : (List Letter)) (x731 : (List Branch)) (x734 : (List Letter)) : Option (Bool) :=
  (cascade_Settle fuel (⟨x545, x548⟩ : Cascade)).bind fun r758 => (cascade_Lineages fuel r758).bind fun r764 => (cascade_Settle fuel (⟨x731, x734⟩ : Cascade)).bind fun r767 => (cascade_Lineages fuel r767).bind fun r773 => (ref32_SameLineages fuel r764 r773).bind fun r776 => some r776
def law33_CascadeOrders_J1 (fuel : Nat) (x648 : (List Letter)) (x645 : (List Branch)) (x650 : Int) (x795 : Int) : Option (((List Branch) × (List Letter) × Int) ⊕ ((List Branch) × (List Letter))) :=
  (andM (decide (x795 < (x648.length : Int))) ((ati x648 x795).bind fun x804 => some x804.news)).bind fun x803 => (if x803 = true then (cascade_Step fuel (⟨x645, x648⟩ : Cascade) (⟨2, 0, x795⟩ : Shock)).bind fun r810 => (if (r810.2 == 0) = true then some (Sum.inl (r810.1.branches, r810.1.flight, (w64 (x650 + 1)))) else some (Sum.inl (x645, x648, (w64 (x650 + 1))))) else some (Sum.inl (x645, x648, (w64 (x650 + 1)))))
def law33_CascadeOrders_B1 (fuel : Nat) (a2 : (List Int)) (x645 : (List Branch)) (x648 : (List Letter)) (x650 : Int) : Option (((List Branch) × (List Letter) × Int) ⊕ ((List Branch) × (List Letter))) :=
  (if (decide (x650 < (a2.length : Int))) = true then (if (decide (0 < (x648.length : Int))) = true then (ati a2 x650).bind fun x823 => (remI (w64 x823) (x648.length : Int)).bind fun x825 => law33_CascadeOrders_J1 fuel x648 x645 x650 x825 else law33_CascadeOrders_J1 fuel x648 x645 x650 0) else some (Sum.inr (x645, x648)))
def law33_CascadeOrders_K1 (fuel : Nat) (a2 : (List Int)) (x545 : (List Branch)) (x548 : (List Letter)) : Option (Bool) :=
  (iter (fun s => law33_CascadeOrders_B1 fuel a2 s.1 s.2.1 s.2.2) fuel (x545, x548, 0)).bind (fun t => law33_CascadeOrders_K2 fuel x545 x548 t.1 t.2)
def law33_CascadeOrders_B2 (fuel : Nat) (a1 : Int) (x499 : (List Branch)) (x502 : (List Letter)) (x504 : Int) : Option (((List Branch) × (List Letter) × Int) ⊕ ((List Branch) × (List Letter))) :=
  (if (decide (x504 < (x499.length : Int))) = true then (cascade_Step fuel (⟨x499, x502⟩ : Cascade) (⟨4, x504, 0⟩ : Shock)).bind fun r832 => (shrK .u8 a1 x504).bind fun x839 => (andM ((andK .u8 x839 1) == 1) (some (r832.2 == 0))).bind fun x843 => (if x843 = true then some (Sum.inl (r832.1.branches, r832.1.flight, (w64 (x504 + 1)))) else some (Sum.inl (x499, x502, (w64 (x504 + 1))))) else some (Sum.inr (x499, x502)))
def law33_CascadeOrders (fuel : Nat) (a0 : (List Int)) (a1 : Int) (a2 : (List Int)) : Option (Bool) :=
  (law33_awake fuel).bind fun r430 => (orM (!r430) (some (decide (400 < (a2.length : Int))))).bind fun x434 => (if x434 = true then some (decide (400 < (a2.length : Int))) else (law33_settled fuel a0).bind fun r439 => (if (!r439.2.2.2) = true then some false else (iter (fun s => law33_CascadeOrders_B2 fuel a1 s.1 s.2.1 s.2.2) fuel (r439.1.branches, r439.1.flight, 0)).bind (fun t => law33_CascadeOrders_K1 fuel a2 t.1 t.2)))
end Go.Mine
namespace Go.Proofs.Ytddohdppmejjoaa
open Go.RowKit Go.Mine
attribute [local irreducible] eseq ewp iter
theorem law33_CascadeLate_w {F R : Nat → Prop} {w : World} {fuel : Nat} {a0 : (List Int)} {v1 : Value} {r : (Bool)} (hS : Sep F R R w w []) (f1 : IsSlice Ty.u8 w R v1 a0) (h : law33_CascadeLate fuel a0 = some r) :
    Gives Try.prog 4 [v1] w fun u w1 => ∃ (R1 : Nat → Prop), u = .bool r ∧ Sep F R R1 w w1 [] := by
  refine fn_of Try.func4 rfl Try.ntmps4 (Nat.le_of_ble_eq_true rfl) ?_
  unfold law33_CascadeLate at h
  refine e_seq fun K263 hK263 => ?_
  refine e_region_text rfl ?_
  refine q_assign rfl rfl ?_
  refine eseq_nil ?_
  refine hK263 _ _ ?_
  refine e_seq fun K264 hK264 => ?_
  refine e_seq fun K265 hK265 => ?_
  refine e_region_text rfl ?_
  obtain ⟨r267, hr267, h⟩ := Option.of_bind h
  refine q_call rfl (law33_awake_w (Sep.enter (As := []) hS)  hr267) rfl ?_
  rintro _ w266 ⟨R266, rfl, hC266⟩
  have hB266 : Below (World.heap w).size w w266 := hC266.stepB0
  refine ⟨fun _ => .of_below hB266, ?_⟩
  replace f1 := (f1.ext hB266).mono fun k hk _ => hC266.ro0 k hk
  replace hS := Sep.leave (As := []) hS hC266; simp only [List.cons_append, List.nil_append] at hS
  refine q_not rfl rfl ?_
  refine eseq_nil ?_
  refine hK265 _ _ ?_
  refine e_cond rfl (fun hc268 => ?_) (fun hc268 => ?_)
  · replace h := (if_pos hc268).symm.trans h
    refine e_seq fun K269 hK269 => ?_
    refine e_region_text rfl ?_
    refine q_assign rfl rfl ?_
    refine eseq_nil ?_
    refine hK269 _ _ ?_
    refine e_ret ?_
    obtain rfl := Option.some.inj h
    exact ⟨_, res1 rfl rfl, _, rfl, hS⟩
  · replace h := (if_neg (not_true hc268)).symm.trans h
    refine e_skip ?_
    refine hK264 _ _ ?_
    refine e_seq fun K270 hK270 => ?_
    refine e_region_text rfl ?_
    refine q_move rfl rfl ?_
    obtain ⟨r272, hr272, h⟩ := Option.of_bind h
    refine q_call rfl (law33_settled_w (Sep.enter (As := []) hS) f1 hr272) rfl ?_
    rintro _ w271 ⟨v273, v274, B275, v276, R271, rfl, hC271, f273, f274, f276⟩
    have hB271 : Below (World.heap w266).size w266 w271 := hC271.stepB0
    refine ⟨fun _ => .of_below hB271, ?_⟩
    replace f1 := (f1.ext hB271).mono fun k hk _ => hC271.ro0 k hk
    replace hS := Sep.leave (As := []) hS hC271; simp only [List.cons_append, List.nil_append] at hS
    refine q_move rfl rfl ?_
    refine q_extract rfl rfl rfl ?_
    refine q_extract rfl rfl rfl ?_
    refine q_extract rfl rfl rfl ?_
    refine q_allocB rfl fun w277 bl277 hg277 hb277 hB277 => ?_
    replace f273 := f273.ext hB277
    replace f274 := f274.ext hB277
    replace f276 := f276.ext hB277
    replace hS := hS.newBlk hB277 hg277 hb277
    refine q_storeAgg rfl rfl (hS.blk 0 rfl) rfl (Nat.le_of_ble_eq_true rfl) (all_cons f273.one (all_cons f274.one (all_nil))) rfl rfl fun w279 hb279 hO279 => ?_
    simp only [setN, List.set, List.take, List.drop] at hb279
    have hk279 := hS.keptBlk 0 rfl hO279
    replace f273 := f273.kept hk279
    replace f274 := f274.kept hk279
    replace f276 := f276.kept hk279
    replace hS := hS.setBlk 0 rfl hb279 hO279; simp only [List.set] at hS
    refine q_assign rfl rfl ?_
    refine q_assign rfl rfl ?_
    refine eseq_nil ?_
    refine hK270 _ _ ?_
    refine e_seq fun K280 hK280 => ?_
    refine e_seq fun K281 hK281 => ?_
    refine e_region_text rfl ?_
    refine q_move rfl rfl ?_
    refine q_not rfl rfl ?_
    refine eseq_nil ?_
    refine hK281 _ _ ?_
    refine e_cond rfl (fun hc282 => ?_) (fun hc282 => ?_)
    · replace h := (if_pos hc282).symm.trans h
      refine e_seq fun K283 hK283 => ?_
      refine e_region_text rfl ?_
      refine q_assign rfl rfl ?_
      refine eseq_nil ?_
      refine hK283 _ _ ?_
      refine e_ret ?_
      obtain rfl := Option.some.inj h
      exact ⟨_, res1 rfl rfl, _, rfl, (hS.pickB [] 2 rfl rfl)⟩
    · replace h := (if_neg (not_true hc282)).symm.trans h
      refine e_skip ?_
      refine hK280 _ _ ?_
      refine e_seq fun K284 hK284 => ?_
      refine e_seq fun K285 hK285 => ?_
      refine e_region_text rfl ?_
      refine q_assign rfl rfl ?_
      refine eseq_nil ?_
      refine hK285 _ _ ?_
      refine e_block ?_
      obtain ⟨tl286, ht286, h⟩ := Option.of_bind h
      have hX286_0 : ∀ (R452 : Nat → Prop) (w453 : World) (E_ : Env), law33_CascadeLate_K1 fuel = some r → Sep F R R452 w w453 [] → Sub [] E_ → K284 E_ w453 := by
        intro R452 w453 E_ h hS  hsub
        refine hK284 _ _ (e_sub hsub ?_); clear hsub
        unfold law33_CascadeLate_K1 at h
        refine e_seq fun K454 hK454 => ?_
        refine e_region_text rfl ?_
        refine q_assign rfl rfl ?_
        refine eseq_nil ?_
        refine hK454 _ _ ?_
        refine e_ret ?_
        obtain rfl := Option.some.inj h
        exact ⟨_, res1 rfl rfl, _, rfl, hS⟩
      refine e_loop (fun m_ E_ w370 => ∃ (x373 : Int), ∃ (R369 : Nat → Prop), iter (fun s => law33_CascadeLate_B1 fuel r272 s) m_ x373 = some tl286 ∧ Sep F R R369 w w370 [HP.blk bl277 [v273, v274] 28] ∧ IsSlice branchTy w370 R369 v273 r272.1.branches ∧ IsSlice letterTy w370 R369 v274 r272.1.flight ∧ E_ = [(3, .pointer (some ⟨bl277, 0, none⟩)), (6, .int .i64 x373)]) _ ⟨_, ⟨0, _, ht286, (hS.pickB [0] 2 rfl rfl), f273, f274, rfl⟩, Sub.cons rfl (Sub.cons rfl (Sub.nil _))⟩ ?_
      clear ht286 hS
      rintro m286 _ w370 ⟨x373, R369, ht286, hS, f371, f372, rfl⟩
      obtain ⟨m286, rfl, o286, ho286, ht286⟩ := iter_some ht286
      replace ho286 : law33_CascadeLate_B1 fuel r272 x373 = some o286 := ho286
      unfold law33_CascadeLate_B1 at ho286
      refine e_seq fun K455 hK455 => ?_
      refine e_seq fun K456 hK456 => ?_
      refine e_region_text rfl ?_
      refine q_move rfl rfl ?_
      refine q_field rfl rfl ?_
      refine q_load rfl (Blk.cell (hS.blk 0 rfl) rfl) rfl ?_
      refine q_lenS rfl f372 rfl ?_
      refine q_lss rfl rfl rfl ?_
      refine eseq_nil ?_
      refine hK456 _ _ ?_
      refine e_cond rfl (fun hc457 => ?_) (fun hc457 => ?_)
      · replace ho286 := (if_pos hc457).symm.trans ho286
        refine e_skip ?_
        refine hK455 _ _ ?_
        refine e_seq fun K458 hK458 => ?_
        refine e_block ?_
        refine e_seq fun K459 hK459 => ?_
        refine e_region_text rfl ?_
        refine q_field rfl rfl ?_
        refine q_load rfl (Blk.cell (hS.blk 0 rfl) rfl) rfl ?_
        refine q_move rfl rfl ?_
        obtain ⟨x460, hx460, ho286⟩ := Option.of_bind ho286
        refine q_atS (by infer_instance) rfl f372 rfl hx460 rfl fun b461 o461 hm461 f461 => ?_
        have hc462 := Letter_open f461
        refine q_loadAgg rfl hc462 rfl rfl ?_
        refine q_allocB rfl fun w463 bl463 hg463 hb463 hB463 => ?_
        replace f371 := f371.ext hB463
        replace f372 := f372.ext hB463
        replace hS := hS.newBlk hB463 hg463 hb463
        refine q_storeAgg rfl rfl (hS.blk 0 rfl) rfl (Nat.le_of_ble_eq_true rfl) (all_cons rfl (all_cons rfl (all_cons rfl (all_cons rfl (all_cons rfl (all_cons rfl (all_cons rfl (all_cons rfl (all_nil))))))))) rfl rfl fun w465 hb465 hO465 => ?_
        simp only [setN, List.set, List.take, List.drop] at hb465
        have hk465 := hS.keptBlk 0 rfl hO465
        replace f371 := f371.kept hk465
        replace f372 := f372.kept hk465
        replace hS := hS.setBlk 0 rfl hb465 hO465; simp only [List.set] at hS
        refine eseq_nil ?_
        refine hK459 _ _ ?_
        refine e_seq fun K466 hK466 => ?_
        refine e_seq fun K467 hK467 => ?_
        refine e_region_text rfl ?_
        refine q_field rfl rfl ?_
        refine q_load rfl (Blk.cell (hS.blk 0 rfl) rfl) rfl ?_
        refine q_lss rfl rfl rfl ?_
        refine q_move rfl rfl ?_
        obtain ⟨x471, hx470, ho286⟩ := Option.of_bind ho286
        refine g_orM 6 hx470 rfl trivial rfl rfl ?_ ?_ ?_
        · intro hg470
          refine g_skip rfl rfl rfl ?_
          refine g_skip rfl rfl rfl ?_
          refine g_skip rfl rfl rfl ?_
          refine g_skip rfl rfl rfl ?_
          refine g_skip rfl rfl rfl ?_
          refine g_skip rfl rfl rfl ?_
          exact eseq_nil ⟨rfl, Sub.set rfl (Sub.set rfl (Sub.set rfl (Sub.set rfl (Sub.set rfl (Sub.set rfl (Sub.bool true rfl hg470))))))⟩
        · intro hg470 hx470
          clear ho286
          have hT470 := Below.refl (World.heap w465).size w465
          refine g_run rfl ?_; refine q_field rfl rfl ?_
          refine g_run rfl ?_; refine q_load rfl (Blk.cell (hS.blk 0 rfl) rfl) rfl ?_
          refine g_run rfl ?_; refine q_field rfl rfl ?_
          refine g_run rfl ?_; refine q_load rfl (Blk.cell (hS.blk 1 rfl) rfl) rfl ?_
          refine g_run rfl ?_; refine q_lenS rfl f371 rfl ?_
          refine g_run rfl ?_; refine q_geq rfl rfl rfl ?_
          cases hx470
          exact eseq_nil ⟨hT470, Sub.set rfl (Sub.set rfl (Sub.set rfl (Sub.set rfl (Sub.set rfl (Sub.set rfl (Sub.bool false rfl hg470)))))), rfl⟩
        intro wm470 hBm470; clear hx470
        replace hS := hS.below hBm470
        replace f371 := f371.ext hBm470
        replace f372 := f372.ext hBm470
        refine q_move rfl rfl ?_
        obtain ⟨x475, hx474, ho286⟩ := Option.of_bind ho286
        refine g_orM 2 hx474 rfl trivial rfl rfl ?_ ?_ ?_
        · intro hg474
          refine g_skip rfl rfl rfl ?_
          refine g_skip rfl rfl rfl ?_
          exact eseq_nil ⟨rfl, Sub.set rfl (Sub.set rfl (Sub.bool true rfl hg474))⟩
        · intro hg474 hx474
          clear ho286
          have hT474 := Below.refl (World.heap wm470).size wm470
          refine g_run rfl ?_; refine q_field rfl rfl ?_
          refine g_run rfl ?_; refine q_load rfl (Blk.cell (hS.blk 0 rfl) rfl) rfl ?_
          cases hx474
          exact eseq_nil ⟨hT474, Sub.set rfl (Sub.set rfl (Sub.bool false rfl hg474)), rfl⟩
        intro wm474 hBm474; clear hx474
        replace hS := hS.below hBm474
        replace f371 := f371.ext hBm474
        replace f372 := f372.ext hBm474
        refine eseq_nil ?_
        refine hK467 _ _ ?_
        refine e_cond rfl (fun hc476 => ?_) (fun hc476 => ?_)
        · replace ho286 := (if_pos hc476).symm.trans ho286
          refine e_seq fun K477 hK477 => ?_
          refine e_region_text rfl ?_
          refine q_assign rfl rfl ?_
          refine eseq_nil ?_
          refine hK477 _ _ ?_
          refine e_ret ?_
          obtain rfl := Option.some.inj ho286
          obtain rfl := Option.some.inj ht286
          obtain rfl := Option.some.inj h
          exact ⟨_, res1 rfl rfl, _, rfl, (hS.pickB [] 2 rfl rfl)⟩
        · replace ho286 := (if_neg (not_true hc476)).symm.trans ho286
          refine e_skip ?_
          refine hK466 _ _ ?_
          refine e_seq fun K478 hK478 => ?_
          refine e_region_draw mixed (fun _ => False) [0, 1, 0, 4, 15, 31, 63, 0, 128, 0, 512, 2047, 4095] [] [0, 1, 2, 3, 4, 5, 6, 7, 8, 9, 10, 11, 12] (by kernel_rfl) ?_
          refine q_field rfl rfl ?_
          refine q_load rfl (Blk.cell (hS.blk 1 rfl) rfl) rfl ?_
          refine q_field rfl rfl ?_
          refine q_load rfl (Blk.cell (hS.blk 0 rfl) rfl) rfl ?_
          obtain ⟨x479, hx479, ho286⟩ := Option.of_bind ho286
          refine q_atS (by infer_instance) rfl f371 rfl hx479 rfl fun b480 o480 hm480 f480 => ?_
          refine q_field rfl rfl ?_
          have f481 := Branch_F3 f480
          refine q_loadE rfl f481 rfl (fun v482 f482 => ?_)
          refine q_field rfl rfl ?_
          refine q_load rfl (Blk.cell (hS.blk 0 rfl) rfl) rfl ?_
          refine q_field rfl rfl ?_
          refine q_loadAgg rfl (Blk.cellsAt (hS.blk 0 rfl) 3 2 rfl) rfl rfl ?_
          obtain ⟨r484, hr484, ho286⟩ := Option.of_bind ho286
          refine q_call rfl (incarnation_Undone_w (a2 := (⟨x460.sent.inc, x460.sent.index⟩ : Lab)) (Sep.enter (As := []) hS) f482 hr484) rfl ?_
          rintro _ w483 ⟨R483, rfl, hC483⟩
          have hB483 : Below (World.heap wm474).size wm474 w483 := hC483.stepB0
          refine ⟨fun _ => .of_below hB483, ?_⟩
          replace f371 := (f371.ext hB483).mono fun k hk _ => hC483.ro0 k hk
          replace f372 := (f372.ext hB483).mono fun k hk _ => hC483.ro0 k hk
          replace f482 := (f482.ext hB483).mono fun k hk _ => hC483.ro0 k hk
          replace hS := Sep.leave (As := []) hS hC483; simp only [List.cons_append, List.nil_append] at hS
          refine q_assign rfl rfl ?_
          refine eseq_nil ?_
          refine hK478 _ _ ?_
          refine e_seq fun K485 hK485 => ?_
          refine e_region_text rfl ?_
          refine q_loadAgg rfl (Blk.cellsAt (hS.blk 1 rfl) 0 2 rfl) rfl rfl ?_
          refine q_move rfl rfl ?_
          refine q_build (Parts.cons rfl rfl (Parts.cons rfl rfl Parts.nil)) rfl rfl ?_
          obtain ⟨r487, hr487, ho286⟩ := Option.of_bind ho286
          refine q_call rfl (cascade_Step_w (a0 := (⟨r272.1.branches, r272.1.flight⟩ : Cascade)) (a1 := (⟨2, 0, x373⟩ : Shock)) (Sep.enter (As := []) hS) f371 f372 hr487) rfl ?_
          rintro _ w486 ⟨v488, v489, R486, rfl, hC486⟩
          have hB486 : Below (World.heap w483).size w483 w486 := hC486.stepB0
          refine ⟨fun _ => .of_below hB486, ?_⟩
          replace f371 := (f371.ext hB486).mono fun k hk _ => hC486.ro0 k hk
          replace f372 := (f372.ext hB486).mono fun k hk _ => hC486.ro0 k hk
          replace hS := Sep.leave (As := []) hS hC486; simp only [List.cons_append, List.nil_append] at hS
          refine q_move rfl rfl ?_
          refine q_extract rfl rfl rfl ?_
          refine q_extract rfl rfl rfl ?_
          refine q_allocB rfl fun w490 bl490 hg490 hb490 hB490 => ?_
          replace f371 := f371.ext hB490
          replace f372 := f372.ext hB490
          replace hS := hS.newBlk hB490 hg490 hb490
          refine q_storeAgg rfl rfl (hS.blk 0 rfl) rfl (Nat.le_of_ble_eq_true rfl) (all_cons (hS.own 1 rfl).one (all_cons (hS.own 2 rfl).one (all_nil))) rfl rfl fun w492 hb492 hO492 => ?_
          simp only [setN, List.set, List.take, List.drop] at hb492
          have hk492 := hS.keptBlk 0 rfl hO492
          replace f371 := f371.kept hk492
          replace f372 := f372.kept hk492
          replace hS := hS.setBlk 0 rfl hb492 hO492; simp only [List.set] at hS
          refine q_assign rfl rfl ?_
          refine eseq_nil ?_
          refine hK485 _ _ ?_
          refine e_seq fun K493 hK493 => ?_
          refine e_seq fun K494 hK494 => ?_
          refine e_region_text rfl ?_
          refine q_move rfl rfl ?_
          refine q_neq rfl rfl rfl ?_
          refine eseq_nil ?_
          refine hK494 _ _ ?_
          refine e_cond rfl (fun hc495 => ?_) (fun hc495 => ?_)
          · replace ho286 := (if_pos hc495).symm.trans ho286
            refine e_seq fun K496 hK496 => ?_
            refine e_seq fun K497 hK497 => ?_
            refine e_region_text rfl ?_
            refine q_move rfl rfl ?_
            refine q_neq rfl rfl rfl ?_
            refine eseq_nil ?_
            refine hK497 _ _ ?_
            refine e_cond rfl (fun hc498 => ?_) (fun hc498 => ?_)
            · replace ho286 := (if_pos hc498).symm.trans ho286
              refine e_seq fun K499 hK499 => ?_
              refine e_region_text rfl ?_
              refine q_assign rfl rfl ?_
              refine eseq_nil ?_
              refine hK499 _ _ ?_
              refine e_ret ?_
              obtain rfl := Option.some.inj ho286
              obtain rfl := Option.some.inj ht286
              obtain rfl := Option.some.inj h
              exact ⟨_, res1 rfl rfl, _, rfl, (hS.pickB [] 5 rfl rfl)⟩
            · replace ho286 := (if_neg (not_true hc498)).symm.trans ho286
              refine e_skip ?_
              refine hK496 _ _ ?_
              refine e_exit ?_
              refine hK458 _ _ ?_
              refine e_region_text rfl ?_
              refine q_move rfl rfl ?_
              refine q_addW rfl rfl rfl ?_
              refine q_assign rfl rfl ?_
              refine eseq_nil ?_
              obtain rfl := Option.some.inj ho286
              exact ⟨m286, _, Nat.lt_succ_self _, ⟨(w64 (x373 + 1)), _, ht286, (hS.pickB [4] 5 rfl rfl), f371, f372, rfl⟩, Sub.cons rfl (Sub.cons rfl (Sub.nil _))⟩
          · replace ho286 := (if_neg (not_true hc495)).symm.trans ho286
            refine e_skip ?_
            refine hK493 _ _ ?_
            refine e_seq fun K500 hK500 => ?_
            refine e_region_draw mixed (fun _ => False) [0, 1, 3, 0, 8, 24, 63, 127, 255, 255, 767, 255, 2303, 7935, 16127, 32511, 65279, 255, 131327, 255, 524543, 1966335, 4063487, 8257791, 16646399, 33554175, 67108863, 134217727] [] [0, 1, 2, 3, 4, 5, 6, 7, 8, 9, 10, 11, 12, 13, 14, 15, 16, 17, 18, 19, 20, 21, 22, 23, 24, 25, 26, 27] (by kernel_rfl) ?_
            refine q_field rfl rfl ?_
            refine q_load rfl (Blk.cell (hS.blk 0 rfl) rfl) rfl ?_
            refine q_lenS rfl (hS.isl 1 rfl) rfl ?_
            refine q_field rfl rfl ?_
            refine q_load rfl (Blk.cell (hS.blk 4 rfl) rfl) rfl ?_
            refine q_lenS rfl f371 rfl ?_
            refine q_neq rfl rfl rfl ?_
            refine q_move rfl rfl ?_
            obtain ⟨x512, hx511, ho286⟩ := Option.of_bind ho286
            refine g_orM 19 hx511 rfl trivial rfl rfl ?_ ?_ ?_
            · intro hg511
              refine g_skip rfl rfl rfl ?_
              refine g_skip rfl rfl rfl ?_
              refine g_skip rfl rfl rfl ?_
              refine g_skip rfl rfl rfl ?_
              refine g_skip rfl rfl rfl ?_
              refine g_skip rfl rfl rfl ?_
              refine g_skip rfl rfl rfl ?_
              refine g_skip rfl rfl rfl ?_
              refine g_skip rfl rfl rfl ?_
              refine g_skip rfl rfl rfl ?_
              refine g_skip rfl rfl rfl ?_
              refine g_skip rfl rfl rfl ?_
              refine g_skip rfl rfl rfl ?_
              refine g_skip rfl rfl rfl ?_
              refine g_skip rfl rfl rfl ?_
              refine g_skip rfl rfl rfl ?_
              refine g_skip rfl rfl rfl ?_
              refine g_skip rfl rfl rfl ?_
              refine g_skip rfl rfl rfl ?_
              exact eseq_nil ⟨rfl, Sub.set rfl (Sub.set rfl (Sub.set rfl (Sub.set rfl (Sub.set rfl (Sub.set rfl (Sub.set rfl (Sub.set rfl (Sub.set rfl (Sub.set rfl (Sub.set rfl (Sub.set rfl (Sub.set rfl (Sub.set rfl (Sub.set rfl (Sub.set rfl (Sub.set rfl (Sub.set rfl (Sub.set rfl (Sub.bool true rfl hg511)))))))))))))))))))⟩
            · intro hg511 hx511
              clear ho286
              have hT511 := Below.refl (World.heap w492).size w492
              refine g_run rfl ?_; refine q_move rfl rfl ?_
              refine g_run rfl ?_; refine q_field rfl rfl ?_
              refine g_run rfl ?_; refine q_load rfl (Blk.cell (hS.blk 0 rfl) rfl) rfl ?_
              refine g_run rfl ?_; refine q_field rfl rfl ?_
              refine g_run rfl ?_; refine q_load rfl (Blk.cell (hS.blk 3 rfl) rfl) rfl ?_
              obtain ⟨x513, hx513, hx511⟩ := Option.of_bind hx511
              refine g_run rfl ?_; refine q_indexO (by infer_instance) rfl (hS.own 1 rfl) rfl hx513 rfl ?_
              refine g_run rfl ?_; refine q_field rfl rfl ?_
              have f514 := (hS.ownR 1 rfl).elt hx513
              have f515 := Branch_F1 f514
              refine g_run rfl ?_; refine q_loadE rfl f515 rfl (fun v516 f516 => ?_)
              refine g_run rfl ?_; refine q_lenS rfl f516 rfl ?_
              refine g_run rfl ?_; refine q_field rfl rfl ?_
              refine g_run rfl ?_; refine q_load rfl (Blk.cell (hS.blk 4 rfl) rfl) rfl ?_
              refine g_run rfl ?_; refine q_field rfl rfl ?_
              refine g_run rfl ?_; refine q_load rfl (Blk.cell (hS.blk 3 rfl) rfl) rfl ?_
              obtain ⟨x517, hx517, hx511⟩ := Option.of_bind hx511
              refine g_run rfl ?_; refine q_atS (by infer_instance) rfl f371 rfl hx517 rfl fun b518 o518 hm518 f518 => ?_
              refine g_run rfl ?_; refine q_field rfl rfl ?_
              have f519 := Branch_F1 f518
              refine g_run rfl ?_; refine q_loadE rfl f519 rfl (fun v520 f520 => ?_)
              refine g_run rfl ?_; refine q_lenS rfl f520 rfl ?_
              refine g_run rfl ?_; refine q_eql rfl rfl rfl ?_
              refine g_run rfl ?_; refine q_neqB rfl rfl rfl ?_
              cases hx511
              exact eseq_nil ⟨hT511, Sub.set rfl (Sub.set rfl (Sub.set rfl (Sub.set rfl (Sub.set rfl (Sub.set rfl (Sub.set rfl (Sub.set rfl (Sub.set rfl (Sub.set rfl (Sub.set rfl (Sub.set rfl (Sub.set rfl (Sub.set rfl (Sub.set rfl (Sub.set rfl (Sub.set rfl (Sub.set rfl (Sub.set rfl (Sub.bool false rfl hg511))))))))))))))))))), rfl⟩
            intro wm511 hBm511; clear hx511
            replace hS := hS.below hBm511
            replace f371 := f371.ext hBm511
            replace f372 := f372.ext hBm511
            refine eseq_nil ?_
            refine hK500 _ _ ?_
            refine e_cond rfl (fun hc521 => ?_) (fun hc521 => ?_)
            · replace ho286 := (if_pos hc521).symm.trans ho286
              refine e_seq fun K522 hK522 => ?_
              refine e_region_text rfl ?_
              refine q_assign rfl rfl ?_
              refine eseq_nil ?_
              refine hK522 _ _ ?_
              refine e_ret ?_
              obtain rfl := Option.some.inj ho286
              obtain rfl := Option.some.inj ht286
              obtain rfl := Option.some.inj h
              exact ⟨_, res1 rfl rfl, _, rfl, (hS.pickB [] 5 rfl rfl)⟩
            · replace ho286 := (if_neg (not_true hc521)).symm.trans ho286
              refine e_skip ?_
              refine hK458 _ _ ?_
              refine e_region_text rfl ?_
              refine q_move rfl rfl ?_
              refine q_addW rfl rfl rfl ?_
              refine q_assign rfl rfl ?_
              refine eseq_nil ?_
              obtain rfl := Option.some.inj ho286
              exact ⟨m286, _, Nat.lt_succ_self _, ⟨(w64 (x373 + 1)), _, ht286, (hS.pickB [4] 5 rfl rfl), f371, f372, rfl⟩, Sub.cons rfl (Sub.cons rfl (Sub.nil _))⟩
      · replace ho286 := (if_neg (not_true hc457)).symm.trans ho286
        refine e_exit ?_
        obtain rfl := Option.some.inj ho286
        obtain rfl := Option.some.inj ht286
        exact hX286_0  _ _ _ h (hS.pickB [] 1 rfl rfl)  (Sub.nil _)
theorem law33_CascadeAgrees_w {F R : Nat → Prop} {w : World} {fuel : Nat} {a0 : (List Int)} {v1 : Value} {r : (Bool)} (hS : Sep F R R w w []) (f1 : IsSlice Ty.u8 w R v1 a0) (h : law33_CascadeAgrees fuel a0 = some r) :
    Gives Try.prog 9 [v1] w fun u w1 => ∃ (R1 : Nat → Prop), u = .bool r ∧ Sep F R R1 w w1 [] := by
  refine fn_of Try.func9 rfl Try.ntmps9 (Nat.le_of_ble_eq_true rfl) ?_
  unfold law33_CascadeAgrees at h
  refine e_seq fun K472 hK472 => ?_
  refine e_region_text rfl ?_
  refine q_assign rfl rfl ?_
  refine eseq_nil ?_
  refine hK472 _ _ ?_
  refine e_seq fun K473 hK473 => ?_
  refine e_seq fun K474 hK474 => ?_
  refine e_region_text rfl ?_
  obtain ⟨r476, hr476, h⟩ := Option.of_bind h
  refine q_call rfl (law33_awake_w (Sep.enter (As := []) hS)  hr476) rfl ?_
  rintro _ w475 ⟨R475, rfl, hC475⟩
  have hB475 : Below (World.heap w).size w w475 := hC475.stepB0
  refine ⟨fun _ => .of_below hB475, ?_⟩
  replace f1 := (f1.ext hB475).mono fun k hk _ => hC475.ro0 k hk
  replace hS := Sep.leave (As := []) hS hC475; simp only [List.cons_append, List.nil_append] at hS
  refine q_not rfl rfl ?_
  refine eseq_nil ?_
  refine hK474 _ _ ?_
  refine e_cond rfl (fun hc477 => ?_) (fun hc477 => ?_)
  · replace h := (if_pos hc477).symm.trans h
    refine e_seq fun K478 hK478 => ?_
    refine e_region_text rfl ?_
    refine q_assign rfl rfl ?_
    refine eseq_nil ?_
    refine hK478 _ _ ?_
    refine e_ret ?_
    obtain rfl := Option.some.inj h
    exact ⟨_, res1 rfl rfl, _, rfl, hS⟩
  · replace h := (if_neg (not_true hc477)).symm.trans h
    refine e_skip ?_
    refine hK473 _ _ ?_
    refine e_seq fun K479 hK479 => ?_
    refine e_region_text rfl ?_
    refine q_move rfl rfl ?_
    obtain ⟨r481, hr481, h⟩ := Option.of_bind h
    refine q_call rfl (law33_play_w (Sep.enter (As := []) hS) f1 hr481) rfl ?_
    rintro _ w480 ⟨v482, v483, B484, v485, R480, rfl, hC480, f482, f483, f485⟩
    have hB480 : Below (World.heap w475).size w475 w480 := hC480.stepB0
    refine ⟨fun _ => .of_below hB480, ?_⟩
    replace f1 := (f1.ext hB480).mono fun k hk _ => hC480.ro0 k hk
    replace hS := Sep.leave (As := []) hS hC480; simp only [List.cons_append, List.nil_append] at hS
    refine q_move rfl rfl ?_
    refine q_extract rfl rfl rfl ?_
    refine q_extract rfl rfl rfl ?_
    refine q_extract rfl rfl rfl ?_
    refine q_allocB rfl fun w486 bl486 hg486 hb486 hB486 => ?_
    replace f482 := f482.ext hB486
    replace f483 := f483.ext hB486
    replace f485 := f485.ext hB486
    replace hS := hS.newBlk hB486 hg486 hb486
    refine q_storeAgg rfl rfl (hS.blk 0 rfl) rfl (Nat.le_of_ble_eq_true rfl) (all_cons f482.one (all_cons f483.one (all_nil))) rfl rfl fun w488 hb488 hO488 => ?_
    simp only [setN, List.set, List.take, List.drop] at hb488
    have hk488 := hS.keptBlk 0 rfl hO488
    replace f482 := f482.kept hk488
    replace f483 := f483.kept hk488
    replace f485 := f485.kept hk488
    replace hS := hS.setBlk 0 rfl hb488 hO488; simp only [List.set] at hS
    refine q_assign rfl rfl ?_
    refine q_assign rfl rfl ?_
    refine eseq_nil ?_
    refine hK479 _ _ ?_
    refine e_seq fun K489 hK489 => ?_
    refine e_seq fun K490 hK490 => ?_
    refine e_region_text rfl ?_
    refine q_move rfl rfl ?_
    refine q_not rfl rfl ?_
    refine eseq_nil ?_
    refine hK490 _ _ ?_
    refine e_cond rfl (fun hc491 => ?_) (fun hc491 => ?_)
    · replace h := (if_pos hc491).symm.trans h
      refine e_seq fun K492 hK492 => ?_
      refine e_region_text rfl ?_
      refine q_assign rfl rfl ?_
      refine eseq_nil ?_
      refine hK492 _ _ ?_
      refine e_ret ?_
      obtain rfl := Option.some.inj h
      exact ⟨_, res1 rfl rfl, _, rfl, (hS.pickB [] 2 rfl rfl)⟩
    · replace h := (if_neg (not_true hc491)).symm.trans h
      refine e_skip ?_
      refine hK489 _ _ ?_
      refine e_seq fun K493 hK493 => ?_
      refine e_region_text rfl ?_
      refine q_loadAgg rfl (Blk.cellsAt (hS.blk 0 rfl) 0 2 rfl) rfl rfl ?_
      obtain ⟨r495, hr495, h⟩ := Option.of_bind h
      refine q_call rfl (cascade_Settle_w (a0 := (⟨r481.1.branches, r481.1.flight⟩ : Cascade)) (Sep.enter (As := []) hS) f482 f483 hr495) rfl ?_
      rintro _ w494 ⟨v496, v497, R494, rfl, hC494⟩
      have hB494 : Below (World.heap w488).size w488 w494 := hC494.stepB0
      refine ⟨fun _ => .of_below hB494, ?_⟩
      replace f482 := (f482.ext hB494).mono fun k hk _ => hC494.ro0 k hk
      replace f483 := (f483.ext hB494).mono fun k hk _ => hC494.ro0 k hk
      replace hS := Sep.leave (As := []) hS hC494; simp only [List.cons_append, List.nil_append] at hS
      refine q_allocB rfl fun w498 bl498 hg498 hb498 hB498 => ?_
      replace f482 := f482.ext hB498
      replace f483 := f483.ext hB498
      replace hS := hS.newBlk hB498 hg498 hb498
      refine q_storeAgg rfl rfl (hS.blk 0 rfl) rfl (Nat.le_of_ble_eq_true rfl) (all_cons (hS.own 1 rfl).one (all_cons (hS.own 2 rfl).one (all_nil))) rfl rfl fun w500 hb500 hO500 => ?_
      simp only [setN, List.set, List.take, List.drop] at hb500
      have hk500 := hS.keptBlk 0 rfl hO500
      replace f482 := f482.kept hk500
      replace f483 := f483.kept hk500
      replace hS := hS.setBlk 0 rfl hb500 hO500; simp only [List.set] at hS
      refine eseq_nil ?_
      refine hK493 _ _ ?_
      refine e_seq fun K501 hK501 => ?_
      refine e_region_text rfl ?_
      refine q_loadAgg rfl (Blk.cellsAt (hS.blk 0 rfl) 0 2 rfl) rfl rfl ?_
      obtain ⟨R503, hS, hm503, f503⟩ := hS.freezeOwn 1 rfl; simp only [List.eraseIdx] at hS
      replace f482 := f482.mono fun k hk _ => hm503 k hk
      replace f483 := f483.mono fun k hk _ => hm503 k hk
      obtain ⟨R504, hS, hm504, f504⟩ := hS.freezeOwn 1 rfl; simp only [List.eraseIdx] at hS
      replace f482 := f482.mono fun k hk _ => hm504 k hk
      replace f483 := f483.mono fun k hk _ => hm504 k hk
      replace f503 := f503.mono fun k hk _ => hm504 k hk
      obtain ⟨r505, hr505, h⟩ := Option.of_bind h
      refine q_call rfl (cascade_Lineages_w (a0 := (⟨r495.branches, r495.flight⟩ : Cascade)) (Sep.enter (As := []) hS) f503 f504 hr505) rfl ?_
      rintro v506 w502 ⟨_, R502, rfl, hC502⟩
      have hB502 : Below (World.heap w500).size w500 w502 := hC502.stepB0
      refine ⟨fun _ => .of_below hB502, ?_⟩
      replace f482 := (f482.ext hB502).mono fun k hk _ => hC502.ro0 k hk
      replace f483 := (f483.ext hB502).mono fun k hk _ => hC502.ro0 k hk
      replace f503 := (f503.ext hB502).mono fun k hk _ => hC502.ro0 k hk
      replace f504 := (f504.ext hB502).mono fun k hk _ => hC502.ro0 k hk
      replace hS := Sep.leave (As := []) hS hC502; simp only [List.cons_append, List.nil_append] at hS
      refine q_assign rfl rfl ?_
      refine eseq_nil ?_
      refine hK501 _ _ ?_
      refine e_seq fun K507 hK507 => ?_
      refine e_seq fun K508 hK508 => ?_
      refine e_region_text rfl ?_
      refine q_loadAgg rfl (Blk.cellsAt (hS.blk 1 rfl) 0 2 rfl) rfl rfl ?_
      obtain ⟨r510, hr510, h⟩ := Option.of_bind h
      refine q_call rfl (cascade_Quiet_w (a0 := (⟨r495.branches, r495.flight⟩ : Cascade)) (Sep.enter (As := []) hS) f503 f504 hr510) rfl ?_
      rintro _ w509 ⟨R509, rfl, hC509⟩
      have hB509 : Below (World.heap w502).size w502 w509 := hC509.stepB0
      refine ⟨fun _ => .of_below hB509, ?_⟩
      replace f482 := (f482.ext hB509).mono fun k hk _ => hC509.ro0 k hk
      replace f483 := (f483.ext hB509).mono fun k hk _ => hC509.ro0 k hk
      replace f503 := (f503.ext hB509).mono fun k hk _ => hC509.ro0 k hk
      replace f504 := (f504.ext hB509).mono fun k hk _ => hC509.ro0 k hk
      replace hS := Sep.leave (As := []) hS hC509; simp only [List.cons_append, List.nil_append] at hS
      refine q_not rfl rfl ?_
      refine q_move rfl rfl ?_
      obtain ⟨x514, hx513, h⟩ := Option.of_bind h
      refine g_orM 7 hx513 rfl trivial rfl rfl ?_ ?_ ?_
      · intro hg513
        refine g_skip rfl rfl rfl ?_
        refine g_skip rfl rfl rfl ?_
        refine g_skip rfl rfl rfl ?_
        refine g_skip rfl rfl rfl ?_
        refine g_skip rfl rfl rfl ?_
        refine g_skip rfl rfl rfl ?_
        refine g_skip rfl rfl rfl ?_
        exact eseq_nil ⟨rfl, Sub.set rfl (Sub.set rfl (Sub.set rfl (Sub.set rfl (Sub.set rfl (Sub.set rfl (Sub.set rfl (Sub.bool true rfl hg513)))))))⟩
      · intro hg513 hx513
        clear h
        have hT513 := Below.refl (World.heap w509).size w509
        refine g_run rfl ?_; refine q_field rfl rfl ?_
        refine g_run rfl ?_; refine q_load rfl (Blk.cell (hS.blk 1 rfl) rfl) rfl ?_
        refine g_run rfl ?_; refine q_lenS rfl f503 rfl ?_
        refine g_run rfl ?_; refine q_field rfl rfl ?_
        refine g_run rfl ?_; refine q_load rfl (Blk.cell (hS.blk 2 rfl) rfl) rfl ?_
        refine g_run rfl ?_; refine q_lenS rfl f482 rfl ?_
        refine g_run rfl ?_; refine q_neq rfl rfl rfl ?_
        cases hx513
        exact eseq_nil ⟨hT513, Sub.set rfl (Sub.set rfl (Sub.set rfl (Sub.set rfl (Sub.set rfl (Sub.set rfl (Sub.set rfl (Sub.bool false rfl hg513))))))), rfl⟩
      intro wm513 hBm513; clear hx513
      replace hS := hS.below hBm513
      replace f503 := f503.ext hBm513
      replace f504 := f504.ext hBm513
      refine q_move rfl rfl ?_
      obtain ⟨x523, hx522, h⟩ := Option.of_bind h
      refine g_orM 5 hx522 rfl trivial rfl rfl ?_ ?_ ?_
      · intro hg522
        refine g_skip rfl rfl rfl ?_
        refine g_skip rfl rfl rfl ?_
        refine g_skip rfl rfl rfl ?_
        refine g_skip rfl rfl rfl ?_
        refine g_skip rfl rfl rfl ?_
        exact eseq_nil ⟨rfl, Sub.set rfl (Sub.set rfl (Sub.set rfl (Sub.set rfl (Sub.set rfl (Sub.bool true rfl hg522)))))⟩
      · intro hg522 hx522
        clear h
        have hT522 := Below.refl (World.heap wm513).size wm513
        refine g_run rfl ?_; refine q_move rfl rfl ?_
        refine g_run rfl ?_; refine q_move rfl rfl ?_
        obtain ⟨r525, hr525, hx522⟩ := Option.of_bind hx522
        refine g_run rfl ?_; refine q_call rfl (ref32_Full_w (Sep.all wm513) ((hS.isl 0 rfl)).old hr525) rfl ?_
        rintro v526 w524 ⟨_, R524, rfl, hC524⟩
        have hB524 : Below (World.heap wm513).size wm513 w524 := hC524.stepBF
        refine ⟨fun _ => .of_below hB524, ?_⟩
        replace f503 := f503.ext hB524
        replace f504 := f504.ext hB524
        replace hT522 := hT522.trans (Below.mono hB524 hT522.size)
        replace hS := hS.newOwnS hB524 (hC524.own 0 rfl) (hC524.fresh 0 rfl) (fun _ h => h.elim)
        obtain ⟨r528, hr528, hx522⟩ := Option.of_bind hx522
        refine g_run rfl ?_; refine q_call rfl (orphan_Consistent_w (Sep.all w524) ((hS.isl 1 rfl)).old ((hS.isl 0 rfl)).old hr528) rfl ?_
        rintro _ w527 ⟨R527, rfl, hC527⟩
        have hB527 : Below (World.heap w524).size w524 w527 := hC527.stepBF
        refine ⟨fun _ => .of_below hB527, ?_⟩
        replace f503 := f503.ext hB527
        replace f504 := f504.ext hB527
        replace hT522 := hT522.trans (Below.mono hB527 hT522.size)
        replace hS := hS.below hB527
        refine g_run rfl ?_; refine q_not rfl rfl ?_
        cases hx522
        exact eseq_nil ⟨hT522, Sub.set rfl (Sub.set rfl (Sub.set rfl (Sub.set rfl (Sub.set rfl (Sub.bool false rfl hg522))))), rfl⟩
      intro wm522 hBm522; clear hx522
      replace hS := hS.below hBm522
      replace f503 := f503.ext hBm522
      replace f504 := f504.ext hBm522
      refine eseq_nil ?_
      refine hK508 _ _ ?_
      refine e_cond rfl (fun hc529 => ?_) (fun hc529 => ?_)
      · replace h := (if_pos hc529).symm.trans h
        refine e_seq fun K530 hK530 => ?_
        refine e_region_text rfl ?_
        refine q_assign rfl rfl ?_
        refine eseq_nil ?_
        refine hK530 _ _ ?_
        refine e_ret ?_
        obtain rfl := Option.some.inj h
        exact ⟨_, res1 rfl rfl, _, rfl, (hS.pickB [] 4 rfl rfl)⟩
      · replace h := (if_neg (not_true hc529)).symm.trans h
        refine e_skip ?_
        refine hK507 _ _ ?_
        refine e_seq fun K531 hK531 => ?_
        refine e_seq fun K532 hK532 => ?_
        refine e_region_text rfl ?_
        refine q_assign rfl rfl ?_
        refine eseq_nil ?_
        refine hK532 _ _ ?_
        refine e_block ?_
        obtain ⟨tl533, ht533, h⟩ := Option.of_bind h
        have hX533_0 : ∀ (R811 : Nat → Prop) (w812 : World) (E_ : Env), law33_CascadeAgrees_K1 fuel = some r → Sep F R R811 w w812 [] → Sub [] E_ → K531 E_ w812 := by
          intro R811 w812 E_ h hS  hsub
          refine hK531 _ _ (e_sub hsub ?_); clear hsub
          unfold law33_CascadeAgrees_K1 at h
          refine e_seq fun K813 hK813 => ?_
          refine e_region_text rfl ?_
          refine q_assign rfl rfl ?_
          refine eseq_nil ?_
          refine hK813 _ _ ?_
          refine e_ret ?_
          obtain rfl := Option.some.inj h
          exact ⟨_, res1 rfl rfl, _, rfl, hS⟩
        replace hS := hS.ownMono 0 rfl; simp only [List.set] at hS
        refine e_loop (fun m_ E_ w673 => ∃ (x677 : Int), ∃ (R672 : Nat → Prop), iter (fun s => law33_CascadeAgrees_B1 fuel r495 r505 s) m_ x677 = some tl533 ∧ Sep F R R672 w w673 [HP.blk bl498 [v496, v497] 28, HP.own (Ty.slice evtTy) R672 45 v506 r505] ∧ IsSlice branchTy w673 R672 v496 r495.branches ∧ IsSlice letterTy w673 R672 v497 r495.flight ∧ E_ = [(6, .pointer (some ⟨bl498, 0, none⟩)), (7, v506), (8, .int .i64 x677)]) _ ⟨_, ⟨0, _, ht533, (hS.pickB [1, 0] 4 rfl rfl), f503, f504, rfl⟩, Sub.cons rfl (Sub.cons rfl (Sub.cons rfl (Sub.nil _)))⟩ ?_
        clear ht533 hS
        rintro m533 _ w673 ⟨x677, R672, ht533, hS, f674, f675, rfl⟩
        obtain ⟨m533, rfl, o533, ho533, ht533⟩ := iter_some ht533
        replace ho533 : law33_CascadeAgrees_B1 fuel r495 r505 x677 = some o533 := ho533
        unfold law33_CascadeAgrees_B1 at ho533
        refine e_seq fun K814 hK814 => ?_
        refine e_seq fun K815 hK815 => ?_
        refine e_region_text rfl ?_
        refine q_move rfl rfl ?_
        refine q_field rfl rfl ?_
        refine q_load rfl (Blk.cell (hS.blk 0 rfl) rfl) rfl ?_
        refine q_lenS rfl f674 rfl ?_
        refine q_lss rfl rfl rfl ?_
        refine eseq_nil ?_
        refine hK815 _ _ ?_
        refine e_cond rfl (fun hc816 => ?_) (fun hc816 => ?_)
        · replace ho533 := (if_pos hc816).symm.trans ho533
          refine e_skip ?_
          refine hK814 _ _ ?_
          refine e_seq fun K817 hK817 => ?_
          refine e_block ?_
          refine e_seq fun K818 hK818 => ?_
          refine e_region_text rfl ?_
          refine q_assign rfl rfl ?_
          refine eseq_nil ?_
          refine hK818 _ _ ?_
          refine e_block ?_
          obtain ⟨tl819, ht819, ho533⟩ := Option.of_bind ho533
          have hX819_2 : ∀ (R905 : Nat → Prop) (w906 : World) (E_ : Env), law33_CascadeAgrees_K2 fuel x677 = some o533 → Sep F R R905 w w906 [HP.blk bl498 [v496, v497] 28, HP.own (Ty.slice evtTy) R905 45 v506 r505] → IsSlice branchTy w906 R905 v496 r495.branches → IsSlice letterTy w906 R905 v497 r495.flight → Sub [(6, .pointer (some ⟨bl498, 0, none⟩)), (7, v506), (8, .int .i64 x677)] E_ → K817 E_ w906 := by
            intro R905 w906 E_ ho533 hS f907 f908 hsub
            refine hK817 _ _ (e_sub hsub ?_); clear hsub
            unfold law33_CascadeAgrees_K2 at ho533
            refine e_region_text rfl ?_
            refine q_move rfl rfl ?_
            refine q_addW rfl rfl rfl ?_
            refine q_assign rfl rfl ?_
            refine eseq_nil ?_
            obtain rfl := Option.some.inj ho533
            exact ⟨m533, _, Nat.lt_succ_self _, ⟨(w64 (x677 + 1)), _, ht533, hS, f907, f908, rfl⟩, Sub.cons rfl (Sub.cons rfl (Sub.cons rfl (Sub.nil _)))⟩
          refine e_loop (fun m_ E_ w863 => ∃ (x867 : Int), ∃ (R862 : Nat → Prop), iter (fun s => law33_CascadeAgrees_B2 fuel r505 r495 x677 s) m_ x867 = some tl819 ∧ Sep F R R862 w w863 [HP.blk bl498 [v496, v497] 28, HP.own (Ty.slice evtTy) R862 45 v506 r505] ∧ IsSlice branchTy w863 R862 v496 r495.branches ∧ IsSlice letterTy w863 R862 v497 r495.flight ∧ E_ = [(6, .pointer (some ⟨bl498, 0, none⟩)), (7, v506), (8, .int .i64 x677), (9, .int .i64 x867)]) _ ⟨_, ⟨0, _, ht819, hS, f674, f675, rfl⟩, Sub.cons rfl (Sub.cons rfl (Sub.cons rfl (Sub.cons rfl (Sub.nil _))))⟩ ?_
          clear ht819 hS
          rintro m819 _ w863 ⟨x867, R862, ht819, hS, f864, f865, rfl⟩
          obtain ⟨m819, rfl, o819, ho819, ht819⟩ := iter_some ht819
          replace ho819 : law33_CascadeAgrees_B2 fuel r505 r495 x677 x867 = some o819 := ho819
          unfold law33_CascadeAgrees_B2 at ho819
          refine e_seq fun K910 hK910 => ?_
          refine e_seq fun K911 hK911 => ?_
          refine e_region_text rfl ?_
          refine q_move rfl rfl ?_
          refine q_move rfl rfl ?_
          refine q_lenS rfl (hS.isl 1 rfl) rfl ?_
          refine q_lss rfl rfl rfl ?_
          refine eseq_nil ?_
          refine hK911 _ _ ?_
          refine e_cond rfl (fun hc912 => ?_) (fun hc912 => ?_)
          · replace ho819 := (if_pos hc912).symm.trans ho819
            refine e_skip ?_
            refine hK910 _ _ ?_
            refine e_seq fun K913 hK913 => ?_
            refine e_block ?_
            refine e_seq fun K914 hK914 => ?_
            refine e_region_draw mixed (fun _ => False) [0, 1, 0, 7, 15, 31, 0, 0, 0, 384, 896, 2047, 0, 0, 12288, 28672, 61440, 131071] [11] [0, 1, 2, 3, 4, 5, 6, 7, 8, 9, 10, 12, 13, 14, 15, 16, 11, 17] (by kernel_rfl) ?_
            refine q_field rfl rfl ?_
            refine q_load rfl (Blk.cell (hS.blk 0 rfl) rfl) rfl ?_
            refine q_move rfl rfl ?_
            obtain ⟨x927, hx927, ho819⟩ := Option.of_bind ho819
            refine q_atS (by infer_instance) rfl f864 rfl hx927 rfl fun b928 o928 hm928 f928 => ?_
            refine q_field rfl rfl ?_
            have f929 := Branch_F3 f928
            refine q_loadE rfl f929 rfl (fun v930 f930 => ?_)
            refine q_move rfl rfl ?_
            refine q_move rfl rfl ?_
            refine q_move rfl rfl ?_
            obtain ⟨x931, hx931, ho819⟩ := Option.of_bind ho819
            refine q_indexO (by infer_instance) rfl (hS.own 1 rfl) rfl hx931 rfl ?_
            have f932 := (hS.ownR 1 rfl).elt hx931
            refine q_loadE rfl f932 rfl (fun v933 f933 => ?_)
            refine q_move rfl rfl ?_
            refine q_move rfl rfl ?_
            obtain ⟨x934, hx934, ho819⟩ := Option.of_bind ho819
            refine q_indexO (by infer_instance) rfl (hS.own 1 rfl) rfl hx934 rfl ?_
            have f935 := (hS.ownR 1 rfl).elt hx934
            refine q_loadE rfl f935 rfl (fun v936 f936 => ?_)
            refine q_lenS rfl f936 rfl ?_
            obtain ⟨r938, hr938, ho819⟩ := Option.of_bind ho819
            refine q_call rfl (incarnation_Kept_w (Sep.enter (As := []) hS) f930 f933 hr938) rfl ?_
            rintro _ w937 ⟨R937, rfl, hC937⟩
            have hB937 : Below (World.heap w863).size w863 w937 := hC937.stepB0
            refine ⟨fun _ => .of_below hB937, ?_⟩
            replace f864 := (f864.ext hB937).mono fun k hk _ => hC937.ro0 k hk
            replace f865 := (f865.ext hB937).mono fun k hk _ => hC937.ro0 k hk
            replace f930 := (f930.ext hB937).mono fun k hk _ => hC937.ro0 k hk
            replace f933 := (f933.ext hB937).mono fun k hk _ => hC937.ro0 k hk
            replace hS := Sep.leave (As := []) hS hC937; simp only [List.cons_append, List.nil_append] at hS
            refine q_neq rfl rfl rfl ?_
            refine eseq_nil ?_
            refine hK914 _ _ ?_
            refine e_cond rfl (fun hc939 => ?_) (fun hc939 => ?_)
            · replace ho819 := (if_pos hc939).symm.trans ho819
              refine e_seq fun K940 hK940 => ?_
              refine e_region_text rfl ?_
              refine q_assign rfl rfl ?_
              refine eseq_nil ?_
              refine hK940 _ _ ?_
              refine e_ret ?_
              obtain rfl := Option.some.inj ho819
              obtain rfl := Option.some.inj ht819
              obtain rfl := Option.some.inj ho533
              obtain rfl := Option.some.inj ht533
              obtain rfl := Option.some.inj h
              exact ⟨_, res1 rfl rfl, _, rfl, (hS.pickB [] 2 rfl rfl)⟩
            · replace ho819 := (if_neg (not_true hc939)).symm.trans ho819
              refine e_skip ?_
              refine hK913 _ _ ?_
              refine e_region_text rfl ?_
              refine q_move rfl rfl ?_
              refine q_addW rfl rfl rfl ?_
              refine q_assign rfl rfl ?_
              refine eseq_nil ?_
              replace hS := hS.ownMono 1 rfl; simp only [List.set] at hS
              obtain rfl := Option.some.inj ho819
              exact ⟨m819, _, Nat.lt_succ_self _, ⟨(w64 (x867 + 1)), _, ht819, hS, f864, f865, rfl⟩, Sub.cons rfl (Sub.cons rfl (Sub.cons rfl (Sub.cons rfl (Sub.nil _))))⟩
          · replace ho819 := (if_neg (not_true hc912)).symm.trans ho819
            refine e_exit ?_
            obtain rfl := Option.some.inj ho819
            obtain rfl := Option.some.inj ht819
            exact hX819_2  _ _ _ ho533 hS f864 f865 (Sub.cons rfl (Sub.cons rfl (Sub.cons rfl (Sub.nil _))))
        · replace ho533 := (if_neg (not_true hc816)).symm.trans ho533
          refine e_exit ?_
          obtain rfl := Option.some.inj ho533
          obtain rfl := Option.some.inj ht533
          exact hX533_0  _ _ _ h (hS.pickB [] 2 rfl rfl)  (Sub.nil _)
theorem law33_CascadeIdle_w {F R : Nat → Prop} {w : World} {fuel : Nat} {a0 : (List Int)} {a1 : Int} {v1 : Value} {r : (Bool)} (hS : Sep F R R w w []) (f1 : IsSlice Ty.u8 w R v1 a0) (h : law33_CascadeIdle fuel a0 a1 = some r) :
    Gives Try.prog 7 [v1, .int .u8 a1] w fun u w1 => ∃ (R1 : Nat → Prop), u = .bool r ∧ Sep F R R1 w w1 [] := by
  refine fn_of Try.func7 rfl Try.ntmps7 (Nat.le_of_ble_eq_true rfl) ?_
  unfold law33_CascadeIdle at h
  refine e_seq fun K173 hK173 => ?_
  refine e_region_text rfl ?_
  refine q_assign rfl rfl ?_
  refine eseq_nil ?_
  refine hK173 _ _ ?_
  refine e_seq fun K174 hK174 => ?_
  refine e_seq fun K175 hK175 => ?_
  refine e_region_text rfl ?_
  obtain ⟨r177, hr177, h⟩ := Option.of_bind h
  refine q_call rfl (law33_awake_w (Sep.enter (As := []) hS)  hr177) rfl ?_
  rintro _ w176 ⟨R176, rfl, hC176⟩
  have hB176 : Below (World.heap w).size w w176 := hC176.stepB0
  refine ⟨fun _ => .of_below hB176, ?_⟩
  replace f1 := (f1.ext hB176).mono fun k hk _ => hC176.ro0 k hk
  replace hS := Sep.leave (As := []) hS hC176; simp only [List.cons_append, List.nil_append] at hS
  refine q_not rfl rfl ?_
  refine eseq_nil ?_
  refine hK175 _ _ ?_
  refine e_cond rfl (fun hc178 => ?_) (fun hc178 => ?_)
  · replace h := (if_pos hc178).symm.trans h
    refine e_seq fun K179 hK179 => ?_
    refine e_region_text rfl ?_
    refine q_assign rfl rfl ?_
    refine eseq_nil ?_
    refine hK179 _ _ ?_
    refine e_ret ?_
    obtain rfl := Option.some.inj h
    exact ⟨_, res1 rfl rfl, _, rfl, hS⟩
  · replace h := (if_neg (not_true hc178)).symm.trans h
    refine e_skip ?_
    refine hK174 _ _ ?_
    refine e_seq fun K180 hK180 => ?_
    refine e_region_text rfl ?_
    refine q_move rfl rfl ?_
    obtain ⟨r182, hr182, h⟩ := Option.of_bind h
    refine q_call rfl (law33_settled_w (Sep.enter (As := []) hS) f1 hr182) rfl ?_
    rintro _ w181 ⟨v183, v184, B185, v186, R181, rfl, hC181, f183, f184, f186⟩
    have hB181 : Below (World.heap w176).size w176 w181 := hC181.stepB0
    refine ⟨fun _ => .of_below hB181, ?_⟩
    replace f1 := (f1.ext hB181).mono fun k hk _ => hC181.ro0 k hk
    replace hS := Sep.leave (As := []) hS hC181; simp only [List.cons_append, List.nil_append] at hS
    refine q_move rfl rfl ?_
    refine q_extract rfl rfl rfl ?_
    refine q_extract rfl rfl rfl ?_
    refine q_extract rfl rfl rfl ?_
    refine q_allocB rfl fun w187 bl187 hg187 hb187 hB187 => ?_
    replace f183 := f183.ext hB187
    replace f184 := f184.ext hB187
    replace f186 := f186.ext hB187
    replace hS := hS.newBlk hB187 hg187 hb187
    refine q_storeAgg rfl rfl (hS.blk 0 rfl) rfl (Nat.le_of_ble_eq_true rfl) (all_cons f183.one (all_cons f184.one (all_nil))) rfl rfl fun w189 hb189 hO189 => ?_
    simp only [setN, List.set, List.take, List.drop] at hb189
    have hk189 := hS.keptBlk 0 rfl hO189
    replace f183 := f183.kept hk189
    replace f184 := f184.kept hk189
    replace f186 := f186.kept hk189
    replace hS := hS.setBlk 0 rfl hb189 hO189; simp only [List.set] at hS
    refine q_assign rfl rfl ?_
    refine q_assign rfl rfl ?_
    refine eseq_nil ?_
    refine hK180 _ _ ?_
    refine e_seq fun K190 hK190 => ?_
    refine e_seq fun K191 hK191 => ?_
    refine e_region_text rfl ?_
    refine q_move rfl rfl ?_
    refine q_not rfl rfl ?_
    refine eseq_nil ?_
    refine hK191 _ _ ?_
    refine e_cond rfl (fun hc192 => ?_) (fun hc192 => ?_)
    · replace h := (if_pos hc192).symm.trans h
      refine e_seq fun K193 hK193 => ?_
      refine e_region_text rfl ?_
      refine q_assign rfl rfl ?_
      refine eseq_nil ?_
      refine hK193 _ _ ?_
      refine e_ret ?_
      obtain rfl := Option.some.inj h
      exact ⟨_, res1 rfl rfl, _, rfl, (hS.pickB [] 2 rfl rfl)⟩
    · replace h := (if_neg (not_true hc192)).symm.trans h
      refine e_skip ?_
      refine hK190 _ _ ?_
      refine e_seq fun K194 hK194 => ?_
      refine e_region_text rfl ?_
      refine q_move rfl rfl ?_
      refine q_conv64 rfl rfl ?_
      refine q_field rfl rfl ?_
      refine q_load rfl (Blk.cell (hS.blk 0 rfl) rfl) rfl ?_
      refine q_lenS rfl f183 rfl ?_
      obtain ⟨x195, hx195, h⟩ := Option.of_bind h
      refine q_remM rfl rfl hx195 rfl ?_
      refine q_assign rfl rfl ?_
      refine eseq_nil ?_
      refine hK194 _ _ ?_
      refine e_seq fun K196 hK196 => ?_
      refine e_region_text rfl ?_
      refine q_loadAgg rfl (Blk.cellsAt (hS.blk 0 rfl) 0 2 rfl) rfl rfl ?_
      refine q_move rfl rfl ?_
      refine q_build (Parts.cons rfl rfl (Parts.cons rfl rfl Parts.nil)) rfl rfl ?_
      obtain ⟨r198, hr198, h⟩ := Option.of_bind h
      refine q_call rfl (cascade_Step_w (a0 := (⟨r182.1.branches, r182.1.flight⟩ : Cascade)) (a1 := (⟨3, x195, 0⟩ : Shock)) (Sep.enter (As := []) hS) f183 f184 hr198) rfl ?_
      rintro _ w197 ⟨v199, v200, R197, rfl, hC197⟩
      have hB197 : Below (World.heap w189).size w189 w197 := hC197.stepB0
      refine ⟨fun _ => .of_below hB197, ?_⟩
      replace f183 := (f183.ext hB197).mono fun k hk _ => hC197.ro0 k hk
      replace f184 := (f184.ext hB197).mono fun k hk _ => hC197.ro0 k hk
      replace hS := Sep.leave (As := []) hS hC197; simp only [List.cons_append, List.nil_append] at hS
      refine q_move rfl rfl ?_
      refine q_extract rfl rfl rfl ?_
      refine q_extract rfl rfl rfl ?_
      refine q_allocB rfl fun w201 bl201 hg201 hb201 hB201 => ?_
      replace f183 := f183.ext hB201
      replace f184 := f184.ext hB201
      replace hS := hS.newBlk hB201 hg201 hb201
      refine q_storeAgg rfl rfl (hS.blk 0 rfl) rfl (Nat.le_of_ble_eq_true rfl) (all_cons (hS.own 1 rfl).one (all_cons (hS.own 2 rfl).one (all_nil))) rfl rfl fun w203 hb203 hO203 => ?_
      simp only [setN, List.set, List.take, List.drop] at hb203
      have hk203 := hS.keptBlk 0 rfl hO203
      replace f183 := f183.kept hk203
      replace f184 := f184.kept hk203
      replace hS := hS.setBlk 0 rfl hb203 hO203; simp only [List.set] at hS
      refine q_assign rfl rfl ?_
      refine eseq_nil ?_
      refine hK196 _ _ ?_
      refine e_seq fun K204 hK204 => ?_
      refine e_region_text rfl ?_
      refine q_loadAgg rfl (Blk.cellsAt (hS.blk 0 rfl) 0 2 rfl) rfl rfl ?_
      refine q_move rfl rfl ?_
      refine q_build (Parts.cons rfl rfl (Parts.cons rfl rfl Parts.nil)) rfl rfl ?_
      obtain ⟨R206, hS, hm206, f206⟩ := hS.freezeOwn 1 rfl; simp only [List.eraseIdx] at hS
      replace f183 := f183.mono fun k hk _ => hm206 k hk
      replace f184 := f184.mono fun k hk _ => hm206 k hk
      obtain ⟨R207, hS, hm207, f207⟩ := hS.freezeOwn 1 rfl; simp only [List.eraseIdx] at hS
      replace f183 := f183.mono fun k hk _ => hm207 k hk
      replace f184 := f184.mono fun k hk _ => hm207 k hk
      replace f206 := f206.mono fun k hk _ => hm207 k hk
      obtain ⟨r208, hr208, h⟩ := Option.of_bind h
      refine q_call rfl (cascade_Step_w (a0 := (⟨r198.1.branches, r198.1.flight⟩ : Cascade)) (a1 := (⟨4, x195, 0⟩ : Shock)) (Sep.enter (As := []) hS) f206 f207 hr208) rfl ?_
      rintro _ w205 ⟨v209, v210, R205, rfl, hC205⟩
      have hB205 : Below (World.heap w203).size w203 w205 := hC205.stepB0
      refine ⟨fun _ => .of_below hB205, ?_⟩
      replace f183 := (f183.ext hB205).mono fun k hk _ => hC205.ro0 k hk
      replace f184 := (f184.ext hB205).mono fun k hk _ => hC205.ro0 k hk
      replace f206 := (f206.ext hB205).mono fun k hk _ => hC205.ro0 k hk
      replace f207 := (f207.ext hB205).mono fun k hk _ => hC205.ro0 k hk
      replace hS := Sep.leave (As := []) hS hC205; simp only [List.cons_append, List.nil_append] at hS
      refine q_move rfl rfl ?_
      refine q_extract rfl rfl rfl ?_
      refine q_extract rfl rfl rfl ?_
      refine q_allocB rfl fun w211 bl211 hg211 hb211 hB211 => ?_
      replace f183 := f183.ext hB211
      replace f184 := f184.ext hB211
      replace hS := hS.newBlk hB211 hg211 hb211
      refine q_storeAgg rfl rfl (hS.blk 0 rfl) rfl (Nat.le_of_ble_eq_true rfl) (all_cons (hS.own 1 rfl).one (all_cons (hS.own 2 rfl).one (all_nil))) rfl rfl fun w213 hb213 hO213 => ?_
      simp only [setN, List.set, List.take, List.drop] at hb213
      have hk213 := hS.keptBlk 0 rfl hO213
      replace f183 := f183.kept hk213
      replace f184 := f184.kept hk213
      replace hS := hS.setBlk 0 rfl hb213 hO213; simp only [List.set] at hS
      refine q_assign rfl rfl ?_
      refine eseq_nil ?_
      refine hK204 _ _ ?_
      refine e_seq fun K214 hK214 => ?_
      refine e_seq fun K215 hK215 => ?_
      refine e_region_text rfl ?_
      refine q_move rfl rfl ?_
      refine q_neq rfl rfl rfl ?_
      refine q_move rfl rfl ?_
      obtain ⟨x219, hx218, h⟩ := Option.of_bind h
      refine g_orM 2 hx218 rfl trivial rfl rfl ?_ ?_ ?_
      · intro hg218
        refine g_skip rfl rfl rfl ?_
        refine g_skip rfl rfl rfl ?_
        exact eseq_nil ⟨rfl, Sub.set rfl (Sub.set rfl (Sub.bool true rfl hg218))⟩
      · intro hg218 hx218
        clear h
        have hT218 := Below.refl (World.heap w213).size w213
        refine g_run rfl ?_; refine q_move rfl rfl ?_
        refine g_run rfl ?_; refine q_neq rfl rfl rfl ?_
        cases hx218
        exact eseq_nil ⟨hT218, Sub.set rfl (Sub.set rfl (Sub.bool false rfl hg218)), rfl⟩
      intro wm218 hBm218; clear hx218
      replace hS := hS.below hBm218
      replace f183 := f183.ext hBm218
      replace f184 := f184.ext hBm218
      refine q_move rfl rfl ?_
      obtain ⟨x223, hx222, h⟩ := Option.of_bind h
      refine g_orM 7 hx222 rfl trivial rfl rfl ?_ ?_ ?_
      · intro hg222
        refine g_skip rfl rfl rfl ?_
        refine g_skip rfl rfl rfl ?_
        refine g_skip rfl rfl rfl ?_
        refine g_skip rfl rfl rfl ?_
        refine g_skip rfl rfl rfl ?_
        refine g_skip rfl rfl rfl ?_
        refine g_skip rfl rfl rfl ?_
        exact eseq_nil ⟨rfl, Sub.set rfl (Sub.set rfl (Sub.set rfl (Sub.set rfl (Sub.set rfl (Sub.set rfl (Sub.set rfl (Sub.bool true rfl hg222)))))))⟩
      · intro hg222 hx222
        clear h
        have hT222 := Below.refl (World.heap wm218).size wm218
        refine g_run rfl ?_; refine q_field rfl rfl ?_
        refine g_run rfl ?_; refine q_load rfl (Blk.cell (hS.blk 0 rfl) rfl) rfl ?_
        refine g_run rfl ?_; refine q_lenS rfl (hS.isl 1 rfl) rfl ?_
        refine g_run rfl ?_; refine q_field rfl rfl ?_
        refine g_run rfl ?_; refine q_load rfl (Blk.cell (hS.blk 4 rfl) rfl) rfl ?_
        refine g_run rfl ?_; refine q_lenS rfl f183 rfl ?_
        refine g_run rfl ?_; refine q_neq rfl rfl rfl ?_
        cases hx222
        exact eseq_nil ⟨hT222, Sub.set rfl (Sub.set rfl (Sub.set rfl (Sub.set rfl (Sub.set rfl (Sub.set rfl (Sub.set rfl (Sub.bool false rfl hg222))))))), rfl⟩
      intro wm222 hBm222; clear hx222
      replace hS := hS.below hBm222
      replace f183 := f183.ext hBm222
      replace f184 := f184.ext hBm222
      refine eseq_nil ?_
      refine hK215 _ _ ?_
      refine e_cond rfl (fun hc224 => ?_) (fun hc224 => ?_)
      · replace h := (if_pos hc224).symm.trans h
        refine e_seq fun K225 hK225 => ?_
        refine e_region_text rfl ?_
        refine q_assign rfl rfl ?_
        refine eseq_nil ?_
        refine hK225 _ _ ?_
        refine e_ret ?_
        obtain rfl := Option.some.inj h
        exact ⟨_, res1 rfl rfl, _, rfl, (hS.pickB [] 6 rfl rfl)⟩
      · replace h := (if_neg (not_true hc224)).symm.trans h
        refine e_skip ?_
        refine hK214 _ _ ?_
        refine e_seq fun K226 hK226 => ?_
        refine e_region_draw mixed (fun _ => False) [0, 1, 0, 7, 15, 31, 63, 127, 31, 511, 1023, 2047, 4095, 8191, 16383, 8191, 65535, 131071, 262143, 8191, 532479, 8191, 3678207, 7872511, 16261119, 33038335, 67108863, 134217727, 268435455] [1, 6, 7] [0, 2, 1, 3, 4, 5, 8, 6, 7, 9, 10, 11, 12, 13, 14, 15, 16, 17, 18, 19, 20, 21, 22, 23, 24, 25, 26, 27, 28] (by kernel_rfl) ?_
        refine q_loadAgg rfl (Blk.cellsAt (hS.blk 4 rfl) 0 2 rfl) rfl rfl ?_
        refine q_loadAgg rfl (Blk.cellsAt (hS.blk 4 rfl) 0 2 rfl) rfl rfl ?_
        obtain ⟨r286, hr286, h⟩ := Option.of_bind h
        refine q_call rfl (cascade_Settle_w (a0 := (⟨r182.1.branches, r182.1.flight⟩ : Cascade)) (Sep.enter (As := []) hS) f183 f184 hr286) rfl ?_
        rintro _ w285 ⟨v287, v288, R285, rfl, hC285⟩
        have hB285 : Below (World.heap wm222).size wm222 w285 := hC285.stepB0
        refine ⟨fun _ => .of_below hB285, ?_⟩
        replace f183 := (f183.ext hB285).mono fun k hk _ => hC285.ro0 k hk
        replace f184 := (f184.ext hB285).mono fun k hk _ => hC285.ro0 k hk
        replace hS := Sep.leave (As := []) hS hC285; simp only [List.cons_append, List.nil_append] at hS
        obtain ⟨r290, hr290, h⟩ := Option.of_bind h
        refine q_call rfl (ref33_Same_w (a0 := r286) (a1 := (⟨r182.1.branches, r182.1.flight⟩ : Cascade)) (Sep.all w285) ((hS.isl 0 rfl)).old ((hS.isl 1 rfl)).old (f183).old (f184).old hr290) rfl ?_
        rintro _ w289 ⟨R289, rfl, hC289⟩
        have hB289 : Below (World.heap w285).size w285 w289 := hC289.stepBF
        refine ⟨fun _ => .of_below hB289, ?_⟩
        replace f183 := f183.ext hB289
        replace f184 := f184.ext hB289
        replace hS := hS.below hB289
        refine q_move rfl rfl ?_
        obtain ⟨x310, hx309, h⟩ := Option.of_bind h
        refine g_andM 6 hx309 rfl trivial rfl rfl ?_ ?_ ?_
        · intro hg309 hx309
          clear h
          have hT309 := Below.refl (World.heap w289).size w289
          refine g_run rfl ?_; refine q_loadAgg rfl (Blk.cellsAt (hS.blk 2 rfl) 0 2 rfl) rfl rfl ?_
          refine g_run rfl ?_; refine q_loadAgg rfl (Blk.cellsAt (hS.blk 6 rfl) 0 2 rfl) rfl rfl ?_
          replace hS := hS.ownMono 3 rfl; simp only [List.set] at hS
          obtain ⟨R312, hS, hm312, f312⟩ := hS.freezeOwn 3 rfl; simp only [List.eraseIdx] at hS
          replace f183 := f183.mono fun k hk _ => hm312 k hk
          replace f184 := f184.mono fun k hk _ => hm312 k hk
          obtain ⟨R313, hS, hm313, f313⟩ := hS.freezeOwn 3 rfl; simp only [List.eraseIdx] at hS
          replace f183 := f183.mono fun k hk _ => hm313 k hk
          replace f184 := f184.mono fun k hk _ => hm313 k hk
          replace f312 := f312.mono fun k hk _ => hm313 k hk
          obtain ⟨r314, hr314, hx309⟩ := Option.of_bind hx309
          refine g_run rfl ?_; refine q_call rfl (cascade_Settle_w (a0 := (⟨r208.1.branches, r208.1.flight⟩ : Cascade)) (Sep.enter (As := []) hS) f312 f313 hr314) rfl ?_
          rintro _ w311 ⟨v315, v316, R311, rfl, hC311⟩
          have hB311 : Below (World.heap w289).size w289 w311 := hC311.stepB0
          refine ⟨fun _ => .of_below hB311, ?_⟩
          replace f183 := (f183.ext hB311).mono fun k hk _ => hC311.ro0 k hk
          replace f184 := (f184.ext hB311).mono fun k hk _ => hC311.ro0 k hk
          replace f312 := (f312.ext hB311).mono fun k hk _ => hC311.ro0 k hk
          replace f313 := (f313.ext hB311).mono fun k hk _ => hC311.ro0 k hk
          replace hT309 := hT309.trans (Below.mono hB311 hT309.size)
          replace hS := Sep.leave (As := []) hS hC311; simp only [List.cons_append, List.nil_append] at hS
          obtain ⟨R318, hS, hm318, f318⟩ := hS.freezeOwn 0 rfl; simp only [List.eraseIdx] at hS
          replace f183 := f183.mono fun k hk _ => hm318 k hk
          replace f184 := f184.mono fun k hk _ => hm318 k hk
          replace f312 := f312.mono fun k hk _ => hm318 k hk
          replace f313 := f313.mono fun k hk _ => hm318 k hk
          obtain ⟨R319, hS, hm319, f319⟩ := hS.freezeOwn 0 rfl; simp only [List.eraseIdx] at hS
          replace f183 := f183.mono fun k hk _ => hm319 k hk
          replace f184 := f184.mono fun k hk _ => hm319 k hk
          replace f312 := f312.mono fun k hk _ => hm319 k hk
          replace f313 := f313.mono fun k hk _ => hm319 k hk
          replace f318 := f318.mono fun k hk _ => hm319 k hk
          obtain ⟨r320, hr320, hx309⟩ := Option.of_bind hx309
          refine g_run rfl ?_; refine q_call rfl (cascade_Lineages_w (a0 := r314) (Sep.enter (As := []) hS) f318 f319 hr320) rfl ?_
          rintro v321 w317 ⟨_, R317, rfl, hC317⟩
          have hB317 : Below (World.heap w311).size w311 w317 := hC317.stepB0
          refine ⟨fun _ => .of_below hB317, ?_⟩
          replace f183 := (f183.ext hB317).mono fun k hk _ => hC317.ro0 k hk
          replace f184 := (f184.ext hB317).mono fun k hk _ => hC317.ro0 k hk
          replace f312 := (f312.ext hB317).mono fun k hk _ => hC317.ro0 k hk
          replace f313 := (f313.ext hB317).mono fun k hk _ => hC317.ro0 k hk
          replace f318 := (f318.ext hB317).mono fun k hk _ => hC317.ro0 k hk
          replace f319 := (f319.ext hB317).mono fun k hk _ => hC317.ro0 k hk
          replace hT309 := hT309.trans (Below.mono hB317 hT309.size)
          replace hS := Sep.leave (As := []) hS hC317; simp only [List.cons_append, List.nil_append] at hS
          obtain ⟨r323, hr323, hx309⟩ := Option.of_bind hx309
          refine g_run rfl ?_; refine q_call rfl (cascade_Lineages_w (a0 := (⟨r182.1.branches, r182.1.flight⟩ : Cascade)) (Sep.enter (As := []) hS) f183 f184 hr323) rfl ?_
          rintro v324 w322 ⟨_, R322, rfl, hC322⟩
          have hB322 : Below (World.heap w317).size w317 w322 := hC322.stepB0
          refine ⟨fun _ => .of_below hB322, ?_⟩
          replace f183 := (f183.ext hB322).mono fun k hk _ => hC322.ro0 k hk
          replace f184 := (f184.ext hB322).mono fun k hk _ => hC322.ro0 k hk
          replace f312 := (f312.ext hB322).mono fun k hk _ => hC322.ro0 k hk
          replace f313 := (f313.ext hB322).mono fun k hk _ => hC322.ro0 k hk
          replace hT309 := hT309.trans (Below.mono hB322 hT309.size)
          replace hS := Sep.leave (As := []) hS hC322; simp only [List.cons_append, List.nil_append] at hS
          obtain ⟨r326, hr326, hx309⟩ := Option.of_bind hx309
          refine g_run rfl ?_; refine q_call rfl (ref32_SameLineages_w (Sep.all w322) ((hS.isl 1 rfl)).old ((hS.isl 0 rfl)).old hr326) rfl ?_
          rintro _ w325 ⟨R325, rfl, hC325⟩
          have hB325 : Below (World.heap w322).size w322 w325 := hC325.stepBF
          refine ⟨fun _ => .of_below hB325, ?_⟩
          replace f183 := f183.ext hB325
          replace f184 := f184.ext hB325
          replace f312 := f312.ext hB325
          replace f313 := f313.ext hB325
          replace hT309 := hT309.trans (Below.mono hB325 hT309.size)
          replace hS := hS.below hB325
          cases hx309
          exact eseq_nil ⟨hT309, Sub.set rfl (Sub.set rfl (Sub.set rfl (Sub.set rfl (Sub.set rfl (Sub.set rfl (Sub.bool true rfl hg309)))))), rfl⟩
        · intro hg309
          refine g_skip rfl rfl rfl ?_
          refine g_skip rfl rfl rfl ?_
          refine g_skip rfl rfl rfl ?_
          refine g_skip rfl rfl rfl ?_
          refine g_skip rfl rfl rfl ?_
          refine g_skip rfl rfl rfl ?_
          exact eseq_nil ⟨rfl, Sub.set rfl (Sub.set rfl (Sub.set rfl (Sub.set rfl (Sub.set rfl (Sub.set rfl (Sub.bool false rfl hg309))))))⟩
        intro wm309 hBm309; clear hx309
        replace hS := hS.below hBm309
        replace f183 := f183.ext hBm309
        replace f184 := f184.ext hBm309
        refine q_move rfl rfl ?_
        obtain ⟨x336, hx335, h⟩ := Option.of_bind h
        refine g_andM 14 hx335 rfl trivial rfl rfl ?_ ?_ ?_
        · intro hg335 hx335
          clear h
          have hT335 := Below.refl (World.heap wm309).size wm309
          refine g_run rfl ?_; refine q_field rfl rfl ?_
          refine g_run rfl ?_; refine q_load rfl (Blk.cell (hS.blk 2 rfl) rfl) rfl ?_
          refine g_run rfl ?_; refine q_move rfl rfl ?_
          obtain ⟨x337, hx337, hx335⟩ := Option.of_bind hx335
          refine g_run rfl ?_; refine q_indexO (by infer_instance) rfl (hS.own 3 rfl) rfl hx337 rfl ?_
          refine g_run rfl ?_; refine q_field rfl rfl ?_
          have f338 := (hS.ownR 3 rfl).elt hx337
          have f339 := Branch_F0 f338
          refine g_run rfl ?_; refine q_load rfl (Elt.intCell f339) rfl ?_
          refine g_run rfl ?_; refine q_field rfl rfl ?_
          refine g_run rfl ?_; refine q_load rfl (Blk.cell (hS.blk 6 rfl) rfl) rfl ?_
          refine g_run rfl ?_; refine q_move rfl rfl ?_
          obtain ⟨x340, hx340, hx335⟩ := Option.of_bind hx335
          refine g_run rfl ?_; refine q_atS (by infer_instance) rfl f183 rfl hx340 rfl fun b341 o341 hm341 f341 => ?_
          refine g_run rfl ?_; refine q_field rfl rfl ?_
          have f342 := Branch_F0 f341
          refine g_run rfl ?_; refine q_load rfl (Elt.intCell f342) rfl ?_
          refine g_run rfl ?_; refine q_addW rfl rfl rfl ?_
          refine g_run rfl ?_; refine q_eql rfl rfl rfl ?_
          cases hx335
          exact eseq_nil ⟨hT335, Sub.set rfl (Sub.set rfl (Sub.set rfl (Sub.set rfl (Sub.set rfl (Sub.set rfl (Sub.set rfl (Sub.set rfl (Sub.set rfl (Sub.set rfl (Sub.set rfl (Sub.set rfl (Sub.set rfl (Sub.set rfl (Sub.bool true rfl hg335)))))))))))))), rfl⟩
        · intro hg335
          refine g_skip rfl rfl rfl ?_
          refine g_skip rfl rfl rfl ?_
          refine g_skip rfl rfl rfl ?_
          refine g_skip rfl rfl rfl ?_
          refine g_skip rfl rfl rfl ?_
          refine g_skip rfl rfl rfl ?_
          refine g_skip rfl rfl rfl ?_
          refine g_skip rfl rfl rfl ?_
          refine g_skip rfl rfl rfl ?_
          refine g_skip rfl rfl rfl ?_
          refine g_skip rfl rfl rfl ?_
          refine g_skip rfl rfl rfl ?_
          refine g_skip rfl rfl rfl ?_
          refine g_skip rfl rfl rfl ?_
          exact eseq_nil ⟨rfl, Sub.set rfl (Sub.set rfl (Sub.set rfl (Sub.set rfl (Sub.set rfl (Sub.set rfl (Sub.set rfl (Sub.set rfl (Sub.set rfl (Sub.set rfl (Sub.set rfl (Sub.set rfl (Sub.set rfl (Sub.set rfl (Sub.bool false rfl hg335))))))))))))))⟩
        intro wm335 hBm335; clear hx335
        replace hS := hS.below hBm335
        refine q_assign rfl rfl ?_
        refine eseq_nil ?_
        refine hK226 _ _ ?_
        refine e_ret ?_
        obtain rfl := Option.some.inj h
        exact ⟨_, res1 rfl rfl, _, rfl, (hS.pickB [] 8 rfl rfl)⟩
theorem law33_CascadeSettles_w {F R : Nat → Prop} {w : World} {fuel : Nat} {a0 : (List Int)} {a1 : Int} {v1 : Value} {r : (Bool)} (hS : Sep F R R w w []) (f1 : IsSlice Ty.u8 w R v1 a0) (h : law33_CascadeSettles fuel a0 a1 = some r) :
    Gives Try.prog 8 [v1, .int .u8 a1] w fun u w1 => ∃ (R1 : Nat → Prop), u = .bool r ∧ Sep F R R1 w w1 [] := by
  refine fn_of Try.func8 rfl Try.ntmps8 (Nat.le_of_ble_eq_true rfl) ?_
  unfold law33_CascadeSettles at h
  refine e_seq fun K289 hK289 => ?_
  refine e_region_text rfl ?_
  refine q_assign rfl rfl ?_
  refine eseq_nil ?_
  refine hK289 _ _ ?_
  refine e_seq fun K290 hK290 => ?_
  refine e_seq fun K291 hK291 => ?_
  refine e_region_text rfl ?_
  obtain ⟨r293, hr293, h⟩ := Option.of_bind h
  refine q_call rfl (law33_awake_w (Sep.enter (As := []) hS)  hr293) rfl ?_
  rintro _ w292 ⟨R292, rfl, hC292⟩
  have hB292 : Below (World.heap w).size w w292 := hC292.stepB0
  refine ⟨fun _ => .of_below hB292, ?_⟩
  replace f1 := (f1.ext hB292).mono fun k hk _ => hC292.ro0 k hk
  replace hS := Sep.leave (As := []) hS hC292; simp only [List.cons_append, List.nil_append] at hS
  refine q_not rfl rfl ?_
  refine eseq_nil ?_
  refine hK291 _ _ ?_
  refine e_cond rfl (fun hc294 => ?_) (fun hc294 => ?_)
  · replace h := (if_pos hc294).symm.trans h
    refine e_seq fun K295 hK295 => ?_
    refine e_region_text rfl ?_
    refine q_assign rfl rfl ?_
    refine eseq_nil ?_
    refine hK295 _ _ ?_
    refine e_ret ?_
    obtain rfl := Option.some.inj h
    exact ⟨_, res1 rfl rfl, _, rfl, hS⟩
  · replace h := (if_neg (not_true hc294)).symm.trans h
    refine e_skip ?_
    refine hK290 _ _ ?_
    refine e_seq fun K296 hK296 => ?_
    refine e_region_text rfl ?_
    refine q_move rfl rfl ?_
    obtain ⟨r298, hr298, h⟩ := Option.of_bind h
    refine q_call rfl (law33_settled_w (Sep.enter (As := []) hS) f1 hr298) rfl ?_
    rintro _ w297 ⟨v299, v300, B301, v302, R297, rfl, hC297, f299, f300, f302⟩
    have hB297 : Below (World.heap w292).size w292 w297 := hC297.stepB0
    refine ⟨fun _ => .of_below hB297, ?_⟩
    replace f1 := (f1.ext hB297).mono fun k hk _ => hC297.ro0 k hk
    replace hS := Sep.leave (As := []) hS hC297; simp only [List.cons_append, List.nil_append] at hS
    refine q_move rfl rfl ?_
    refine q_extract rfl rfl rfl ?_
    refine q_extract rfl rfl rfl ?_
    refine q_extract rfl rfl rfl ?_
    refine q_allocB rfl fun w303 bl303 hg303 hb303 hB303 => ?_
    replace f299 := f299.ext hB303
    replace f300 := f300.ext hB303
    replace f302 := f302.ext hB303
    replace hS := hS.newBlk hB303 hg303 hb303
    refine q_storeAgg rfl rfl (hS.blk 0 rfl) rfl (Nat.le_of_ble_eq_true rfl) (all_cons f299.one (all_cons f300.one (all_nil))) rfl rfl fun w305 hb305 hO305 => ?_
    simp only [setN, List.set, List.take, List.drop] at hb305
    have hk305 := hS.keptBlk 0 rfl hO305
    replace f299 := f299.kept hk305
    replace f300 := f300.kept hk305
    replace f302 := f302.kept hk305
    replace hS := hS.setBlk 0 rfl hb305 hO305; simp only [List.set] at hS
    refine q_assign rfl rfl ?_
    refine q_assign rfl rfl ?_
    refine eseq_nil ?_
    refine hK296 _ _ ?_
    refine e_seq fun K306 hK306 => ?_
    refine e_seq fun K307 hK307 => ?_
    refine e_region_text rfl ?_
    refine q_move rfl rfl ?_
    refine q_not rfl rfl ?_
    refine eseq_nil ?_
    refine hK307 _ _ ?_
    refine e_cond rfl (fun hc308 => ?_) (fun hc308 => ?_)
    · replace h := (if_pos hc308).symm.trans h
      refine e_seq fun K309 hK309 => ?_
      refine e_region_text rfl ?_
      refine q_assign rfl rfl ?_
      refine eseq_nil ?_
      refine hK309 _ _ ?_
      refine e_ret ?_
      obtain rfl := Option.some.inj h
      exact ⟨_, res1 rfl rfl, _, rfl, (hS.pickB [] 2 rfl rfl)⟩
    · replace h := (if_neg (not_true hc308)).symm.trans h
      refine e_skip ?_
      refine hK306 _ _ ?_
      refine e_seq fun K310 hK310 => ?_
      refine e_region_text rfl ?_
      refine q_loadAgg rfl (Blk.cellsAt (hS.blk 0 rfl) 0 2 rfl) rfl rfl ?_
      obtain ⟨r312, hr312, h⟩ := Option.of_bind h
      refine q_call rfl (cascade_Lineages_w (a0 := (⟨r298.1.branches, r298.1.flight⟩ : Cascade)) (Sep.enter (As := []) hS) f299 f300 hr312) rfl ?_
      rintro v313 w311 ⟨_, R311, rfl, hC311⟩
      have hB311 : Below (World.heap w305).size w305 w311 := hC311.stepB0
      refine ⟨fun _ => .of_below hB311, ?_⟩
      replace f299 := (f299.ext hB311).mono fun k hk _ => hC311.ro0 k hk
      replace f300 := (f300.ext hB311).mono fun k hk _ => hC311.ro0 k hk
      replace hS := Sep.leave (As := []) hS hC311; simp only [List.cons_append, List.nil_append] at hS
      refine q_assign rfl rfl ?_
      refine eseq_nil ?_
      refine hK310 _ _ ?_
      refine e_seq fun K314 hK314 => ?_
      refine e_region_text rfl ?_
      refine q_move rfl rfl ?_
      obtain ⟨r316, hr316, h⟩ := Option.of_bind h
      refine q_call rfl (ref32_Full_w (Sep.all w311) ((hS.isl 0 rfl)).old hr316) rfl ?_
      rintro v317 w315 ⟨_, R315, rfl, hC315⟩
      have hB315 : Below (World.heap w311).size w311 w315 := hC315.stepBF
      refine ⟨fun _ => .of_below hB315, ?_⟩
      replace f299 := f299.ext hB315
      replace f300 := f300.ext hB315
      replace hS := hS.newOwnS hB315 (hC315.own 0 rfl) (hC315.fresh 0 rfl) (fun _ h => h.elim)
      refine q_assign rfl rfl ?_
      refine eseq_nil ?_
      refine hK314 _ _ ?_
      refine e_seq fun K318 hK318 => ?_
      refine e_seq fun K319 hK319 => ?_
      refine e_region_text rfl ?_
      refine q_assign rfl rfl ?_
      refine eseq_nil ?_
      refine hK319 _ _ ?_
      refine e_block ?_
      obtain ⟨tl320, ht320, h⟩ := Option.of_bind h
      have hX320_0 : ∀ (x485 : (List Branch)) (x488 : (List Letter)) (x493 : (List Int)) (v484 : Value) (v487 : Value) (v492 : Value) (R482 : Nat → Prop) (w483 : World) (E_ : Env), law33_CascadeSettles_K1 fuel r312 x485 x488 x493 = some r → Sep F R R482 w w483 [HP.blk bl303 [v484, v487] 28, HP.own (Ty.slice evtTy) R482 45 v313 r312, HP.own Ty.int (fun _ => False) 3 v492 x493] → IsSlice branchTy w483 R482 v484 x485 → IsSlice letterTy w483 R482 v487 x488 → Sub [(5, .pointer (some ⟨bl303, 0, none⟩)), (8, v313), (9, v492)] E_ → K318 E_ w483 := by
        intro x485 x488 x493 v484 v487 v492 R482 w483 E_ h hS f486 f489 hsub
        refine hK318 _ _ (e_sub hsub ?_); clear hsub
        unfold law33_CascadeSettles_K1 at h
        refine e_seq fun K494 hK494 => ?_
        refine e_region_text rfl ?_
        refine q_move rfl rfl ?_
        refine q_move rfl rfl ?_
        obtain ⟨r496, hr496, h⟩ := Option.of_bind h
        refine q_call rfl (orphan_Lower_w (Sep.all w483) ((hS.isl 1 rfl)).old ((hS.isl 2 rfl)).old hr496) rfl ?_
        rintro v497 w495 ⟨_, R495, rfl, hC495⟩
        have hB495 : Below (World.heap w483).size w483 w495 := hC495.stepBF
        refine ⟨fun _ => .of_below hB495, ?_⟩
        replace f486 := f486.ext hB495
        replace f489 := f489.ext hB495
        replace hS := hS.newOwnS hB495 (hC495.own 0 rfl) (hC495.fresh 0 rfl) (fun _ h => h.elim)
        refine q_assign rfl rfl ?_
        refine eseq_nil ?_
        refine hK494 _ _ ?_
        refine e_seq fun K498 hK498 => ?_
        refine e_region_text rfl ?_
        refine q_loadAgg rfl (Blk.cellsAt (hS.blk 1 rfl) 0 2 rfl) rfl rfl ?_
        obtain ⟨r500, hr500, h⟩ := Option.of_bind h
        refine q_call rfl (cascade_Settle_w (a0 := (⟨x485, x488⟩ : Cascade)) (Sep.enter (As := []) hS) f486 f489 hr500) rfl ?_
        rintro _ w499 ⟨v501, v502, R499, rfl, hC499⟩
        have hB499 : Below (World.heap w495).size w495 w499 := hC499.stepB0
        refine ⟨fun _ => .of_below hB499, ?_⟩
        replace f486 := (f486.ext hB499).mono fun k hk _ => hC499.ro0 k hk
        replace f489 := (f489.ext hB499).mono fun k hk _ => hC499.ro0 k hk
        replace hS := Sep.leave (As := []) hS hC499; simp only [List.cons_append, List.nil_append] at hS
        obtain ⟨R504, hS, hm504, f504⟩ := hS.freezeOwn 0 rfl; simp only [List.eraseIdx] at hS
        obtain ⟨R505, hS, hm505, f505⟩ := hS.freezeOwn 0 rfl; simp only [List.eraseIdx] at hS
        replace f504 := f504.mono fun k hk _ => hm505 k hk
        obtain ⟨r506, hr506, h⟩ := Option.of_bind h
        refine q_call rfl (cascade_Lineages_w (a0 := r500) (Sep.enter (As := []) hS) f504 f505 hr506) rfl ?_
        rintro v507 w503 ⟨_, R503, rfl, hC503⟩
        have hB503 : Below (World.heap w499).size w499 w503 := hC503.stepB0
        refine ⟨fun _ => .of_below hB503, ?_⟩
        replace f504 := (f504.ext hB503).mono fun k hk _ => hC503.ro0 k hk
        replace f505 := (f505.ext hB503).mono fun k hk _ => hC503.ro0 k hk
        replace hS := Sep.leave (As := []) hS hC503; simp only [List.cons_append, List.nil_append] at hS
        refine q_assign rfl rfl ?_
        refine eseq_nil ?_
        refine hK498 _ _ ?_
        refine e_seq fun K508 hK508 => ?_
        refine e_region_text rfl ?_
        refine q_move rfl rfl ?_
        obtain ⟨r510, hr510, h⟩ := Option.of_bind h
        refine q_call rfl (ref32_Full_w (Sep.all w503) ((hS.isl 0 rfl)).old hr510) rfl ?_
        rintro v511 w509 ⟨_, R509, rfl, hC509⟩
        have hB509 : Below (World.heap w503).size w503 w509 := hC509.stepBF
        refine ⟨fun _ => .of_below hB509, ?_⟩
        replace hS := hS.newOwnS hB509 (hC509.own 0 rfl) (hC509.fresh 0 rfl) (fun _ h => h.elim)
        refine q_move rfl rfl ?_
        obtain ⟨r513, hr513, h⟩ := Option.of_bind h
        refine q_call rfl (ref23_SameInts_w (Sep.all w509) ((hS.isl 0 rfl)).old ((hS.isl 2 rfl)).old hr513) rfl ?_
        rintro _ w512 ⟨R512, rfl, hC512⟩
        have hB512 : Below (World.heap w509).size w509 w512 := hC512.stepBF
        refine ⟨fun _ => .of_below hB512, ?_⟩
        replace hS := hS.below hB512
        refine q_move rfl rfl ?_
        obtain ⟨x519, hx518, h⟩ := Option.of_bind h
        refine g_andM 3 hx518 rfl trivial rfl rfl ?_ ?_ ?_
        · intro hg518 hx518
          clear h
          have hT518 := Below.refl (World.heap w512).size w512
          refine g_run rfl ?_; refine q_move rfl rfl ?_
          refine g_run rfl ?_; refine q_move rfl rfl ?_
          obtain ⟨r521, hr521, hx518⟩ := Option.of_bind hx518
          refine g_run rfl ?_; refine q_call rfl (law33_beginnings_w (Sep.all w512) ((hS.isl 1 rfl)).old ((hS.isl 4 rfl)).old hr521) rfl ?_
          rintro _ w520 ⟨R520, rfl, hC520⟩
          have hB520 : Below (World.heap w512).size w512 w520 := hC520.stepBF
          refine ⟨fun _ => .of_below hB520, ?_⟩
          replace hT518 := hT518.trans (Below.mono hB520 hT518.size)
          replace hS := hS.below hB520
          cases hx518
          exact eseq_nil ⟨hT518, Sub.set rfl (Sub.set rfl (Sub.set rfl (Sub.bool true rfl hg518))), rfl⟩
        · intro hg518
          refine g_skip rfl rfl rfl ?_
          refine g_skip rfl rfl rfl ?_
          refine g_skip rfl rfl rfl ?_
          exact eseq_nil ⟨rfl, Sub.set rfl (Sub.set rfl (Sub.set rfl (Sub.bool false rfl hg518)))⟩
        intro wm518 hBm518; clear hx518
        replace hS := hS.below hBm518
        refine q_assign rfl rfl ?_
        refine eseq_nil ?_
        refine hK508 _ _ ?_
        refine e_ret ?_
        obtain rfl := Option.some.inj h
        exact ⟨_, res1 rfl rfl, _, rfl, (hS.pickB [] 6 rfl rfl)⟩
      refine e_loop (fun m_ E_ w399 => ∃ (x401 : (List Branch)), ∃ (x404 : (List Letter)), ∃ (x409 : (List Int)), ∃ (x410 : Int), ∃ (v400 : Value), ∃ (v403 : Value), ∃ (v408 : Value), ∃ (R398 : Nat → Prop), iter (fun s => law33_CascadeSettles_B1 fuel r312 a1 s.1 s.2.1 s.2.2.1 s.2.2.2) m_ (x401, x404, x409, x410) = some tl320 ∧ Sep F R R398 w w399 [HP.blk bl303 [v400, v403] 28, HP.own (Ty.slice evtTy) R398 45 v313 r312, HP.own Ty.int (fun _ => False) 3 v408 x409] ∧ IsSlice branchTy w399 R398 v400 x401 ∧ IsSlice letterTy w399 R398 v403 x404 ∧ E_ = [(1, .int .u8 a1), (5, .pointer (some ⟨bl303, 0, none⟩)), (8, v313), (9, v408), (10, .int .i64 x410)]) _ ⟨_, ⟨r298.1.branches, r298.1.flight, r316, 0, v299, v300, v317, _, ht320, (hS.pickB [2, 1, 0] 4 rfl rfl), f299, f300, rfl⟩, Sub.cons rfl (Sub.cons rfl (Sub.cons rfl (Sub.cons rfl (Sub.cons rfl (Sub.nil _)))))⟩ ?_
      clear ht320 hS
      rintro m320 _ w399 ⟨x401, x404, x409, x410, v400, v403, v408, R398, ht320, hS, f402, f405, rfl⟩
      obtain ⟨m320, rfl, o320, ho320, ht320⟩ := iter_some ht320
      replace ho320 : law33_CascadeSettles_B1 fuel r312 a1 x401 x404 x409 x410 = some o320 := ho320
      unfold law33_CascadeSettles_B1 at ho320
      refine e_seq fun K522 hK522 => ?_
      refine e_seq fun K523 hK523 => ?_
      refine e_region_text rfl ?_
      refine q_move rfl rfl ?_
      refine q_move rfl rfl ?_
      refine q_lenS rfl (hS.isl 1 rfl) rfl ?_
      refine q_lss rfl rfl rfl ?_
      refine eseq_nil ?_
      refine hK523 _ _ ?_
      refine e_cond rfl (fun hc524 => ?_) (fun hc524 => ?_)
      · replace ho320 := (if_pos hc524).symm.trans ho320
        refine e_skip ?_
        refine hK522 _ _ ?_
        refine e_seq fun K525 hK525 => ?_
        refine e_block ?_
        refine e_seq fun K526 hK526 => ?_
        refine e_seq fun K527 hK527 => ?_
        refine e_region_text rfl ?_
        refine q_move rfl rfl ?_
        refine q_move rfl rfl ?_
        obtain ⟨x528, hx528, ho320⟩ := Option.of_bind ho320
        refine q_shrK rfl rfl hx528 rfl ?_
        refine q_andK rfl rfl rfl ?_
        refine q_eql rfl rfl rfl ?_
        refine eseq_nil ?_
        refine hK527 _ _ ?_
        refine e_cond rfl (fun hc529 => ?_) (fun hc529 => ?_)
        · replace ho320 := (if_pos hc529).symm.trans ho320
          refine e_exit ?_
          refine hK525 _ _ ?_
          refine e_region_text rfl ?_
          refine q_move rfl rfl ?_
          refine q_addW rfl rfl rfl ?_
          refine q_assign rfl rfl ?_
          refine eseq_nil ?_
          obtain rfl := Option.some.inj ho320
          exact ⟨m320, _, Nat.lt_succ_self _, ⟨x401, x404, x409, (w64 (x410 + 1)), v400, v403, v408, _, ht320, hS, f402, f405, rfl⟩, Sub.cons rfl (Sub.cons rfl (Sub.cons rfl (Sub.cons rfl (Sub.cons rfl (Sub.nil _)))))⟩
        · replace ho320 := (if_neg (not_true hc529)).symm.trans ho320
          refine e_skip ?_
          refine hK526 _ _ ?_
          refine e_seq fun K530 hK530 => ?_
          refine e_seq fun K531 hK531 => ?_
          refine e_region_draw mixed (fun _ => False) [0, 1, 0, 7, 15, 31, 63, 127, 255, 511, 255, 2047, 4095, 8191, 255, 255, 49407, 114943, 246015, 524287, 1048575] [] [0, 1, 2, 3, 4, 5, 6, 7, 8, 9, 10, 11, 12, 13, 14, 15, 16, 17, 18, 19, 20] (by kernel_rfl) ?_
          refine q_field rfl rfl ?_
          refine q_load rfl (Blk.cell (hS.blk 0 rfl) rfl) rfl ?_
          refine q_move rfl rfl ?_
          obtain ⟨x532, hx532, ho320⟩ := Option.of_bind ho320
          refine q_atS (by infer_instance) rfl f402 rfl hx532 rfl fun b533 o533 hm533 f533 => ?_
          refine q_field rfl rfl ?_
          have f534 := Branch_F2 f533
          refine q_load rfl (Elt.intCell f534) rfl ?_
          refine q_lss rfl rfl rfl ?_
          refine q_move rfl rfl ?_
          obtain ⟨x544, hx543, ho320⟩ := Option.of_bind ho320
          refine g_orM 12 hx543 rfl trivial rfl rfl ?_ ?_ ?_
          · intro hg543
            refine g_skip rfl rfl rfl ?_
            refine g_skip rfl rfl rfl ?_
            refine g_skip rfl rfl rfl ?_
            refine g_skip rfl rfl rfl ?_
            refine g_skip rfl rfl rfl ?_
            refine g_skip rfl rfl rfl ?_
            refine g_skip rfl rfl rfl ?_
            refine g_skip rfl rfl rfl ?_
            refine g_skip rfl rfl rfl ?_
            refine g_skip rfl rfl rfl ?_
            refine g_skip rfl rfl rfl ?_
            refine g_skip rfl rfl rfl ?_
            exact eseq_nil ⟨rfl, Sub.set rfl (Sub.set rfl (Sub.set rfl (Sub.set rfl (Sub.set rfl (Sub.set rfl (Sub.set rfl (Sub.set rfl (Sub.set rfl (Sub.set rfl (Sub.set rfl (Sub.set rfl (Sub.bool true rfl hg543))))))))))))⟩
          · intro hg543 hx543
            clear ho320
            have hT543 := Below.refl (World.heap w399).size w399
            refine g_run rfl ?_; refine q_field rfl rfl ?_
            refine g_run rfl ?_; refine q_load rfl (Blk.cell (hS.blk 0 rfl) rfl) rfl ?_
            refine g_run rfl ?_; refine q_move rfl rfl ?_
            obtain ⟨x545, hx545, hx543⟩ := Option.of_bind hx543
            refine g_run rfl ?_; refine q_atS (by infer_instance) rfl f402 rfl hx545 rfl fun b546 o546 hm546 f546 => ?_
            refine g_run rfl ?_; refine q_field rfl rfl ?_
            have f547 := Branch_F2 f546
            refine g_run rfl ?_; refine q_load rfl (Elt.intCell f547) rfl ?_
            refine g_run rfl ?_; refine q_move rfl rfl ?_
            refine g_run rfl ?_; refine q_move rfl rfl ?_
            obtain ⟨x548, hx548, hx543⟩ := Option.of_bind hx543
            refine g_run rfl ?_; refine q_indexO (by infer_instance) rfl (hS.own 1 rfl) rfl hx548 rfl ?_
            have f549 := (hS.ownR 1 rfl).elt hx548
            refine g_run rfl ?_; refine q_loadE rfl f549 rfl (fun v550 f550 => ?_)
            refine g_run rfl ?_; refine q_lenS rfl f550 rfl ?_
            refine g_run rfl ?_; refine q_gtr rfl rfl rfl ?_
            cases hx543
            exact eseq_nil ⟨hT543, Sub.set rfl (Sub.set rfl (Sub.set rfl (Sub.set rfl (Sub.set rfl (Sub.set rfl (Sub.set rfl (Sub.set rfl (Sub.set rfl (Sub.set rfl (Sub.set rfl (Sub.set rfl (Sub.bool false rfl hg543)))))))))))), rfl⟩
          intro wm543 hBm543; clear hx543
          replace hS := hS.below hBm543
          replace f402 := f402.ext hBm543
          replace f405 := f405.ext hBm543
          refine eseq_nil ?_
          refine hK531 _ _ ?_
          refine e_cond rfl (fun hc551 => ?_) (fun hc551 => ?_)
          · replace ho320 := (if_pos hc551).symm.trans ho320
            refine e_seq fun K552 hK552 => ?_
            refine e_region_text rfl ?_
            refine q_assign rfl rfl ?_
            refine eseq_nil ?_
            refine hK552 _ _ ?_
            refine e_ret ?_
            obtain rfl := Option.some.inj ho320
            obtain rfl := Option.some.inj ht320
            obtain rfl := Option.some.inj h
            exact ⟨_, res1 rfl rfl, _, rfl, (hS.pickB [] 3 rfl rfl)⟩
          · replace ho320 := (if_neg (not_true hc551)).symm.trans ho320
            refine e_skip ?_
            refine hK530 _ _ ?_
            refine e_seq fun K553 hK553 => ?_
            refine e_region_text rfl ?_
            refine q_move rfl rfl ?_
            refine q_move rfl rfl ?_
            refine q_field rfl rfl ?_
            refine q_load rfl (Blk.cell (hS.blk 0 rfl) rfl) rfl ?_
            refine q_move rfl rfl ?_
            obtain ⟨x554, hx554, ho320⟩ := Option.of_bind ho320
            refine q_atS (by infer_instance) rfl f402 rfl hx554 rfl fun b555 o555 hm555 f555 => ?_
            refine q_field rfl rfl ?_
            have f556 := Branch_F2 f555
            refine q_load rfl (Elt.intCell f556) rfl ?_
            obtain ⟨x557, hx557, ho320⟩ := Option.of_bind ho320
            refine q_indexO (by infer_instance) rfl (hS.own 2 rfl) rfl hx557 rfl ?_
            obtain ⟨x559, hx559, ho320⟩ := Option.of_bind ho320
            refine q_storeO (T := Ty.int) (j := 0) rfl rfl (hS.own 2 rfl) hx557 hx559 rfl rfl rfl (Enc.setL rfl) fun w558 ho558 hO558 => ?_
            have hk558 := hS.keptO 2 rfl hx557 hO558
            replace f402 := f402.kept hk558
            replace f405 := f405.kept hk558
            replace hS := hS.putO 2 rfl hx557 ho558 hO558; simp only [List.set] at hS
            refine eseq_nil ?_
            refine hK553 _ _ ?_
            refine e_seq fun K560 hK560 => ?_
            refine e_region_text rfl ?_
            refine q_loadAgg rfl (Blk.cellsAt (hS.blk 0 rfl) 0 2 rfl) rfl rfl ?_
            refine q_move rfl rfl ?_
            refine q_build (Parts.cons rfl rfl (Parts.cons rfl rfl Parts.nil)) rfl rfl ?_
            obtain ⟨r562, hr562, ho320⟩ := Option.of_bind ho320
            refine q_call rfl (cascade_Step_w (a0 := (⟨x401, x404⟩ : Cascade)) (a1 := (⟨4, x410, 0⟩ : Shock)) (Sep.enter (As := []) hS) f402 f405 hr562) rfl ?_
            rintro _ w561 ⟨v563, v564, R561, rfl, hC561⟩
            have hB561 : Below (World.heap w558).size w558 w561 := hC561.stepB0
            refine ⟨fun _ => .of_below hB561, ?_⟩
            replace f402 := (f402.ext hB561).mono fun k hk _ => hC561.ro0 k hk
            replace f405 := (f405.ext hB561).mono fun k hk _ => hC561.ro0 k hk
            replace hS := Sep.leave (As := []) hS hC561; simp only [List.cons_append, List.nil_append] at hS
            refine q_move rfl rfl ?_
            refine q_extract rfl rfl rfl ?_
            refine q_extract rfl rfl rfl ?_
            refine q_allocB rfl fun w565 bl565 hg565 hb565 hB565 => ?_
            replace f402 := f402.ext hB565
            replace f405 := f405.ext hB565
            replace hS := hS.newBlk hB565 hg565 hb565
            refine q_storeAgg rfl rfl (hS.blk 0 rfl) rfl (Nat.le_of_ble_eq_true rfl) (all_cons (hS.own 1 rfl).one (all_cons (hS.own 2 rfl).one (all_nil))) rfl rfl fun w567 hb567 hO567 => ?_
            simp only [setN, List.set, List.take, List.drop] at hb567
            have hk567 := hS.keptBlk 0 rfl hO567
            replace f402 := f402.kept hk567
            replace f405 := f405.kept hk567
            replace hS := hS.setBlk 0 rfl hb567 hO567; simp only [List.set] at hS
            refine q_assign rfl rfl ?_
            refine eseq_nil ?_
            refine hK560 _ _ ?_
            refine e_seq fun K568 hK568 => ?_
            refine e_seq fun K569 hK569 => ?_
            refine e_region_text rfl ?_
            refine q_move rfl rfl ?_
            refine q_neq rfl rfl rfl ?_
            refine eseq_nil ?_
            refine hK569 _ _ ?_
            refine e_cond rfl (fun hc570 => ?_) (fun hc570 => ?_)
            · replace ho320 := (if_pos hc570).symm.trans ho320
              refine e_seq fun K571 hK571 => ?_
              refine e_region_text rfl ?_
              refine q_assign rfl rfl ?_
              refine eseq_nil ?_
              refine hK571 _ _ ?_
              refine e_ret ?_
              obtain rfl := Option.some.inj ho320
              obtain rfl := Option.some.inj ht320
              obtain rfl := Option.some.inj h
              exact ⟨_, res1 rfl rfl, _, rfl, (hS.pickB [] 6 rfl rfl)⟩
            · replace ho320 := (if_neg (not_true hc570)).symm.trans ho320
              refine e_skip ?_
              refine hK568 _ _ ?_
              refine e_region_text rfl ?_
              refine q_loadAgg rfl (Blk.cellsAt (hS.blk 0 rfl) 0 2 rfl) rfl rfl ?_
              refine q_storeAgg rfl rfl (hS.blk 3 rfl) rfl (Nat.le_of_ble_eq_true rfl) (all_cons (hS.own 1 rfl).one (all_cons (hS.own 2 rfl).one (all_nil))) rfl rfl fun w572 hb572 hO572 => ?_
              simp only [setN, List.set, List.take, List.drop] at hb572
              have hk572 := hS.keptBlk 3 rfl hO572
              replace hS := hS.setBlk 3 rfl hb572 hO572; simp only [List.set] at hS
              refine eseq_nil ?_
              refine hK525 _ _ ?_
              refine e_region_text rfl ?_
              refine q_move rfl rfl ?_
              refine q_addW rfl rfl rfl ?_
              refine q_assign rfl rfl ?_
              refine eseq_nil ?_
              obtain ⟨R573, hS, hm573, f573⟩ := hS.freezeOwn 1 rfl; simp only [List.eraseIdx] at hS
              obtain ⟨R574, hS, hm574, f574⟩ := hS.freezeOwn 1 rfl; simp only [List.eraseIdx] at hS
              replace f573 := f573.mono fun k hk _ => hm574 k hk
              replace hS := hS.ownMono 2 rfl; simp only [List.set] at hS
              obtain rfl := Option.some.inj ho320
              exact ⟨m320, _, Nat.lt_succ_self _, ⟨r562.1.branches, r562.1.flight, x559, (w64 (x410 + 1)), v563, v564, v408, _, ht320, (hS.pickB [1, 2, 3] 4 rfl rfl), f573, f574, rfl⟩, Sub.cons rfl (Sub.cons rfl (Sub.cons rfl (Sub.cons rfl (Sub.cons rfl (Sub.nil _)))))⟩
      · replace ho320 := (if_neg (not_true hc524)).symm.trans ho320
        refine e_exit ?_
        obtain rfl := Option.some.inj ho320
        obtain rfl := Option.some.inj ht320
        exact hX320_0 x401 x404 x409 v400 v403 v408 _ _ _ h hS f402 f405 (Sub.cons rfl (Sub.cons rfl (Sub.cons rfl (Sub.nil _))))
theorem law33_CascadeOrders_w {F R : Nat → Prop} {w : World} {fuel : Nat} {a0 : (List Int)} {a1 : Int} {a2 : (List Int)} {v1 : Value} {v2 : Value} {r : (Bool)} (hS : Sep F R R w w []) (f1 : IsSlice Ty.u8 w R v1 a0) (f2 : IsSlice Ty.u8 w R v2 a2) (h : law33_CascadeOrders fuel a0 a1 a2 = some r) :
    Gives Try.prog 6 [v1, .int .u8 a1, v2] w fun u w1 => ∃ (R1 : Nat → Prop), u = .bool r ∧ Sep F R R1 w w1 [] := by
  refine fn_of Try.func6 rfl Try.ntmps6 (Nat.le_of_ble_eq_true rfl) ?_
  unfold law33_CascadeOrders at h
  refine e_seq fun K426 hK426 => ?_
  refine e_region_text rfl ?_
  refine q_assign rfl rfl ?_
  refine eseq_nil ?_
  refine hK426 _ _ ?_
  refine e_seq fun K427 hK427 => ?_
  refine e_seq fun K428 hK428 => ?_
  refine e_region_text rfl ?_
  obtain ⟨r430, hr430, h⟩ := Option.of_bind h
  refine q_call rfl (law33_awake_w (Sep.enter (As := []) hS)  hr430) rfl ?_
  rintro _ w429 ⟨R429, rfl, hC429⟩
  have hB429 : Below (World.heap w).size w w429 := hC429.stepB0
  refine ⟨fun _ => .of_below hB429, ?_⟩
  replace f1 := (f1.ext hB429).mono fun k hk _ => hC429.ro0 k hk
  replace f2 := (f2.ext hB429).mono fun k hk _ => hC429.ro0 k hk
  replace hS := Sep.leave (As := []) hS hC429; simp only [List.cons_append, List.nil_append] at hS
  refine q_not rfl rfl ?_
  refine q_move rfl rfl ?_
  obtain ⟨x434, hx433, h⟩ := Option.of_bind h
  refine g_orM 3 hx433 rfl trivial rfl rfl ?_ ?_ ?_
  · intro hg433
    refine g_skip rfl rfl rfl ?_
    refine g_skip rfl rfl rfl ?_
    refine g_skip rfl rfl rfl ?_
    exact eseq_nil ⟨rfl, Sub.set rfl (Sub.set rfl (Sub.set rfl (Sub.bool true rfl hg433)))⟩
  · intro hg433 hx433
    clear h
    have hT433 := Below.refl (World.heap w429).size w429
    refine g_run rfl ?_; refine q_move rfl rfl ?_
    refine g_run rfl ?_; refine q_lenS rfl f2 rfl ?_
    refine g_run rfl ?_; refine q_gtr rfl rfl rfl ?_
    cases hx433
    exact eseq_nil ⟨hT433, Sub.set rfl (Sub.set rfl (Sub.set rfl (Sub.bool false rfl hg433))), rfl⟩
  intro wm433 hBm433; clear hx433
  replace hS := hS.below hBm433
  replace f1 := f1.ext hBm433
  replace f2 := f2.ext hBm433
  refine eseq_nil ?_
  refine hK428 _ _ ?_
  refine e_cond rfl (fun hc435 => ?_) (fun hc435 => ?_)
  · replace h := (if_pos hc435).symm.trans h
    refine e_seq fun K436 hK436 => ?_
    refine e_region_text rfl ?_
    refine q_move rfl rfl ?_
    refine q_lenS rfl f2 rfl ?_
    refine q_gtr rfl rfl rfl ?_
    refine q_assign rfl rfl ?_
    refine eseq_nil ?_
    refine hK436 _ _ ?_
    refine e_ret ?_
    obtain rfl := Option.some.inj h
    exact ⟨_, res1 rfl rfl, _, rfl, hS⟩
  · replace h := (if_neg (not_true hc435)).symm.trans h
    refine e_skip ?_
    refine hK427 _ _ ?_
    refine e_seq fun K437 hK437 => ?_
    refine e_region_text rfl ?_
    refine q_move rfl rfl ?_
    obtain ⟨r439, hr439, h⟩ := Option.of_bind h
    refine q_call rfl (law33_settled_w (Sep.enter (As := []) hS) f1 hr439) rfl ?_
    rintro _ w438 ⟨v440, v441, B442, v443, R438, rfl, hC438, f440, f441, f443⟩
    have hB438 : Below (World.heap wm433).size wm433 w438 := hC438.stepB0
    refine ⟨fun _ => .of_below hB438, ?_⟩
    replace f2 := (f2.ext hB438).mono fun k hk _ => hC438.ro0 k hk
    replace f1 := (f1.ext hB438).mono fun k hk _ => hC438.ro0 k hk
    replace hS := Sep.leave (As := []) hS hC438; simp only [List.cons_append, List.nil_append] at hS
    refine q_move rfl rfl ?_
    refine q_extract rfl rfl rfl ?_
    refine q_extract rfl rfl rfl ?_
    refine q_extract rfl rfl rfl ?_
    refine q_allocB rfl fun w444 bl444 hg444 hb444 hB444 => ?_
    replace f2 := f2.ext hB444
    replace f440 := f440.ext hB444
    replace f441 := f441.ext hB444
    replace f443 := f443.ext hB444
    replace hS := hS.newBlk hB444 hg444 hb444
    refine q_storeAgg rfl rfl (hS.blk 0 rfl) rfl (Nat.le_of_ble_eq_true rfl) (all_cons f440.one (all_cons f441.one (all_nil))) rfl rfl fun w446 hb446 hO446 => ?_
    simp only [setN, List.set, List.take, List.drop] at hb446
    have hk446 := hS.keptBlk 0 rfl hO446
    replace f2 := f2.kept hk446
    replace f440 := f440.kept hk446
    replace f441 := f441.kept hk446
    replace f443 := f443.kept hk446
    replace hS := hS.setBlk 0 rfl hb446 hO446; simp only [List.set] at hS
    refine q_assign rfl rfl ?_
    refine q_assign rfl rfl ?_
    refine eseq_nil ?_
    refine hK437 _ _ ?_
    refine e_seq fun K447 hK447 => ?_
    refine e_seq fun K448 hK448 => ?_
    refine e_region_text rfl ?_
    refine q_move rfl rfl ?_
    refine q_not rfl rfl ?_
    refine eseq_nil ?_
    refine hK448 _ _ ?_
    refine e_cond rfl (fun hc449 => ?_) (fun hc449 => ?_)
    · replace h := (if_pos hc449).symm.trans h
      refine e_seq fun K450 hK450 => ?_
      refine e_region_text rfl ?_
      refine q_assign rfl rfl ?_
      refine eseq_nil ?_
      refine hK450 _ _ ?_
      refine e_ret ?_
      obtain rfl := Option.some.inj h
      exact ⟨_, res1 rfl rfl, _, rfl, (hS.pickB [] 2 rfl rfl)⟩
    · replace h := (if_neg (not_true hc449)).symm.trans h
      refine e_skip ?_
      refine hK447 _ _ ?_
      refine e_seq fun K451 hK451 => ?_
      refine e_seq fun K452 hK452 => ?_
      refine e_region_text rfl ?_
      refine q_assign rfl rfl ?_
      refine eseq_nil ?_
      refine hK452 _ _ ?_
      refine e_block ?_
      obtain ⟨tl453, ht453, h⟩ := Option.of_bind h
      have hX453_0 : ∀ (x545 : (List Branch)) (x548 : (List Letter)) (v544 : Value) (v547 : Value) (R541 : Nat → Prop) (w542 : World) (E_ : Env), law33_CascadeOrders_K1 fuel a2 x545 x548 = some r → Sep F R R541 w w542 [HP.blk bl444 [v544, v547] 28] → IsSlice Ty.u8 w542 R541 v2 a2 → IsSlice branchTy w542 R541 v544 x545 → IsSlice letterTy w542 R541 v547 x548 → Sub [(2, v2), (7, .pointer (some ⟨bl444, 0, none⟩))] E_ → K451 E_ w542 := by
        intro x545 x548 v544 v547 R541 w542 E_ h hS f543 f546 f549 hsub
        refine hK451 _ _ (e_sub hsub ?_); clear hsub
        unfold law33_CascadeOrders_K1 at h
        refine e_seq fun K550 hK550 => ?_
        refine e_region_text rfl ?_
        refine q_loadAgg rfl (Blk.cellsAt (hS.blk 0 rfl) 0 2 rfl) rfl rfl ?_
        refine q_allocB rfl fun w551 bl551 hg551 hb551 hB551 => ?_
        replace f543 := f543.ext hB551
        replace f546 := f546.ext hB551
        replace f549 := f549.ext hB551
        replace hS := hS.newBlk hB551 hg551 hb551
        refine q_storeAgg rfl rfl (hS.blk 0 rfl) rfl (Nat.le_of_ble_eq_true rfl) (all_cons f546.one (all_cons f549.one (all_nil))) rfl rfl fun w553 hb553 hO553 => ?_
        simp only [setN, List.set, List.take, List.drop] at hb553
        have hk553 := hS.keptBlk 0 rfl hO553
        replace f543 := f543.kept hk553
        replace f546 := f546.kept hk553
        replace f549 := f549.kept hk553
        replace hS := hS.setBlk 0 rfl hb553 hO553; simp only [List.set] at hS
        refine eseq_nil ?_
        refine hK550 _ _ ?_
        refine e_seq fun K554 hK554 => ?_
        refine e_seq fun K555 hK555 => ?_
        refine e_region_text rfl ?_
        refine q_assign rfl rfl ?_
        refine eseq_nil ?_
        refine hK555 _ _ ?_
        refine e_block ?_
        obtain ⟨tl556, ht556, h⟩ := Option.of_bind h
        have hX556_2 : ∀ (x731 : (List Branch)) (x734 : (List Letter)) (v730 : Value) (v733 : Value) (R726 : Nat → Prop) (w727 : World) (E_ : Env), law33_CascadeOrders_K2 fuel x545 x548 x731 x734 = some r → Sep F R R726 w w727 [HP.blk bl444 [v544, v547] 28, HP.blk bl551 [v730, v733] 28] → IsSlice branchTy w727 R726 v544 x545 → IsSlice letterTy w727 R726 v547 x548 → IsSlice branchTy w727 R726 v730 x731 → IsSlice letterTy w727 R726 v733 x734 → Sub [(7, .pointer (some ⟨bl444, 0, none⟩)), (13, .pointer (some ⟨bl551, 0, none⟩))] E_ → K554 E_ w727 := by
          intro x731 x734 v730 v733 R726 w727 E_ h hS f728 f729 f732 f735 hsub
          refine hK554 _ _ (e_sub hsub ?_); clear hsub
          unfold law33_CascadeOrders_K2 at h
          refine e_seq fun K736 hK736 => ?_
          refine e_region_draw mixed (fun _ => False) [0, 1, 3, 0, 15, 31, 63, 127] [1, 2] [0, 3, 1, 2, 4, 5, 6, 7] (by kernel_rfl) ?_
          refine q_loadAgg rfl (Blk.cellsAt (hS.blk 0 rfl) 0 2 rfl) rfl rfl ?_
          refine q_loadAgg rfl (Blk.cellsAt (hS.blk 1 rfl) 0 2 rfl) rfl rfl ?_
          obtain ⟨r758, hr758, h⟩ := Option.of_bind h
          refine q_call rfl (cascade_Settle_w (a0 := (⟨x545, x548⟩ : Cascade)) (Sep.enter (As := []) hS) f728 f729 hr758) rfl ?_
          rintro _ w757 ⟨v759, v760, R757, rfl, hC757⟩
          have hB757 : Below (World.heap w727).size w727 w757 := hC757.stepB0
          refine ⟨fun _ => .of_below hB757, ?_⟩
          replace f728 := (f728.ext hB757).mono fun k hk _ => hC757.ro0 k hk
          replace f729 := (f729.ext hB757).mono fun k hk _ => hC757.ro0 k hk
          replace f732 := (f732.ext hB757).mono fun k hk _ => hC757.ro0 k hk
          replace f735 := (f735.ext hB757).mono fun k hk _ => hC757.ro0 k hk
          replace hS := Sep.leave (As := []) hS hC757; simp only [List.cons_append, List.nil_append] at hS
          obtain ⟨R762, hS, hm762, f762⟩ := hS.freezeOwn 0 rfl; simp only [List.eraseIdx] at hS
          replace f732 := f732.mono fun k hk _ => hm762 k hk
          replace f735 := f735.mono fun k hk _ => hm762 k hk
          obtain ⟨R763, hS, hm763, f763⟩ := hS.freezeOwn 0 rfl; simp only [List.eraseIdx] at hS
          replace f762 := f762.mono fun k hk _ => hm763 k hk
          replace f732 := f732.mono fun k hk _ => hm763 k hk
          replace f735 := f735.mono fun k hk _ => hm763 k hk
          obtain ⟨r764, hr764, h⟩ := Option.of_bind h
          refine q_call rfl (cascade_Lineages_w (a0 := r758) (Sep.enter (As := []) hS) f762 f763 hr764) rfl ?_
          rintro v765 w761 ⟨_, R761, rfl, hC761⟩
          have hB761 : Below (World.heap w757).size w757 w761 := hC761.stepB0
          refine ⟨fun _ => .of_below hB761, ?_⟩
          replace f762 := (f762.ext hB761).mono fun k hk _ => hC761.ro0 k hk
          replace f763 := (f763.ext hB761).mono fun k hk _ => hC761.ro0 k hk
          replace f732 := (f732.ext hB761).mono fun k hk _ => hC761.ro0 k hk
          replace f735 := (f735.ext hB761).mono fun k hk _ => hC761.ro0 k hk
          replace hS := Sep.leave (As := []) hS hC761; simp only [List.cons_append, List.nil_append] at hS
          obtain ⟨r767, hr767, h⟩ := Option.of_bind h
          refine q_call rfl (cascade_Settle_w (a0 := (⟨x731, x734⟩ : Cascade)) (Sep.enter (As := []) hS) f732 f735 hr767) rfl ?_
          rintro _ w766 ⟨v768, v769, R766, rfl, hC766⟩
          have hB766 : Below (World.heap w761).size w761 w766 := hC766.stepB0
          refine ⟨fun _ => .of_below hB766, ?_⟩
          replace f732 := (f732.ext hB766).mono fun k hk _ => hC766.ro0 k hk
          replace f735 := (f735.ext hB766).mono fun k hk _ => hC766.ro0 k hk
          replace hS := Sep.leave (As := []) hS hC766; simp only [List.cons_append, List.nil_append] at hS
          obtain ⟨R771, hS, hm771, f771⟩ := hS.freezeOwn 0 rfl; simp only [List.eraseIdx] at hS
          obtain ⟨R772, hS, hm772, f772⟩ := hS.freezeOwn 0 rfl; simp only [List.eraseIdx] at hS
          replace f771 := f771.mono fun k hk _ => hm772 k hk
          obtain ⟨r773, hr773, h⟩ := Option.of_bind h
          refine q_call rfl (cascade_Lineages_w (a0 := r767) (Sep.enter (As := []) hS) f771 f772 hr773) rfl ?_
          rintro v774 w770 ⟨_, R770, rfl, hC770⟩
          have hB770 : Below (World.heap w766).size w766 w770 := hC770.stepB0
          refine ⟨fun _ => .of_below hB770, ?_⟩
          replace f771 := (f771.ext hB770).mono fun k hk _ => hC770.ro0 k hk
          replace f772 := (f772.ext hB770).mono fun k hk _ => hC770.ro0 k hk
          replace hS := Sep.leave (As := []) hS hC770; simp only [List.cons_append, List.nil_append] at hS
          obtain ⟨r776, hr776, h⟩ := Option.of_bind h
          refine q_call rfl (ref32_SameLineages_w (Sep.all w770) ((hS.isl 1 rfl)).old ((hS.isl 0 rfl)).old hr776) rfl ?_
          rintro _ w775 ⟨R775, rfl, hC775⟩
          have hB775 : Below (World.heap w770).size w770 w775 := hC775.stepBF
          refine ⟨fun _ => .of_below hB775, ?_⟩
          replace hS := hS.below hB775
          refine q_assign rfl rfl ?_
          refine eseq_nil ?_
          refine hK736 _ _ ?_
          refine e_ret ?_
          obtain rfl := Option.some.inj h
          exact ⟨_, res1 rfl rfl, _, rfl, (hS.pickB [] 4 rfl rfl)⟩
        refine e_loop (fun m_ E_ w640 => ∃ (x645 : (List Branch)), ∃ (x648 : (List Letter)), ∃ (x650 : Int), ∃ (v644 : Value), ∃ (v647 : Value), ∃ (R639 : Nat → Prop), iter (fun s => law33_CascadeOrders_B1 fuel a2 s.1 s.2.1 s.2.2) m_ (x645, x648, x650) = some tl556 ∧ Sep F R R639 w w640 [HP.blk bl444 [v544, v547] 28, HP.blk bl551 [v644, v647] 28] ∧ IsSlice Ty.u8 w640 R639 v2 a2 ∧ IsSlice branchTy w640 R639 v544 x545 ∧ IsSlice letterTy w640 R639 v547 x548 ∧ IsSlice branchTy w640 R639 v644 x645 ∧ IsSlice letterTy w640 R639 v647 x648 ∧ E_ = [(2, v2), (7, .pointer (some ⟨bl444, 0, none⟩)), (13, .pointer (some ⟨bl551, 0, none⟩)), (14, .int .i64 x650)]) _ ⟨_, ⟨x545, x548, 0, v544, v547, _, ht556, (hS.pickB [1, 0] 2 rfl rfl), f543, f546, f549, f546, f549, rfl⟩, Sub.cons rfl (Sub.cons rfl (Sub.cons rfl (Sub.cons rfl (Sub.nil _))))⟩ ?_
        clear ht556 hS
        rintro m556 _ w640 ⟨x645, x648, x650, v644, v647, R639, ht556, hS, f641, f642, f643, f646, f649, rfl⟩
        obtain ⟨m556, rfl, o556, ho556, ht556⟩ := iter_some ht556
        replace ho556 : law33_CascadeOrders_B1 fuel a2 x645 x648 x650 = some o556 := ho556
        unfold law33_CascadeOrders_B1 at ho556
        refine e_seq fun K777 hK777 => ?_
        refine e_seq fun K778 hK778 => ?_
        refine e_region_text rfl ?_
        refine q_move rfl rfl ?_
        refine q_move rfl rfl ?_
        refine q_lenS rfl f641 rfl ?_
        refine q_lss rfl rfl rfl ?_
        refine eseq_nil ?_
        refine hK778 _ _ ?_
        refine e_cond rfl (fun hc779 => ?_) (fun hc779 => ?_)
        · replace ho556 := (if_pos hc779).symm.trans ho556
          refine e_skip ?_
          refine hK777 _ _ ?_
          refine e_seq fun K780 hK780 => ?_
          refine e_block ?_
          refine e_seq fun K781 hK781 => ?_
          refine e_region_text rfl ?_
          refine q_assign rfl rfl ?_
          refine eseq_nil ?_
          refine hK781 _ _ ?_
          refine e_seq fun K782 hK782 => ?_
          have hJ782 : ∀ (x795 : Int) (R788 : Nat → Prop) (w789 : World) (E_ : Env), law33_CascadeOrders_J1 fuel x648 x645 x650 x795 = some o556 → Sep F R R788 w w789 [HP.blk bl444 [v544, v547] 28, HP.blk bl551 [v644, v647] 28] → IsSlice Ty.u8 w789 R788 v2 a2 → IsSlice branchTy w789 R788 v544 x545 → IsSlice letterTy w789 R788 v547 x548 → IsSlice branchTy w789 R788 v644 x645 → IsSlice letterTy w789 R788 v647 x648 → Sub [(2, v2), (7, .pointer (some ⟨bl444, 0, none⟩)), (13, .pointer (some ⟨bl551, 0, none⟩)), (14, .int .i64 x650), (15, .int .i64 x795)] E_ → K782 E_ w789 := by
            intro x795 R788 w789 E_ ho556 hS f790 f791 f792 f793 f794 hsub
            refine hK782 _ _ (e_sub hsub ?_); clear hsub
            unfold law33_CascadeOrders_J1 at ho556
            refine e_seq fun K796 hK796 => ?_
            refine e_region_text rfl ?_
            refine q_move rfl rfl ?_
            refine q_field rfl rfl ?_
            refine q_load rfl (Blk.cell (hS.blk 1 rfl) rfl) rfl ?_
            refine q_lenS rfl f794 rfl ?_
            refine q_lss rfl rfl rfl ?_
            refine q_move rfl rfl ?_
            obtain ⟨x803, hx802, ho556⟩ := Option.of_bind ho556
            refine g_andM 6 hx802 rfl trivial rfl rfl ?_ ?_ ?_
            · intro hg802 hx802
              clear ho556
              have hT802 := Below.refl (World.heap w789).size w789
              refine g_run rfl ?_; refine q_field rfl rfl ?_
              refine g_run rfl ?_; refine q_load rfl (Blk.cell (hS.blk 1 rfl) rfl) rfl ?_
              refine g_run rfl ?_; refine q_move rfl rfl ?_
              obtain ⟨x804, hx804, hx802⟩ := Option.of_bind hx802
              refine g_run rfl ?_; refine q_atS (by infer_instance) rfl f794 rfl hx804 rfl fun b805 o805 hm805 f805 => ?_
              refine g_run rfl ?_; refine q_field rfl rfl ?_
              have f806 := Letter_F2 f805
              refine g_run rfl ?_; refine q_load rfl (Elt.boolCell f806) rfl ?_
              cases hx802
              exact eseq_nil ⟨hT802, Sub.set rfl (Sub.set rfl (Sub.set rfl (Sub.set rfl (Sub.set rfl (Sub.set rfl (Sub.bool true rfl hg802)))))), rfl⟩
            · intro hg802
              refine g_skip rfl rfl rfl ?_
              refine g_skip rfl rfl rfl ?_
              refine g_skip rfl rfl rfl ?_
              refine g_skip rfl rfl rfl ?_
              refine g_skip rfl rfl rfl ?_
              refine g_skip rfl rfl rfl ?_
              exact eseq_nil ⟨rfl, Sub.set rfl (Sub.set rfl (Sub.set rfl (Sub.set rfl (Sub.set rfl (Sub.set rfl (Sub.bool false rfl hg802))))))⟩
            intro wm802 hBm802; clear hx802
            replace hS := hS.below hBm802
            replace f790 := f790.ext hBm802
            replace f791 := f791.ext hBm802
            replace f792 := f792.ext hBm802
            replace f793 := f793.ext hBm802
            replace f794 := f794.ext hBm802
            refine eseq_nil ?_
            refine hK796 _ _ ?_
            refine e_cond rfl (fun hc807 => ?_) (fun hc807 => ?_)
            · replace ho556 := (if_pos hc807).symm.trans ho556
              refine e_seq fun K808 hK808 => ?_
              refine e_region_text rfl ?_
              refine q_loadAgg rfl (Blk.cellsAt (hS.blk 1 rfl) 0 2 rfl) rfl rfl ?_
              refine q_move rfl rfl ?_
              refine q_build (Parts.cons rfl rfl (Parts.cons rfl rfl Parts.nil)) rfl rfl ?_
              obtain ⟨r810, hr810, ho556⟩ := Option.of_bind ho556
              refine q_call rfl (cascade_Step_w (a0 := (⟨x645, x648⟩ : Cascade)) (a1 := (⟨2, 0, x795⟩ : Shock)) (Sep.enter (As := []) hS) f793 f794 hr810) rfl ?_
              rintro _ w809 ⟨v811, v812, R809, rfl, hC809⟩
              have hB809 : Below (World.heap wm802).size wm802 w809 := hC809.stepB0
              refine ⟨fun _ => .of_below hB809, ?_⟩
              replace f790 := (f790.ext hB809).mono fun k hk _ => hC809.ro0 k hk
              replace f791 := (f791.ext hB809).mono fun k hk _ => hC809.ro0 k hk
              replace f792 := (f792.ext hB809).mono fun k hk _ => hC809.ro0 k hk
              replace f793 := (f793.ext hB809).mono fun k hk _ => hC809.ro0 k hk
              replace f794 := (f794.ext hB809).mono fun k hk _ => hC809.ro0 k hk
              replace hS := Sep.leave (As := []) hS hC809; simp only [List.cons_append, List.nil_append] at hS
              refine q_move rfl rfl ?_
              refine q_extract rfl rfl rfl ?_
              refine q_extract rfl rfl rfl ?_
              refine q_allocB rfl fun w813 bl813 hg813 hb813 hB813 => ?_
              replace f790 := f790.ext hB813
              replace f791 := f791.ext hB813
              replace f792 := f792.ext hB813
              replace f793 := f793.ext hB813
              replace f794 := f794.ext hB813
              replace hS := hS.newBlk hB813 hg813 hb813
              refine q_storeAgg rfl rfl (hS.blk 0 rfl) rfl (Nat.le_of_ble_eq_true rfl) (all_cons (hS.own 1 rfl).one (all_cons (hS.own 2 rfl).one (all_nil))) rfl rfl fun w815 hb815 hO815 => ?_
              simp only [setN, List.set, List.take, List.drop] at hb815
              have hk815 := hS.keptBlk 0 rfl hO815
              replace f790 := f790.kept hk815
              replace f791 := f791.kept hk815
              replace f792 := f792.kept hk815
              replace f793 := f793.kept hk815
              replace f794 := f794.kept hk815
              replace hS := hS.setBlk 0 rfl hb815 hO815; simp only [List.set] at hS
              refine q_assign rfl rfl ?_
              refine eseq_nil ?_
              refine hK808 _ _ ?_
              refine e_seq fun K816 hK816 => ?_
              refine e_region_text rfl ?_
              refine q_move rfl rfl ?_
              refine q_eql rfl rfl rfl ?_
              refine eseq_nil ?_
              refine hK816 _ _ ?_
              refine e_cond rfl (fun hc817 => ?_) (fun hc817 => ?_)
              · replace ho556 := (if_pos hc817).symm.trans ho556
                refine e_region_text rfl ?_
                refine q_loadAgg rfl (Blk.cellsAt (hS.blk 0 rfl) 0 2 rfl) rfl rfl ?_
                refine q_storeAgg rfl rfl (hS.blk 4 rfl) rfl (Nat.le_of_ble_eq_true rfl) (all_cons (hS.own 1 rfl).one (all_cons (hS.own 2 rfl).one (all_nil))) rfl rfl fun w818 hb818 hO818 => ?_
                simp only [setN, List.set, List.take, List.drop] at hb818
                have hk818 := hS.keptBlk 4 rfl hO818
                replace f790 := f790.kept hk818
                replace f791 := f791.kept hk818
                replace f792 := f792.kept hk818
                replace hS := hS.setBlk 4 rfl hb818 hO818; simp only [List.set] at hS
                refine eseq_nil ?_
                refine hK780 _ _ ?_
                refine e_region_text rfl ?_
                refine q_move rfl rfl ?_
                refine q_addW rfl rfl rfl ?_
                refine q_assign rfl rfl ?_
                refine eseq_nil ?_
                obtain ⟨R819, hS, hm819, f819⟩ := hS.freezeOwn 1 rfl; simp only [List.eraseIdx] at hS
                replace f790 := f790.mono fun k hk _ => hm819 k hk
                replace f791 := f791.mono fun k hk _ => hm819 k hk
                replace f792 := f792.mono fun k hk _ => hm819 k hk
                obtain ⟨R820, hS, hm820, f820⟩ := hS.freezeOwn 1 rfl; simp only [List.eraseIdx] at hS
                replace f790 := f790.mono fun k hk _ => hm820 k hk
                replace f791 := f791.mono fun k hk _ => hm820 k hk
                replace f792 := f792.mono fun k hk _ => hm820 k hk
                replace f819 := f819.mono fun k hk _ => hm820 k hk
                obtain rfl := Option.some.inj ho556
                exact ⟨m556, _, Nat.lt_succ_self _, ⟨r810.1.branches, r810.1.flight, (w64 (x650 + 1)), v811, v812, _, ht556, (hS.pickB [1, 2] 3 rfl rfl), f790, f791, f792, f819, f820, rfl⟩, Sub.cons rfl (Sub.cons rfl (Sub.cons rfl (Sub.cons rfl (Sub.nil _))))⟩
              · replace ho556 := (if_neg (not_true hc817)).symm.trans ho556
                refine e_skip ?_
                refine hK780 _ _ ?_
                refine e_region_text rfl ?_
                refine q_move rfl rfl ?_
                refine q_addW rfl rfl rfl ?_
                refine q_assign rfl rfl ?_
                refine eseq_nil ?_
                obtain rfl := Option.some.inj ho556
                exact ⟨m556, _, Nat.lt_succ_self _, ⟨x645, x648, (w64 (x650 + 1)), v644, v647, _, ht556, (hS.pickB [3, 4] 5 rfl rfl), f790, f791, f792, f793, f794, rfl⟩, Sub.cons rfl (Sub.cons rfl (Sub.cons rfl (Sub.cons rfl (Sub.nil _))))⟩
            · replace ho556 := (if_neg (not_true hc807)).symm.trans ho556
              refine e_skip ?_
              refine hK780 _ _ ?_
              refine e_region_text rfl ?_
              refine q_move rfl rfl ?_
              refine q_addW rfl rfl rfl ?_
              refine q_assign rfl rfl ?_
              refine eseq_nil ?_
              obtain rfl := Option.some.inj ho556
              exact ⟨m556, _, Nat.lt_succ_self _, ⟨x645, x648, (w64 (x650 + 1)), v644, v647, _, ht556, hS, f790, f791, f792, f793, f794, rfl⟩, Sub.cons rfl (Sub.cons rfl (Sub.cons rfl (Sub.cons rfl (Sub.nil _))))⟩
          refine e_seq fun K821 hK821 => ?_
          refine e_region_text rfl ?_
          refine q_field rfl rfl ?_
          refine q_load rfl (Blk.cell (hS.blk 1 rfl) rfl) rfl ?_
          refine q_lenS rfl f649 rfl ?_
          refine q_gtr rfl rfl rfl ?_
          refine eseq_nil ?_
          refine hK821 _ _ ?_
          refine e_cond rfl (fun hc822 => ?_) (fun hc822 => ?_)
          · replace ho556 := (if_pos hc822).symm.trans ho556
            refine e_region_draw mixed (fun _ => False) [0, 0, 3, 7, 15, 0, 32, 96, 255, 511] [] [0, 1, 2, 3, 4, 5, 6, 7, 8, 9] (by kernel_rfl) ?_
            refine q_move rfl rfl ?_
            refine q_move rfl rfl ?_
            obtain ⟨x823, hx823, ho556⟩ := Option.of_bind ho556
            refine q_atS (by infer_instance) rfl f641 rfl hx823 rfl fun b824 o824 hm824 f824 => ?_
            refine q_load rfl (Elt.u8Cell f824) rfl ?_
            refine q_conv64 rfl rfl ?_
            refine q_field rfl rfl ?_
            refine q_load rfl (Blk.cell (hS.blk 1 rfl) rfl) rfl ?_
            refine q_lenS rfl f649 rfl ?_
            obtain ⟨x825, hx825, ho556⟩ := Option.of_bind ho556
            refine q_remM rfl rfl hx825 rfl ?_
            refine q_assign rfl rfl ?_
            refine eseq_nil ?_
            exact hJ782 x825 _ _ _ ho556 hS f641 f642 f643 f646 f649 (Sub.cons rfl (Sub.cons rfl (Sub.cons rfl (Sub.cons rfl (Sub.cons rfl (Sub.nil _))))))
          · replace ho556 := (if_neg (not_true hc822)).symm.trans ho556
            refine e_skip ?_
            exact hJ782 0 _ _ _ ho556 hS f641 f642 f643 f646 f649 (Sub.cons rfl (Sub.cons rfl (Sub.cons rfl (Sub.cons rfl (Sub.cons rfl (Sub.nil _))))))
        · replace ho556 := (if_neg (not_true hc779)).symm.trans ho556
          refine e_exit ?_
          obtain rfl := Option.some.inj ho556
          obtain rfl := Option.some.inj ht556
          exact hX556_2 x645 x648 v644 v647 _ _ _ h hS f642 f643 f646 f649 (Sub.cons rfl (Sub.cons rfl (Sub.nil _)))
      refine e_loop (fun m_ E_ w496 => ∃ (x499 : (List Branch)), ∃ (x502 : (List Letter)), ∃ (x504 : Int), ∃ (v498 : Value), ∃ (v501 : Value), ∃ (R495 : Nat → Prop), iter (fun s => law33_CascadeOrders_B2 fuel a1 s.1 s.2.1 s.2.2) m_ (x499, x502, x504) = some tl453 ∧ Sep F R R495 w w496 [HP.blk bl444 [v498, v501] 28] ∧ IsSlice Ty.u8 w496 R495 v2 a2 ∧ IsSlice branchTy w496 R495 v498 x499 ∧ IsSlice letterTy w496 R495 v501 x502 ∧ E_ = [(1, .int .u8 a1), (2, v2), (7, .pointer (some ⟨bl444, 0, none⟩)), (10, .int .i64 x504)]) _ ⟨_, ⟨r439.1.branches, r439.1.flight, 0, v440, v441, _, ht453, (hS.pickB [0] 2 rfl rfl), f2, f440, f441, rfl⟩, Sub.cons rfl (Sub.cons rfl (Sub.cons rfl (Sub.cons rfl (Sub.nil _))))⟩ ?_
      clear ht453 hS
      rintro m453 _ w496 ⟨x499, x502, x504, v498, v501, R495, ht453, hS, f497, f500, f503, rfl⟩
      obtain ⟨m453, rfl, o453, ho453, ht453⟩ := iter_some ht453
      replace ho453 : law33_CascadeOrders_B2 fuel a1 x499 x502 x504 = some o453 := ho453
      unfold law33_CascadeOrders_B2 at ho453
      refine e_seq fun K826 hK826 => ?_
      refine e_seq fun K827 hK827 => ?_
      refine e_region_text rfl ?_
      refine q_move rfl rfl ?_
      refine q_field rfl rfl ?_
      refine q_load rfl (Blk.cell (hS.blk 0 rfl) rfl) rfl ?_
      refine q_lenS rfl f500 rfl ?_
      refine q_lss rfl rfl rfl ?_
      refine eseq_nil ?_
      refine hK827 _ _ ?_
      refine e_cond rfl (fun hc828 => ?_) (fun hc828 => ?_)
      · replace ho453 := (if_pos hc828).symm.trans ho453
        refine e_skip ?_
        refine hK826 _ _ ?_
        refine e_seq fun K829 hK829 => ?_
        refine e_block ?_
        refine e_seq fun K830 hK830 => ?_
        refine e_region_text rfl ?_
        refine q_loadAgg rfl (Blk.cellsAt (hS.blk 0 rfl) 0 2 rfl) rfl rfl ?_
        refine q_move rfl rfl ?_
        refine q_build (Parts.cons rfl rfl (Parts.cons rfl rfl Parts.nil)) rfl rfl ?_
        obtain ⟨r832, hr832, ho453⟩ := Option.of_bind ho453
        refine q_call rfl (cascade_Step_w (a0 := (⟨x499, x502⟩ : Cascade)) (a1 := (⟨4, x504, 0⟩ : Shock)) (Sep.enter (As := []) hS) f500 f503 hr832) rfl ?_
        rintro _ w831 ⟨v833, v834, R831, rfl, hC831⟩
        have hB831 : Below (World.heap w496).size w496 w831 := hC831.stepB0
        refine ⟨fun _ => .of_below hB831, ?_⟩
        replace f497 := (f497.ext hB831).mono fun k hk _ => hC831.ro0 k hk
        replace f500 := (f500.ext hB831).mono fun k hk _ => hC831.ro0 k hk
        replace f503 := (f503.ext hB831).mono fun k hk _ => hC831.ro0 k hk
        replace hS := Sep.leave (As := []) hS hC831; simp only [List.cons_append, List.nil_append] at hS
        refine q_move rfl rfl ?_
        refine q_extract rfl rfl rfl ?_
        refine q_extract rfl rfl rfl ?_
        refine q_allocB rfl fun w835 bl835 hg835 hb835 hB835 => ?_
        replace f497 := f497.ext hB835
        replace f500 := f500.ext hB835
        replace f503 := f503.ext hB835
        replace hS := hS.newBlk hB835 hg835 hb835
        refine q_storeAgg rfl rfl (hS.blk 0 rfl) rfl (Nat.le_of_ble_eq_true rfl) (all_cons (hS.own 1 rfl).one (all_cons (hS.own 2 rfl).one (all_nil))) rfl rfl fun w837 hb837 hO837 => ?_
        simp only [setN, List.set, List.take, List.drop] at hb837
        have hk837 := hS.keptBlk 0 rfl hO837
        replace f497 := f497.kept hk837
        replace f500 := f500.kept hk837
        replace f503 := f503.kept hk837
        replace hS := hS.setBlk 0 rfl hb837 hO837; simp only [List.set] at hS
        refine q_assign rfl rfl ?_
        refine eseq_nil ?_
        refine hK830 _ _ ?_
        refine e_seq fun K838 hK838 => ?_
        refine e_region_text rfl ?_
        refine q_move rfl rfl ?_
        refine q_move rfl rfl ?_
        obtain ⟨x839, hx839, ho453⟩ := Option.of_bind ho453
        refine q_shrK rfl rfl hx839 rfl ?_
        refine q_andK rfl rfl rfl ?_
        refine q_eql rfl rfl rfl ?_
        refine q_move rfl rfl ?_
        obtain ⟨x843, hx842, ho453⟩ := Option.of_bind ho453
        refine g_andM 2 hx842 rfl trivial rfl rfl ?_ ?_ ?_
        · intro hg842 hx842
          clear ho453
          have hT842 := Below.refl (World.heap w837).size w837
          refine g_run rfl ?_; refine q_move rfl rfl ?_
          refine g_run rfl ?_; refine q_eql rfl rfl rfl ?_
          cases hx842
          exact eseq_nil ⟨hT842, Sub.set rfl (Sub.set rfl (Sub.bool true rfl hg842)), rfl⟩
        · intro hg842
          refine g_skip rfl rfl rfl ?_
          refine g_skip rfl rfl rfl ?_
          exact eseq_nil ⟨rfl, Sub.set rfl (Sub.set rfl (Sub.bool false rfl hg842))⟩
        intro wm842 hBm842; clear hx842
        replace hS := hS.below hBm842
        replace f497 := f497.ext hBm842
        replace f500 := f500.ext hBm842
        replace f503 := f503.ext hBm842
        refine eseq_nil ?_
        refine hK838 _ _ ?_
        refine e_cond rfl (fun hc844 => ?_) (fun hc844 => ?_)
        · replace ho453 := (if_pos hc844).symm.trans ho453
          refine e_region_text rfl ?_
          refine q_loadAgg rfl (Blk.cellsAt (hS.blk 0 rfl) 0 2 rfl) rfl rfl ?_
          refine q_storeAgg rfl rfl (hS.blk 3 rfl) rfl (Nat.le_of_ble_eq_true rfl) (all_cons (hS.own 1 rfl).one (all_cons (hS.own 2 rfl).one (all_nil))) rfl rfl fun w845 hb845 hO845 => ?_
          simp only [setN, List.set, List.take, List.drop] at hb845
          have hk845 := hS.keptBlk 3 rfl hO845
          replace f497 := f497.kept hk845
          replace hS := hS.setBlk 3 rfl hb845 hO845; simp only [List.set] at hS
          refine eseq_nil ?_
          refine hK829 _ _ ?_
          refine e_region_text rfl ?_
          refine q_move rfl rfl ?_
          refine q_addW rfl rfl rfl ?_
          refine q_assign rfl rfl ?_
          refine eseq_nil ?_
          obtain ⟨R846, hS, hm846, f846⟩ := hS.freezeOwn 1 rfl; simp only [List.eraseIdx] at hS
          replace f497 := f497.mono fun k hk _ => hm846 k hk
          obtain ⟨R847, hS, hm847, f847⟩ := hS.freezeOwn 1 rfl; simp only [List.eraseIdx] at hS
          replace f497 := f497.mono fun k hk _ => hm847 k hk
          replace f846 := f846.mono fun k hk _ => hm847 k hk
          obtain rfl := Option.some.inj ho453
          exact ⟨m453, _, Nat.lt_succ_self _, ⟨r832.1.branches, r832.1.flight, (w64 (x504 + 1)), v833, v834, _, ht453, (hS.pickB [1] 2 rfl rfl), f497, f846, f847, rfl⟩, Sub.cons rfl (Sub.cons rfl (Sub.cons rfl (Sub.cons rfl (Sub.nil _))))⟩
        · replace ho453 := (if_neg (not_true hc844)).symm.trans ho453
          refine e_skip ?_
          refine hK829 _ _ ?_
          refine e_region_text rfl ?_
          refine q_move rfl rfl ?_
          refine q_addW rfl rfl rfl ?_
          refine q_assign rfl rfl ?_
          refine eseq_nil ?_
          obtain rfl := Option.some.inj ho453
          exact ⟨m453, _, Nat.lt_succ_self _, ⟨x499, x502, (w64 (x504 + 1)), v498, v501, _, ht453, (hS.pickB [3] 4 rfl rfl), f497, f500, f503, rfl⟩, Sub.cons rfl (Sub.cons rfl (Sub.cons rfl (Sub.cons rfl (Sub.nil _))))⟩
      · replace ho453 := (if_neg (not_true hc828)).symm.trans ho453
        refine e_exit ?_
        obtain rfl := Option.some.inj ho453
        obtain rfl := Option.some.inj ht453
        exact hX453_0 x499 x502 v498 v501 _ _ _ h hS f497 f500 f503 (Sub.cons rfl (Sub.cons rfl (Sub.nil _)))
end Go.Proofs.Ytddohdppmejjoaa
