/- Printed walks: A32f. -/
import Derived.Test.YtbmjcbhappjnaaaA32m
import Derived.Test.YtbmjcbhappjnaaaA31d
set_option linter.unusedVariables false
set_option linter.unusedSimpArgs false
namespace Go.Mine
open Go.RowKit
def law32_OrphanFinds_K1 (fuel : Nat) : Option (Bool) :=
  some true
def law32_OrphanFinds_K2 (fuel : Nat) (x767 : Int) : Option ((Int) ⊕ (Unit ⊕ (Bool))) :=
  some (Sum.inl (w64 (x767 + 1)))
def law32_OrphanFinds_B2 (fuel : Nat) (r540 : ((List (List Evt)) × Pat × Int)) (x767 : Int) (r593 : ((List (List (List Lab))) × Bool)) (r598 : ((List Int))) (r586 : ((List EndI))) (x971 : Int) : Option ((Int) ⊕ (Unit ⊕ (Bool))) :=
  (ati r540.1 x767).bind fun x1015 => (if (decide (x971 ≤ (x1015.length : Int))) = true then (ati r593.1 x767).bind fun x1029 => (ati x1029 x971).bind fun x1030 => (ati r598 x767).bind fun x1033 => (orphan_Orphan fuel r586 x1030).bind fun r1036 => (if (r1036 != (decide (x1033 < x971))) = true then some (Sum.inr (Sum.inr false)) else some (Sum.inl (w64 (x971 + 1)))) else some (Sum.inr (Sum.inl ())))
def law32_OrphanFinds_B1 (fuel : Nat) (r540 : ((List (List Evt)) × Pat × Int)) (r593 : ((List (List (List Lab))) × Bool)) (r598 : ((List Int))) (r586 : ((List EndI))) (x767 : Int) : Option ((Int) ⊕ (Unit ⊕ (Bool))) :=
  (if (decide (x767 < (r540.1.length : Int))) = true then (ati r593.1 x767).bind fun x915 => (ati r540.1 x767).bind fun x916 => (if ((x915.length : Int) != (w64 ((x916.length : Int) + 1))) = true then some (Sum.inr (Sum.inr false)) else (iter (fun s => law32_OrphanFinds_B2 fuel r540 x767 r593 r598 r586 s) fuel 0).bind (fun t => Sum.elim (fun t => law32_OrphanFinds_K2 fuel x767) (fun t => some (Sum.inr (Sum.inr t))) t)) else some (Sum.inr (Sum.inl ())))
def law32_OrphanFinds_J1 (fuel : Nat) (x563 : (List Int)) (r551 : (Int × Int)) (r540 : ((List (List Evt)) × Pat × Int)) (x581 : Int) : Option (Bool) :=
  (ati x563 r551.1).bind fun x583 => (incarnation_Add fuel ([] : List EndI) (⟨r551.1, x581, x583⟩ : EndI)).bind fun r586 => (Track fuel r540.1).bind fun r593 => (orphan_Lower fuel r540.1 x563).bind fun r598 => (orM (!r593.2) (some ((r593.1.length : Int) != (r540.1.length : Int)))).bind fun x605 => (orM x605 (some ((r598.length : Int) != (r540.1.length : Int)))).bind fun x609 => (if x609 = true then some false else (iter (fun s => law32_OrphanFinds_B1 fuel r540 r593 r598 r586 s) fuel 0).bind (fun t => Sum.elim (fun t => law32_OrphanFinds_K1 fuel) (fun t => some t) t))
def law32_OrphanFinds (fuel : Nat) (a0 : (List Int)) : Option (Bool) :=
  (law32_awake fuel).bind fun r530 => (if (!r530) = true then some false else (make_New fuel a0 200).bind fun r535 => (make_Codes_Lineages fuel 30 r535.1 r535.2).bind fun r540 => (make_Codes_Next fuel (r540.1.length : Int) r535.1 r540.2.2).bind fun r551 => (catL ([] : List Int) r540.2.1.lens).bind fun x555 => (ati r540.2.1.lens r551.1).bind fun x557 => (make_Codes_Next fuel (w64 (x557 + 1)) r535.1 r551.2).bind fun r560 => (ati x555 r551.1).bind fun x561 => (seti x555 r551.1 r560.1).bind fun x563 => (ati r540.2.1.lens r551.1).bind fun x1040 => (if (decide (0 < x1040)) = true then (ati r540.1 r551.1).bind fun x1043 => (ati r540.2.1.lens r551.1).bind fun x1044 => (ati x1043 (w64 (x1044 - 1))).bind fun x1046 => law32_OrphanFinds_J1 fuel x563 r551 r540 x1046.inc else law32_OrphanFinds_J1 fuel x563 r551 r540 0))
end Go.Mine
namespace Go.Proofs.Ytbmjcbhappjnaaa
open Go.RowKit Go.Mine
attribute [local irreducible] eseq ewp iter
theorem law32_OrphanFinds_w {F R : Nat → Prop} {w : World} {fuel : Nat} {a0 : (List Int)} {v1 : Value} {r : (Bool)} (hS : Sep F R R w w []) (f1 : IsSlice Ty.u8 w R v1 a0) (h : law32_OrphanFinds fuel a0 = some r) :
    Gives Try.prog 8 [v1] w fun u w1 => ∃ (R1 : Nat → Prop), u = .bool r ∧ Sep F R R1 w w1 [] := by
  refine fn_of Try.func8 rfl Try.ntmps8 (Nat.le_of_ble_eq_true rfl) ?_
  unfold law32_OrphanFinds at h
  refine e_seq fun K526 hK526 => ?_
  refine e_region_text rfl ?_
  refine q_assign rfl rfl ?_
  refine eseq_nil ?_
  refine hK526 _ _ ?_
  refine e_seq fun K527 hK527 => ?_
  refine e_seq fun K528 hK528 => ?_
  refine e_region_text rfl ?_
  obtain ⟨r530, hr530, h⟩ := Option.of_bind h
  refine q_call rfl (law32_awake_w (Sep.enter (As := []) hS)  hr530) rfl ?_
  rintro _ w529 ⟨R529, rfl, hC529⟩
  have hB529 : Below (World.heap w).size w w529 := hC529.stepB0
  refine ⟨fun _ => .of_below hB529, ?_⟩
  replace f1 := (f1.ext hB529).mono fun k hk _ => hC529.ro0 k hk
  replace hS := Sep.leave (As := []) hS hC529; simp only [List.cons_append, List.nil_append] at hS
  refine q_not rfl rfl ?_
  refine eseq_nil ?_
  refine hK528 _ _ ?_
  refine e_cond rfl (fun hc531 => ?_) (fun hc531 => ?_)
  · replace h := (if_pos hc531).symm.trans h
    refine e_seq fun K532 hK532 => ?_
    refine e_region_text rfl ?_
    refine q_assign rfl rfl ?_
    refine eseq_nil ?_
    refine hK532 _ _ ?_
    refine e_ret ?_
    obtain rfl := Option.some.inj h
    exact ⟨_, res1 rfl rfl, _, rfl, hS⟩
  · replace h := (if_neg (not_true hc531)).symm.trans h
    refine e_skip ?_
    refine hK527 _ _ ?_
    refine e_seq fun K533 hK533 => ?_
    refine e_region_text rfl ?_
    refine q_move rfl rfl ?_
    obtain ⟨r535, hr535, h⟩ := Option.of_bind h
    refine q_call rfl (make_New_w (Sep.enter (As := []) hS) f1 hr535) rfl ?_
    rintro _ w534 ⟨B536, v537, R534, rfl, hC534, f537⟩
    have hB534 : Below (World.heap w529).size w529 w534 := hC534.stepB0
    refine ⟨fun _ => .of_below hB534, ?_⟩
    replace f1 := (f1.ext hB534).mono fun k hk _ => hC534.ro0 k hk
    replace hS := Sep.leave (As := []) hS hC534; simp only [List.cons_append, List.nil_append] at hS
    refine q_assign rfl rfl ?_
    refine eseq_nil ?_
    refine hK533 _ _ ?_
    refine e_seq fun K538 hK538 => ?_
    refine e_region_text rfl ?_
    refine q_move rfl rfl ?_
    obtain ⟨r540, hr540, h⟩ := Option.of_bind h
    refine q_call rfl (make_Codes_Lineages_w (Sep.enter (As := [_]) hS) f537 hr540) rfl ?_
    rintro _ w539 ⟨v541, v542, v543, v544, v545, R539, rfl, hC539, f543, f544⟩
    refine ⟨(fun h => by cases h), ?_⟩
    have hk539 := hC539.keptR (Sep.offFeet (As := [_]) hS)
    replace f537 := (f537.kept hk539).mono fun k hk _ => hC539.ro0 k hk
    replace hS := Sep.leave (As := [_]) hS hC539; simp only [List.cons_append, List.nil_append] at hS
    refine q_move rfl rfl ?_
    refine q_extract rfl rfl rfl ?_
    refine q_extract rfl rfl rfl ?_
    refine q_allocB rfl fun w546 bl546 hg546 hb546 hB546 => ?_
    replace f537 := f537.ext hB546
    replace f543 := f543.ext hB546
    replace f544 := f544.ext hB546
    replace hS := hS.newBlk hB546 hg546 hb546
    refine q_assign rfl rfl ?_
    refine q_storeAgg rfl rfl (hS.blk 0 rfl) rfl (Nat.le_of_ble_eq_true rfl) (all_cons f543.one (all_cons f544.one (all_cons (hS.own 4 rfl).one (all_nil)))) rfl rfl fun w548 hb548 hO548 => ?_
    simp only [setN, List.set, List.take, List.drop] at hb548
    have hk548 := hS.keptBlk 0 rfl hO548
    replace f537 := f537.kept hk548
    replace f543 := f543.kept hk548
    replace f544 := f544.kept hk548
    replace hS := hS.setBlk 0 rfl hb548 hO548; simp only [List.set] at hS
    refine eseq_nil ?_
    refine hK538 _ _ ?_
    refine e_seq fun K549 hK549 => ?_
    refine e_region_text rfl ?_
    refine q_move rfl rfl ?_
    refine q_move rfl rfl ?_
    refine q_lenR rfl (hS.own 2 rfl) (hS.famLen 3 rfl) rfl ?_
    obtain ⟨r551, hr551, h⟩ := Option.of_bind h
    replace hS := hS.pickB [1, 0, 2, 3, 4] 5 rfl rfl; simp only [List.map_cons, List.map_nil, List.getD_cons_zero, List.getD_cons_succ] at hS
    refine q_call rfl (make_Codes_Next_w (Sep.enter (As := [_]) hS) f537 hr551) rfl ?_
    rintro _ w550 ⟨R550, rfl, hC550⟩
    refine ⟨(fun h => by cases h), ?_⟩
    have hk550 := hC550.keptR (Sep.offFeet (As := [_]) hS)
    replace f537 := (f537.kept hk550).mono fun k hk _ => hC550.ro0 k hk
    replace f543 := (f543.kept hk550).mono fun k hk _ => hC550.ro0 k hk
    replace f544 := (f544.kept hk550).mono fun k hk _ => hC550.ro0 k hk
    replace hS := Sep.leave (As := [_]) hS hC550; simp only [List.cons_append, List.nil_append] at hS
    refine q_assign rfl rfl ?_
    refine eseq_nil ?_
    refine hK549 _ _ ?_
    refine e_seq fun K552 hK552 => ?_
    refine e_region_text rfl ?_
    refine q_field rfl rfl ?_
    refine q_load rfl (Blk.cell (hS.blk 1 rfl) rfl) rfl ?_
    replace hS := hS.nilOwn0 Ty.int 3
    obtain ⟨x555, hx555, h⟩ := Option.of_bind h
    refine q_catE (T := Ty.int) rfl rfl rfl rfl (hS.own 0 rfl) rfl f543 hx555 (Nat.zero_le _) rfl (fun h => by cases h) fun v554 w554 hw554 hgr554 hnw554 => ?_
    have hk554 := hS.keptOwn 0 rfl hgr554
    replace f537 := f537.kept hk554
    replace f543 := f543.kept hk554
    replace f544 := f544.kept hk554
    replace hS := hS.setOwn 0 rfl hw554 hgr554 hnw554; simp only [List.set] at hS
    refine q_assign rfl rfl ?_
    refine eseq_nil ?_
    refine hK552 _ _ ?_
    refine e_seq fun K556 hK556 => ?_
    refine e_region_text rfl ?_
    refine q_move rfl rfl ?_
    refine q_move rfl rfl ?_
    refine q_move rfl rfl ?_
    refine q_field rfl rfl ?_
    refine q_load rfl (Blk.cell (hS.blk 2 rfl) rfl) rfl ?_
    refine q_move rfl rfl ?_
    obtain ⟨x557, hx557, h⟩ := Option.of_bind h
    refine q_atS (by infer_instance) rfl f543 rfl hx557 rfl fun b558 o558 hm558 f558 => ?_
    refine q_load rfl (Elt.intCell f558) rfl ?_
    refine q_addW rfl rfl rfl ?_
    obtain ⟨r560, hr560, h⟩ := Option.of_bind h
    replace hS := hS.pickB [1, 0, 2, 3, 4, 5] 6 rfl rfl; simp only [List.map_cons, List.map_nil, List.getD_cons_zero, List.getD_cons_succ] at hS
    refine q_call rfl (make_Codes_Next_w (Sep.enter (As := [_]) hS) f537 hr560) rfl ?_
    rintro _ w559 ⟨R559, rfl, hC559⟩
    refine ⟨(fun h => by cases h), ?_⟩
    have hk559 := hC559.keptR (Sep.offFeet (As := [_]) hS)
    replace f543 := (f543.kept hk559).mono fun k hk _ => hC559.ro0 k hk
    replace f544 := (f544.kept hk559).mono fun k hk _ => hC559.ro0 k hk
    replace f537 := (f537.kept hk559).mono fun k hk _ => hC559.ro0 k hk
    replace hS := Sep.leave (As := [_]) hS hC559; simp only [List.cons_append, List.nil_append] at hS
    obtain ⟨x561, hx561, h⟩ := Option.of_bind h
    refine q_indexO (by infer_instance) rfl (hS.own 1 rfl) rfl hx561 rfl ?_
    obtain ⟨x563, hx563, h⟩ := Option.of_bind h
    refine q_storeO (T := Ty.int) (j := 0) rfl rfl (hS.own 1 rfl) hx561 hx563 rfl rfl rfl (Enc.setL rfl) fun w562 ho562 hO562 => ?_
    have hk562 := hS.keptO 1 rfl hx561 hO562
    replace f543 := f543.kept hk562
    replace f544 := f544.kept hk562
    replace hS := hS.putO 1 rfl hx561 ho562 hO562; simp only [List.set] at hS
    refine eseq_nil ?_
    refine hK556 _ _ ?_
    refine e_seq fun K564 hK564 => ?_
    refine e_region_text rfl ?_
    refine q_assign rfl rfl ?_
    refine eseq_nil ?_
    refine hK564 _ _ ?_
    refine e_seq fun K565 hK565 => ?_
    have hJ565 : ∀ (x581 : Int) (R576 : Nat → Prop) (w577 : World) (E_ : Env), law32_OrphanFinds_J1 fuel x563 r551 r540 x581 = some r → Sep F R R576 w w577 [HP.own Ty.raw (fun _ => False) 58 v541 v542, HP.famS evtTy (fun _ => False) 62 v542 r540.1, HP.own Ty.int (fun _ => False) 3 v554 x563] → Sub [(4, v541), (6, .int .i64 r551.1), (7, v554), (8, .int .i64 x581)] E_ → K565 E_ w577 := by
      intro x581 R576 w577 E_ h hS  hsub
      refine hK565 _ _ (e_sub hsub ?_); clear hsub
      unfold law32_OrphanFinds_J1 at h
      refine e_seq fun K582 hK582 => ?_
      refine e_region_text rfl ?_
      refine q_move rfl rfl ?_
      refine q_move rfl rfl ?_
      refine q_move rfl rfl ?_
      refine q_move rfl rfl ?_
      obtain ⟨x583, hx583, h⟩ := Option.of_bind h
      refine q_indexO (by infer_instance) rfl (hS.own 2 rfl) rfl hx583 rfl ?_
      have f584 := (hS.ownR 2 rfl).elt hx583
      refine q_load rfl (Elt.intCell f584) rfl ?_
      refine q_build (Parts.cons rfl rfl (Parts.cons rfl rfl (Parts.cons rfl rfl Parts.nil))) rfl rfl ?_
      obtain ⟨r586, hr586, h⟩ := Option.of_bind h
      refine q_call rfl (incarnation_Add_w (a1 := (⟨r551.1, x581, x583⟩ : EndI)) (Sep.enter (As := []) hS) (IsSlice.nil _ _ _) hr586) rfl ?_
      rintro v587 w585 ⟨_, R585, rfl, hC585⟩
      have hB585 : Below (World.heap w577).size w577 w585 := hC585.stepB0
      refine ⟨fun _ => .of_below hB585, ?_⟩
      replace hS := Sep.leave (As := []) hS hC585; simp only [List.cons_append, List.nil_append] at hS
      refine q_assign rfl rfl ?_
      refine eseq_nil ?_
      refine hK582 _ _ ?_
      refine e_seq fun K588 hK588 => ?_
      refine e_region_text rfl ?_
      refine q_move rfl rfl ?_
      replace hS := hS.pickB [1, 2, 0, 3] 4 rfl rfl; simp only [List.map_cons, List.map_nil, List.getD_cons_zero, List.getD_cons_succ] at hS
      obtain ⟨R590, hS, hm590⟩ := hS.rowsFreeze
      obtain ⟨R592, hS, hm592, f592⟩ := hS.freezeOwn 0 rfl; simp only [List.eraseIdx] at hS
      obtain ⟨r593, hr593, h⟩ := Option.of_bind h
      refine q_call rfl (Track_w (Sep.enter (As := []) hS) f592 hr593) rfl ?_
      rintro _ w589 ⟨v594, v595, R589, rfl, hC589⟩
      have hB589 : Below (World.heap w585).size w585 w589 := hC589.stepB0
      refine ⟨fun _ => .of_below hB589, ?_⟩
      replace f592 := (f592.ext hB589).mono fun k hk _ => hC589.ro0 k hk
      replace hS := Sep.leave (As := []) hS hC589; simp only [List.cons_append, List.nil_append] at hS
      refine q_move rfl rfl ?_
      refine q_extract rfl rfl rfl ?_
      refine q_extract rfl rfl rfl ?_
      refine q_assign rfl rfl ?_
      refine q_assign rfl rfl ?_
      refine eseq_nil ?_
      refine hK588 _ _ ?_
      refine e_seq fun K596 hK596 => ?_
      refine e_region_text rfl ?_
      refine q_move rfl rfl ?_
      refine q_move rfl rfl ?_
      obtain ⟨r598, hr598, h⟩ := Option.of_bind h
      refine q_call rfl (orphan_Lower_w (Sep.all w589) (f592).old ((hS.isl 3 rfl)).old hr598) rfl ?_
      rintro v599 w597 ⟨_, R597, rfl, hC597⟩
      have hB597 : Below (World.heap w589).size w589 w597 := hC597.stepBF
      refine ⟨fun _ => .of_below hB597, ?_⟩
      replace f592 := f592.ext hB597
      replace hS := hS.newOwnS hB597 (hC597.own 0 rfl) (hC597.fresh 0 rfl) (fun _ h => h.elim)
      refine q_assign rfl rfl ?_
      refine eseq_nil ?_
      refine hK596 _ _ ?_
      refine e_seq fun K600 hK600 => ?_
      refine e_seq fun K601 hK601 => ?_
      refine e_region_text rfl ?_
      refine q_move rfl rfl ?_
      refine q_not rfl rfl ?_
      refine q_move rfl rfl ?_
      obtain ⟨x605, hx604, h⟩ := Option.of_bind h
      refine g_orM 5 hx604 rfl trivial rfl rfl ?_ ?_ ?_
      · intro hg604
        refine g_skip rfl rfl rfl ?_
        refine g_skip rfl rfl rfl ?_
        refine g_skip rfl rfl rfl ?_
        refine g_skip rfl rfl rfl ?_
        refine g_skip rfl rfl rfl ?_
        exact eseq_nil ⟨rfl, Sub.set rfl (Sub.set rfl (Sub.set rfl (Sub.set rfl (Sub.set rfl (Sub.bool true rfl hg604)))))⟩
      · intro hg604 hx604
        clear h
        have hT604 := Below.refl (World.heap w597).size w597
        refine g_run rfl ?_; refine q_move rfl rfl ?_
        refine g_run rfl ?_; refine q_lenR rfl (hS.own 1 rfl) (hS.famLen 2 rfl) rfl ?_
        refine g_run rfl ?_; refine q_move rfl rfl ?_
        refine g_run rfl ?_; refine q_lenS rfl f592 rfl ?_
        refine g_run rfl ?_; refine q_neq rfl rfl rfl ?_
        cases hx604
        exact eseq_nil ⟨hT604, Sub.set rfl (Sub.set rfl (Sub.set rfl (Sub.set rfl (Sub.set rfl (Sub.bool false rfl hg604))))), rfl⟩
      intro wm604 hBm604; clear hx604
      replace hS := hS.below hBm604
      replace f592 := f592.ext hBm604
      refine q_move rfl rfl ?_
      obtain ⟨x609, hx608, h⟩ := Option.of_bind h
      refine g_orM 5 hx608 rfl trivial rfl rfl ?_ ?_ ?_
      · intro hg608
        refine g_skip rfl rfl rfl ?_
        refine g_skip rfl rfl rfl ?_
        refine g_skip rfl rfl rfl ?_
        refine g_skip rfl rfl rfl ?_
        refine g_skip rfl rfl rfl ?_
        exact eseq_nil ⟨rfl, Sub.set rfl (Sub.set rfl (Sub.set rfl (Sub.set rfl (Sub.set rfl (Sub.bool true rfl hg608)))))⟩
      · intro hg608 hx608
        clear h
        have hT608 := Below.refl (World.heap wm604).size wm604
        refine g_run rfl ?_; refine q_move rfl rfl ?_
        refine g_run rfl ?_; refine q_lenS rfl (hS.isl 0 rfl) rfl ?_
        refine g_run rfl ?_; refine q_move rfl rfl ?_
        refine g_run rfl ?_; refine q_lenS rfl f592 rfl ?_
        refine g_run rfl ?_; refine q_neq rfl rfl rfl ?_
        cases hx608
        exact eseq_nil ⟨hT608, Sub.set rfl (Sub.set rfl (Sub.set rfl (Sub.set rfl (Sub.set rfl (Sub.bool false rfl hg608))))), rfl⟩
      intro wm608 hBm608; clear hx608
      replace hS := hS.below hBm608
      replace f592 := f592.ext hBm608
      refine eseq_nil ?_
      refine hK601 _ _ ?_
      refine e_cond rfl (fun hc610 => ?_) (fun hc610 => ?_)
      · replace h := (if_pos hc610).symm.trans h
        refine e_seq fun K611 hK611 => ?_
        refine e_region_text rfl ?_
        refine q_assign rfl rfl ?_
        refine eseq_nil ?_
        refine hK611 _ _ ?_
        refine e_ret ?_
        obtain rfl := Option.some.inj h
        exact ⟨_, res1 rfl rfl, _, rfl, (hS.pickB [] 5 rfl rfl)⟩
      · replace h := (if_neg (not_true hc610)).symm.trans h
        refine e_skip ?_
        refine hK600 _ _ ?_
        refine e_seq fun K612 hK612 => ?_
        refine e_seq fun K613 hK613 => ?_
        refine e_region_text rfl ?_
        refine q_assign rfl rfl ?_
        refine eseq_nil ?_
        refine hK613 _ _ ?_
        refine e_block ?_
        obtain ⟨tl614, ht614, h⟩ := Option.of_bind h
        have hX614_0 : ∀ (R906 : Nat → Prop) (w907 : World) (E_ : Env), law32_OrphanFinds_K1 fuel = some r → Sep F R R906 w w907 [] → Sub [] E_ → K612 E_ w907 := by
          intro R906 w907 E_ h hS  hsub
          refine hK612 _ _ (e_sub hsub ?_); clear hsub
          unfold law32_OrphanFinds_K1 at h
          refine e_seq fun K908 hK908 => ?_
          refine e_region_text rfl ?_
          refine q_assign rfl rfl ?_
          refine eseq_nil ?_
          refine hK908 _ _ ?_
          refine e_ret ?_
          obtain rfl := Option.some.inj h
          exact ⟨_, res1 rfl rfl, _, rfl, hS⟩
        refine e_loop (fun m_ E_ w761 => ∃ (x767 : Int), ∃ (R760 : Nat → Prop), iter (fun s => law32_OrphanFinds_B1 fuel r540 r593 r598 r586 s) m_ x767 = some tl614 ∧ Sep F R R760 w w761 [HP.own endITy (fun _ => False) 73 v587 r586, HP.own Ty.raw (fun _ => False) 66 v594 v595, HP.famS (Ty.slice labTy) R760 68 v595 r593.1, HP.own Ty.int (fun _ => False) 3 v599 r598] ∧ IsSlice (Ty.slice evtTy) w761 R760 v541 r540.1 ∧ E_ = [(4, v541), (9, v587), (10, v594), (12, v599), (13, .int .i64 x767)]) _ ⟨_, ⟨0, _, ht614, (hS.pickB [3, 1, 2, 0] 5 rfl rfl), f592, rfl⟩, Sub.cons rfl (Sub.cons rfl (Sub.cons rfl (Sub.cons rfl (Sub.cons rfl (Sub.nil _)))))⟩ ?_
        clear ht614 hS
        rintro m614 _ w761 ⟨x767, R760, ht614, hS, f762, rfl⟩
        obtain ⟨m614, rfl, o614, ho614, ht614⟩ := iter_some ht614
        replace ho614 : law32_OrphanFinds_B1 fuel r540 r593 r598 r586 x767 = some o614 := ho614
        unfold law32_OrphanFinds_B1 at ho614
        refine e_seq fun K909 hK909 => ?_
        refine e_seq fun K910 hK910 => ?_
        refine e_region_text rfl ?_
        refine q_move rfl rfl ?_
        refine q_move rfl rfl ?_
        refine q_lenS rfl f762 rfl ?_
        refine q_lss rfl rfl rfl ?_
        refine eseq_nil ?_
        refine hK910 _ _ ?_
        refine e_cond rfl (fun hc911 => ?_) (fun hc911 => ?_)
        · replace ho614 := (if_pos hc911).symm.trans ho614
          refine e_skip ?_
          refine hK909 _ _ ?_
          refine e_seq fun K912 hK912 => ?_
          refine e_block ?_
          refine e_seq fun K913 hK913 => ?_
          refine e_seq fun K914 hK914 => ?_
          refine e_region_draw mixed (fun _ => False) [0, 0, 3, 7, 15, 0, 0, 96, 224, 480, 992, 2047] [] [0, 1, 2, 3, 4, 5, 6, 7, 8, 9, 10, 11] (by kernel_rfl) ?_
          refine q_move rfl rfl ?_
          refine q_move rfl rfl ?_
          obtain ⟨x915, hx915, ho614⟩ := Option.of_bind ho614
          have hax915 := ati_nth (hS.famLen 2 rfl) hx915
          refine q_indexO (T := Ty.raw) (by infer_instance) rfl (hS.own 1 rfl) rfl hax915 rfl ?_
          refine q_load rfl (Elt.rawCell ((hS.own 1 rfl).elt hax915)) rfl ?_
          refine q_lenS rfl (hS.famI 2 rfl hx915) rfl ?_
          refine q_move rfl rfl ?_
          refine q_move rfl rfl ?_
          obtain ⟨x916, hx916, ho614⟩ := Option.of_bind ho614
          refine q_atS (by infer_instance) rfl f762 rfl hx916 rfl fun b917 o917 hm917 f917 => ?_
          refine q_loadE rfl f917 rfl (fun v918 f918 => ?_)
          refine q_lenS rfl f918 rfl ?_
          refine q_addW rfl rfl rfl ?_
          refine q_neq rfl rfl rfl ?_
          refine eseq_nil ?_
          refine hK914 _ _ ?_
          refine e_cond rfl (fun hc919 => ?_) (fun hc919 => ?_)
          · replace ho614 := (if_pos hc919).symm.trans ho614
            refine e_seq fun K920 hK920 => ?_
            refine e_region_text rfl ?_
            refine q_assign rfl rfl ?_
            refine eseq_nil ?_
            refine hK920 _ _ ?_
            refine e_ret ?_
            obtain rfl := Option.some.inj ho614
            obtain rfl := Option.some.inj ht614
            obtain rfl := Option.some.inj h
            exact ⟨_, res1 rfl rfl, _, rfl, (hS.pickB [] 4 rfl rfl)⟩
          · replace ho614 := (if_neg (not_true hc919)).symm.trans ho614
            refine e_skip ?_
            refine hK913 _ _ ?_
            refine e_seq fun K921 hK921 => ?_
            refine e_region_text rfl ?_
            refine q_assign rfl rfl ?_
            refine eseq_nil ?_
            refine hK921 _ _ ?_
            refine e_block ?_
            obtain ⟨tl922, ht922, ho614⟩ := Option.of_bind ho614
            have hX922_2 : ∀ (R1006 : Nat → Prop) (w1007 : World) (E_ : Env), law32_OrphanFinds_K2 fuel x767 = some o614 → Sep F R R1006 w w1007 [HP.own endITy (fun _ => False) 73 v587 r586, HP.own Ty.raw (fun _ => False) 66 v594 v595, HP.famS (Ty.slice labTy) R1006 68 v595 r593.1, HP.own Ty.int (fun _ => False) 3 v599 r598] → IsSlice (Ty.slice evtTy) w1007 R1006 v541 r540.1 → Sub [(4, v541), (9, v587), (10, v594), (12, v599), (13, .int .i64 x767)] E_ → K912 E_ w1007 := by
              intro R1006 w1007 E_ ho614 hS f1008 hsub
              refine hK912 _ _ (e_sub hsub ?_); clear hsub
              unfold law32_OrphanFinds_K2 at ho614
              refine e_region_text rfl ?_
              refine q_move rfl rfl ?_
              refine q_addW rfl rfl rfl ?_
              refine q_assign rfl rfl ?_
              refine eseq_nil ?_
              obtain rfl := Option.some.inj ho614
              exact ⟨m614, _, Nat.lt_succ_self _, ⟨(w64 (x767 + 1)), _, ht614, hS, f1008, rfl⟩, Sub.cons rfl (Sub.cons rfl (Sub.cons rfl (Sub.cons rfl (Sub.cons rfl (Sub.nil _)))))⟩
            refine e_loop (fun m_ E_ w965 => ∃ (x971 : Int), ∃ (R964 : Nat → Prop), iter (fun s => law32_OrphanFinds_B2 fuel r540 x767 r593 r598 r586 s) m_ x971 = some tl922 ∧ Sep F R R964 w w965 [HP.own endITy (fun _ => False) 73 v587 r586, HP.own Ty.raw (fun _ => False) 66 v594 v595, HP.famS (Ty.slice labTy) R964 68 v595 r593.1, HP.own Ty.int (fun _ => False) 3 v599 r598] ∧ IsSlice (Ty.slice evtTy) w965 R964 v541 r540.1 ∧ E_ = [(4, v541), (9, v587), (10, v594), (12, v599), (13, .int .i64 x767), (14, .int .i64 x971)]) _ ⟨_, ⟨0, _, ht922, hS, f762, rfl⟩, Sub.cons rfl (Sub.cons rfl (Sub.cons rfl (Sub.cons rfl (Sub.cons rfl (Sub.cons rfl (Sub.nil _))))))⟩ ?_
            clear ht922 hS
            rintro m922 _ w965 ⟨x971, R964, ht922, hS, f966, rfl⟩
            obtain ⟨m922, rfl, o922, ho922, ht922⟩ := iter_some ht922
            replace ho922 : law32_OrphanFinds_B2 fuel r540 x767 r593 r598 r586 x971 = some o922 := ho922
            unfold law32_OrphanFinds_B2 at ho922
            refine e_seq fun K1013 hK1013 => ?_
            refine e_seq fun K1014 hK1014 => ?_
            refine e_region_text rfl ?_
            refine q_move rfl rfl ?_
            refine q_move rfl rfl ?_
            refine q_move rfl rfl ?_
            obtain ⟨x1015, hx1015, ho922⟩ := Option.of_bind ho922
            refine q_atS (by infer_instance) rfl f966 rfl hx1015 rfl fun b1016 o1016 hm1016 f1016 => ?_
            refine q_loadE rfl f1016 rfl (fun v1017 f1017 => ?_)
            refine q_lenS rfl f1017 rfl ?_
            refine q_leq rfl rfl rfl ?_
            refine eseq_nil ?_
            refine hK1014 _ _ ?_
            refine e_cond rfl (fun hc1018 => ?_) (fun hc1018 => ?_)
            · replace ho922 := (if_pos hc1018).symm.trans ho922
              refine e_skip ?_
              refine hK1013 _ _ ?_
              refine e_seq fun K1019 hK1019 => ?_
              refine e_block ?_
              refine e_seq fun K1020 hK1020 => ?_
              refine e_region_draw mixed (fun _ => False) [0, 0, 0, 6, 14, 0, 62, 126, 255, 0, 0, 0, 3072, 7168, 15872, 32767] [8] [0, 1, 2, 3, 4, 5, 6, 7, 9, 10, 11, 12, 13, 14, 8, 15] (by kernel_rfl) ?_
              refine q_move rfl rfl ?_
              refine q_move rfl rfl ?_
              refine q_move rfl rfl ?_
              obtain ⟨x1029, hx1029, ho922⟩ := Option.of_bind ho922
              have hax1029 := ati_nth (hS.famLen 2 rfl) hx1029
              refine q_indexO (T := Ty.raw) (by infer_instance) rfl (hS.own 1 rfl) rfl hax1029 rfl ?_
              refine q_load rfl (Elt.rawCell ((hS.own 1 rfl).elt hax1029)) rfl ?_
              refine q_move rfl rfl ?_
              obtain ⟨x1030, hx1030, ho922⟩ := Option.of_bind ho922
              refine q_indexO (by infer_instance) rfl (hS.famO 2 rfl hx1029) rfl hx1030 rfl ?_
              have f1031 := (hS.famOR 2 rfl hx1029).elt hx1030
              refine q_loadE rfl f1031 rfl (fun v1032 f1032 => ?_)
              refine q_move rfl rfl ?_
              refine q_move rfl rfl ?_
              refine q_move rfl rfl ?_
              obtain ⟨x1033, hx1033, ho922⟩ := Option.of_bind ho922
              refine q_indexO (by infer_instance) rfl (hS.own 3 rfl) rfl hx1033 rfl ?_
              have f1034 := (hS.ownR 3 rfl).elt hx1033
              refine q_load rfl (Elt.intCell f1034) rfl ?_
              refine q_gtr rfl rfl rfl ?_
              obtain ⟨r1036, hr1036, ho922⟩ := Option.of_bind ho922
              refine q_call rfl (orphan_Orphan_w (Sep.all w965) ((hS.isl 0 rfl)).old (f1032).old hr1036) rfl ?_
              rintro _ w1035 ⟨R1035, rfl, hC1035⟩
              have hB1035 : Below (World.heap w965).size w965 w1035 := hC1035.stepBF
              refine ⟨fun _ => .of_below hB1035, ?_⟩
              replace f966 := f966.ext hB1035
              replace f1032 := f1032.ext hB1035
              replace hS := hS.below hB1035
              refine q_neqB rfl rfl rfl ?_
              refine eseq_nil ?_
              refine hK1020 _ _ ?_
              refine e_cond rfl (fun hc1037 => ?_) (fun hc1037 => ?_)
              · replace ho922 := (if_pos hc1037).symm.trans ho922
                refine e_seq fun K1038 hK1038 => ?_
                refine e_region_text rfl ?_
                refine q_assign rfl rfl ?_
                refine eseq_nil ?_
                refine hK1038 _ _ ?_
                refine e_ret ?_
                obtain rfl := Option.some.inj ho922
                obtain rfl := Option.some.inj ht922
                obtain rfl := Option.some.inj ho614
                obtain rfl := Option.some.inj ht614
                obtain rfl := Option.some.inj h
                exact ⟨_, res1 rfl rfl, _, rfl, (hS.pickB [] 4 rfl rfl)⟩
              · replace ho922 := (if_neg (not_true hc1037)).symm.trans ho922
                refine e_skip ?_
                refine hK1019 _ _ ?_
                refine e_region_text rfl ?_
                refine q_move rfl rfl ?_
                refine q_addW rfl rfl rfl ?_
                refine q_assign rfl rfl ?_
                refine eseq_nil ?_
                obtain rfl := Option.some.inj ho922
                exact ⟨m922, _, Nat.lt_succ_self _, ⟨(w64 (x971 + 1)), _, ht922, hS, f966, rfl⟩, Sub.cons rfl (Sub.cons rfl (Sub.cons rfl (Sub.cons rfl (Sub.cons rfl (Sub.cons rfl (Sub.nil _))))))⟩
            · replace ho922 := (if_neg (not_true hc1018)).symm.trans ho922
              refine e_exit ?_
              obtain rfl := Option.some.inj ho922
              obtain rfl := Option.some.inj ht922
              exact hX922_2  _ _ _ ho614 hS f966 (Sub.cons rfl (Sub.cons rfl (Sub.cons rfl (Sub.cons rfl (Sub.cons rfl (Sub.nil _))))))
        · replace ho614 := (if_neg (not_true hc911)).symm.trans ho614
          refine e_exit ?_
          obtain rfl := Option.some.inj ho614
          obtain rfl := Option.some.inj ht614
          exact hX614_0  _ _ _ h (hS.pickB [] 4 rfl rfl)  (Sub.nil _)
    refine e_seq fun K1039 hK1039 => ?_
    refine e_region_text rfl ?_
    refine q_field rfl rfl ?_
    refine q_load rfl (Blk.cell (hS.blk 2 rfl) rfl) rfl ?_
    refine q_move rfl rfl ?_
    obtain ⟨x1040, hx1040, h⟩ := Option.of_bind h
    refine q_atS (by infer_instance) rfl f543 rfl hx1040 rfl fun b1041 o1041 hm1041 f1041 => ?_
    refine q_load rfl (Elt.intCell f1041) rfl ?_
    refine q_gtr rfl rfl rfl ?_
    refine eseq_nil ?_
    refine hK1039 _ _ ?_
    refine e_cond rfl (fun hc1042 => ?_) (fun hc1042 => ?_)
    · replace h := (if_pos hc1042).symm.trans h
      refine e_region_draw mixed (fun _ => False) [0, 0, 3, 7, 0, 16, 0, 112, 240, 496, 1023, 2047, 4095, 8191] [] [0, 1, 2, 3, 4, 5, 6, 7, 8, 9, 10, 11, 12, 13] (by kernel_rfl) ?_
      refine q_move rfl rfl ?_
      refine q_move rfl rfl ?_
      obtain ⟨x1043, hx1043, h⟩ := Option.of_bind h
      have hax1043 := ati_nth (hS.famLen 4 rfl) hx1043
      refine q_indexO (T := Ty.raw) (by infer_instance) rfl (hS.own 3 rfl) rfl hax1043 rfl ?_
      refine q_load rfl (Elt.rawCell ((hS.own 3 rfl).elt hax1043)) rfl ?_
      refine q_field rfl rfl ?_
      refine q_load rfl (Blk.cell (hS.blk 2 rfl) rfl) rfl ?_
      refine q_move rfl rfl ?_
      obtain ⟨x1044, hx1044, h⟩ := Option.of_bind h
      refine q_atS (by infer_instance) rfl f543 rfl hx1044 rfl fun b1045 o1045 hm1045 f1045 => ?_
      refine q_load rfl (Elt.intCell f1045) rfl ?_
      refine q_subW rfl rfl rfl ?_
      obtain ⟨x1046, hx1046, h⟩ := Option.of_bind h
      refine q_indexO (by infer_instance) rfl (hS.famO 4 rfl hx1043) rfl hx1046 rfl ?_
      refine q_field rfl rfl ?_
      have f1047 := (hS.famOR 4 rfl hx1043).elt hx1046
      have f1048 := Evt_F1 f1047
      refine q_load rfl (Elt.intCell f1048) rfl ?_
      refine q_assign rfl rfl ?_
      refine eseq_nil ?_
      exact hJ565 x1046.inc _ _ _ h (hS.pickB [3, 4, 1] 6 rfl rfl)  (Sub.cons rfl (Sub.cons rfl (Sub.cons rfl (Sub.cons rfl (Sub.nil _)))))
    · replace h := (if_neg (not_true hc1042)).symm.trans h
      refine e_skip ?_
      exact hJ565 0 _ _ _ h (hS.pickB [3, 4, 1] 6 rfl rfl)  (Sub.cons rfl (Sub.cons rfl (Sub.cons rfl (Sub.cons rfl (Sub.nil _)))))
end Go.Proofs.Ytbmjcbhappjnaaa
