/- Printed walks: A32p. -/
import Derived.Test.YtghjjkdfjmnfeaaA32a
set_option linter.unusedVariables false
set_option linter.unusedSimpArgs false
namespace Go.Mine
open Go.RowKit
def orphan_Pattern_K1 (fuel : Nat) (r464 : ((List Int))) (a1 : (List (List Int))) (x760 : (List Arc)) : Option (Pat × Bool) :=
  some ((⟨r464, a1, x760⟩ : Pat), true)
def orphan_Pattern_K2 (fuel : Nat) (x619 : Int) (x869 : (List Arc)) : Option (((List Arc) × Int) ⊕ ((List Arc))) :=
  some (Sum.inl (x869, (w64 (x619 + 1))))
def orphan_Pattern_B2 (fuel : Nat) (x769 : (List Evt)) (x619 : Int) (x823 : (List Arc)) (x826 : Int) : Option (((List Arc) × Int) ⊕ ((List Arc))) :=
  (if (decide (x826 < (x769.length : Int))) = true then (ati x769 x826).bind fun x876 => (if (x876.kind == 1) = true then (snoc x823 (⟨x876.frm, x876.sent.index, x619, w64 (x826 + 1)⟩ : Arc)).bind fun x887 => some (Sum.inl (x887, (w64 (x826 + 1)))) else some (Sum.inl (x823, (w64 (x826 + 1))))) else some (Sum.inr x823))
def orphan_Pattern_B1 (fuel : Nat) (a0 : (List (List Evt))) (x617 : (List Arc)) (x619 : Int) : Option (((List Arc) × Int) ⊕ ((List Arc))) :=
  (if (decide (x619 < (a0.length : Int))) = true then (ati a0 x619).bind fun x769 => (iter (fun s => orphan_Pattern_B2 fuel x769 x619 s.1 s.2) fuel (x617, 0)).bind (fun t => orphan_Pattern_K2 fuel x619 t) else some (Sum.inr x617))
def orphan_Pattern (fuel : Nat) (a0 : (List (List Evt))) (a1 : (List (List Int))) : Option (Pat × Bool) :=
  (orphan_all fuel a0).bind fun r453 => (orphan_Consistent fuel a0 r453).bind fun r456 => (if (!r456) = true then some ((⟨([] : List Int), ([] : List (List Int)), ([] : List Arc)⟩ : Pat), false) else (orphan_all fuel a0).bind fun r464 => (iter (fun s => orphan_Pattern_B1 fuel a0 s.1 s.2) fuel (([] : List Arc), 0)).bind (fun t => orphan_Pattern_K1 fuel r464 a1 t))
end Go.Mine
namespace Go.Proofs.Ytghjjkdfjmnfeaa
open Go.RowKit Go.Mine
attribute [local irreducible] eseq ewp iter
theorem orphan_Pattern_w {F R : Nat → Prop} {w : World} {fuel : Nat} {a0 : (List (List Evt))} {a1 : (List (List Int))} {v1 : Value} {v2 : Value} {r : (Pat × Bool)} (hS : Sep F R R w w []) (f1 : IsSlice (Ty.slice evtTy) w R v1 a0) (f2 : IsSlice (Ty.slice Ty.int) w R v2 a1) (h : orphan_Pattern fuel a0 a1 = some r) :
    Gives Try.prog 31 [v1, v2] w fun u w1 => ∃ (v444 : Value), ∃ (v445 : Value), ∃ (v446 : Value), ∃ (R1 : Nat → Prop), u = .tuple #[.agg #[v444, v445, v446], .bool r.2] ∧ Sep F R R1 w w1 [HP.own Ty.int (fun _ => False) 3 v444 r.1.lens, HP.own arcTy (fun _ => False) 88 v446 r.1.arcs] ∧ IsSlice (Ty.slice Ty.int) w1 R1 v445 r.1.ckpts := by
  refine fn_of Try.func31 rfl Try.ntmps31 (Nat.le_of_ble_eq_true rfl) ?_
  unfold orphan_Pattern at h
  refine e_seq fun K447 hK447 => ?_
  refine e_region_text rfl ?_
  refine q_allocB rfl fun w448 bl448 hg448 hb448 hB448 => ?_
  replace f1 := f1.ext hB448
  replace f2 := f2.ext hB448
  replace hS := hS.newBlk hB448 hg448 hb448
  refine q_assign rfl rfl ?_
  refine eseq_nil ?_
  refine hK447 _ _ ?_
  refine e_seq fun K450 hK450 => ?_
  refine e_seq fun K451 hK451 => ?_
  refine e_region_text rfl ?_
  refine q_move rfl rfl ?_
  refine q_move rfl rfl ?_
  obtain ⟨r453, hr453, h⟩ := Option.of_bind h
  refine q_call rfl (orphan_all_w (Sep.enter (As := []) hS) f1 hr453) rfl ?_
  rintro v454 w452 ⟨_, R452, rfl, hC452⟩
  have hB452 : Below (World.heap w448).size w448 w452 := hC452.stepB0
  refine ⟨fun _ => .of_below hB452, ?_⟩
  replace f1 := (f1.ext hB452).mono fun k hk _ => hC452.ro0 k hk
  replace f2 := (f2.ext hB452).mono fun k hk _ => hC452.ro0 k hk
  replace hS := Sep.leave (As := []) hS hC452; simp only [List.cons_append, List.nil_append] at hS
  obtain ⟨r456, hr456, h⟩ := Option.of_bind h
  refine q_call rfl (orphan_Consistent_w (Sep.all w452) (f1).old ((hS.isl 0 rfl)).old hr456) rfl ?_
  rintro _ w455 ⟨R455, rfl, hC455⟩
  have hB455 : Below (World.heap w452).size w452 w455 := hC455.stepBF
  refine ⟨fun _ => .of_below hB455, ?_⟩
  replace f1 := f1.ext hB455
  replace f2 := f2.ext hB455
  replace hS := hS.below hB455
  refine q_not rfl rfl ?_
  refine eseq_nil ?_
  refine hK451 _ _ ?_
  refine e_cond rfl (fun hc457 => ?_) (fun hc457 => ?_)
  · replace h := (if_pos hc457).symm.trans h
    refine e_seq fun K458 hK458 => ?_
    refine e_region_text rfl ?_
    refine q_build Parts.nil rfl rfl ?_
    refine q_storeAgg rfl rfl (hS.blk 1 rfl) rfl (Nat.le_of_ble_eq_true rfl) (all_cons rfl (all_cons rfl (all_cons rfl (all_nil)))) rfl rfl fun w459 hb459 hO459 => ?_
    simp only [setN, List.set, List.take, List.drop] at hb459
    have hk459 := hS.keptBlk 1 rfl hO459
    replace hS := hS.setBlk 1 rfl hb459 hO459; simp only [List.set] at hS
    refine q_assign rfl rfl ?_
    refine eseq_nil ?_
    refine hK458 _ _ ?_
    refine e_ret ?_
    replace hS := hS.nilOwn0 Ty.int 3
    replace hS := hS.nilOwn0 arcTy 88
    obtain rfl := Option.some.inj h
    exact ⟨_, resCT rfl rfl ((hS.blk 3 rfl).cellsAt 0 3 rfl) rfl rfl, (.slice none 0 0), (.slice none 0 0), (.slice none 0 0), _, rfl, (hS.pickB [1, 0] 4 rfl rfl), (IsSlice.nil _ _ _)⟩
  · replace h := (if_neg (not_true hc457)).symm.trans h
    refine e_skip ?_
    refine hK450 _ _ ?_
    refine e_seq fun K462 hK462 => ?_
    refine e_region_text rfl ?_
    refine q_move rfl rfl ?_
    obtain ⟨r464, hr464, h⟩ := Option.of_bind h
    refine q_call rfl (orphan_all_w (Sep.enter (As := []) hS) f1 hr464) rfl ?_
    rintro v465 w463 ⟨_, R463, rfl, hC463⟩
    have hB463 : Below (World.heap w455).size w455 w463 := hC463.stepB0
    refine ⟨fun _ => .of_below hB463, ?_⟩
    replace f1 := (f1.ext hB463).mono fun k hk _ => hC463.ro0 k hk
    replace f2 := (f2.ext hB463).mono fun k hk _ => hC463.ro0 k hk
    replace hS := Sep.leave (As := []) hS hC463; simp only [List.cons_append, List.nil_append] at hS
    refine q_move rfl rfl ?_
    refine q_build (Parts.cons rfl (cells_one (hS.own 0 rfl).one) (Parts.cons rfl (cells_one f2.one) Parts.nil)) rfl rfl ?_
    refine q_allocB rfl fun w466 bl466 hg466 hb466 hB466 => ?_
    replace f1 := f1.ext hB466
    replace f2 := f2.ext hB466
    replace hS := hS.newBlk hB466 hg466 hb466
    refine q_storeAgg rfl rfl (hS.blk 0 rfl) rfl (Nat.le_of_ble_eq_true rfl) (all_cons (hS.own 1 rfl).one (all_cons f2.one (all_cons rfl (all_nil)))) rfl rfl fun w468 hb468 hO468 => ?_
    simp only [setN, List.set, List.take, List.drop] at hb468
    have hk468 := hS.keptBlk 0 rfl hO468
    replace f1 := f1.kept hk468
    replace f2 := f2.kept hk468
    replace hS := hS.setBlk 0 rfl hb468 hO468; simp only [List.set] at hS
    refine eseq_nil ?_
    refine hK462 _ _ ?_
    refine e_seq fun K469 hK469 => ?_
    refine e_seq fun K470 hK470 => ?_
    refine e_region_text rfl ?_
    refine q_move rfl rfl ?_
    refine q_lenS rfl f1 rfl ?_
    refine q_move rfl rfl ?_
    refine eseq_nil ?_
    refine hK470 _ _ ?_
    refine e_block ?_
    obtain ⟨tl471, ht471, h⟩ := Option.of_bind h
    have hX471_0 : ∀ (x760 : (List Arc)) (v759 : Value) (R754 : Nat → Prop) (w755 : World) (E_ : Env), orphan_Pattern_K1 fuel r464 a1 x760 = some r → Sep F R R754 w w755 [HP.blk bl448 [.slice none 0 0, .slice none 0 0, .slice none 0 0] 46, HP.blk bl466 [v465, v2, v759] 46, HP.own Ty.int (fun _ => False) 3 v465 r464, HP.own arcTy (fun _ => False) 88 v759 x760] → IsSlice (Ty.slice Ty.int) w755 R754 v2 a1 → Sub [(4, .pointer (some ⟨bl448, 0, none⟩)), (6, .pointer (some ⟨bl466, 0, none⟩))] E_ → K469 E_ w755 := by
      intro x760 v759 R754 w755 E_ h hS f757 hsub
      refine hK469 _ _ (e_sub hsub ?_); clear hsub
      unfold orphan_Pattern_K1 at h
      refine e_seq fun K761 hK761 => ?_
      refine e_region_text rfl ?_
      refine q_loadAgg rfl (Blk.cellsAt (hS.blk 1 rfl) 0 3 rfl) rfl rfl ?_
      refine q_storeAgg rfl rfl (hS.blk 0 rfl) rfl (Nat.le_of_ble_eq_true rfl) (all_cons (hS.own 2 rfl).one (all_cons f757.one (all_cons (hS.own 3 rfl).one (all_nil)))) rfl rfl fun w762 hb762 hO762 => ?_
      simp only [setN, List.set, List.take, List.drop] at hb762
      have hk762 := hS.keptBlk 0 rfl hO762
      replace f757 := f757.kept hk762
      replace hS := hS.setBlk 0 rfl hb762 hO762; simp only [List.set] at hS
      refine q_assign rfl rfl ?_
      refine eseq_nil ?_
      refine hK761 _ _ ?_
      refine e_ret ?_
      obtain rfl := Option.some.inj h
      exact ⟨_, resCT rfl rfl ((hS.blk 0 rfl).cellsAt 0 3 rfl) rfl rfl, v465, v2, v759, _, rfl, (hS.pickB [2, 3] 4 rfl rfl), f757⟩
    replace hS := hS.nilOwn0 arcTy 88
    refine e_loop (fun m_ E_ w612 => ∃ (x617 : (List Arc)), ∃ (x619 : Int), ∃ (v616 : Value), ∃ (R611 : Nat → Prop), iter (fun s => orphan_Pattern_B1 fuel a0 s.1 s.2) m_ (x617, x619) = some tl471 ∧ Sep F R R611 w w612 [HP.blk bl448 [.slice none 0 0, .slice none 0 0, .slice none 0 0] 46, HP.blk bl466 [v465, v2, v616] 46, HP.own Ty.int (fun _ => False) 3 v465 r464, HP.own arcTy (fun _ => False) 88 v616 x617] ∧ IsSlice (Ty.slice Ty.int) w612 R611 v2 a1 ∧ IsSlice (Ty.slice evtTy) w612 R611 v1 a0 ∧ E_ = [(4, .pointer (some ⟨bl448, 0, none⟩)), (6, .pointer (some ⟨bl466, 0, none⟩)), (21, v1), (22, .int .i64 (a0.length : Int)), (23, .int .i64 x619)]) _ ⟨_, ⟨([] : List Arc), 0, (.slice none 0 0), _, ht471, (hS.pickB [4, 1, 2, 0] 5 rfl rfl), f2, f1, rfl⟩, Sub.cons rfl (Sub.cons rfl (Sub.cons rfl (Sub.cons rfl (Sub.cons rfl (Sub.nil _)))))⟩ ?_
    clear ht471 hS
    rintro m471 _ w612 ⟨x617, x619, v616, R611, ht471, hS, f614, f618, rfl⟩
    obtain ⟨m471, rfl, o471, ho471, ht471⟩ := iter_some ht471
    replace ho471 : orphan_Pattern_B1 fuel a0 x617 x619 = some o471 := ho471
    unfold orphan_Pattern_B1 at ho471
    refine e_seq fun K764 hK764 => ?_
    refine e_region_text rfl ?_
    refine q_lss rfl rfl rfl ?_
    refine eseq_nil ?_
    refine hK764 _ _ ?_
    refine e_seq fun K765 hK765 => ?_
    refine e_cond rfl (fun hc766 => ?_) (fun hc766 => ?_)
    · replace ho471 := (if_pos hc766).symm.trans ho471
      refine e_skip ?_
      refine hK765 _ _ ?_
      refine e_seq fun K767 hK767 => ?_
      refine e_block ?_
      refine e_seq fun K768 hK768 => ?_
      refine e_region_text rfl ?_
      refine q_move rfl rfl ?_
      obtain ⟨x769, hx769, ho471⟩ := Option.of_bind ho471
      refine q_atS (by infer_instance) rfl f618 rfl hx769 rfl fun b770 o770 hm770 f770 => ?_
      refine q_loadE rfl f770 rfl (fun v771 f771 => ?_)
      refine q_assign rfl rfl ?_
      refine q_assign rfl rfl ?_
      refine eseq_nil ?_
      refine hK768 _ _ ?_
      refine e_seq fun K772 hK772 => ?_
      refine e_region_text rfl ?_
      refine q_move rfl rfl ?_
      refine q_lenS rfl f771 rfl ?_
      refine q_move rfl rfl ?_
      refine eseq_nil ?_
      refine hK772 _ _ ?_
      refine e_block ?_
      obtain ⟨tl773, ht773, ho471⟩ := Option.of_bind ho471
      have hX773_2 : ∀ (x869 : (List Arc)) (v868 : Value) (R863 : Nat → Prop) (w864 : World) (E_ : Env), orphan_Pattern_K2 fuel x619 x869 = some o471 → Sep F R R863 w w864 [HP.blk bl448 [.slice none 0 0, .slice none 0 0, .slice none 0 0] 46, HP.blk bl466 [v465, v2, v868] 46, HP.own Ty.int (fun _ => False) 3 v465 r464, HP.own arcTy (fun _ => False) 88 v868 x869] → IsSlice (Ty.slice Ty.int) w864 R863 v2 a1 → IsSlice (Ty.slice evtTy) w864 R863 v1 a0 → Sub [(4, .pointer (some ⟨bl448, 0, none⟩)), (6, .pointer (some ⟨bl466, 0, none⟩)), (21, v1), (22, .int .i64 (a0.length : Int)), (23, .int .i64 x619)] E_ → K767 E_ w864 := by
        intro x869 v868 R863 w864 E_ ho471 hS f866 f870 hsub
        refine hK767 _ _ (e_sub hsub ?_); clear hsub
        unfold orphan_Pattern_K2 at ho471
        refine e_region_text rfl ?_
        refine q_addW rfl rfl rfl ?_
        refine q_move rfl rfl ?_
        refine eseq_nil ?_
        obtain rfl := Option.some.inj ho471
        exact ⟨m471, _, Nat.lt_succ_self _, ⟨x869, (w64 (x619 + 1)), v868, _, ht471, hS, f866, f870, rfl⟩, Sub.cons rfl (Sub.cons rfl (Sub.cons rfl (Sub.cons rfl (Sub.cons rfl (Sub.nil _)))))⟩
      refine e_loop (fun m_ E_ w818 => ∃ (x823 : (List Arc)), ∃ (x826 : Int), ∃ (v822 : Value), ∃ (R817 : Nat → Prop), iter (fun s => orphan_Pattern_B2 fuel x769 x619 s.1 s.2) m_ (x823, x826) = some tl773 ∧ Sep F R R817 w w818 [HP.blk bl448 [.slice none 0 0, .slice none 0 0, .slice none 0 0] 46, HP.blk bl466 [v465, v2, v822] 46, HP.own Ty.int (fun _ => False) 3 v465 r464, HP.own arcTy (fun _ => False) 88 v822 x823] ∧ IsSlice (Ty.slice Ty.int) w818 R817 v2 a1 ∧ IsSlice (Ty.slice evtTy) w818 R817 v1 a0 ∧ IsSlice evtTy w818 R817 v771 x769 ∧ E_ = [(4, .pointer (some ⟨bl448, 0, none⟩)), (6, .pointer (some ⟨bl466, 0, none⟩)), (7, .int .i64 x619), (21, v1), (22, .int .i64 (a0.length : Int)), (23, .int .i64 x619), (28, v771), (29, .int .i64 (x769.length : Int)), (30, .int .i64 x826)]) _ ⟨_, ⟨x617, 0, v616, _, ht773, hS, f614, f618, f771, rfl⟩, Sub.cons rfl (Sub.cons rfl (Sub.cons rfl (Sub.cons rfl (Sub.cons rfl (Sub.cons rfl (Sub.cons rfl (Sub.cons rfl (Sub.cons rfl (Sub.nil _)))))))))⟩ ?_
      clear ht773 hS
      rintro m773 _ w818 ⟨x823, x826, v822, R817, ht773, hS, f820, f824, f825, rfl⟩
      obtain ⟨m773, rfl, o773, ho773, ht773⟩ := iter_some ht773
      replace ho773 : orphan_Pattern_B2 fuel x769 x619 x823 x826 = some o773 := ho773
      unfold orphan_Pattern_B2 at ho773
      refine e_seq fun K871 hK871 => ?_
      refine e_region_text rfl ?_
      refine q_lss rfl rfl rfl ?_
      refine eseq_nil ?_
      refine hK871 _ _ ?_
      refine e_seq fun K872 hK872 => ?_
      refine e_cond rfl (fun hc873 => ?_) (fun hc873 => ?_)
      · replace ho773 := (if_pos hc873).symm.trans ho773
        refine e_skip ?_
        refine hK872 _ _ ?_
        refine e_seq fun K874 hK874 => ?_
        refine e_block ?_
        refine e_seq fun K875 hK875 => ?_
        refine e_region_text rfl ?_
        refine q_move rfl rfl ?_
        obtain ⟨x876, hx876, ho773⟩ := Option.of_bind ho773
        refine q_atS (by infer_instance) rfl f825 rfl hx876 rfl fun b877 o877 hm877 f877 => ?_
        have hc878 := Evt_open f877
        refine q_loadAgg rfl hc878 rfl rfl ?_
        refine q_allocB rfl fun w879 bl879 hg879 hb879 hB879 => ?_
        replace f820 := f820.ext hB879
        replace f824 := f824.ext hB879
        replace f825 := f825.ext hB879
        replace hS := hS.newBlk hB879 hg879 hb879
        refine q_assign rfl rfl ?_
        refine q_storeAgg rfl rfl (hS.blk 0 rfl) rfl (Nat.le_of_ble_eq_true rfl) (all_cons rfl (all_cons rfl (all_cons rfl (all_cons rfl (all_cons rfl (all_cons rfl (all_cons rfl (all_nil)))))))) rfl rfl fun w881 hb881 hO881 => ?_
        simp only [setN, List.set, List.take, List.drop] at hb881
        have hk881 := hS.keptBlk 0 rfl hO881
        replace f820 := f820.kept hk881
        replace f824 := f824.kept hk881
        replace f825 := f825.kept hk881
        replace hS := hS.setBlk 0 rfl hb881 hO881; simp only [List.set] at hS
        refine eseq_nil ?_
        refine hK875 _ _ ?_
        refine e_seq fun K882 hK882 => ?_
        refine e_region_text rfl ?_
        refine q_field rfl rfl ?_
        refine q_load rfl (Blk.cell (hS.blk 0 rfl) rfl) rfl ?_
        refine q_eql rfl rfl rfl ?_
        refine eseq_nil ?_
        refine hK882 _ _ ?_
        refine e_cond rfl (fun hc883 => ?_) (fun hc883 => ?_)
        · replace ho773 := (if_pos hc883).symm.trans ho773
          refine e_region_text rfl ?_
          refine q_field rfl rfl ?_
          refine q_load rfl (Blk.cell (hS.blk 2 rfl) rfl) rfl ?_
          refine q_field rfl rfl ?_
          refine q_load rfl (Blk.cell (hS.blk 0 rfl) rfl) rfl ?_
          refine q_field rfl rfl ?_
          refine q_field rfl rfl ?_
          refine q_load rfl (Blk.cell (hS.blk 0 rfl) rfl) rfl ?_
          refine q_move rfl rfl ?_
          refine q_move rfl rfl ?_
          refine q_addW rfl rfl rfl ?_
          refine q_build (Parts.cons rfl rfl (Parts.cons rfl rfl (Parts.cons rfl rfl (Parts.cons rfl rfl Parts.nil)))) rfl rfl ?_
          refine q_litO (T := arcTy) (S := (fun _ => False)) (cells := [[.int .i64 x876.frm, .int .i64 x876.sent.index, .int .i64 x619, .int .i64 (w64 (x826 + 1))]]) (ys := [(⟨x876.frm, x876.sent.index, x619, w64 (x826 + 1)⟩ : Arc)]) ((Parts.cons rfl rfl Parts.nil)) rfl rfl rfl rfl rfl rfl rfl (fun w1 hB => ⟨⟨[_], _, rfl, rfl, ⟨[_], _, rfl, rfl, ⟨[_], _, rfl, rfl, rfl⟩⟩⟩, trivial⟩) (fun _ h => h.elim) rfl fun w884 v884 ho884 hv884 hB884 => ?_
          replace f820 := f820.ext hB884
          replace f824 := f824.ext hB884
          replace f825 := f825.ext hB884
          replace hS := hS.newOwnS hB884 ho884 hv884 (fun _ h => h.elim)
          obtain ⟨x887, hx887, ho773⟩ := Option.of_bind ho773
          refine q_catOwn (T := arcTy) rfl rfl rfl rfl (hS.own 5 rfl) rfl (hS.own 0 rfl) (fun _ h _ => h.elim) (snoc_cat hx887) (Nat.zero_le _) rfl (fun h => by cases h) fun v886 w886 hw886 hgr886 hnw886 => ?_
          have hk886 := hS.keptOwn 5 rfl hgr886
          replace f820 := f820.kept hk886
          replace f824 := f824.kept hk886
          replace f825 := f825.kept hk886
          replace hS := hS.setOwn 5 rfl hw886 hgr886 hnw886; simp only [List.set] at hS
          refine q_field rfl rfl ?_
          refine q_store rfl rfl (hS.blk 3 rfl) (Nat.le_of_ble_eq_true rfl) (hS.own 5 rfl).one rfl rfl fun w888 hb888 hO888 => ?_
          have hk888 := hS.keptBlk 3 rfl hO888
          replace f820 := f820.kept hk888
          replace f824 := f824.kept hk888
          replace f825 := f825.kept hk888
          replace hS := hS.setBlk 3 rfl hb888 hO888; simp only [List.set] at hS
          refine eseq_nil ?_
          refine hK874 _ _ ?_
          refine e_region_text rfl ?_
          refine q_addW rfl rfl rfl ?_
          refine q_move rfl rfl ?_
          refine eseq_nil ?_
          obtain rfl := Option.some.inj ho773
          exact ⟨m773, _, Nat.lt_succ_self _, ⟨x887, (w64 (x826 + 1)), v886, _, ht773, (hS.pickB [2, 3, 4, 5] 6 rfl rfl), f820, f824, f825, rfl⟩, Sub.cons rfl (Sub.cons rfl (Sub.cons rfl (Sub.cons rfl (Sub.cons rfl (Sub.cons rfl (Sub.cons rfl (Sub.cons rfl (Sub.cons rfl (Sub.nil _)))))))))⟩
        · replace ho773 := (if_neg (not_true hc883)).symm.trans ho773
          refine e_skip ?_
          refine hK874 _ _ ?_
          refine e_region_text rfl ?_
          refine q_addW rfl rfl rfl ?_
          refine q_move rfl rfl ?_
          refine eseq_nil ?_
          obtain rfl := Option.some.inj ho773
          exact ⟨m773, _, Nat.lt_succ_self _, ⟨x823, (w64 (x826 + 1)), v822, _, ht773, (hS.pickB [1, 2, 3, 4] 5 rfl rfl), f820, f824, f825, rfl⟩, Sub.cons rfl (Sub.cons rfl (Sub.cons rfl (Sub.cons rfl (Sub.cons rfl (Sub.cons rfl (Sub.cons rfl (Sub.cons rfl (Sub.cons rfl (Sub.nil _)))))))))⟩
      · replace ho773 := (if_neg (not_true hc873)).symm.trans ho773
        refine e_exit ?_
        obtain rfl := Option.some.inj ho773
        obtain rfl := Option.some.inj ht773
        exact hX773_2 x823 v822 _ _ _ ho471 hS f820 f824 (Sub.cons rfl (Sub.cons rfl (Sub.cons rfl (Sub.cons rfl (Sub.cons rfl (Sub.nil _))))))
    · replace ho471 := (if_neg (not_true hc766)).symm.trans ho471
      refine e_exit ?_
      obtain rfl := Option.some.inj ho471
      obtain rfl := Option.some.inj ht471
      exact hX471_0 x617 v616 _ _ _ h hS f614 (Sub.cons rfl (Sub.cons rfl (Sub.nil _)))
end Go.Proofs.Ytghjjkdfjmnfeaa
