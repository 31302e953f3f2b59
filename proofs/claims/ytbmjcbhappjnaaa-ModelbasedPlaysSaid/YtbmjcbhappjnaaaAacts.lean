/- Printed walks: Aacts. -/
import Derived.Test.YtbmjcbhappjnaaaAmk
import Derived.Test.YtbmjcbhappjnaaaA31u
set_option linter.unusedVariables false
set_option linter.unusedSimpArgs false
namespace Go.Mine
open Go.RowKit
def make_Codes_Acts_K1 (fuel : Nat) (x415 : Int) (x418 : (List Deed)) : Option ((List Deed) × Int) :=
  some (x418, x415)
def make_Codes_Acts_B1 (fuel : Nat) (a2 : Int) (c0_0 : (List Int)) (a1 : Int) (x330 : Int) (x333 : (List Deed)) : Option ((Int × (List Deed)) ⊕ (Int × (List Deed))) :=
  (andM (decide ((x333.length : Int) < a2)) ((make_Codes_Left fuel c0_0 x330).bind fun r430 => some r430)).bind fun x428 => (if x428 = true then (make_Codes_Next fuel 16 c0_0 x330).bind fun r434 => (make_Codes_Next fuel a1 c0_0 r434.2).bind fun r437 => (if (decide (r434.1 < 6)) = true then (make_Codes_Next fuel (max (w64 (a1 - 1)) 1) c0_0 r437.2).bind fun r441 => (remI (w64 ((w64 (r437.1 + 1)) + r441.1)) a1).bind fun x442 => (snoc x333 (⟨1, r437.1, x442⟩ : Deed)).bind fun x446 => some (Sum.inl (r441.2, x446)) else (if (decide (r434.1 < 12)) = true then (make_Codes_Next fuel 3 c0_0 r437.2).bind fun r450 => (snoc x333 (⟨2, 0, r450.1⟩ : Deed)).bind fun x454 => some (Sum.inl (r450.2, x454)) else (if (decide (r434.1 < 15)) = true then (snoc x333 (⟨3, r437.1, 0⟩ : Deed)).bind fun x460 => some (Sum.inl (r437.2, x460)) else (make_Codes_Int fuel c0_0 r437.2).bind fun r462 => (make_Codes_Int fuel c0_0 r462.2).bind fun r464 => (make_Codes_Int fuel c0_0 r464.2).bind fun r466 => (snoc x333 (⟨r462.1, r464.1, r466.1⟩ : Deed)).bind fun x470 => some (Sum.inl (r466.2, x470))))) else some (Sum.inr (x330, x333)))
def make_Codes_Acts (fuel : Nat) (a1 : Int) (a2 : Int) (c0_0 : (List Int)) (c0_1 : Int) : Option ((List Deed) × Int) :=
  (iter (fun s => make_Codes_Acts_B1 fuel a2 c0_0 a1 s.1 s.2) fuel (c0_1, ([] : List Deed))).bind (fun t => make_Codes_Acts_K1 fuel t.1 t.2)
end Go.Mine
namespace Go.Proofs.Ytbmjcbhappjnaaa
open Go.RowKit Go.Mine
attribute [local irreducible] eseq ewp iter
theorem make_Codes_Acts_w {F R : Nat → Prop} {w : World} {fuel : Nat} {a1 : Int} {a2 : Int} {c0_0 : (List Int)} {c0_1 : Int} {B0 : Nat} {v2 : Value} {r : ((List Deed) × Int)} (hS : Sep F R R w w [HP.blk B0 [v2, .int .i64 c0_1] 117]) (f2 : IsSlice Ty.u8 w R v2 c0_0) (h : make_Codes_Acts fuel a1 a2 c0_0 c0_1 = some r) :
    Gives Try.prog 42 [.pointer (some ⟨B0, 0, none⟩), .int .i64 a1, .int .i64 a2] w fun u w1 => ∃ (v237 : Value), ∃ (R1 : Nat → Prop), u = v237 ∧ Sep F R R1 w w1 [HP.blk B0 [v2, .int .i64 r.2] 117, HP.own deedTy (fun _ => False) 80 v237 r.1] := by
  refine fn_of Try.func42 rfl Try.ntmps42 (Nat.le_of_ble_eq_true rfl) ?_
  unfold make_Codes_Acts at h
  refine e_seq fun K238 hK238 => ?_
  refine e_region_text rfl ?_
  refine q_assign rfl rfl ?_
  refine eseq_nil ?_
  refine hK238 _ _ ?_
  refine e_seq fun K239 hK239 => ?_
  refine e_region_text rfl ?_
  refine q_assign rfl rfl ?_
  refine eseq_nil ?_
  refine hK239 _ _ ?_
  refine e_seq fun K240 hK240 => ?_
  refine e_block ?_
  obtain ⟨tl241, ht241, h⟩ := Option.of_bind h
  have hX241_0 : ∀ (x415 : Int) (x418 : (List Deed)) (v417 : Value) (R412 : Nat → Prop) (w413 : World) (E_ : Env), make_Codes_Acts_K1 fuel x415 x418 = some r → Sep F R R412 w w413 [HP.blk B0 [v2, .int .i64 x415] 117, HP.own deedTy (fun _ => False) 80 v417 x418] → IsSlice Ty.u8 w413 R412 v2 c0_0 → Sub [(7, v417)] E_ → K240 E_ w413 := by
    intro x415 x418 v417 R412 w413 E_ h hS f414 hsub
    refine hK240 _ _ (e_sub hsub ?_); clear hsub
    unfold make_Codes_Acts_K1 at h
    refine e_seq fun K419 hK419 => ?_
    refine e_region_text rfl ?_
    refine q_move rfl rfl ?_
    refine q_assign rfl rfl ?_
    refine eseq_nil ?_
    refine hK419 _ _ ?_
    refine e_ret ?_
    obtain rfl := Option.some.inj h
    exact ⟨_, res1 rfl rfl, v417, _, rfl, hS⟩
  replace hS := hS.nilOwn0 deedTy 80
  refine e_loop (fun m_ E_ w328 => ∃ (x330 : Int), ∃ (x333 : (List Deed)), ∃ (v332 : Value), ∃ (R327 : Nat → Prop), iter (fun s => make_Codes_Acts_B1 fuel a2 c0_0 a1 s.1 s.2) m_ (x330, x333) = some tl241 ∧ Sep F R R327 w w328 [HP.blk B0 [v2, .int .i64 x330] 117, HP.own deedTy (fun _ => False) 80 v332 x333] ∧ IsSlice Ty.u8 w328 R327 v2 c0_0 ∧ E_ = [(0, .pointer (some ⟨B0, 0, none⟩)), (1, .int .i64 a1), (2, .int .i64 a2), (7, v332)]) _ ⟨_, ⟨c0_1, ([] : List Deed), (.slice none 0 0), _, ht241, (hS.pickB [1, 0] 2 rfl rfl), f2, rfl⟩, Sub.cons rfl (Sub.cons rfl (Sub.cons rfl (Sub.cons rfl (Sub.nil _))))⟩ ?_
  clear ht241 hS
  rintro m241 _ w328 ⟨x330, x333, v332, R327, ht241, hS, f329, rfl⟩
  obtain ⟨m241, rfl, o241, ho241, ht241⟩ := iter_some ht241
  replace ho241 : make_Codes_Acts_B1 fuel a2 c0_0 a1 x330 x333 = some o241 := ho241
  unfold make_Codes_Acts_B1 at ho241
  refine e_seq fun K421 hK421 => ?_
  refine e_seq fun K422 hK422 => ?_
  refine e_region_text rfl ?_
  refine q_move rfl rfl ?_
  refine q_lenS rfl (hS.isl 1 rfl) rfl ?_
  refine q_move rfl rfl ?_
  refine q_lss rfl rfl rfl ?_
  refine q_move rfl rfl ?_
  obtain ⟨x428, hx427, ho241⟩ := Option.of_bind ho241
  refine g_andM 2 hx427 rfl trivial rfl rfl ?_ ?_ ?_
  · intro hg427 hx427
    clear ho241
    have hT427 := Below.refl (World.heap w328).size w328
    refine g_run rfl ?_; refine q_move rfl rfl ?_
    obtain ⟨r430, hr430, hx427⟩ := Option.of_bind hx427
    refine g_run rfl ?_; refine q_call rfl (make_Codes_Left_w (Sep.all w328) (Lent.of (hS.blk 0 rfl)) (f329).old hr430) rfl ?_
    rintro _ w429 ⟨R429, rfl, hC429⟩
    have hB429 : Below (World.heap w328).size w328 w429 := hC429.stepBF
    refine ⟨fun _ => .of_below hB429, ?_⟩
    replace f329 := f329.ext hB429
    replace hT427 := hT427.trans (Below.mono hB429 hT427.size)
    replace hS := hS.below hB429
    cases hx427
    exact eseq_nil ⟨hT427, Sub.set rfl (Sub.set rfl (Sub.bool true rfl hg427)), rfl⟩
  · intro hg427
    refine g_skip rfl rfl rfl ?_
    refine g_skip rfl rfl rfl ?_
    exact eseq_nil ⟨rfl, Sub.set rfl (Sub.set rfl (Sub.bool false rfl hg427))⟩
  intro wm427 hBm427; clear hx427
  replace hS := hS.below hBm427
  replace f329 := f329.ext hBm427
  refine eseq_nil ?_
  refine hK422 _ _ ?_
  refine e_cond rfl (fun hc431 => ?_) (fun hc431 => ?_)
  · replace ho241 := (if_pos hc431).symm.trans ho241
    refine e_skip ?_
    refine hK421 _ _ ?_
    refine e_block ?_
    refine e_seq fun K432 hK432 => ?_
    refine e_region_text rfl ?_
    refine q_move rfl rfl ?_
    obtain ⟨r434, hr434, ho241⟩ := Option.of_bind ho241
    refine q_call rfl (make_Codes_Next_w (Sep.enter (As := [_]) hS) f329 hr434) rfl ?_
    rintro _ w433 ⟨R433, rfl, hC433⟩
    refine ⟨(fun h => by cases h), ?_⟩
    have hk433 := hC433.keptR (Sep.offFeet (As := [_]) hS)
    replace f329 := (f329.kept hk433).mono fun k hk _ => hC433.ro0 k hk
    replace hS := Sep.leave (As := [_]) hS hC433; simp only [List.cons_append, List.nil_append] at hS
    refine q_assign rfl rfl ?_
    refine eseq_nil ?_
    refine hK432 _ _ ?_
    refine e_seq fun K435 hK435 => ?_
    refine e_region_text rfl ?_
    refine q_move rfl rfl ?_
    refine q_move rfl rfl ?_
    obtain ⟨r437, hr437, ho241⟩ := Option.of_bind ho241
    refine q_call rfl (make_Codes_Next_w (Sep.enter (As := [_]) hS) f329 hr437) rfl ?_
    rintro _ w436 ⟨R436, rfl, hC436⟩
    refine ⟨(fun h => by cases h), ?_⟩
    have hk436 := hC436.keptR (Sep.offFeet (As := [_]) hS)
    replace f329 := (f329.kept hk436).mono fun k hk _ => hC436.ro0 k hk
    replace hS := Sep.leave (As := [_]) hS hC436; simp only [List.cons_append, List.nil_append] at hS
    refine q_assign rfl rfl ?_
    refine eseq_nil ?_
    refine hK435 _ _ ?_
    refine e_block ?_
    refine e_seq fun K438 hK438 => ?_
    refine e_region_text rfl ?_
    refine q_move rfl rfl ?_
    refine q_lss rfl rfl rfl ?_
    refine q_assign rfl rfl ?_
    refine eseq_nil ?_
    refine hK438 _ _ ?_
    refine e_cond rfl (fun hc439 => ?_) (fun hc439 => ?_)
    · replace ho241 := (if_pos hc439).symm.trans ho241
      refine e_region_text rfl ?_
      refine q_move rfl rfl ?_
      refine q_move rfl rfl ?_
      refine q_move rfl rfl ?_
      refine q_addW rfl rfl rfl ?_
      refine q_move rfl rfl ?_
      refine q_move rfl rfl ?_
      refine q_subW rfl rfl rfl ?_
      refine q_max rfl rfl rfl ?_
      obtain ⟨r441, hr441, ho241⟩ := Option.of_bind ho241
      refine q_call rfl (make_Codes_Next_w (Sep.enter (As := [_]) hS) f329 hr441) rfl ?_
      rintro _ w440 ⟨R440, rfl, hC440⟩
      refine ⟨(fun h => by cases h), ?_⟩
      have hk440 := hC440.keptR (Sep.offFeet (As := [_]) hS)
      replace f329 := (f329.kept hk440).mono fun k hk _ => hC440.ro0 k hk
      replace hS := Sep.leave (As := [_]) hS hC440; simp only [List.cons_append, List.nil_append] at hS
      refine q_addW rfl rfl rfl ?_
      refine q_move rfl rfl ?_
      obtain ⟨x442, hx442, ho241⟩ := Option.of_bind ho241
      refine q_remM rfl rfl hx442 rfl ?_
      refine q_build (Parts.cons rfl rfl (Parts.cons rfl rfl (Parts.cons rfl rfl Parts.nil))) rfl rfl ?_
      refine q_litO (T := deedTy) (S := (fun _ => False)) (cells := [[.int .i64 1, .int .i64 r437.1, .int .i64 x442]]) (ys := [(⟨1, r437.1, x442⟩ : Deed)]) ((Parts.cons rfl rfl Parts.nil)) rfl rfl rfl rfl rfl rfl rfl (fun w1 hB => ⟨⟨[_], _, rfl, rfl, ⟨[_], _, rfl, rfl, rfl⟩⟩, trivial⟩) (fun _ h => h.elim) rfl fun w443 v443 ho443 hv443 hB443 => ?_
      replace f329 := f329.ext hB443
      replace hS := hS.newOwnS hB443 ho443 hv443 (fun _ h => h.elim)
      obtain ⟨x446, hx446, ho241⟩ := Option.of_bind ho241
      refine q_catOwn (T := deedTy) rfl rfl rfl rfl (hS.own 2 rfl) rfl (hS.own 0 rfl) (fun _ h _ => h.elim) (snoc_cat hx446) (Nat.zero_le _) rfl (fun h => by cases h) fun v445 w445 hw445 hgr445 hnw445 => ?_
      have hk445 := hS.keptOwn 2 rfl hgr445
      replace f329 := f329.kept hk445
      replace hS := hS.setOwn 2 rfl hw445 hgr445 hnw445; simp only [List.set] at hS
      refine q_assign rfl rfl ?_
      refine eseq_nil ?_
      obtain rfl := Option.some.inj ho241
      exact ⟨m241, _, Nat.lt_succ_self _, ⟨r441.2, x446, v445, _, ht241, (hS.pickB [1, 2] 3 rfl rfl), f329, rfl⟩, Sub.cons rfl (Sub.cons rfl (Sub.cons rfl (Sub.cons rfl (Sub.nil _))))⟩
    · replace ho241 := (if_neg (not_true hc439)).symm.trans ho241
      refine e_seq fun K447 hK447 => ?_
      refine e_region_text rfl ?_
      refine q_move rfl rfl ?_
      refine q_lss rfl rfl rfl ?_
      refine q_assign rfl rfl ?_
      refine eseq_nil ?_
      refine hK447 _ _ ?_
      refine e_cond rfl (fun hc448 => ?_) (fun hc448 => ?_)
      · replace ho241 := (if_pos hc448).symm.trans ho241
        refine e_region_text rfl ?_
        refine q_move rfl rfl ?_
        refine q_move rfl rfl ?_
        obtain ⟨r450, hr450, ho241⟩ := Option.of_bind ho241
        refine q_call rfl (make_Codes_Next_w (Sep.enter (As := [_]) hS) f329 hr450) rfl ?_
        rintro _ w449 ⟨R449, rfl, hC449⟩
        refine ⟨(fun h => by cases h), ?_⟩
        have hk449 := hC449.keptR (Sep.offFeet (As := [_]) hS)
        replace f329 := (f329.kept hk449).mono fun k hk _ => hC449.ro0 k hk
        replace hS := Sep.leave (As := [_]) hS hC449; simp only [List.cons_append, List.nil_append] at hS
        refine q_build (Parts.cons rfl rfl (Parts.cons rfl rfl Parts.nil)) rfl rfl ?_
        refine q_litO (T := deedTy) (S := (fun _ => False)) (cells := [[.int .i64 2, .int .i64 0, .int .i64 r450.1]]) (ys := [(⟨2, 0, r450.1⟩ : Deed)]) ((Parts.cons rfl rfl Parts.nil)) rfl rfl rfl rfl rfl rfl rfl (fun w1 hB => ⟨⟨[_], _, rfl, rfl, ⟨[_], _, rfl, rfl, rfl⟩⟩, trivial⟩) (fun _ h => h.elim) rfl fun w451 v451 ho451 hv451 hB451 => ?_
        replace f329 := f329.ext hB451
        replace hS := hS.newOwnS hB451 ho451 hv451 (fun _ h => h.elim)
        obtain ⟨x454, hx454, ho241⟩ := Option.of_bind ho241
        refine q_catOwn (T := deedTy) rfl rfl rfl rfl (hS.own 2 rfl) rfl (hS.own 0 rfl) (fun _ h _ => h.elim) (snoc_cat hx454) (Nat.zero_le _) rfl (fun h => by cases h) fun v453 w453 hw453 hgr453 hnw453 => ?_
        have hk453 := hS.keptOwn 2 rfl hgr453
        replace f329 := f329.kept hk453
        replace hS := hS.setOwn 2 rfl hw453 hgr453 hnw453; simp only [List.set] at hS
        refine q_assign rfl rfl ?_
        refine eseq_nil ?_
        obtain rfl := Option.some.inj ho241
        exact ⟨m241, _, Nat.lt_succ_self _, ⟨r450.2, x454, v453, _, ht241, (hS.pickB [1, 2] 3 rfl rfl), f329, rfl⟩, Sub.cons rfl (Sub.cons rfl (Sub.cons rfl (Sub.cons rfl (Sub.nil _))))⟩
      · replace ho241 := (if_neg (not_true hc448)).symm.trans ho241
        refine e_seq fun K455 hK455 => ?_
        refine e_region_text rfl ?_
        refine q_move rfl rfl ?_
        refine q_lss rfl rfl rfl ?_
        refine q_assign rfl rfl ?_
        refine eseq_nil ?_
        refine hK455 _ _ ?_
        refine e_cond rfl (fun hc456 => ?_) (fun hc456 => ?_)
        · replace ho241 := (if_pos hc456).symm.trans ho241
          refine e_region_text rfl ?_
          refine q_move rfl rfl ?_
          refine q_move rfl rfl ?_
          refine q_build (Parts.cons rfl rfl (Parts.cons rfl rfl Parts.nil)) rfl rfl ?_
          refine q_litO (T := deedTy) (S := (fun _ => False)) (cells := [[.int .i64 3, .int .i64 r437.1, .int .i64 0]]) (ys := [(⟨3, r437.1, 0⟩ : Deed)]) ((Parts.cons rfl rfl Parts.nil)) rfl rfl rfl rfl rfl rfl rfl (fun w1 hB => ⟨⟨[_], _, rfl, rfl, ⟨[_], _, rfl, rfl, rfl⟩⟩, trivial⟩) (fun _ h => h.elim) rfl fun w457 v457 ho457 hv457 hB457 => ?_
          replace f329 := f329.ext hB457
          replace hS := hS.newOwnS hB457 ho457 hv457 (fun _ h => h.elim)
          obtain ⟨x460, hx460, ho241⟩ := Option.of_bind ho241
          refine q_catOwn (T := deedTy) rfl rfl rfl rfl (hS.own 2 rfl) rfl (hS.own 0 rfl) (fun _ h _ => h.elim) (snoc_cat hx460) (Nat.zero_le _) rfl (fun h => by cases h) fun v459 w459 hw459 hgr459 hnw459 => ?_
          have hk459 := hS.keptOwn 2 rfl hgr459
          replace f329 := f329.kept hk459
          replace hS := hS.setOwn 2 rfl hw459 hgr459 hnw459; simp only [List.set] at hS
          refine q_assign rfl rfl ?_
          refine eseq_nil ?_
          obtain rfl := Option.some.inj ho241
          exact ⟨m241, _, Nat.lt_succ_self _, ⟨r437.2, x460, v459, _, ht241, (hS.pickB [1, 2] 3 rfl rfl), f329, rfl⟩, Sub.cons rfl (Sub.cons rfl (Sub.cons rfl (Sub.cons rfl (Sub.nil _))))⟩
        · replace ho241 := (if_neg (not_true hc456)).symm.trans ho241
          refine e_region_text rfl ?_
          refine q_move rfl rfl ?_
          refine q_move rfl rfl ?_
          obtain ⟨r462, hr462, ho241⟩ := Option.of_bind ho241
          refine q_call rfl (make_Codes_Int_w (Sep.enter (As := [_]) hS) f329 hr462) rfl ?_
          rintro _ w461 ⟨R461, rfl, hC461⟩
          refine ⟨(fun h => by cases h), ?_⟩
          have hk461 := hC461.keptR (Sep.offFeet (As := [_]) hS)
          replace f329 := (f329.kept hk461).mono fun k hk _ => hC461.ro0 k hk
          replace hS := Sep.leave (As := [_]) hS hC461; simp only [List.cons_append, List.nil_append] at hS
          refine q_move rfl rfl ?_
          obtain ⟨r464, hr464, ho241⟩ := Option.of_bind ho241
          refine q_call rfl (make_Codes_Int_w (Sep.enter (As := [_]) hS) f329 hr464) rfl ?_
          rintro _ w463 ⟨R463, rfl, hC463⟩
          refine ⟨(fun h => by cases h), ?_⟩
          have hk463 := hC463.keptR (Sep.offFeet (As := [_]) hS)
          replace f329 := (f329.kept hk463).mono fun k hk _ => hC463.ro0 k hk
          replace hS := Sep.leave (As := [_]) hS hC463; simp only [List.cons_append, List.nil_append] at hS
          refine q_move rfl rfl ?_
          obtain ⟨r466, hr466, ho241⟩ := Option.of_bind ho241
          refine q_call rfl (make_Codes_Int_w (Sep.enter (As := [_]) hS) f329 hr466) rfl ?_
          rintro _ w465 ⟨R465, rfl, hC465⟩
          refine ⟨(fun h => by cases h), ?_⟩
          have hk465 := hC465.keptR (Sep.offFeet (As := [_]) hS)
          replace f329 := (f329.kept hk465).mono fun k hk _ => hC465.ro0 k hk
          replace hS := Sep.leave (As := [_]) hS hC465; simp only [List.cons_append, List.nil_append] at hS
          refine q_build (Parts.cons rfl rfl (Parts.cons rfl rfl (Parts.cons rfl rfl Parts.nil))) rfl rfl ?_
          refine q_litO (T := deedTy) (S := (fun _ => False)) (cells := [[.int .i64 r462.1, .int .i64 r464.1, .int .i64 r466.1]]) (ys := [(⟨r462.1, r464.1, r466.1⟩ : Deed)]) ((Parts.cons rfl rfl Parts.nil)) rfl rfl rfl rfl rfl rfl rfl (fun w1 hB => ⟨⟨[_], _, rfl, rfl, ⟨[_], _, rfl, rfl, rfl⟩⟩, trivial⟩) (fun _ h => h.elim) rfl fun w467 v467 ho467 hv467 hB467 => ?_
          replace f329 := f329.ext hB467
          replace hS := hS.newOwnS hB467 ho467 hv467 (fun _ h => h.elim)
          obtain ⟨x470, hx470, ho241⟩ := Option.of_bind ho241
          refine q_catOwn (T := deedTy) rfl rfl rfl rfl (hS.own 2 rfl) rfl (hS.own 0 rfl) (fun _ h _ => h.elim) (snoc_cat hx470) (Nat.zero_le _) rfl (fun h => by cases h) fun v469 w469 hw469 hgr469 hnw469 => ?_
          have hk469 := hS.keptOwn 2 rfl hgr469
          replace f329 := f329.kept hk469
          replace hS := hS.setOwn 2 rfl hw469 hgr469 hnw469; simp only [List.set] at hS
          refine q_assign rfl rfl ?_
          refine eseq_nil ?_
          obtain rfl := Option.some.inj ho241
          exact ⟨m241, _, Nat.lt_succ_self _, ⟨r466.2, x470, v469, _, ht241, (hS.pickB [1, 2] 3 rfl rfl), f329, rfl⟩, Sub.cons rfl (Sub.cons rfl (Sub.cons rfl (Sub.cons rfl (Sub.nil _))))⟩
  · replace ho241 := (if_neg (not_true hc431)).symm.trans ho241
    refine e_exit ?_
    obtain rfl := Option.some.inj ho241
    obtain rfl := Option.some.inj ht241
    exact hX241_0 x330 x333 v332 _ _ _ h hS f329 (Sub.cons rfl (Sub.nil _))
end Go.Proofs.Ytbmjcbhappjnaaa
