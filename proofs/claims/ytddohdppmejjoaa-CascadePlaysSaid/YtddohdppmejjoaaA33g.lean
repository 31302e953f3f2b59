/- Printed walks: A33g. -/
import Derived.Test.YtddohdppmejjoaaA33f
import Derived.Test.YtddohdppmejjoaaA32a
set_option linter.unusedVariables false
set_option linter.unusedSimpArgs false
namespace Go.Mine
open Go.RowKit
def make_Codes_Shocks_K1 (fuel : Nat) (x475 : Int) (x478 : (List Shock)) : Option ((List Shock) × Int) :=
  some (x478, x475)
def make_Codes_Shocks_B1 (fuel : Nat) (a2 : Int) (c0_0 : (List Int)) (a1 : Int) (x377 : Int) (x380 : (List Shock)) : Option ((Int × (List Shock)) ⊕ (Int × (List Shock))) :=
  (andM (decide ((x380.length : Int) < a2)) ((make_Codes_Left fuel c0_0 x377).bind fun r490 => some r490)).bind fun x488 => (if x488 = true then (make_Codes_Next fuel 20 c0_0 x377).bind fun r494 => (make_Codes_Next fuel a1 c0_0 r494.2).bind fun r497 => (if (decide (r494.1 < 7)) = true then (make_Codes_Next fuel (max (w64 (a1 - 1)) 1) c0_0 r497.2).bind fun r501 => (remI (w64 ((w64 (r497.1 + 1)) + r501.1)) a1).bind fun x502 => (snoc x380 (⟨1, r497.1, x502⟩ : Shock)).bind fun x506 => some (Sum.inl (r501.2, x506)) else (if (decide (r494.1 < 15)) = true then (make_Codes_Next fuel 4 c0_0 r497.2).bind fun r510 => (snoc x380 (⟨2, 0, r510.1⟩ : Shock)).bind fun x514 => some (Sum.inl (r510.2, x514)) else (if (decide (r494.1 < 17)) = true then (snoc x380 (⟨3, r497.1, 0⟩ : Shock)).bind fun x520 => some (Sum.inl (r497.2, x520)) else (if (decide (r494.1 < 19)) = true then (snoc x380 (⟨4, r497.1, 0⟩ : Shock)).bind fun x526 => some (Sum.inl (r497.2, x526)) else (make_Codes_Int fuel c0_0 r497.2).bind fun r528 => (make_Codes_Int fuel c0_0 r528.2).bind fun r530 => (make_Codes_Int fuel c0_0 r530.2).bind fun r532 => (snoc x380 (⟨r528.1, r530.1, r532.1⟩ : Shock)).bind fun x536 => some (Sum.inl (r532.2, x536)))))) else some (Sum.inr (x377, x380)))
def make_Codes_Shocks (fuel : Nat) (a1 : Int) (a2 : Int) (c0_0 : (List Int)) (c0_1 : Int) : Option ((List Shock) × Int) :=
  (iter (fun s => make_Codes_Shocks_B1 fuel a2 c0_0 a1 s.1 s.2) fuel (c0_1, ([] : List Shock))).bind (fun t => make_Codes_Shocks_K1 fuel t.1 t.2)
end Go.Mine
namespace Go.Proofs.Ytddohdppmejjoaa
open Go.RowKit Go.Mine
attribute [local irreducible] eseq ewp iter
theorem make_Codes_Shocks_w {F R : Nat → Prop} {w : World} {fuel : Nat} {a1 : Int} {a2 : Int} {c0_0 : (List Int)} {c0_1 : Int} {B0 : Nat} {v2 : Value} {r : ((List Shock) × Int)} (hS : Sep F R R w w [HP.blk B0 [v2, .int .i64 c0_1] 80]) (f2 : IsSlice Ty.u8 w R v2 c0_0) (h : make_Codes_Shocks fuel a1 a2 c0_0 c0_1 = some r) :
    Gives Try.prog 20 [.pointer (some ⟨B0, 0, none⟩), .int .i64 a1, .int .i64 a2] w fun u w1 => ∃ (v270 : Value), ∃ (R1 : Nat → Prop), u = v270 ∧ Sep F R R1 w w1 [HP.blk B0 [v2, .int .i64 r.2] 80, HP.own shockTy (fun _ => False) 51 v270 r.1] := by
  refine fn_of Try.func20 rfl Try.ntmps20 (Nat.le_of_ble_eq_true rfl) ?_
  unfold make_Codes_Shocks at h
  refine e_seq fun K271 hK271 => ?_
  refine e_region_text rfl ?_
  refine q_assign rfl rfl ?_
  refine eseq_nil ?_
  refine hK271 _ _ ?_
  refine e_seq fun K272 hK272 => ?_
  refine e_region_text rfl ?_
  refine q_assign rfl rfl ?_
  refine eseq_nil ?_
  refine hK272 _ _ ?_
  refine e_seq fun K273 hK273 => ?_
  refine e_block ?_
  obtain ⟨tl274, ht274, h⟩ := Option.of_bind h
  have hX274_0 : ∀ (x475 : Int) (x478 : (List Shock)) (v477 : Value) (R472 : Nat → Prop) (w473 : World) (E_ : Env), make_Codes_Shocks_K1 fuel x475 x478 = some r → Sep F R R472 w w473 [HP.blk B0 [v2, .int .i64 x475] 80, HP.own shockTy (fun _ => False) 51 v477 x478] → IsSlice Ty.u8 w473 R472 v2 c0_0 → Sub [(7, v477)] E_ → K273 E_ w473 := by
    intro x475 x478 v477 R472 w473 E_ h hS f474 hsub
    refine hK273 _ _ (e_sub hsub ?_); clear hsub
    unfold make_Codes_Shocks_K1 at h
    refine e_seq fun K479 hK479 => ?_
    refine e_region_text rfl ?_
    refine q_move rfl rfl ?_
    refine q_assign rfl rfl ?_
    refine eseq_nil ?_
    refine hK479 _ _ ?_
    refine e_ret ?_
    obtain rfl := Option.some.inj h
    exact ⟨_, res1 rfl rfl, v477, _, rfl, hS⟩
  replace hS := hS.nilOwn0 shockTy 51
  refine e_loop (fun m_ E_ w375 => ∃ (x377 : Int), ∃ (x380 : (List Shock)), ∃ (v379 : Value), ∃ (R374 : Nat → Prop), iter (fun s => make_Codes_Shocks_B1 fuel a2 c0_0 a1 s.1 s.2) m_ (x377, x380) = some tl274 ∧ Sep F R R374 w w375 [HP.blk B0 [v2, .int .i64 x377] 80, HP.own shockTy (fun _ => False) 51 v379 x380] ∧ IsSlice Ty.u8 w375 R374 v2 c0_0 ∧ E_ = [(0, .pointer (some ⟨B0, 0, none⟩)), (1, .int .i64 a1), (2, .int .i64 a2), (7, v379)]) _ ⟨_, ⟨c0_1, ([] : List Shock), (.slice none 0 0), _, ht274, (hS.pickB [1, 0] 2 rfl rfl), f2, rfl⟩, Sub.cons rfl (Sub.cons rfl (Sub.cons rfl (Sub.cons rfl (Sub.nil _))))⟩ ?_
  clear ht274 hS
  rintro m274 _ w375 ⟨x377, x380, v379, R374, ht274, hS, f376, rfl⟩
  obtain ⟨m274, rfl, o274, ho274, ht274⟩ := iter_some ht274
  replace ho274 : make_Codes_Shocks_B1 fuel a2 c0_0 a1 x377 x380 = some o274 := ho274
  unfold make_Codes_Shocks_B1 at ho274
  refine e_seq fun K481 hK481 => ?_
  refine e_seq fun K482 hK482 => ?_
  refine e_region_text rfl ?_
  refine q_move rfl rfl ?_
  refine q_lenS rfl (hS.isl 1 rfl) rfl ?_
  refine q_move rfl rfl ?_
  refine q_lss rfl rfl rfl ?_
  refine q_move rfl rfl ?_
  obtain ⟨x488, hx487, ho274⟩ := Option.of_bind ho274
  refine g_andM 2 hx487 rfl trivial rfl rfl ?_ ?_ ?_
  · intro hg487 hx487
    clear ho274
    have hT487 := Below.refl (World.heap w375).size w375
    refine g_run rfl ?_; refine q_move rfl rfl ?_
    obtain ⟨r490, hr490, hx487⟩ := Option.of_bind hx487
    refine g_run rfl ?_; refine q_call rfl (make_Codes_Left_w (Sep.all w375) (Lent.of (hS.blk 0 rfl)) (f376).old hr490) rfl ?_
    rintro _ w489 ⟨R489, rfl, hC489⟩
    have hB489 : Below (World.heap w375).size w375 w489 := hC489.stepBF
    refine ⟨fun _ => .of_below hB489, ?_⟩
    replace f376 := f376.ext hB489
    replace hT487 := hT487.trans (Below.mono hB489 hT487.size)
    replace hS := hS.below hB489
    cases hx487
    exact eseq_nil ⟨hT487, Sub.set rfl (Sub.set rfl (Sub.bool true rfl hg487)), rfl⟩
  · intro hg487
    refine g_skip rfl rfl rfl ?_
    refine g_skip rfl rfl rfl ?_
    exact eseq_nil ⟨rfl, Sub.set rfl (Sub.set rfl (Sub.bool false rfl hg487))⟩
  intro wm487 hBm487; clear hx487
  replace hS := hS.below hBm487
  replace f376 := f376.ext hBm487
  refine eseq_nil ?_
  refine hK482 _ _ ?_
  refine e_cond rfl (fun hc491 => ?_) (fun hc491 => ?_)
  · replace ho274 := (if_pos hc491).symm.trans ho274
    refine e_skip ?_
    refine hK481 _ _ ?_
    refine e_block ?_
    refine e_seq fun K492 hK492 => ?_
    refine e_region_text rfl ?_
    refine q_move rfl rfl ?_
    obtain ⟨r494, hr494, ho274⟩ := Option.of_bind ho274
    refine q_call rfl (make_Codes_Next_w (Sep.enter (As := [_]) hS) f376 hr494) rfl ?_
    rintro _ w493 ⟨R493, rfl, hC493⟩
    refine ⟨(fun h => by cases h), ?_⟩
    have hk493 := hC493.keptR (Sep.offFeet (As := [_]) hS)
    replace f376 := (f376.kept hk493).mono fun k hk _ => hC493.ro0 k hk
    replace hS := Sep.leave (As := [_]) hS hC493; simp only [List.cons_append, List.nil_append] at hS
    refine q_assign rfl rfl ?_
    refine eseq_nil ?_
    refine hK492 _ _ ?_
    refine e_seq fun K495 hK495 => ?_
    refine e_region_text rfl ?_
    refine q_move rfl rfl ?_
    refine q_move rfl rfl ?_
    obtain ⟨r497, hr497, ho274⟩ := Option.of_bind ho274
    refine q_call rfl (make_Codes_Next_w (Sep.enter (As := [_]) hS) f376 hr497) rfl ?_
    rintro _ w496 ⟨R496, rfl, hC496⟩
    refine ⟨(fun h => by cases h), ?_⟩
    have hk496 := hC496.keptR (Sep.offFeet (As := [_]) hS)
    replace f376 := (f376.kept hk496).mono fun k hk _ => hC496.ro0 k hk
    replace hS := Sep.leave (As := [_]) hS hC496; simp only [List.cons_append, List.nil_append] at hS
    refine q_assign rfl rfl ?_
    refine eseq_nil ?_
    refine hK495 _ _ ?_
    refine e_block ?_
    refine e_seq fun K498 hK498 => ?_
    refine e_region_text rfl ?_
    refine q_move rfl rfl ?_
    refine q_lss rfl rfl rfl ?_
    refine q_assign rfl rfl ?_
    refine eseq_nil ?_
    refine hK498 _ _ ?_
    refine e_cond rfl (fun hc499 => ?_) (fun hc499 => ?_)
    · replace ho274 := (if_pos hc499).symm.trans ho274
      refine e_region_text rfl ?_
      refine q_move rfl rfl ?_
      refine q_move rfl rfl ?_
      refine q_move rfl rfl ?_
      refine q_addW rfl rfl rfl ?_
      refine q_move rfl rfl ?_
      refine q_move rfl rfl ?_
      refine q_subW rfl rfl rfl ?_
      refine q_max rfl rfl rfl ?_
      obtain ⟨r501, hr501, ho274⟩ := Option.of_bind ho274
      refine q_call rfl (make_Codes_Next_w (Sep.enter (As := [_]) hS) f376 hr501) rfl ?_
      rintro _ w500 ⟨R500, rfl, hC500⟩
      refine ⟨(fun h => by cases h), ?_⟩
      have hk500 := hC500.keptR (Sep.offFeet (As := [_]) hS)
      replace f376 := (f376.kept hk500).mono fun k hk _ => hC500.ro0 k hk
      replace hS := Sep.leave (As := [_]) hS hC500; simp only [List.cons_append, List.nil_append] at hS
      refine q_addW rfl rfl rfl ?_
      refine q_move rfl rfl ?_
      obtain ⟨x502, hx502, ho274⟩ := Option.of_bind ho274
      refine q_remM rfl rfl hx502 rfl ?_
      refine q_build (Parts.cons rfl rfl (Parts.cons rfl rfl (Parts.cons rfl rfl Parts.nil))) rfl rfl ?_
      refine q_litO (T := shockTy) (S := (fun _ => False)) (cells := [[.int .i64 1, .int .i64 r497.1, .int .i64 x502]]) (ys := [(⟨1, r497.1, x502⟩ : Shock)]) ((Parts.cons rfl rfl Parts.nil)) rfl rfl rfl rfl rfl rfl rfl (fun w1 hB => ⟨⟨[_], _, rfl, rfl, ⟨[_], _, rfl, rfl, rfl⟩⟩, trivial⟩) (fun _ h => h.elim) rfl fun w503 v503 ho503 hv503 hB503 => ?_
      replace f376 := f376.ext hB503
      replace hS := hS.newOwnS hB503 ho503 hv503 (fun _ h => h.elim)
      obtain ⟨x506, hx506, ho274⟩ := Option.of_bind ho274
      refine q_catOwn (T := shockTy) rfl rfl rfl rfl (hS.own 2 rfl) rfl (hS.own 0 rfl) (fun _ h _ => h.elim) (snoc_cat hx506) (Nat.zero_le _) rfl (fun h => by cases h) fun v505 w505 hw505 hgr505 hnw505 => ?_
      have hk505 := hS.keptOwn 2 rfl hgr505
      replace f376 := f376.kept hk505
      replace hS := hS.setOwn 2 rfl hw505 hgr505 hnw505; simp only [List.set] at hS
      refine q_assign rfl rfl ?_
      refine eseq_nil ?_
      obtain rfl := Option.some.inj ho274
      exact ⟨m274, _, Nat.lt_succ_self _, ⟨r501.2, x506, v505, _, ht274, (hS.pickB [1, 2] 3 rfl rfl), f376, rfl⟩, Sub.cons rfl (Sub.cons rfl (Sub.cons rfl (Sub.cons rfl (Sub.nil _))))⟩
    · replace ho274 := (if_neg (not_true hc499)).symm.trans ho274
      refine e_seq fun K507 hK507 => ?_
      refine e_region_text rfl ?_
      refine q_move rfl rfl ?_
      refine q_lss rfl rfl rfl ?_
      refine q_assign rfl rfl ?_
      refine eseq_nil ?_
      refine hK507 _ _ ?_
      refine e_cond rfl (fun hc508 => ?_) (fun hc508 => ?_)
      · replace ho274 := (if_pos hc508).symm.trans ho274
        refine e_region_text rfl ?_
        refine q_move rfl rfl ?_
        refine q_move rfl rfl ?_
        obtain ⟨r510, hr510, ho274⟩ := Option.of_bind ho274
        refine q_call rfl (make_Codes_Next_w (Sep.enter (As := [_]) hS) f376 hr510) rfl ?_
        rintro _ w509 ⟨R509, rfl, hC509⟩
        refine ⟨(fun h => by cases h), ?_⟩
        have hk509 := hC509.keptR (Sep.offFeet (As := [_]) hS)
        replace f376 := (f376.kept hk509).mono fun k hk _ => hC509.ro0 k hk
        replace hS := Sep.leave (As := [_]) hS hC509; simp only [List.cons_append, List.nil_append] at hS
        refine q_build (Parts.cons rfl rfl (Parts.cons rfl rfl Parts.nil)) rfl rfl ?_
        refine q_litO (T := shockTy) (S := (fun _ => False)) (cells := [[.int .i64 2, .int .i64 0, .int .i64 r510.1]]) (ys := [(⟨2, 0, r510.1⟩ : Shock)]) ((Parts.cons rfl rfl Parts.nil)) rfl rfl rfl rfl rfl rfl rfl (fun w1 hB => ⟨⟨[_], _, rfl, rfl, ⟨[_], _, rfl, rfl, rfl⟩⟩, trivial⟩) (fun _ h => h.elim) rfl fun w511 v511 ho511 hv511 hB511 => ?_
        replace f376 := f376.ext hB511
        replace hS := hS.newOwnS hB511 ho511 hv511 (fun _ h => h.elim)
        obtain ⟨x514, hx514, ho274⟩ := Option.of_bind ho274
        refine q_catOwn (T := shockTy) rfl rfl rfl rfl (hS.own 2 rfl) rfl (hS.own 0 rfl) (fun _ h _ => h.elim) (snoc_cat hx514) (Nat.zero_le _) rfl (fun h => by cases h) fun v513 w513 hw513 hgr513 hnw513 => ?_
        have hk513 := hS.keptOwn 2 rfl hgr513
        replace f376 := f376.kept hk513
        replace hS := hS.setOwn 2 rfl hw513 hgr513 hnw513; simp only [List.set] at hS
        refine q_assign rfl rfl ?_
        refine eseq_nil ?_
        obtain rfl := Option.some.inj ho274
        exact ⟨m274, _, Nat.lt_succ_self _, ⟨r510.2, x514, v513, _, ht274, (hS.pickB [1, 2] 3 rfl rfl), f376, rfl⟩, Sub.cons rfl (Sub.cons rfl (Sub.cons rfl (Sub.cons rfl (Sub.nil _))))⟩
      · replace ho274 := (if_neg (not_true hc508)).symm.trans ho274
        refine e_seq fun K515 hK515 => ?_
        refine e_region_text rfl ?_
        refine q_move rfl rfl ?_
        refine q_lss rfl rfl rfl ?_
        refine q_assign rfl rfl ?_
        refine eseq_nil ?_
        refine hK515 _ _ ?_
        refine e_cond rfl (fun hc516 => ?_) (fun hc516 => ?_)
        · replace ho274 := (if_pos hc516).symm.trans ho274
          refine e_region_text rfl ?_
          refine q_move rfl rfl ?_
          refine q_move rfl rfl ?_
          refine q_build (Parts.cons rfl rfl (Parts.cons rfl rfl Parts.nil)) rfl rfl ?_
          refine q_litO (T := shockTy) (S := (fun _ => False)) (cells := [[.int .i64 3, .int .i64 r497.1, .int .i64 0]]) (ys := [(⟨3, r497.1, 0⟩ : Shock)]) ((Parts.cons rfl rfl Parts.nil)) rfl rfl rfl rfl rfl rfl rfl (fun w1 hB => ⟨⟨[_], _, rfl, rfl, ⟨[_], _, rfl, rfl, rfl⟩⟩, trivial⟩) (fun _ h => h.elim) rfl fun w517 v517 ho517 hv517 hB517 => ?_
          replace f376 := f376.ext hB517
          replace hS := hS.newOwnS hB517 ho517 hv517 (fun _ h => h.elim)
          obtain ⟨x520, hx520, ho274⟩ := Option.of_bind ho274
          refine q_catOwn (T := shockTy) rfl rfl rfl rfl (hS.own 2 rfl) rfl (hS.own 0 rfl) (fun _ h _ => h.elim) (snoc_cat hx520) (Nat.zero_le _) rfl (fun h => by cases h) fun v519 w519 hw519 hgr519 hnw519 => ?_
          have hk519 := hS.keptOwn 2 rfl hgr519
          replace f376 := f376.kept hk519
          replace hS := hS.setOwn 2 rfl hw519 hgr519 hnw519; simp only [List.set] at hS
          refine q_assign rfl rfl ?_
          refine eseq_nil ?_
          obtain rfl := Option.some.inj ho274
          exact ⟨m274, _, Nat.lt_succ_self _, ⟨r497.2, x520, v519, _, ht274, (hS.pickB [1, 2] 3 rfl rfl), f376, rfl⟩, Sub.cons rfl (Sub.cons rfl (Sub.cons rfl (Sub.cons rfl (Sub.nil _))))⟩
        · replace ho274 := (if_neg (not_true hc516)).symm.trans ho274
          refine e_seq fun K521 hK521 => ?_
          refine e_region_text rfl ?_
          refine q_move rfl rfl ?_
          refine q_lss rfl rfl rfl ?_
          refine q_assign rfl rfl ?_
          refine eseq_nil ?_
          refine hK521 _ _ ?_
          refine e_cond rfl (fun hc522 => ?_) (fun hc522 => ?_)
          · replace ho274 := (if_pos hc522).symm.trans ho274
            refine e_region_text rfl ?_
            refine q_move rfl rfl ?_
            refine q_move rfl rfl ?_
            refine q_build (Parts.cons rfl rfl (Parts.cons rfl rfl Parts.nil)) rfl rfl ?_
            refine q_litO (T := shockTy) (S := (fun _ => False)) (cells := [[.int .i64 4, .int .i64 r497.1, .int .i64 0]]) (ys := [(⟨4, r497.1, 0⟩ : Shock)]) ((Parts.cons rfl rfl Parts.nil)) rfl rfl rfl rfl rfl rfl rfl (fun w1 hB => ⟨⟨[_], _, rfl, rfl, ⟨[_], _, rfl, rfl, rfl⟩⟩, trivial⟩) (fun _ h => h.elim) rfl fun w523 v523 ho523 hv523 hB523 => ?_
            replace f376 := f376.ext hB523
            replace hS := hS.newOwnS hB523 ho523 hv523 (fun _ h => h.elim)
            obtain ⟨x526, hx526, ho274⟩ := Option.of_bind ho274
            refine q_catOwn (T := shockTy) rfl rfl rfl rfl (hS.own 2 rfl) rfl (hS.own 0 rfl) (fun _ h _ => h.elim) (snoc_cat hx526) (Nat.zero_le _) rfl (fun h => by cases h) fun v525 w525 hw525 hgr525 hnw525 => ?_
            have hk525 := hS.keptOwn 2 rfl hgr525
            replace f376 := f376.kept hk525
            replace hS := hS.setOwn 2 rfl hw525 hgr525 hnw525; simp only [List.set] at hS
            refine q_assign rfl rfl ?_
            refine eseq_nil ?_
            obtain rfl := Option.some.inj ho274
            exact ⟨m274, _, Nat.lt_succ_self _, ⟨r497.2, x526, v525, _, ht274, (hS.pickB [1, 2] 3 rfl rfl), f376, rfl⟩, Sub.cons rfl (Sub.cons rfl (Sub.cons rfl (Sub.cons rfl (Sub.nil _))))⟩
          · replace ho274 := (if_neg (not_true hc522)).symm.trans ho274
            refine e_region_text rfl ?_
            refine q_move rfl rfl ?_
            refine q_move rfl rfl ?_
            obtain ⟨r528, hr528, ho274⟩ := Option.of_bind ho274
            refine q_call rfl (make_Codes_Int_w (Sep.enter (As := [_]) hS) f376 hr528) rfl ?_
            rintro _ w527 ⟨R527, rfl, hC527⟩
            refine ⟨(fun h => by cases h), ?_⟩
            have hk527 := hC527.keptR (Sep.offFeet (As := [_]) hS)
            replace f376 := (f376.kept hk527).mono fun k hk _ => hC527.ro0 k hk
            replace hS := Sep.leave (As := [_]) hS hC527; simp only [List.cons_append, List.nil_append] at hS
            refine q_move rfl rfl ?_
            obtain ⟨r530, hr530, ho274⟩ := Option.of_bind ho274
            refine q_call rfl (make_Codes_Int_w (Sep.enter (As := [_]) hS) f376 hr530) rfl ?_
            rintro _ w529 ⟨R529, rfl, hC529⟩
            refine ⟨(fun h => by cases h), ?_⟩
            have hk529 := hC529.keptR (Sep.offFeet (As := [_]) hS)
            replace f376 := (f376.kept hk529).mono fun k hk _ => hC529.ro0 k hk
            replace hS := Sep.leave (As := [_]) hS hC529; simp only [List.cons_append, List.nil_append] at hS
            refine q_move rfl rfl ?_
            obtain ⟨r532, hr532, ho274⟩ := Option.of_bind ho274
            refine q_call rfl (make_Codes_Int_w (Sep.enter (As := [_]) hS) f376 hr532) rfl ?_
            rintro _ w531 ⟨R531, rfl, hC531⟩
            refine ⟨(fun h => by cases h), ?_⟩
            have hk531 := hC531.keptR (Sep.offFeet (As := [_]) hS)
            replace f376 := (f376.kept hk531).mono fun k hk _ => hC531.ro0 k hk
            replace hS := Sep.leave (As := [_]) hS hC531; simp only [List.cons_append, List.nil_append] at hS
            refine q_build (Parts.cons rfl rfl (Parts.cons rfl rfl (Parts.cons rfl rfl Parts.nil))) rfl rfl ?_
            refine q_litO (T := shockTy) (S := (fun _ => False)) (cells := [[.int .i64 r528.1, .int .i64 r530.1, .int .i64 r532.1]]) (ys := [(⟨r528.1, r530.1, r532.1⟩ : Shock)]) ((Parts.cons rfl rfl Parts.nil)) rfl rfl rfl rfl rfl rfl rfl (fun w1 hB => ⟨⟨[_], _, rfl, rfl, ⟨[_], _, rfl, rfl, rfl⟩⟩, trivial⟩) (fun _ h => h.elim) rfl fun w533 v533 ho533 hv533 hB533 => ?_
            replace f376 := f376.ext hB533
            replace hS := hS.newOwnS hB533 ho533 hv533 (fun _ h => h.elim)
            obtain ⟨x536, hx536, ho274⟩ := Option.of_bind ho274
            refine q_catOwn (T := shockTy) rfl rfl rfl rfl (hS.own 2 rfl) rfl (hS.own 0 rfl) (fun _ h _ => h.elim) (snoc_cat hx536) (Nat.zero_le _) rfl (fun h => by cases h) fun v535 w535 hw535 hgr535 hnw535 => ?_
            have hk535 := hS.keptOwn 2 rfl hgr535
            replace f376 := f376.kept hk535
            replace hS := hS.setOwn 2 rfl hw535 hgr535 hnw535; simp only [List.set] at hS
            refine q_assign rfl rfl ?_
            refine eseq_nil ?_
            obtain rfl := Option.some.inj ho274
            exact ⟨m274, _, Nat.lt_succ_self _, ⟨r532.2, x536, v535, _, ht274, (hS.pickB [1, 2] 3 rfl rfl), f376, rfl⟩, Sub.cons rfl (Sub.cons rfl (Sub.cons rfl (Sub.cons rfl (Sub.nil _))))⟩
  · replace ho274 := (if_neg (not_true hc491)).symm.trans ho274
    refine e_exit ?_
    obtain rfl := Option.some.inj ho274
    obtain rfl := Option.some.inj ht274
    exact hX274_0 x377 x380 v379 _ _ _ h hS f376 (Sub.cons rfl (Sub.nil _))
end Go.Proofs.Ytddohdppmejjoaa
