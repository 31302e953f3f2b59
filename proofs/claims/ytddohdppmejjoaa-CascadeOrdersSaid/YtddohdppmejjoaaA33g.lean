/- Printed walks: A33g. -/
import Derived.Test.YtddohdppmejjoaaA33f
import Derived.Test.YtddohdppmejjoaaA32a
set_option linter.unusedVariables false
set_option linter.unusedSimpArgs false
namespace Go.Mine
open Go.RowKit
def make_Codes_Shocks_K1 (fuel : Nat) (x475 : Int) (x478 : (List Shock)) : Option ((List Shock) × Int) :=
  some (x478, x475)
def make_Codes_Shocks_B1 (fuel : Nat) (a2 : Int) (c0_0 : (List Int)) (a1 : Int) (x377 : Int) (x380 : (List Shock)) : Option ((Int × (List Shock)) ⊕ (Int × (List Shock))) :=
  (andM (decide ((x380.length : Int) < a2)) ((make_Codes_Left fuel c0_0 x377).bind fun r490 => some r490)).bind fun x488 => (if x488 = true then (make_Codes_Next fuel 20 c0_0 x377).bind fun r494 => (make_Codes_Next fuel a1 c0_0 r494.2).bind fun r497 => (if (decide (r494.1 < 7)) = true then (make_Codes_Next fuel (max (w64 (a1 - 1)) 1) c0_0 r497.2).bind fun r501 => (remI (w64 ((w64 (r497.1 + 1)) + r501.1)) a1).bind fun x502 => (snoc x380 (⟨1, r497.1, x502⟩ : Shock)).bind fun x506 => some (Sum.inl (r501.2, x506)) else (if (decide (r494.1 < 15)) = true then (make_Codes_Next fuel 4 c0_0 r497.2).bind fun r510 => (snoc x380 (⟨2, 0, r510.1⟩ : Shock)).bind fun x514 => some (Sum.inl (r510.2, x514)) else (if (decide (r494.1 < 17)) = true then (snoc x380 (⟨3, r497.1, 0⟩ : Shock)).bind fun x520 => some (Sum.inl (r497.2, x520)) else (if (decide (r494.1 < 19)) = true then (snoc x380 (⟨4, r497.1, 0⟩ : Shock)).bind fun x526 => some (Sum.inl (r497.2, x526)) else (make_Codes_Int fuel c0_0 r497.2).bind fun r528 => (make_Codes_Int fuel c0_0 r528.2).bind fun r530 => (make_Codes_Int fuel c0_0 r530.2).bind fun r532 => (snoc x380 (⟨r528.1, r530.1, r532.1⟩ : Shock)).bind fun x536 => some (Sum.inl (r532.2, x536)))))) else some (Sum.inr (x377, x380)))
def make_Codes_Shocks (fuel : Nat) (a1 : Int) (a2 : Int) (c0_0 : (List Int)) (c0_1 : Int) : Option ((List Shock) × Int) :=
  (iter (fun s => make_Codes_Shocks_B1 fuel a2 c0_0 a1 s.1 s.2) fuel (c0_1, ([] : List Shock))).bind (fun t => make_Codes_Shocks_K1 fuel t.1 t.2)
def law33_play_K1 (fuel : Nat) (r673 : ((List Int) × Int)) (r695 : ((List Shock) × Int)) (x1187 : (List Branch)) (x1190 : (List Letter)) : Option (Cascade × (List Int) × Int × Bool) :=
  some ((⟨x1187, x1190⟩ : Cascade), r673.1, r695.2, true)
def law33_play_J1 (fuel : Nat) (r678 : (Int × Int)) (r673 : ((List Int) × Int)) (r695 : ((List Shock) × Int)) (x1036 : Int) (x1261 : (List Branch)) (x1264 : (List Letter)) : Option (((List Branch) × (List Letter) × Int) ⊕ (((List Branch) × (List Letter)) ⊕ (Cascade × (List Int) × Int × Bool))) :=
  (if ((x1261.length : Int) != (w64 (2 + r678.1))) = true then some (Sum.inr (Sum.inr ((⟨x1261, x1264⟩ : Cascade), r673.1, r695.2, false))) else some (Sum.inl (x1261, x1264, (w64 (x1036 + 1)))))
def law33_play_J2 (fuel : Nat) (r1276 : (Cascade × Int)) (r678 : (Int × Int)) (r673 : ((List Int) × Int)) (r695 : ((List Shock) × Int)) (x1036 : Int) (x1030 : (List Branch)) (x1033 : (List Letter)) (x1306 : (List Branch)) (x1309 : (List Letter)) : Option (((List Branch) × (List Letter) × Int) ⊕ (((List Branch) × (List Letter)) ⊕ (Cascade × (List Int) × Int × Bool))) :=
  (if (r1276.2 == 0) = true then law33_play_J1 fuel r678 r673 r695 x1036 x1306 x1309 else law33_play_J1 fuel r678 r673 r695 x1036 x1030 x1033)
def law33_play_B1 (fuel : Nat) (r695 : ((List Shock) × Int)) (r678 : (Int × Int)) (r673 : ((List Int) × Int)) (x1030 : (List Branch)) (x1033 : (List Letter)) (x1036 : Int) : Option (((List Branch) × (List Letter) × Int) ⊕ (((List Branch) × (List Letter)) ⊕ (Cascade × (List Int) × Int × Bool))) :=
  (if (decide (x1036 < (r695.1.length : Int))) = true then (ati r695.1 x1036).bind fun x1272 => (cascade_Step fuel (⟨x1030, x1033⟩ : Cascade) x1272).bind fun r1276 => law33_play_J2 fuel r1276 r678 r673 r695 x1036 x1030 x1033 r1276.1.branches r1276.1.flight else some (Sum.inr (Sum.inl (x1030, x1033))))
def law33_play (fuel : Nat) (a0 : (List Int)) (a1 : Int) : Option (Cascade × (List Int) × Int × Bool) :=
  (make_New fuel a0 250).bind fun r673 => (make_Codes_Next fuel 3 r673.1 r673.2).bind fun r678 => (cascade_New fuel (w64 (2 + r678.1))).bind fun r681 => (if (r681.2 != 0) = true then some ((⟨r681.1.branches, ([] : List Letter)⟩ : Cascade), r673.1, r678.2, false) else (make_Codes_Shocks fuel (w64 (2 + r678.1)) a1 r673.1 r678.2).bind fun r695 => (iter (fun s => law33_play_B1 fuel r695 r678 r673 s.1 s.2.1 s.2.2) fuel (r681.1.branches, ([] : List Letter), 0)).bind (fun t => Sum.elim (fun t => law33_play_K1 fuel r673 r695 t.1 t.2) (fun t => some t) t))
def law33_settled (fuel : Nat) (a0 : (List Int)) : Option (Cascade × (List Int) × Int × Bool) :=
  (law33_play fuel a0 50).bind fun r35 => (if (!r35.2.2.2) = true then some ((⟨r35.1.branches, r35.1.flight⟩ : Cascade), r35.2.1, r35.2.2.1, false) else (cascade_Settle fuel (⟨r35.1.branches, r35.1.flight⟩ : Cascade)).bind fun r50 => some ((⟨r50.branches, r50.flight⟩ : Cascade), r35.2.1, r35.2.2.1, true))
def ref32_Full_K1 (fuel : Nat) (x130 : (List Int)) : Option ((List Int)) :=
  some x130
def ref32_Full_B1 (fuel : Nat) (a0 : (List (List Evt))) (x106 : (List Int)) (x107 : Int) : Option (((List Int) × Int) ⊕ ((List Int))) :=
  (if (decide (x107 < (a0.length : Int))) = true then (ati a0 x107).bind fun x137 => (snoc x106 (x137.length : Int)).bind fun x143 => some (Sum.inl (x143, (w64 (x107 + 1)))) else some (Sum.inr x106))
def ref32_Full (fuel : Nat) (a0 : (List (List Evt))) : Option ((List Int)) :=
  (iter (fun s => ref32_Full_B1 fuel a0 s.1 s.2) fuel (([] : List Int), 0)).bind (fun t => ref32_Full_K1 fuel t)
def law33_beginnings_K1 (fuel : Nat) (a0 : (List (List Evt))) (a1 : (List (List Evt))) : Option (Bool) :=
  some ((a0.length : Int) == (a1.length : Int))
def law33_beginnings_K2 (fuel : Nat) (x509 : Int) : Option ((Int) ⊕ (Unit ⊕ (Bool))) :=
  some (Sum.inl (w64 (x509 + 1)))
def law33_beginnings_B2 (fuel : Nat) (a0 : (List (List Evt))) (x509 : Int) (a1 : (List (List Evt))) (x696 : Int) : Option ((Int) ⊕ (Unit ⊕ (Bool))) :=
  (ati a0 x509).bind fun x730 => (if (decide (x696 < (x730.length : Int))) = true then (ati a0 x509).bind fun x736 => (ati x736 x696).bind fun x739 => (ati a1 x509).bind fun x742 => (ati x742 x696).bind fun x745 => (if (!((x739.kind == x745.kind) && ((x739.inc == x745.inc) && ((x739.frm == x745.frm) && ((((x739.sent.inc == x745.sent.inc) && ((x739.sent.index == x745.sent.index) && true))) && ((x739.ord == x745.ord) && ((x739.value == x745.value) && true))))))) = true then some (Sum.inr (Sum.inr false)) else some (Sum.inl (w64 (x696 + 1)))) else some (Sum.inr (Sum.inl ())))
def law33_beginnings_B1 (fuel : Nat) (a0 : (List (List Evt))) (a1 : (List (List Evt))) (x509 : Int) : Option ((Int) ⊕ (Unit ⊕ (Bool))) :=
  (if (decide (x509 < (a0.length : Int))) = true then (orM (decide ((a1.length : Int) ≤ x509)) ((ati a0 x509).bind fun x651 => (ati a1 x509).bind fun x654 => some (decide ((x654.length : Int) < (x651.length : Int))))).bind fun x650 => (if x650 = true then some (Sum.inr (Sum.inr false)) else (iter (fun s => law33_beginnings_B2 fuel a0 x509 a1 s) fuel 0).bind (fun t => Sum.elim (fun t => law33_beginnings_K2 fuel x509) (fun t => some (Sum.inr (Sum.inr t))) t)) else some (Sum.inr (Sum.inl ())))
def law33_beginnings (fuel : Nat) (a0 : (List (List Evt))) (a1 : (List (List Evt))) : Option (Bool) :=
  (iter (fun s => law33_beginnings_B1 fuel a0 a1 s) fuel 0).bind (fun t => Sum.elim (fun t => law33_beginnings_K1 fuel a0 a1) (fun t => some t) t)
end Go.Mine
namespace Go.Proofs.Ytddohdppmejjoaa
open Go.RowKit Go.Mine
attribute [local irreducible] eseq ewp iter
theorem make_Codes_Shocks_w {F R : Nat → Prop} {w : World} {fuel : Nat} {a1 : Int} {a2 : Int} {c0_0 : (List Int)} {c0_1 : Int} {B0 : Nat} {v2 : Value} {r : ((List Shock) × Int)} (hS : Sep F R R w w [HP.blk B0 [v2, .int .i64 c0_1] 80]) (f2 : IsSlice Ty.u8 w R v2 c0_0) (h : make_Codes_Shocks fuel a1 a2 c0_0 c0_1 = some r) :
    Gives Try.prog 20 [.pointer (some ⟨B0, 0, none⟩), .int .i64 a1, .int .i64 a2] w fun u w1 => ∃ (v270 : Value), ∃ (R1 : Nat → Prop), u = v270 ∧ Sep F R R1 w w1 [HP.blk B0 [v2, .int .i64 r.2] 80, HP.own shockTy (fun _ => False) 51 v270 r.1] := by
  refine fn_of Try.func20 rfl Try.ntmps20 (Nat.le_of_ble_eq_true rfl) ?_
  unfold make_Codes_Shocks at h
  refine e_seq fun K271 hK271 => ?_
  refine e_region_text rfl ?_
  refine q_assign rfl rfl ?_
  refine eseq_nil ?_
  refine hK271 _ _ ?_
  refine e_seq fun K272 hK272 => ?_
  refine e_region_text rfl ?_
  refine q_assign rfl rfl ?_
  refine eseq_nil ?_
  refine hK272 _ _ ?_
  refine e_seq fun K273 hK273 => ?_
  refine e_block ?_
  obtain ⟨tl274, ht274, h⟩ := Option.of_bind h
  have hX274_0 : ∀ (x475 : Int) (x478 : (List Shock)) (v477 : Value) (R472 : Nat → Prop) (w473 : World) (E_ : Env), make_Codes_Shocks_K1 fuel x475 x478 = some r → Sep F R R472 w w473 [HP.blk B0 [v2, .int .i64 x475] 80, HP.own shockTy (fun _ => False) 51 v477 x478] → IsSlice Ty.u8 w473 R472 v2 c0_0 → Sub [(7, v477)] E_ → K273 E_ w473 := by
    intro x475 x478 v477 R472 w473 E_ h hS f474 hsub
    refine hK273 _ _ (e_sub hsub ?_); clear hsub
    unfold make_Codes_Shocks_K1 at h
    refine e_seq fun K479 hK479 => ?_
    refine e_region_text rfl ?_
    refine q_move rfl rfl ?_
    refine q_assign rfl rfl ?_
    refine eseq_nil ?_
    refine hK479 _ _ ?_
    refine e_ret ?_
    obtain rfl := Option.some.inj h
    exact ⟨_, res1 rfl rfl, v477, _, rfl, hS⟩
  replace hS := hS.nilOwn0 shockTy 51
  refine e_loop (fun m_ E_ w375 => ∃ (x377 : Int), ∃ (x380 : (List Shock)), ∃ (v379 : Value), ∃ (R374 : Nat → Prop), iter (fun s => make_Codes_Shocks_B1 fuel a2 c0_0 a1 s.1 s.2) m_ (x377, x380) = some tl274 ∧ Sep F R R374 w w375 [HP.blk B0 [v2, .int .i64 x377] 80, HP.own shockTy (fun _ => False) 51 v379 x380] ∧ IsSlice Ty.u8 w375 R374 v2 c0_0 ∧ E_ = [(0, .pointer (some ⟨B0, 0, none⟩)), (1, .int .i64 a1), (2, .int .i64 a2), (7, v379)]) _ ⟨_, ⟨c0_1, ([] : List Shock), (.slice none 0 0), _, ht274, (hS.pickB [1, 0] 2 rfl rfl), f2, rfl⟩, Sub.cons rfl (Sub.cons rfl (Sub.cons rfl (Sub.cons rfl (Sub.nil _))))⟩ ?_
  clear ht274 hS
  rintro m274 _ w375 ⟨x377, x380, v379, R374, ht274, hS, f376, rfl⟩
  obtain ⟨m274, rfl, o274, ho274, ht274⟩ := iter_some ht274
  replace ho274 : make_Codes_Shocks_B1 fuel a2 c0_0 a1 x377 x380 = some o274 := ho274
  unfold make_Codes_Shocks_B1 at ho274
  refine e_seq fun K481 hK481 => ?_
  refine e_seq fun K482 hK482 => ?_
  refine e_region_text rfl ?_
  refine q_move rfl rfl ?_
  refine q_lenS rfl (hS.isl 1 rfl) rfl ?_
  refine q_move rfl rfl ?_
  refine q_lss rfl rfl rfl ?_
  refine q_move rfl rfl ?_
  obtain ⟨x488, hx487, ho274⟩ := Option.of_bind ho274
  refine g_andM 2 hx487 rfl trivial rfl rfl ?_ ?_ ?_
  · intro hg487 hx487
    clear ho274
    have hT487 := Below.refl (World.heap w375).size w375
    refine g_run rfl ?_; refine q_move rfl rfl ?_
    obtain ⟨r490, hr490, hx487⟩ := Option.of_bind hx487
    refine g_run rfl ?_; refine q_call rfl (make_Codes_Left_w (Sep.all w375) (Lent.of (hS.blk 0 rfl)) (f376).old hr490) rfl ?_
    rintro _ w489 ⟨R489, rfl, hC489⟩
    have hB489 : Below (World.heap w375).size w375 w489 := hC489.stepBF
    refine ⟨fun _ => .of_below hB489, ?_⟩
    replace f376 := f376.ext hB489
    replace hT487 := hT487.trans (Below.mono hB489 hT487.size)
    replace hS := hS.below hB489
    cases hx487
    exact eseq_nil ⟨hT487, Sub.set rfl (Sub.set rfl (Sub.bool true rfl hg487)), rfl⟩
  · intro hg487
    refine g_skip rfl rfl rfl ?_
    refine g_skip rfl rfl rfl ?_
    exact eseq_nil ⟨rfl, Sub.set rfl (Sub.set rfl (Sub.bool false rfl hg487))⟩
  intro wm487 hBm487; clear hx487
  replace hS := hS.below hBm487
  replace f376 := f376.ext hBm487
  refine eseq_nil ?_
  refine hK482 _ _ ?_
  refine e_cond rfl (fun hc491 => ?_) (fun hc491 => ?_)
  · replace ho274 := (if_pos hc491).symm.trans ho274
    refine e_skip ?_
    refine hK481 _ _ ?_
    refine e_block ?_
    refine e_seq fun K492 hK492 => ?_
    refine e_region_text rfl ?_
    refine q_move rfl rfl ?_
    obtain ⟨r494, hr494, ho274⟩ := Option.of_bind ho274
    refine q_call rfl (make_Codes_Next_w (Sep.enter (As := [_]) hS) f376 hr494) rfl ?_
    rintro _ w493 ⟨R493, rfl, hC493⟩
    refine ⟨(fun h => by cases h), ?_⟩
    have hk493 := hC493.keptR (Sep.offFeet (As := [_]) hS)
    replace f376 := (f376.kept hk493).mono fun k hk _ => hC493.ro0 k hk
    replace hS := Sep.leave (As := [_]) hS hC493; simp only [List.cons_append, List.nil_append] at hS
    refine q_assign rfl rfl ?_
    refine eseq_nil ?_
    refine hK492 _ _ ?_
    refine e_seq fun K495 hK495 => ?_
    refine e_region_text rfl ?_
    refine q_move rfl rfl ?_
    refine q_move rfl rfl ?_
    obtain ⟨r497, hr497, ho274⟩ := Option.of_bind ho274
    refine q_call rfl (make_Codes_Next_w (Sep.enter (As := [_]) hS) f376 hr497) rfl ?_
    rintro _ w496 ⟨R496, rfl, hC496⟩
    refine ⟨(fun h => by cases h), ?_⟩
    have hk496 := hC496.keptR (Sep.offFeet (As := [_]) hS)
    replace f376 := (f376.kept hk496).mono fun k hk _ => hC496.ro0 k hk
    replace hS := Sep.leave (As := [_]) hS hC496; simp only [List.cons_append, List.nil_append] at hS
    refine q_assign rfl rfl ?_
    refine eseq_nil ?_
    refine hK495 _ _ ?_
    refine e_block ?_
    refine e_seq fun K498 hK498 => ?_
    refine e_region_text rfl ?_
    refine q_move rfl rfl ?_
    refine q_lss rfl rfl rfl ?_
    refine q_assign rfl rfl ?_
    refine eseq_nil ?_
    refine hK498 _ _ ?_
    refine e_cond rfl (fun hc499 => ?_) (fun hc499 => ?_)
    · replace ho274 := (if_pos hc499).symm.trans ho274
      refine e_region_text rfl ?_
      refine q_move rfl rfl ?_
      refine q_move rfl rfl ?_
      refine q_move rfl rfl ?_
      refine q_addW rfl rfl rfl ?_
      refine q_move rfl rfl ?_
      refine q_move rfl rfl ?_
      refine q_subW rfl rfl rfl ?_
      refine q_max rfl rfl rfl ?_
      obtain ⟨r501, hr501, ho274⟩ := Option.of_bind ho274
      refine q_call rfl (make_Codes_Next_w (Sep.enter (As := [_]) hS) f376 hr501) rfl ?_
      rintro _ w500 ⟨R500, rfl, hC500⟩
      refine ⟨(fun h => by cases h), ?_⟩
      have hk500 := hC500.keptR (Sep.offFeet (As := [_]) hS)
      replace f376 := (f376.kept hk500).mono fun k hk _ => hC500.ro0 k hk
      replace hS := Sep.leave (As := [_]) hS hC500; simp only [List.cons_append, List.nil_append] at hS
      refine q_addW rfl rfl rfl ?_
      refine q_move rfl rfl ?_
      obtain ⟨x502, hx502, ho274⟩ := Option.of_bind ho274
      refine q_remM rfl rfl hx502 rfl ?_
      refine q_build (Parts.cons rfl rfl (Parts.cons rfl rfl (Parts.cons rfl rfl Parts.nil))) rfl rfl ?_
      refine q_litO (T := shockTy) (S := (fun _ => False)) (cells := [[.int .i64 1, .int .i64 r497.1, .int .i64 x502]]) (ys := [(⟨1, r497.1, x502⟩ : Shock)]) ((Parts.cons rfl rfl Parts.nil)) rfl rfl rfl rfl rfl rfl rfl (fun w1 hB => ⟨⟨[_], _, rfl, rfl, ⟨[_], _, rfl, rfl, rfl⟩⟩, trivial⟩) (fun _ h => h.elim) rfl fun w503 v503 ho503 hv503 hB503 => ?_
      replace f376 := f376.ext hB503
      replace hS := hS.newOwnS hB503 ho503 hv503 (fun _ h => h.elim)
      obtain ⟨x506, hx506, ho274⟩ := Option.of_bind ho274
      refine q_catOwn (T := shockTy) rfl rfl rfl rfl (hS.own 2 rfl) rfl (hS.own 0 rfl) (fun _ h _ => h.elim) (snoc_cat hx506) (Nat.zero_le _) rfl (fun h => by cases h) fun v505 w505 hw505 hgr505 hnw505 => ?_
      have hk505 := hS.keptOwn 2 rfl hgr505
      replace f376 := f376.kept hk505
      replace hS := hS.setOwn 2 rfl hw505 hgr505 hnw505; simp only [List.set] at hS
      refine q_assign rfl rfl ?_
      refine eseq_nil ?_
      obtain rfl := Option.some.inj ho274
      exact ⟨m274, _, Nat.lt_succ_self _, ⟨r501.2, x506, v505, _, ht274, (hS.pickB [1, 2] 3 rfl rfl), f376, rfl⟩, Sub.cons rfl (Sub.cons rfl (Sub.cons rfl (Sub.cons rfl (Sub.nil _))))⟩
    · replace ho274 := (if_neg (not_true hc499)).symm.trans ho274
      refine e_seq fun K507 hK507 => ?_
      refine e_region_text rfl ?_
      refine q_move rfl rfl ?_
      refine q_lss rfl rfl rfl ?_
      refine q_assign rfl rfl ?_
      refine eseq_nil ?_
      refine hK507 _ _ ?_
      refine e_cond rfl (fun hc508 => ?_) (fun hc508 => ?_)
      · replace ho274 := (if_pos hc508).symm.trans ho274
        refine e_region_text rfl ?_
        refine q_move rfl rfl ?_
        refine q_move rfl rfl ?_
        obtain ⟨r510, hr510, ho274⟩ := Option.of_bind ho274
        refine q_call rfl (make_Codes_Next_w (Sep.enter (As := [_]) hS) f376 hr510) rfl ?_
        rintro _ w509 ⟨R509, rfl, hC509⟩
        refine ⟨(fun h => by cases h), ?_⟩
        have hk509 := hC509.keptR (Sep.offFeet (As := [_]) hS)
        replace f376 := (f376.kept hk509).mono fun k hk _ => hC509.ro0 k hk
        replace hS := Sep.leave (As := [_]) hS hC509; simp only [List.cons_append, List.nil_append] at hS
        refine q_build (Parts.cons rfl rfl (Parts.cons rfl rfl Parts.nil)) rfl rfl ?_
        refine q_litO (T := shockTy) (S := (fun _ => False)) (cells := [[.int .i64 2, .int .i64 0, .int .i64 r510.1]]) (ys := [(⟨2, 0, r510.1⟩ : Shock)]) ((Parts.cons rfl rfl Parts.nil)) rfl rfl rfl rfl rfl rfl rfl (fun w1 hB => ⟨⟨[_], _, rfl, rfl, ⟨[_], _, rfl, rfl, rfl⟩⟩, trivial⟩) (fun _ h => h.elim) rfl fun w511 v511 ho511 hv511 hB511 => ?_
        replace f376 := f376.ext hB511
        replace hS := hS.newOwnS hB511 ho511 hv511 (fun _ h => h.elim)
        obtain ⟨x514, hx514, ho274⟩ := Option.of_bind ho274
        refine q_catOwn (T := shockTy) rfl rfl rfl rfl (hS.own 2 rfl) rfl (hS.own 0 rfl) (fun _ h _ => h.elim) (snoc_cat hx514) (Nat.zero_le _) rfl (fun h => by cases h) fun v513 w513 hw513 hgr513 hnw513 => ?_
        have hk513 := hS.keptOwn 2 rfl hgr513
        replace f376 := f376.kept hk513
        replace hS := hS.setOwn 2 rfl hw513 hgr513 hnw513; simp only [List.set] at hS
        refine q_assign rfl rfl ?_
        refine eseq_nil ?_
        obtain rfl := Option.some.inj ho274
        exact ⟨m274, _, Nat.lt_succ_self _, ⟨r510.2, x514, v513, _, ht274, (hS.pickB [1, 2] 3 rfl rfl), f376, rfl⟩, Sub.cons rfl (Sub.cons rfl (Sub.cons rfl (Sub.cons rfl (Sub.nil _))))⟩
      · replace ho274 := (if_neg (not_true hc508)).symm.trans ho274
        refine e_seq fun K515 hK515 => ?_
        refine e_region_text rfl ?_
        refine q_move rfl rfl ?_
        refine q_lss rfl rfl rfl ?_
        refine q_assign rfl rfl ?_
        refine eseq_nil ?_
        refine hK515 _ _ ?_
        refine e_cond rfl (fun hc516 => ?_) (fun hc516 => ?_)
        · replace ho274 := (if_pos hc516).symm.trans ho274
          refine e_region_text rfl ?_
          refine q_move rfl rfl ?_
          refine q_move rfl rfl ?_
          refine q_build (Parts.cons rfl rfl (Parts.cons rfl rfl Parts.nil)) rfl rfl ?_
          refine q_litO (T := shockTy) (S := (fun _ => False)) (cells := [[.int .i64 3, .int .i64 r497.1, .int .i64 0]]) (ys := [(⟨3, r497.1, 0⟩ : Shock)]) ((Parts.cons rfl rfl Parts.nil)) rfl rfl rfl rfl rfl rfl rfl (fun w1 hB => ⟨⟨[_], _, rfl, rfl, ⟨[_], _, rfl, rfl, rfl⟩⟩, trivial⟩) (fun _ h => h.elim) rfl fun w517 v517 ho517 hv517 hB517 => ?_
          replace f376 := f376.ext hB517
          replace hS := hS.newOwnS hB517 ho517 hv517 (fun _ h => h.elim)
          obtain ⟨x520, hx520, ho274⟩ := Option.of_bind ho274
          refine q_catOwn (T := shockTy) rfl rfl rfl rfl (hS.own 2 rfl) rfl (hS.own 0 rfl) (fun _ h _ => h.elim) (snoc_cat hx520) (Nat.zero_le _) rfl (fun h => by cases h) fun v519 w519 hw519 hgr519 hnw519 => ?_
          have hk519 := hS.keptOwn 2 rfl hgr519
          replace f376 := f376.kept hk519
          replace hS := hS.setOwn 2 rfl hw519 hgr519 hnw519; simp only [List.set] at hS
          refine q_assign rfl rfl ?_
          refine eseq_nil ?_
          obtain rfl := Option.some.inj ho274
          exact ⟨m274, _, Nat.lt_succ_self _, ⟨r497.2, x520, v519, _, ht274, (hS.pickB [1, 2] 3 rfl rfl), f376, rfl⟩, Sub.cons rfl (Sub.cons rfl (Sub.cons rfl (Sub.cons rfl (Sub.nil _))))⟩
        · replace ho274 := (if_neg (not_true hc516)).symm.trans ho274
          refine e_seq fun K521 hK521 => ?_
          refine e_region_text rfl ?_
          refine q_move rfl rfl ?_
          refine q_lss rfl rfl rfl ?_
          refine q_assign rfl rfl ?_
          refine eseq_nil ?_
          refine hK521 _ _ ?_
          refine e_cond rfl (fun hc522 => ?_) (fun hc522 => ?_)
          · replace ho274 := (if_pos hc522).symm.trans ho274
            refine e_region_text rfl ?_
            refine q_move rfl rfl ?_
            refine q_move rfl rfl ?_
            refine q_build (Parts.cons rfl rfl (Parts.cons rfl rfl Parts.nil)) rfl rfl ?_
            refine q_litO (T := shockTy) (S := (fun _ => False)) (cells := [[.int .i64 4, .int .i64 r497.1, .int .i64 0]]) (ys := [(⟨4, r497.1, 0⟩ : Shock)]) ((Parts.cons rfl rfl Parts.nil)) rfl rfl rfl rfl rfl rfl rfl (fun w1 hB => ⟨⟨[_], _, rfl, rfl, ⟨[_], _, rfl, rfl, rfl⟩⟩, trivial⟩) (fun _ h => h.elim) rfl fun w523 v523 ho523 hv523 hB523 => ?_
            replace f376 := f376.ext hB523
            replace hS := hS.newOwnS hB523 ho523 hv523 (fun _ h => h.elim)
            obtain ⟨x526, hx526, ho274⟩ := Option.of_bind ho274
            refine q_catOwn (T := shockTy) rfl rfl rfl rfl (hS.own 2 rfl) rfl (hS.own 0 rfl) (fun _ h _ => h.elim) (snoc_cat hx526) (Nat.zero_le _) rfl (fun h => by cases h) fun v525 w525 hw525 hgr525 hnw525 => ?_
            have hk525 := hS.keptOwn 2 rfl hgr525
            replace f376 := f376.kept hk525
            replace hS := hS.setOwn 2 rfl hw525 hgr525 hnw525; simp only [List.set] at hS
            refine q_assign rfl rfl ?_
            refine eseq_nil ?_
            obtain rfl := Option.some.inj ho274
            exact ⟨m274, _, Nat.lt_succ_self _, ⟨r497.2, x526, v525, _, ht274, (hS.pickB [1, 2] 3 rfl rfl), f376, rfl⟩, Sub.cons rfl (Sub.cons rfl (Sub.cons rfl (Sub.cons rfl (Sub.nil _))))⟩
          · replace ho274 := (if_neg (not_true hc522)).symm.trans ho274
            refine e_region_text rfl ?_
            refine q_move rfl rfl ?_
            refine q_move rfl rfl ?_
            obtain ⟨r528, hr528, ho274⟩ := Option.of_bind ho274
            refine q_call rfl (make_Codes_Int_w (Sep.enter (As := [_]) hS) f376 hr528) rfl ?_
            rintro _ w527 ⟨R527, rfl, hC527⟩
            refine ⟨(fun h => by cases h), ?_⟩
            have hk527 := hC527.keptR (Sep.offFeet (As := [_]) hS)
            replace f376 := (f376.kept hk527).mono fun k hk _ => hC527.ro0 k hk
            replace hS := Sep.leave (As := [_]) hS hC527; simp only [List.cons_append, List.nil_append] at hS
            refine q_move rfl rfl ?_
            obtain ⟨r530, hr530, ho274⟩ := Option.of_bind ho274
            refine q_call rfl (make_Codes_Int_w (Sep.enter (As := [_]) hS) f376 hr530) rfl ?_
            rintro _ w529 ⟨R529, rfl, hC529⟩
            refine ⟨(fun h => by cases h), ?_⟩
            have hk529 := hC529.keptR (Sep.offFeet (As := [_]) hS)
            replace f376 := (f376.kept hk529).mono fun k hk _ => hC529.ro0 k hk
            replace hS := Sep.leave (As := [_]) hS hC529; simp only [List.cons_append, List.nil_append] at hS
            refine q_move rfl rfl ?_
            obtain ⟨r532, hr532, ho274⟩ := Option.of_bind ho274
            refine q_call rfl (make_Codes_Int_w (Sep.enter (As := [_]) hS) f376 hr532) rfl ?_
            rintro _ w531 ⟨R531, rfl, hC531⟩
            refine ⟨(fun h => by cases h), ?_⟩
            have hk531 := hC531.keptR (Sep.offFeet (As := [_]) hS)
            replace f376 := (f376.kept hk531).mono fun k hk _ => hC531.ro0 k hk
            replace hS := Sep.leave (As := [_]) hS hC531; simp only [List.cons_append, List.nil_append] at hS
            refine q_build (Parts.cons rfl rfl (Parts.cons rfl rfl (Parts.cons rfl rfl Parts.nil))) rfl rfl ?_
            refine q_litO (T := shockTy) (S := (fun _ => False)) (cells := [[.int .i64 r528.1, .int .i64 r530.1, .int .i64 r532.1]]) (ys := [(⟨r528.1, r530.1, r532.1⟩ : Shock)]) ((Parts.cons rfl rfl Parts.nil)) rfl rfl rfl rfl rfl rfl rfl (fun w1 hB => ⟨⟨[_], _, rfl, rfl, ⟨[_], _, rfl, rfl, rfl⟩⟩, trivial⟩) (fun _ h => h.elim) rfl fun w533 v533 ho533 hv533 hB533 => ?_
            replace f376 := f376.ext hB533
            replace hS := hS.newOwnS hB533 ho533 hv533 (fun _ h => h.elim)
            obtain ⟨x536, hx536, ho274⟩ := Option.of_bind ho274
            refine q_catOwn (T := shockTy) rfl rfl rfl rfl (hS.own 2 rfl) rfl (hS.own 0 rfl) (fun _ h _ => h.elim) (snoc_cat hx536) (Nat.zero_le _) rfl (fun h => by cases h) fun v535 w535 hw535 hgr535 hnw535 => ?_
            have hk535 := hS.keptOwn 2 rfl hgr535
            replace f376 := f376.kept hk535
            replace hS := hS.setOwn 2 rfl hw535 hgr535 hnw535; simp only [List.set] at hS
            refine q_assign rfl rfl ?_
            refine eseq_nil ?_
            obtain rfl := Option.some.inj ho274
            exact ⟨m274, _, Nat.lt_succ_self _, ⟨r532.2, x536, v535, _, ht274, (hS.pickB [1, 2] 3 rfl rfl), f376, rfl⟩, Sub.cons rfl (Sub.cons rfl (Sub.cons rfl (Sub.cons rfl (Sub.nil _))))⟩
  · replace ho274 := (if_neg (not_true hc491)).symm.trans ho274
    refine e_exit ?_
    obtain rfl := Option.some.inj ho274
    obtain rfl := Option.some.inj ht274
    exact hX274_0 x377 x380 v379 _ _ _ h hS f376 (Sub.cons rfl (Sub.nil _))
theorem law33_play_w {F R : Nat → Prop} {w : World} {fuel : Nat} {a0 : (List Int)} {a1 : Int} {v1 : Value} {r : (Cascade × (List Int) × Int × Bool)} (hS : Sep F R R w w []) (f1 : IsSlice Ty.u8 w R v1 a0) (h : law33_play fuel a0 a1 = some r) :
    Gives Try.prog 33 [v1, .int .i64 a1] w fun u w1 => ∃ (v664 : Value), ∃ (v665 : Value), ∃ (B666 : Nat), ∃ (v667 : Value), ∃ (R1 : Nat → Prop), u = .tuple #[.agg #[v664, v665], .pointer (some ⟨B666, 0, none⟩), .bool r.2.2.2] ∧ Sep F R R1 w w1 [HP.blk B666 [v667, .int .i64 r.2.2.1] 80] ∧ IsSlice branchTy w1 R1 v664 r.1.branches ∧ IsSlice letterTy w1 R1 v665 r.1.flight ∧ IsSlice Ty.u8 w1 R1 v667 r.2.1 := by
  refine fn_of Try.func33 rfl Try.ntmps33 (Nat.le_of_ble_eq_true rfl) ?_
  unfold law33_play at h
  refine e_seq fun K668 hK668 => ?_
  refine e_region_text rfl ?_
  refine q_allocB rfl fun w669 bl669 hg669 hb669 hB669 => ?_
  replace f1 := f1.ext hB669
  replace hS := hS.newBlk hB669 hg669 hb669
  refine q_assign rfl rfl ?_
  refine q_assign rfl rfl ?_
  refine eseq_nil ?_
  refine hK668 _ _ ?_
  refine e_seq fun K671 hK671 => ?_
  refine e_region_text rfl ?_
  refine q_move rfl rfl ?_
  obtain ⟨r673, hr673, h⟩ := Option.of_bind h
  refine q_call rfl (make_New_w (Sep.enter (As := []) hS) f1 hr673) rfl ?_
  rintro _ w672 ⟨B674, v675, R672, rfl, hC672, f675⟩
  have hB672 : Below (World.heap w669).size w669 w672 := hC672.stepB0
  refine ⟨fun _ => .of_below hB672, ?_⟩
  replace f1 := (f1.ext hB672).mono fun k hk _ => hC672.ro0 k hk
  replace hS := Sep.leave (As := []) hS hC672; simp only [List.cons_append, List.nil_append] at hS
  refine q_assign rfl rfl ?_
  refine eseq_nil ?_
  refine hK671 _ _ ?_
  refine e_seq fun K676 hK676 => ?_
  refine e_region_text rfl ?_
  refine q_move rfl rfl ?_
  obtain ⟨r678, hr678, h⟩ := Option.of_bind h
  refine q_call rfl (make_Codes_Next_w (Sep.enter (As := [_]) hS) f675 hr678) rfl ?_
  rintro _ w677 ⟨R677, rfl, hC677⟩
  refine ⟨(fun h => by cases h), ?_⟩
  have hk677 := hC677.keptR (Sep.offFeet (As := [_]) hS)
  replace f675 := (f675.kept hk677).mono fun k hk _ => hC677.ro0 k hk
  replace hS := Sep.leave (As := [_]) hS hC677; simp only [List.cons_append, List.nil_append] at hS
  refine q_addW rfl rfl rfl ?_
  refine q_assign rfl rfl ?_
  refine eseq_nil ?_
  refine hK676 _ _ ?_
  refine e_seq fun K679 hK679 => ?_
  refine e_region_text rfl ?_
  refine q_move rfl rfl ?_
  obtain ⟨r681, hr681, h⟩ := Option.of_bind h
  refine q_call rfl (cascade_New_w (Sep.enter (As := []) hS)  hr681) rfl ?_
  rintro _ w680 ⟨v682, R680, rfl, hC680⟩
  have hB680 : Below (World.heap w677).size w677 w680 := hC680.stepB0
  refine ⟨fun _ => .of_below hB680, ?_⟩
  replace f675 := (f675.ext hB680).mono fun k hk _ => hC680.ro0 k hk
  replace hS := Sep.leave (As := []) hS hC680; simp only [List.cons_append, List.nil_append] at hS
  refine q_move rfl rfl ?_
  refine q_extract rfl rfl rfl ?_
  refine q_extract rfl rfl rfl ?_
  refine q_allocB rfl fun w684 bl684 hg684 hb684 hB684 => ?_
  replace f675 := f675.ext hB684
  replace hS := hS.newBlk hB684 hg684 hb684
  refine q_storeAgg rfl rfl (hS.blk 0 rfl) rfl (Nat.le_of_ble_eq_true rfl) (all_cons (hS.own 1 rfl).one (all_cons rfl (all_nil))) rfl rfl fun w686 hb686 hO686 => ?_
  simp only [setN, List.set, List.take, List.drop] at hb686
  have hk686 := hS.keptBlk 0 rfl hO686
  replace f675 := f675.kept hk686
  replace hS := hS.setBlk 0 rfl hb686 hO686; simp only [List.set] at hS
  refine q_assign rfl rfl ?_
  refine eseq_nil ?_
  refine hK679 _ _ ?_
  refine e_seq fun K687 hK687 => ?_
  refine e_seq fun K688 hK688 => ?_
  refine e_region_text rfl ?_
  refine q_move rfl rfl ?_
  refine q_neq rfl rfl rfl ?_
  refine eseq_nil ?_
  refine hK688 _ _ ?_
  refine e_cond rfl (fun hc689 => ?_) (fun hc689 => ?_)
  · replace h := (if_pos hc689).symm.trans h
    refine e_seq fun K690 hK690 => ?_
    refine e_region_text rfl ?_
    refine q_loadAgg rfl (Blk.cellsAt (hS.blk 0 rfl) 0 2 rfl) rfl rfl ?_
    refine q_move rfl rfl ?_
    refine q_storeAgg rfl rfl (hS.blk 3 rfl) rfl (Nat.le_of_ble_eq_true rfl) (all_cons (hS.own 1 rfl).one (all_cons rfl (all_nil))) rfl rfl fun w691 hb691 hO691 => ?_
    simp only [setN, List.set, List.take, List.drop] at hb691
    have hk691 := hS.keptBlk 3 rfl hO691
    replace f675 := f675.kept hk691
    replace hS := hS.setBlk 3 rfl hb691 hO691; simp only [List.set] at hS
    refine q_assign rfl rfl ?_
    refine q_assign rfl rfl ?_
    refine eseq_nil ?_
    refine hK690 _ _ ?_
    refine e_ret ?_
    obtain ⟨R692, hS, hm692, f692⟩ := hS.freezeOwn 1 rfl; simp only [List.eraseIdx] at hS
    replace f675 := f675.mono fun k hk _ => hm692 k hk
    obtain rfl := Option.some.inj h
    exact ⟨_, resCTT rfl rfl ((hS.blk 2 rfl).cellsAt 0 2 rfl) rfl rfl rfl, v682, (.slice none 0 0), B674, v675, _, rfl, (hS.pickB [1] 3 rfl rfl), f692, (IsSlice.nil _ _ _), f675⟩
  · replace h := (if_neg (not_true hc689)).symm.trans h
    refine e_skip ?_
    refine hK687 _ _ ?_
    refine e_seq fun K693 hK693 => ?_
    refine e_region_text rfl ?_
    refine q_move rfl rfl ?_
    refine q_move rfl rfl ?_
    refine q_move rfl rfl ?_
    obtain ⟨r695, hr695, h⟩ := Option.of_bind h
    replace hS := hS.pickB [2, 0, 1, 3] 4 rfl rfl; simp only [List.map_cons, List.map_nil, List.getD_cons_zero, List.getD_cons_succ] at hS
    refine q_call rfl (make_Codes_Shocks_w (Sep.enter (As := [_]) hS) f675 hr695) rfl ?_
    rintro v696 w694 ⟨_, R694, rfl, hC694⟩
    refine ⟨(fun h => by cases h), ?_⟩
    have hk694 := hC694.keptR (Sep.offFeet (As := [_]) hS)
    replace f675 := (f675.kept hk694).mono fun k hk _ => hC694.ro0 k hk
    replace hS := Sep.leave (As := [_]) hS hC694; simp only [List.cons_append, List.nil_append] at hS
    refine q_assign rfl rfl ?_
    refine eseq_nil ?_
    refine hK693 _ _ ?_
    refine e_seq fun K697 hK697 => ?_
    refine e_seq fun K698 hK698 => ?_
    refine e_region_text rfl ?_
    refine q_assign rfl rfl ?_
    refine eseq_nil ?_
    refine hK698 _ _ ?_
    refine e_block ?_
    obtain ⟨tl699, ht699, h⟩ := Option.of_bind h
    have hX699_0 : ∀ (x1187 : (List Branch)) (x1190 : (List Letter)) (v1186 : Value) (v1189 : Value) (R1183 : Nat → Prop) (w1184 : World) (E_ : Env), law33_play_K1 fuel r673 r695 x1187 x1190 = some r → Sep F R R1183 w w1184 [HP.blk bl669 [.slice none 0 0, .slice none 0 0] 28, HP.blk B674 [v675, .int .i64 r695.2] 80, HP.blk bl684 [v1186, v1189] 28] → IsSlice Ty.u8 w1184 R1183 v675 r673.1 → IsSlice branchTy w1184 R1183 v1186 x1187 → IsSlice letterTy w1184 R1183 v1189 x1190 → Sub [(4, .pointer (some ⟨bl669, 0, none⟩)), (7, .pointer (some ⟨B674, 0, none⟩)), (9, .pointer (some ⟨bl684, 0, none⟩))] E_ → K697 E_ w1184 := by
      intro x1187 x1190 v1186 v1189 R1183 w1184 E_ h hS f1185 f1188 f1191 hsub
      refine hK697 _ _ (e_sub hsub ?_); clear hsub
      unfold law33_play_K1 at h
      refine e_seq fun K1192 hK1192 => ?_
      refine e_region_text rfl ?_
      refine q_loadAgg rfl (Blk.cellsAt (hS.blk 2 rfl) 0 2 rfl) rfl rfl ?_
      refine q_move rfl rfl ?_
      refine q_storeAgg rfl rfl (hS.blk 0 rfl) rfl (Nat.le_of_ble_eq_true rfl) (all_cons f1188.one (all_cons f1191.one (all_nil))) rfl rfl fun w1193 hb1193 hO1193 => ?_
      simp only [setN, List.set, List.take, List.drop] at hb1193
      have hk1193 := hS.keptBlk 0 rfl hO1193
      replace f1188 := f1188.kept hk1193
      replace f1191 := f1191.kept hk1193
      replace f1185 := f1185.kept hk1193
      replace hS := hS.setBlk 0 rfl hb1193 hO1193; simp only [List.set] at hS
      refine q_assign rfl rfl ?_
      refine q_assign rfl rfl ?_
      refine eseq_nil ?_
      refine hK1192 _ _ ?_
      refine e_ret ?_
      obtain rfl := Option.some.inj h
      exact ⟨_, resCTT rfl rfl ((hS.blk 0 rfl).cellsAt 0 2 rfl) rfl rfl rfl, v1186, v1189, B674, v675, _, rfl, (hS.pickB [1] 3 rfl rfl), f1188, f1191, f1185⟩
    replace hS := hS.ownMono 3 rfl; simp only [List.set] at hS
    obtain ⟨R1194, hS, hm1194, f1194⟩ := hS.freezeOwn 3 rfl; simp only [List.eraseIdx] at hS
    replace f675 := f675.mono fun k hk _ => hm1194 k hk
    refine e_loop (fun m_ E_ w1027 => ∃ (x1030 : (List Branch)), ∃ (x1033 : (List Letter)), ∃ (x1036 : Int), ∃ (v1029 : Value), ∃ (v1032 : Value), ∃ (R1026 : Nat → Prop), iter (fun s => law33_play_B1 fuel r695 r678 r673 s.1 s.2.1 s.2.2) m_ (x1030, x1033, x1036) = some tl699 ∧ Sep F R R1026 w w1027 [HP.blk bl669 [.slice none 0 0, .slice none 0 0] 28, HP.blk B674 [v675, .int .i64 r695.2] 80, HP.blk bl684 [v1029, v1032] 28, HP.own shockTy (fun _ => False) 51 v696 r695.1] ∧ IsSlice Ty.u8 w1027 R1026 v675 r673.1 ∧ IsSlice branchTy w1027 R1026 v1029 x1030 ∧ IsSlice letterTy w1027 R1026 v1032 x1033 ∧ E_ = [(4, .pointer (some ⟨bl669, 0, none⟩)), (7, .pointer (some ⟨B674, 0, none⟩)), (8, .int .i64 (w64 (2 + r678.1))), (9, .pointer (some ⟨bl684, 0, none⟩)), (11, v696), (12, .int .i64 x1036)]) _ ⟨_, ⟨r681.1.branches, ([] : List Letter), 0, v682, (.slice none 0 0), _, ht699, (hS.pickB [3, 0, 2, 1] 4 rfl rfl), f675, f1194, (IsSlice.nil _ _ _), rfl⟩, Sub.cons rfl (Sub.cons rfl (Sub.cons rfl (Sub.cons rfl (Sub.cons rfl (Sub.cons rfl (Sub.nil _))))))⟩ ?_
    clear ht699 hS
    rintro m699 _ w1027 ⟨x1030, x1033, x1036, v1029, v1032, R1026, ht699, hS, f1028, f1031, f1034, rfl⟩
    obtain ⟨m699, rfl, o699, ho699, ht699⟩ := iter_some ht699
    replace ho699 : law33_play_B1 fuel r695 r678 r673 x1030 x1033 x1036 = some o699 := ho699
    unfold law33_play_B1 at ho699
    refine e_seq fun K1195 hK1195 => ?_
    refine e_seq fun K1196 hK1196 => ?_
    refine e_region_text rfl ?_
    refine q_move rfl rfl ?_
    refine q_move rfl rfl ?_
    refine q_lenS rfl (hS.isl 3 rfl) rfl ?_
    refine q_lss rfl rfl rfl ?_
    refine eseq_nil ?_
    refine hK1196 _ _ ?_
    refine e_cond rfl (fun hc1197 => ?_) (fun hc1197 => ?_)
    · replace ho699 := (if_pos hc1197).symm.trans ho699
      refine e_skip ?_
      refine hK1195 _ _ ?_
      refine e_seq fun K1198 hK1198 => ?_
      refine e_block ?_
      refine e_seq fun K1199 hK1199 => ?_
      have hJ1199 : ∀ (x1261 : (List Branch)) (x1264 : (List Letter)) (v1260 : Value) (v1263 : Value) (R1257 : Nat → Prop) (w1258 : World) (E_ : Env), law33_play_J1 fuel r678 r673 r695 x1036 x1261 x1264 = some o699 → Sep F R R1257 w w1258 [HP.blk bl669 [.slice none 0 0, .slice none 0 0] 28, HP.blk B674 [v675, .int .i64 r695.2] 80, HP.blk bl684 [v1260, v1263] 28, HP.own shockTy (fun _ => False) 51 v696 r695.1] → IsSlice Ty.u8 w1258 R1257 v675 r673.1 → IsSlice branchTy w1258 R1257 v1260 x1261 → IsSlice letterTy w1258 R1257 v1263 x1264 → Sub [(4, .pointer (some ⟨bl669, 0, none⟩)), (7, .pointer (some ⟨B674, 0, none⟩)), (8, .int .i64 (w64 (2 + r678.1))), (9, .pointer (some ⟨bl684, 0, none⟩)), (11, v696), (12, .int .i64 x1036)] E_ → K1199 E_ w1258 := by
        intro x1261 x1264 v1260 v1263 R1257 w1258 E_ ho699 hS f1259 f1262 f1265 hsub
        refine hK1199 _ _ (e_sub hsub ?_); clear hsub
        unfold law33_play_J1 at ho699
        refine e_seq fun K1267 hK1267 => ?_
        refine e_region_text rfl ?_
        refine q_field rfl rfl ?_
        refine q_load rfl (Blk.cell (hS.blk 2 rfl) rfl) rfl ?_
        refine q_lenS rfl f1262 rfl ?_
        refine q_move rfl rfl ?_
        refine q_neq rfl rfl rfl ?_
        refine eseq_nil ?_
        refine hK1267 _ _ ?_
        refine e_cond rfl (fun hc1268 => ?_) (fun hc1268 => ?_)
        · replace ho699 := (if_pos hc1268).symm.trans ho699
          refine e_seq fun K1269 hK1269 => ?_
          refine e_region_text rfl ?_
          refine q_loadAgg rfl (Blk.cellsAt (hS.blk 2 rfl) 0 2 rfl) rfl rfl ?_
          refine q_move rfl rfl ?_
          refine q_storeAgg rfl rfl (hS.blk 0 rfl) rfl (Nat.le_of_ble_eq_true rfl) (all_cons f1262.one (all_cons f1265.one (all_nil))) rfl rfl fun w1270 hb1270 hO1270 => ?_
          simp only [setN, List.set, List.take, List.drop] at hb1270
          have hk1270 := hS.keptBlk 0 rfl hO1270
          replace f1262 := f1262.kept hk1270
          replace f1265 := f1265.kept hk1270
          replace f1259 := f1259.kept hk1270
          replace hS := hS.setBlk 0 rfl hb1270 hO1270; simp only [List.set] at hS
          refine q_assign rfl rfl ?_
          refine q_assign rfl rfl ?_
          refine eseq_nil ?_
          refine hK1269 _ _ ?_
          refine e_ret ?_
          obtain rfl := Option.some.inj ho699
          obtain rfl := Option.some.inj ht699
          obtain rfl := Option.some.inj h
          exact ⟨_, resCTT rfl rfl ((hS.blk 0 rfl).cellsAt 0 2 rfl) rfl rfl rfl, v1260, v1263, B674, v675, _, rfl, (hS.pickB [1] 4 rfl rfl), f1262, f1265, f1259⟩
        · replace ho699 := (if_neg (not_true hc1268)).symm.trans ho699
          refine e_skip ?_
          refine hK1198 _ _ ?_
          refine e_region_text rfl ?_
          refine q_move rfl rfl ?_
          refine q_addW rfl rfl rfl ?_
          refine q_assign rfl rfl ?_
          refine eseq_nil ?_
          obtain rfl := Option.some.inj ho699
          exact ⟨m699, _, Nat.lt_succ_self _, ⟨x1261, x1264, (w64 (x1036 + 1)), v1260, v1263, _, ht699, hS, f1259, f1262, f1265, rfl⟩, Sub.cons rfl (Sub.cons rfl (Sub.cons rfl (Sub.cons rfl (Sub.cons rfl (Sub.cons rfl (Sub.nil _))))))⟩
      refine e_seq fun K1271 hK1271 => ?_
      have hJt1310 : ∀ (r1276 : (Cascade × Int)) (x1306 : (List Branch)) (x1309 : (List Letter)) (B1303 : Nat) (v1305 : Value) (v1308 : Value) (R1296 : Nat → Prop) (w1297 : World) (E_ : Env), law33_play_J2 fuel r1276 r678 r673 r695 x1036 x1030 x1033 x1306 x1309 = some o699 → Sep F R R1296 w w1297 [HP.blk bl669 [.slice none 0 0, .slice none 0 0] 28, HP.blk B674 [v675, .int .i64 r695.2] 80, HP.blk bl684 [v1029, v1032] 28, HP.own shockTy (fun _ => False) 51 v696 r695.1, HP.blk B1303 [v1305, v1308] 28, HP.own branchTy R1296 48 v1305 x1306, HP.own letterTy (fun _ => False) 43 v1308 x1309] → IsSlice Ty.u8 w1297 R1296 v675 r673.1 → IsSlice branchTy w1297 R1296 v1029 x1030 → IsSlice letterTy w1297 R1296 v1032 x1033 → Sub [(4, .pointer (some ⟨bl669, 0, none⟩)), (7, .pointer (some ⟨B674, 0, none⟩)), (8, .int .i64 (w64 (2 + r678.1))), (9, .pointer (some ⟨bl684, 0, none⟩)), (11, v696), (12, .int .i64 x1036), (13, .pointer (some ⟨B1303, 0, none⟩)), (14, .int .i64 r1276.2)] E_ → K1271 E_ w1297 := by
        intro r1276 x1306 x1309 B1303 v1305 v1308 R1296 w1297 E_ ho699 hS f1298 f1299 f1300 hsub
        refine hK1271 _ _ (e_sub hsub ?_); clear hsub
        unfold law33_play_J2 at ho699
        refine e_seq fun K1311 hK1311 => ?_
        refine e_region_text rfl ?_
        refine q_move rfl rfl ?_
        refine q_eql rfl rfl rfl ?_
        refine eseq_nil ?_
        refine hK1311 _ _ ?_
        refine e_cond rfl (fun hc1312 => ?_) (fun hc1312 => ?_)
        · replace ho699 := (if_pos hc1312).symm.trans ho699
          refine e_region_text rfl ?_
          refine q_loadAgg rfl (Blk.cellsAt (hS.blk 4 rfl) 0 2 rfl) rfl rfl ?_
          refine q_storeAgg rfl rfl (hS.blk 2 rfl) rfl (Nat.le_of_ble_eq_true rfl) (all_cons (hS.own 5 rfl).one (all_cons (hS.own 6 rfl).one (all_nil))) rfl rfl fun w1313 hb1313 hO1313 => ?_
          simp only [setN, List.set, List.take, List.drop] at hb1313
          have hk1313 := hS.keptBlk 2 rfl hO1313
          replace f1298 := f1298.kept hk1313
          replace hS := hS.setBlk 2 rfl hb1313 hO1313; simp only [List.set] at hS
          refine eseq_nil ?_
          obtain ⟨R1314, hS, hm1314, f1314⟩ := hS.freezeOwn 5 rfl; simp only [List.eraseIdx] at hS
          replace f1298 := f1298.mono fun k hk _ => hm1314 k hk
          obtain ⟨R1315, hS, hm1315, f1315⟩ := hS.freezeOwn 5 rfl; simp only [List.eraseIdx] at hS
          replace f1298 := f1298.mono fun k hk _ => hm1315 k hk
          replace f1314 := f1314.mono fun k hk _ => hm1315 k hk
          exact hJ1199 x1306 x1309 v1305 v1308 _ _ _ ho699 (hS.pickB [0, 1, 2, 3] 5 rfl rfl) f1298 f1314 f1315 (Sub.cons rfl (Sub.cons rfl (Sub.cons rfl (Sub.cons rfl (Sub.cons rfl (Sub.cons rfl (Sub.nil _)))))))
        · replace ho699 := (if_neg (not_true hc1312)).symm.trans ho699
          refine e_skip ?_
          exact hJ1199 x1030 x1033 v1029 v1032 _ _ _ ho699 (hS.pickB [0, 1, 2, 3] 7 rfl rfl) f1298 f1299 f1300 (Sub.cons rfl (Sub.cons rfl (Sub.cons rfl (Sub.cons rfl (Sub.cons rfl (Sub.cons rfl (Sub.nil _)))))))
      obtain ⟨x1272, hx1272, ho699⟩ := Option.of_bind ho699
      obtain ⟨r1276, hr1276, ho699⟩ := Option.of_bind ho699
      refine e_region_T mixed (fun _ => False) [0, 0, 0, 6, 14, 31, 63, 127, 127, 0, 767, 2047] [9] (QT.op 0 (QT.op 1 (QT.op 2 (QT.op 3 (QT.op 4 (QT.alt (QT.op 5 (QT.op 6 (QT.op 7 (QT.op 8 (QT.op 9 (QT.op 10 (QT.op 11 QT.fin))))))) (QT.op 9 (QT.op 5 (QT.op 6 (QT.op 7 (QT.op 8 (QT.op 10 (QT.op 11 QT.fin))))))))))))) (by kernel_rfl) ?_
      refine t_op ?_
      refine q_loadAgg rfl (Blk.cellsAt (hS.blk 2 rfl) 0 2 rfl) rfl rfl ?_
      refine eseq_nil ?_
      refine t_op ?_
      refine q_move rfl rfl ?_
      refine eseq_nil ?_
      refine t_op ?_
      refine q_move rfl rfl ?_
      refine eseq_nil ?_
      refine t_op ?_
      refine q_indexO (by infer_instance) rfl (hS.own 3 rfl) rfl hx1272 rfl ?_
      refine eseq_nil ?_
      refine t_op ?_
      have f1316 := (hS.ownR 3 rfl).elt hx1272
      have hc1317 := Shock_open f1316
      refine q_loadAgg rfl hc1317 rfl rfl ?_
      refine eseq_nil ?_
      refine t_alt ?_ ?_
      · skip
        refine t_op ?_
        refine q_call rfl (cascade_Step_w (a0 := (⟨x1030, x1033⟩ : Cascade)) (a1 := x1272) (Sep.enter (As := []) hS) f1031 f1034 hr1276) rfl ?_
        rintro _ w1318 ⟨v1319, v1320, R1318, rfl, hC1318⟩
        have hB1318 : Below (World.heap w1027).size w1027 w1318 := hC1318.stepB0
        refine ⟨fun _ => .of_below hB1318, ?_⟩
        replace f1028 := (f1028.ext hB1318).mono fun k hk _ => hC1318.ro0 k hk
        replace f1031 := (f1031.ext hB1318).mono fun k hk _ => hC1318.ro0 k hk
        replace f1034 := (f1034.ext hB1318).mono fun k hk _ => hC1318.ro0 k hk
        replace hS := Sep.leave (As := []) hS hC1318; simp only [List.cons_append, List.nil_append] at hS
        refine eseq_nil ?_
        refine t_op ?_
        refine q_move rfl rfl ?_
        refine eseq_nil ?_
        refine t_op ?_
        refine q_extract rfl rfl rfl ?_
        refine eseq_nil ?_
        refine t_op ?_
        refine q_extract rfl rfl rfl ?_
        refine eseq_nil ?_
        refine t_op ?_
        refine q_allocB rfl fun w1321 bl1321 hg1321 hb1321 hB1321 => ?_
        replace f1028 := f1028.ext hB1321
        replace f1031 := f1031.ext hB1321
        replace f1034 := f1034.ext hB1321
        replace hS := hS.newBlk hB1321 hg1321 hb1321
        refine eseq_nil ?_
        refine t_op ?_
        refine q_storeAgg rfl rfl (hS.blk 0 rfl) rfl (Nat.le_of_ble_eq_true rfl) (all_cons (hS.own 1 rfl).one (all_cons (hS.own 2 rfl).one (all_nil))) rfl rfl fun w1323 hb1323 hO1323 => ?_
        simp only [setN, List.set, List.take, List.drop] at hb1323
        have hk1323 := hS.keptBlk 0 rfl hO1323
        replace f1028 := f1028.kept hk1323
        replace f1031 := f1031.kept hk1323
        replace f1034 := f1034.kept hk1323
        replace hS := hS.setBlk 0 rfl hb1323 hO1323; simp only [List.set] at hS
        refine eseq_nil ?_
        refine t_op ?_
        refine q_assign rfl rfl ?_
        refine eseq_nil ?_
        refine t_fin ?_
        exact hJt1310 r1276 r1276.1.branches r1276.1.flight bl1321 v1319 v1320 _ _ _ ho699 (hS.pickB [3, 4, 5, 6, 0, 1, 2] 7 rfl rfl) f1028 f1031 f1034 (Sub.cons rfl (Sub.cons rfl (Sub.cons rfl (Sub.cons rfl (Sub.cons rfl (Sub.cons rfl (Sub.cons rfl (Sub.cons rfl (Sub.nil _)))))))))
      · skip
        refine t_op ?_
        refine q_allocB rfl fun w1324 bl1324 hg1324 hb1324 hB1324 => ?_
        replace f1028 := f1028.ext hB1324
        replace f1031 := f1031.ext hB1324
        replace f1034 := f1034.ext hB1324
        replace hS := hS.newBlk hB1324 hg1324 hb1324
        refine eseq_nil ?_
        refine t_op ?_
        refine q_call rfl (cascade_Step_w (a0 := (⟨x1030, x1033⟩ : Cascade)) (a1 := x1272) (Sep.enter (As := []) hS) f1031 f1034 hr1276) rfl ?_
        rintro _ w1326 ⟨v1327, v1328, R1326, rfl, hC1326⟩
        have hB1326 : Below (World.heap w1324).size w1324 w1326 := hC1326.stepB0
        refine ⟨fun _ => .of_below hB1326, ?_⟩
        replace f1028 := (f1028.ext hB1326).mono fun k hk _ => hC1326.ro0 k hk
        replace f1031 := (f1031.ext hB1326).mono fun k hk _ => hC1326.ro0 k hk
        replace f1034 := (f1034.ext hB1326).mono fun k hk _ => hC1326.ro0 k hk
        replace hS := Sep.leave (As := []) hS hC1326; simp only [List.cons_append, List.nil_append] at hS
        refine eseq_nil ?_
        refine t_op ?_
        refine q_move rfl rfl ?_
        refine eseq_nil ?_
        refine t_op ?_
        refine q_extract rfl rfl rfl ?_
        refine eseq_nil ?_
        refine t_op ?_
        refine q_extract rfl rfl rfl ?_
        refine eseq_nil ?_
        refine t_op ?_
        refine q_storeAgg rfl rfl (hS.blk 2 rfl) rfl (Nat.le_of_ble_eq_true rfl) (all_cons (hS.own 0 rfl).one (all_cons (hS.own 1 rfl).one (all_nil))) rfl rfl fun w1329 hb1329 hO1329 => ?_
        simp only [setN, List.set, List.take, List.drop] at hb1329
        have hk1329 := hS.keptBlk 2 rfl hO1329
        replace f1028 := f1028.kept hk1329
        replace f1031 := f1031.kept hk1329
        replace f1034 := f1034.kept hk1329
        replace hS := hS.setBlk 2 rfl hb1329 hO1329; simp only [List.set] at hS
        refine eseq_nil ?_
        refine t_op ?_
        refine q_assign rfl rfl ?_
        refine eseq_nil ?_
        refine t_fin ?_
        exact hJt1310 r1276 r1276.1.branches r1276.1.flight bl1324 v1327 v1328 _ _ _ ho699 (hS.pickB [3, 4, 5, 6, 2, 0, 1] 7 rfl rfl) f1028 f1031 f1034 (Sub.cons rfl (Sub.cons rfl (Sub.cons rfl (Sub.cons rfl (Sub.cons rfl (Sub.cons rfl (Sub.cons rfl (Sub.cons rfl (Sub.nil _)))))))))
    · replace ho699 := (if_neg (not_true hc1197)).symm.trans ho699
      refine e_exit ?_
      obtain rfl := Option.some.inj ho699
      obtain rfl := Option.some.inj ht699
      exact hX699_0 x1030 x1033 v1029 v1032 _ _ _ h (hS.pickB [0, 1, 2] 4 rfl rfl) f1028 f1031 f1034 (Sub.cons rfl (Sub.cons rfl (Sub.cons rfl (Sub.nil _))))
theorem law33_settled_w {F R : Nat → Prop} {w : World} {fuel : Nat} {a0 : (List Int)} {v1 : Value} {r : (Cascade × (List Int) × Int × Bool)} (hS : Sep F R R w w []) (f1 : IsSlice Ty.u8 w R v1 a0) (h : law33_settled fuel a0 = some r) :
    Gives Try.prog 15 [v1] w fun u w1 => ∃ (v26 : Value), ∃ (v27 : Value), ∃ (B28 : Nat), ∃ (v29 : Value), ∃ (R1 : Nat → Prop), u = .tuple #[.agg #[v26, v27], .pointer (some ⟨B28, 0, none⟩), .bool r.2.2.2] ∧ Sep F R R1 w w1 [HP.blk B28 [v29, .int .i64 r.2.2.1] 80] ∧ IsSlice branchTy w1 R1 v26 r.1.branches ∧ IsSlice letterTy w1 R1 v27 r.1.flight ∧ IsSlice Ty.u8 w1 R1 v29 r.2.1 := by
  refine fn_of Try.func15 rfl Try.ntmps15 (Nat.le_of_ble_eq_true rfl) ?_
  unfold law33_settled at h
  refine e_seq fun K30 hK30 => ?_
  refine e_region_text rfl ?_
  refine q_allocB rfl fun w31 bl31 hg31 hb31 hB31 => ?_
  replace f1 := f1.ext hB31
  replace hS := hS.newBlk hB31 hg31 hb31
  refine q_assign rfl rfl ?_
  refine q_assign rfl rfl ?_
  refine eseq_nil ?_
  refine hK30 _ _ ?_
  refine e_seq fun K33 hK33 => ?_
  refine e_region_text rfl ?_
  refine q_move rfl rfl ?_
  obtain ⟨r35, hr35, h⟩ := Option.of_bind h
  refine q_call rfl (law33_play_w (Sep.enter (As := []) hS) f1 hr35) rfl ?_
  rintro _ w34 ⟨v36, v37, B38, v39, R34, rfl, hC34, f36, f37, f39⟩
  have hB34 : Below (World.heap w31).size w31 w34 := hC34.stepB0
  refine ⟨fun _ => .of_below hB34, ?_⟩
  replace f1 := (f1.ext hB34).mono fun k hk _ => hC34.ro0 k hk
  replace hS := Sep.leave (As := []) hS hC34; simp only [List.cons_append, List.nil_append] at hS
  refine q_move rfl rfl ?_
  refine q_extract rfl rfl rfl ?_
  refine q_extract rfl rfl rfl ?_
  refine q_extract rfl rfl rfl ?_
  refine q_allocB rfl fun w40 bl40 hg40 hb40 hB40 => ?_
  replace f36 := f36.ext hB40
  replace f37 := f37.ext hB40
  replace f39 := f39.ext hB40
  replace hS := hS.newBlk hB40 hg40 hb40
  refine q_storeAgg rfl rfl (hS.blk 0 rfl) rfl (Nat.le_of_ble_eq_true rfl) (all_cons f36.one (all_cons f37.one (all_nil))) rfl rfl fun w42 hb42 hO42 => ?_
  simp only [setN, List.set, List.take, List.drop] at hb42
  have hk42 := hS.keptBlk 0 rfl hO42
  replace f36 := f36.kept hk42
  replace f37 := f37.kept hk42
  replace f39 := f39.kept hk42
  replace hS := hS.setBlk 0 rfl hb42 hO42; simp only [List.set] at hS
  refine q_assign rfl rfl ?_
  refine q_assign rfl rfl ?_
  refine eseq_nil ?_
  refine hK33 _ _ ?_
  refine e_seq fun K43 hK43 => ?_
  refine e_seq fun K44 hK44 => ?_
  refine e_region_text rfl ?_
  refine q_move rfl rfl ?_
  refine q_not rfl rfl ?_
  refine eseq_nil ?_
  refine hK44 _ _ ?_
  refine e_cond rfl (fun hc45 => ?_) (fun hc45 => ?_)
  · replace h := (if_pos hc45).symm.trans h
    refine e_seq fun K46 hK46 => ?_
    refine e_region_text rfl ?_
    refine q_loadAgg rfl (Blk.cellsAt (hS.blk 0 rfl) 0 2 rfl) rfl rfl ?_
    refine q_move rfl rfl ?_
    refine q_storeAgg rfl rfl (hS.blk 2 rfl) rfl (Nat.le_of_ble_eq_true rfl) (all_cons f36.one (all_cons f37.one (all_nil))) rfl rfl fun w47 hb47 hO47 => ?_
    simp only [setN, List.set, List.take, List.drop] at hb47
    have hk47 := hS.keptBlk 2 rfl hO47
    replace f36 := f36.kept hk47
    replace f37 := f37.kept hk47
    replace f39 := f39.kept hk47
    replace hS := hS.setBlk 2 rfl hb47 hO47; simp only [List.set] at hS
    refine q_assign rfl rfl ?_
    refine q_assign rfl rfl ?_
    refine eseq_nil ?_
    refine hK46 _ _ ?_
    refine e_ret ?_
    obtain rfl := Option.some.inj h
    exact ⟨_, resCTT rfl rfl ((hS.blk 2 rfl).cellsAt 0 2 rfl) rfl rfl rfl, v36, v37, B38, v39, _, rfl, (hS.pickB [1] 3 rfl rfl), f36, f37, f39⟩
  · replace h := (if_neg (not_true hc45)).symm.trans h
    refine e_skip ?_
    refine hK43 _ _ ?_
    refine e_seq fun K48 hK48 => ?_
    refine e_region_text rfl ?_
    refine q_loadAgg rfl (Blk.cellsAt (hS.blk 0 rfl) 0 2 rfl) rfl rfl ?_
    obtain ⟨r50, hr50, h⟩ := Option.of_bind h
    refine q_call rfl (cascade_Settle_w (a0 := (⟨r35.1.branches, r35.1.flight⟩ : Cascade)) (Sep.enter (As := []) hS) f36 f37 hr50) rfl ?_
    rintro _ w49 ⟨v51, v52, R49, rfl, hC49⟩
    have hB49 : Below (World.heap w42).size w42 w49 := hC49.stepB0
    refine ⟨fun _ => .of_below hB49, ?_⟩
    replace f39 := (f39.ext hB49).mono fun k hk _ => hC49.ro0 k hk
    replace f36 := (f36.ext hB49).mono fun k hk _ => hC49.ro0 k hk
    replace f37 := (f37.ext hB49).mono fun k hk _ => hC49.ro0 k hk
    replace hS := Sep.leave (As := []) hS hC49; simp only [List.cons_append, List.nil_append] at hS
    refine q_move rfl rfl ?_
    refine q_storeAgg rfl rfl (hS.blk 4 rfl) rfl (Nat.le_of_ble_eq_true rfl) (all_cons (hS.own 0 rfl).one (all_cons (hS.own 1 rfl).one (all_nil))) rfl rfl fun w53 hb53 hO53 => ?_
    simp only [setN, List.set, List.take, List.drop] at hb53
    have hk53 := hS.keptBlk 4 rfl hO53
    replace f39 := f39.kept hk53
    replace hS := hS.setBlk 4 rfl hb53 hO53; simp only [List.set] at hS
    refine q_assign rfl rfl ?_
    refine q_assign rfl rfl ?_
    refine eseq_nil ?_
    refine hK48 _ _ ?_
    refine e_ret ?_
    obtain ⟨R54, hS, hm54, f54⟩ := hS.freezeOwn 0 rfl; simp only [List.eraseIdx] at hS
    replace f39 := f39.mono fun k hk _ => hm54 k hk
    obtain ⟨R55, hS, hm55, f55⟩ := hS.freezeOwn 0 rfl; simp only [List.eraseIdx] at hS
    replace f54 := f54.mono fun k hk _ => hm55 k hk
    replace f39 := f39.mono fun k hk _ => hm55 k hk
    obtain rfl := Option.some.inj h
    exact ⟨_, resCTT rfl rfl ((hS.blk 2 rfl).cellsAt 0 2 rfl) rfl rfl rfl, v51, v52, B38, v39, _, rfl, (hS.pickB [1] 3 rfl rfl), f54, f55, f39⟩
theorem ref32_Full_w {F R : Nat → Prop} {w : World} {fuel : Nat} {a0 : (List (List Evt))} {v1 : Value} {r : ((List Int))} (hS : Sep F R R w w []) (f1 : IsSlice (Ty.slice evtTy) w R v1 a0) (h : ref32_Full fuel a0 = some r) :
    Gives Try.prog 29 [v1] w fun u w1 => ∃ (v73 : Value), ∃ (R1 : Nat → Prop), u = v73 ∧ Sep F R R1 w w1 [HP.own Ty.int (fun _ => False) 3 v73 r] := by
  refine fn_of Try.func29 rfl Try.ntmps29 (Nat.le_of_ble_eq_true rfl) ?_
  unfold ref32_Full at h
  refine e_seq fun K74 hK74 => ?_
  refine e_region_text rfl ?_
  refine q_assign rfl rfl ?_
  refine eseq_nil ?_
  refine hK74 _ _ ?_
  refine e_seq fun K75 hK75 => ?_
  refine e_region_text rfl ?_
  refine q_assign rfl rfl ?_
  refine eseq_nil ?_
  refine hK75 _ _ ?_
  refine e_seq fun K76 hK76 => ?_
  refine e_seq fun K77 hK77 => ?_
  refine e_region_text rfl ?_
  refine q_assign rfl rfl ?_
  refine eseq_nil ?_
  refine hK77 _ _ ?_
  refine e_block ?_
  obtain ⟨tl78, ht78, h⟩ := Option.of_bind h
  have hX78_0 : ∀ (x130 : (List Int)) (v129 : Value) (R126 : Nat → Prop) (w127 : World) (E_ : Env), ref32_Full_K1 fuel x130 = some r → Sep F R R126 w w127 [HP.own Ty.int (fun _ => False) 3 v129 x130] → Sub [(3, v129)] E_ → K76 E_ w127 := by
    intro x130 v129 R126 w127 E_ h hS  hsub
    refine hK76 _ _ (e_sub hsub ?_); clear hsub
    unfold ref32_Full_K1 at h
    refine e_seq fun K131 hK131 => ?_
    refine e_region_text rfl ?_
    refine q_move rfl rfl ?_
    refine q_assign rfl rfl ?_
    refine eseq_nil ?_
    refine hK131 _ _ ?_
    refine e_ret ?_
    obtain rfl := Option.some.inj h
    exact ⟨_, res1 rfl rfl, v129, _, rfl, hS⟩
  replace hS := hS.nilOwn0 Ty.int 3
  refine e_loop (fun m_ E_ w102 => ∃ (x106 : (List Int)), ∃ (x107 : Int), ∃ (v105 : Value), ∃ (R101 : Nat → Prop), iter (fun s => ref32_Full_B1 fuel a0 s.1 s.2) m_ (x106, x107) = some tl78 ∧ Sep F R R101 w w102 [HP.own Ty.int (fun _ => False) 3 v105 x106] ∧ IsSlice (Ty.slice evtTy) w102 R101 v1 a0 ∧ E_ = [(0, v1), (3, v105), (4, .int .i64 x107)]) _ ⟨_, ⟨([] : List Int), 0, (.slice none 0 0), _, ht78, hS, f1, rfl⟩, Sub.cons rfl (Sub.cons rfl (Sub.cons rfl (Sub.nil _)))⟩ ?_
  clear ht78 hS
  rintro m78 _ w102 ⟨x106, x107, v105, R101, ht78, hS, f103, rfl⟩
  obtain ⟨m78, rfl, o78, ho78, ht78⟩ := iter_some ht78
  replace ho78 : ref32_Full_B1 fuel a0 x106 x107 = some o78 := ho78
  unfold ref32_Full_B1 at ho78
  refine e_seq fun K133 hK133 => ?_
  refine e_seq fun K134 hK134 => ?_
  refine e_region_text rfl ?_
  refine q_move rfl rfl ?_
  refine q_move rfl rfl ?_
  refine q_lenS rfl f103 rfl ?_
  refine q_lss rfl rfl rfl ?_
  refine eseq_nil ?_
  refine hK134 _ _ ?_
  refine e_cond rfl (fun hc135 => ?_) (fun hc135 => ?_)
  · replace ho78 := (if_pos hc135).symm.trans ho78
    refine e_skip ?_
    refine hK133 _ _ ?_
    refine e_seq fun K136 hK136 => ?_
    refine e_block ?_
    refine e_region_text rfl ?_
    refine q_move rfl rfl ?_
    refine q_move rfl rfl ?_
    refine q_move rfl rfl ?_
    obtain ⟨x137, hx137, ho78⟩ := Option.of_bind ho78
    refine q_atS (by infer_instance) rfl f103 rfl hx137 rfl fun b138 o138 hm138 f138 => ?_
    refine q_loadE rfl f138 rfl (fun v139 f139 => ?_)
    refine q_lenS rfl f139 rfl ?_
    refine q_litO (T := Ty.int) (S := (fun _ => False)) (cells := [[.int .i64 (x137.length : Int)]]) (ys := [(x137.length : Int)]) ((Parts.cons rfl rfl Parts.nil)) rfl rfl rfl rfl rfl rfl rfl (fun w1 hB => ⟨rfl, trivial⟩) (fun _ h => h.elim) rfl fun w140 v140 ho140 hv140 hB140 => ?_
    replace f103 := f103.ext hB140
    replace hS := hS.newOwnS hB140 ho140 hv140 (fun _ h => h.elim)
    obtain ⟨x143, hx143, ho78⟩ := Option.of_bind ho78
    refine q_catOwn (T := Ty.int) rfl rfl rfl rfl (hS.own 1 rfl) rfl (hS.own 0 rfl) (fun _ h _ => h.elim) (snoc_cat hx143) (Nat.zero_le _) rfl (fun h => by cases h) fun v142 w142 hw142 hgr142 hnw142 => ?_
    have hk142 := hS.keptOwn 1 rfl hgr142
    replace f103 := f103.kept hk142
    replace hS := hS.setOwn 1 rfl hw142 hgr142 hnw142; simp only [List.set] at hS
    refine q_assign rfl rfl ?_
    refine eseq_nil ?_
    refine hK136 _ _ ?_
    refine e_region_text rfl ?_
    refine q_move rfl rfl ?_
    refine q_addW rfl rfl rfl ?_
    refine q_assign rfl rfl ?_
    refine eseq_nil ?_
    obtain rfl := Option.some.inj ho78
    exact ⟨m78, _, Nat.lt_succ_self _, ⟨x143, (w64 (x107 + 1)), v142, _, ht78, (hS.pickB [1] 2 rfl rfl), f103, rfl⟩, Sub.cons rfl (Sub.cons rfl (Sub.cons rfl (Sub.nil _)))⟩
  · replace ho78 := (if_neg (not_true hc135)).symm.trans ho78
    refine e_exit ?_
    obtain rfl := Option.some.inj ho78
    obtain rfl := Option.some.inj ht78
    exact hX78_0 x106 v105 _ _ _ h hS  (Sub.cons rfl (Sub.nil _))
theorem law33_beginnings_w {F R : Nat → Prop} {w : World} {fuel : Nat} {a0 : (List (List Evt))} {a1 : (List (List Evt))} {v1 : Value} {v2 : Value} {r : (Bool)} (hS : Sep F R R w w []) (f1 : IsSlice (Ty.slice evtTy) w R v1 a0) (f2 : IsSlice (Ty.slice evtTy) w R v2 a1) (h : law33_beginnings fuel a0 a1 = some r) :
    Gives Try.prog 32 [v1, v2] w fun u w1 => ∃ (R1 : Nat → Prop), u = .bool r ∧ Sep F R R1 w w1 [] := by
  refine fn_of Try.func32 rfl Try.ntmps32 (Nat.le_of_ble_eq_true rfl) ?_
  unfold law33_beginnings at h
  refine e_seq fun K377 hK377 => ?_
  refine e_region_text rfl ?_
  refine q_assign rfl rfl ?_
  refine eseq_nil ?_
  refine hK377 _ _ ?_
  refine e_seq fun K378 hK378 => ?_
  refine e_seq fun K379 hK379 => ?_
  refine e_region_text rfl ?_
  refine q_assign rfl rfl ?_
  refine eseq_nil ?_
  refine hK379 _ _ ?_
  refine e_block ?_
  obtain ⟨tl380, ht380, h⟩ := Option.of_bind h
  have hX380_0 : ∀ (R630 : Nat → Prop) (w631 : World) (E_ : Env), law33_beginnings_K1 fuel a0 a1 = some r → Sep F R R630 w w631 [] → IsSlice (Ty.slice evtTy) w631 R630 v1 a0 → IsSlice (Ty.slice evtTy) w631 R630 v2 a1 → Sub [(0, v1), (1, v2)] E_ → K378 E_ w631 := by
    intro R630 w631 E_ h hS f632 f633 hsub
    refine hK378 _ _ (e_sub hsub ?_); clear hsub
    unfold law33_beginnings_K1 at h
    refine e_seq fun K634 hK634 => ?_
    refine e_region_text rfl ?_
    refine q_move rfl rfl ?_
    refine q_lenS rfl f632 rfl ?_
    refine q_move rfl rfl ?_
    refine q_lenS rfl f633 rfl ?_
    refine q_eql rfl rfl rfl ?_
    refine q_assign rfl rfl ?_
    refine eseq_nil ?_
    refine hK634 _ _ ?_
    refine e_ret ?_
    obtain rfl := Option.some.inj h
    exact ⟨_, res1 rfl rfl, _, rfl, hS⟩
  refine e_loop (fun m_ E_ w506 => ∃ (x509 : Int), ∃ (R505 : Nat → Prop), iter (fun s => law33_beginnings_B1 fuel a0 a1 s) m_ x509 = some tl380 ∧ Sep F R R505 w w506 [] ∧ IsSlice (Ty.slice evtTy) w506 R505 v1 a0 ∧ IsSlice (Ty.slice evtTy) w506 R505 v2 a1 ∧ E_ = [(0, v1), (1, v2), (5, .int .i64 x509)]) _ ⟨_, ⟨0, _, ht380, hS, f1, f2, rfl⟩, Sub.cons rfl (Sub.cons rfl (Sub.cons rfl (Sub.nil _)))⟩ ?_
  clear ht380 hS
  rintro m380 _ w506 ⟨x509, R505, ht380, hS, f507, f508, rfl⟩
  obtain ⟨m380, rfl, o380, ho380, ht380⟩ := iter_some ht380
  replace ho380 : law33_beginnings_B1 fuel a0 a1 x509 = some o380 := ho380
  unfold law33_beginnings_B1 at ho380
  refine e_seq fun K635 hK635 => ?_
  refine e_seq fun K636 hK636 => ?_
  refine e_region_text rfl ?_
  refine q_move rfl rfl ?_
  refine q_move rfl rfl ?_
  refine q_lenS rfl f507 rfl ?_
  refine q_lss rfl rfl rfl ?_
  refine eseq_nil ?_
  refine hK636 _ _ ?_
  refine e_cond rfl (fun hc637 => ?_) (fun hc637 => ?_)
  · replace ho380 := (if_pos hc637).symm.trans ho380
    refine e_skip ?_
    refine hK635 _ _ ?_
    refine e_seq fun K638 hK638 => ?_
    refine e_block ?_
    refine e_seq fun K639 hK639 => ?_
    refine e_seq fun K640 hK640 => ?_
    refine e_region_draw mixed (fun _ => False) [0, 0, 2, 7, 15, 31, 31, 127, 255, 511, 31, 31, 3103, 7199, 15391, 32767, 65535] [] [0, 1, 2, 3, 4, 5, 6, 7, 8, 9, 10, 11, 12, 13, 14, 15, 16] (by kernel_rfl) ?_
    refine q_move rfl rfl ?_
    refine q_move rfl rfl ?_
    refine q_lenS rfl f508 rfl ?_
    refine q_geq rfl rfl rfl ?_
    refine q_move rfl rfl ?_
    obtain ⟨x650, hx649, ho380⟩ := Option.of_bind ho380
    refine g_orM 11 hx649 rfl trivial rfl rfl ?_ ?_ ?_
    · intro hg649
      refine g_skip rfl rfl rfl ?_
      refine g_skip rfl rfl rfl ?_
      refine g_skip rfl rfl rfl ?_
      refine g_skip rfl rfl rfl ?_
      refine g_skip rfl rfl rfl ?_
      refine g_skip rfl rfl rfl ?_
      refine g_skip rfl rfl rfl ?_
      refine g_skip rfl rfl rfl ?_
      refine g_skip rfl rfl rfl ?_
      refine g_skip rfl rfl rfl ?_
      refine g_skip rfl rfl rfl ?_
      exact eseq_nil ⟨rfl, Sub.set rfl (Sub.set rfl (Sub.set rfl (Sub.set rfl (Sub.set rfl (Sub.set rfl (Sub.set rfl (Sub.set rfl (Sub.set rfl (Sub.set rfl (Sub.set rfl (Sub.bool true rfl hg649)))))))))))⟩
    · intro hg649 hx649
      clear ho380
      have hT649 := Below.refl (World.heap w506).size w506
      refine g_run rfl ?_; refine q_move rfl rfl ?_
      refine g_run rfl ?_; refine q_move rfl rfl ?_
      obtain ⟨x651, hx651, hx649⟩ := Option.of_bind hx649
      refine g_run rfl ?_; refine q_atS (by infer_instance) rfl f507 rfl hx651 rfl fun b652 o652 hm652 f652 => ?_
      refine g_run rfl ?_; refine q_loadE rfl f652 rfl (fun v653 f653 => ?_)
      refine g_run rfl ?_; refine q_lenS rfl f653 rfl ?_
      refine g_run rfl ?_; refine q_move rfl rfl ?_
      refine g_run rfl ?_; refine q_move rfl rfl ?_
      obtain ⟨x654, hx654, hx649⟩ := Option.of_bind hx649
      refine g_run rfl ?_; refine q_atS (by infer_instance) rfl f508 rfl hx654 rfl fun b655 o655 hm655 f655 => ?_
      refine g_run rfl ?_; refine q_loadE rfl f655 rfl (fun v656 f656 => ?_)
      refine g_run rfl ?_; refine q_lenS rfl f656 rfl ?_
      refine g_run rfl ?_; refine q_gtr rfl rfl rfl ?_
      cases hx649
      exact eseq_nil ⟨hT649, Sub.set rfl (Sub.set rfl (Sub.set rfl (Sub.set rfl (Sub.set rfl (Sub.set rfl (Sub.set rfl (Sub.set rfl (Sub.set rfl (Sub.set rfl (Sub.set rfl (Sub.bool false rfl hg649))))))))))), rfl⟩
    intro wm649 hBm649; clear hx649
    replace hS := hS.below hBm649
    replace f507 := f507.ext hBm649
    replace f508 := f508.ext hBm649
    refine eseq_nil ?_
    refine hK640 _ _ ?_
    refine e_cond rfl (fun hc657 => ?_) (fun hc657 => ?_)
    · replace ho380 := (if_pos hc657).symm.trans ho380
      refine e_seq fun K658 hK658 => ?_
      refine e_region_text rfl ?_
      refine q_assign rfl rfl ?_
      refine eseq_nil ?_
      refine hK658 _ _ ?_
      refine e_ret ?_
      obtain rfl := Option.some.inj ho380
      obtain rfl := Option.some.inj ht380
      obtain rfl := Option.some.inj h
      exact ⟨_, res1 rfl rfl, _, rfl, hS⟩
    · replace ho380 := (if_neg (not_true hc657)).symm.trans ho380
      refine e_skip ?_
      refine hK639 _ _ ?_
      refine e_seq fun K659 hK659 => ?_
      refine e_region_text rfl ?_
      refine q_assign rfl rfl ?_
      refine eseq_nil ?_
      refine hK659 _ _ ?_
      refine e_block ?_
      obtain ⟨tl660, ht660, ho380⟩ := Option.of_bind ho380
      have hX660_2 : ∀ (R724 : Nat → Prop) (w725 : World) (E_ : Env), law33_beginnings_K2 fuel x509 = some o380 → Sep F R R724 w w725 [] → IsSlice (Ty.slice evtTy) w725 R724 v1 a0 → IsSlice (Ty.slice evtTy) w725 R724 v2 a1 → Sub [(0, v1), (1, v2), (5, .int .i64 x509)] E_ → K638 E_ w725 := by
        intro R724 w725 E_ ho380 hS f726 f727 hsub
        refine hK638 _ _ (e_sub hsub ?_); clear hsub
        unfold law33_beginnings_K2 at ho380
        refine e_region_text rfl ?_
        refine q_move rfl rfl ?_
        refine q_addW rfl rfl rfl ?_
        refine q_assign rfl rfl ?_
        refine eseq_nil ?_
        obtain rfl := Option.some.inj ho380
        exact ⟨m380, _, Nat.lt_succ_self _, ⟨(w64 (x509 + 1)), _, ht380, hS, f726, f727, rfl⟩, Sub.cons rfl (Sub.cons rfl (Sub.cons rfl (Sub.nil _)))⟩
      refine e_loop (fun m_ E_ w693 => ∃ (x696 : Int), ∃ (R692 : Nat → Prop), iter (fun s => law33_beginnings_B2 fuel a0 x509 a1 s) m_ x696 = some tl660 ∧ Sep F R R692 w w693 [] ∧ IsSlice (Ty.slice evtTy) w693 R692 v1 a0 ∧ IsSlice (Ty.slice evtTy) w693 R692 v2 a1 ∧ E_ = [(0, v1), (1, v2), (5, .int .i64 x509), (6, .int .i64 x696)]) _ ⟨_, ⟨0, _, ht660, hS, f507, f508, rfl⟩, Sub.cons rfl (Sub.cons rfl (Sub.cons rfl (Sub.cons rfl (Sub.nil _))))⟩ ?_
      clear ht660 hS
      rintro m660 _ w693 ⟨x696, R692, ht660, hS, f694, f695, rfl⟩
      obtain ⟨m660, rfl, o660, ho660, ht660⟩ := iter_some ht660
      replace ho660 : law33_beginnings_B2 fuel a0 x509 a1 x696 = some o660 := ho660
      unfold law33_beginnings_B2 at ho660
      refine e_seq fun K728 hK728 => ?_
      refine e_seq fun K729 hK729 => ?_
      refine e_region_text rfl ?_
      refine q_move rfl rfl ?_
      refine q_move rfl rfl ?_
      refine q_move rfl rfl ?_
      obtain ⟨x730, hx730, ho660⟩ := Option.of_bind ho660
      refine q_atS (by infer_instance) rfl f694 rfl hx730 rfl fun b731 o731 hm731 f731 => ?_
      refine q_loadE rfl f731 rfl (fun v732 f732 => ?_)
      refine q_lenS rfl f732 rfl ?_
      refine q_lss rfl rfl rfl ?_
      refine eseq_nil ?_
      refine hK729 _ _ ?_
      refine e_cond rfl (fun hc733 => ?_) (fun hc733 => ?_)
      · replace ho660 := (if_pos hc733).symm.trans ho660
        refine e_skip ?_
        refine hK728 _ _ ?_
        refine e_seq fun K734 hK734 => ?_
        refine e_block ?_
        refine e_seq fun K735 hK735 => ?_
        refine e_region_draw mixed (fun _ => False) [0, 0, 3, 7, 0, 31, 63, 0, 0, 384, 896, 0, 3968, 8064, 16383] [] [0, 1, 2, 3, 4, 5, 6, 7, 8, 9, 10, 11, 12, 13, 14] (by kernel_rfl) ?_
        refine q_move rfl rfl ?_
        refine q_move rfl rfl ?_
        obtain ⟨x736, hx736, ho660⟩ := Option.of_bind ho660
        refine q_atS (by infer_instance) rfl f694 rfl hx736 rfl fun b737 o737 hm737 f737 => ?_
        refine q_loadE rfl f737 rfl (fun v738 f738 => ?_)
        refine q_move rfl rfl ?_
        obtain ⟨x739, hx739, ho660⟩ := Option.of_bind ho660
        refine q_atS (by infer_instance) rfl f738 rfl hx739 rfl fun b740 o740 hm740 f740 => ?_
        have hc741 := Evt_open f740
        refine q_loadAgg rfl hc741 rfl rfl ?_
        refine q_move rfl rfl ?_
        refine q_move rfl rfl ?_
        obtain ⟨x742, hx742, ho660⟩ := Option.of_bind ho660
        refine q_atS (by infer_instance) rfl f695 rfl hx742 rfl fun b743 o743 hm743 f743 => ?_
        refine q_loadE rfl f743 rfl (fun v744 f744 => ?_)
        refine q_move rfl rfl ?_
        obtain ⟨x745, hx745, ho660⟩ := Option.of_bind ho660
        refine q_atS (by infer_instance) rfl f744 rfl hx745 rfl fun b746 o746 hm746 f746 => ?_
        have hc747 := Evt_open f746
        refine q_loadAgg rfl hc747 rfl rfl ?_
        refine q_neqA eqT83 (by kernel_rfl) rfl rfl rfl ?_
        refine eseq_nil ?_
        refine hK735 _ _ ?_
        refine e_cond rfl (fun hc748 => ?_) (fun hc748 => ?_)
        · replace ho660 := (if_pos hc748).symm.trans ho660
          refine e_seq fun K749 hK749 => ?_
          refine e_region_text rfl ?_
          refine q_assign rfl rfl ?_
          refine eseq_nil ?_
          refine hK749 _ _ ?_
          refine e_ret ?_
          obtain rfl := Option.some.inj ho660
          obtain rfl := Option.some.inj ht660
          obtain rfl := Option.some.inj ho380
          obtain rfl := Option.some.inj ht380
          obtain rfl := Option.some.inj h
          exact ⟨_, res1 rfl rfl, _, rfl, hS⟩
        · replace ho660 := (if_neg (not_true hc748)).symm.trans ho660
          refine e_skip ?_
          refine hK734 _ _ ?_
          refine e_region_text rfl ?_
          refine q_move rfl rfl ?_
          refine q_addW rfl rfl rfl ?_
          refine q_assign rfl rfl ?_
          refine eseq_nil ?_
          obtain rfl := Option.some.inj ho660
          exact ⟨m660, _, Nat.lt_succ_self _, ⟨(w64 (x696 + 1)), _, ht660, hS, f694, f695, rfl⟩, Sub.cons rfl (Sub.cons rfl (Sub.cons rfl (Sub.cons rfl (Sub.nil _))))⟩
      · replace ho660 := (if_neg (not_true hc733)).symm.trans ho660
        refine e_exit ?_
        obtain rfl := Option.some.inj ho660
        obtain rfl := Option.some.inj ht660
        exact hX660_2  _ _ _ ho380 hS f694 f695 (Sub.cons rfl (Sub.cons rfl (Sub.cons rfl (Sub.nil _))))
  · replace ho380 := (if_neg (not_true hc637)).symm.trans ho380
    refine e_exit ?_
    obtain rfl := Option.some.inj ho380
    obtain rfl := Option.some.inj ht380
    exact hX380_0  _ _ _ h hS f507 f508 (Sub.cons rfl (Sub.cons rfl (Sub.nil _)))
end Go.Proofs.Ytddohdppmejjoaa
