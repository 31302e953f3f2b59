/- Printed walks: A21lg. -/
import Derived.Test.YtlceljfigccllaaA21m
import Derived.Test.YtlceljfigccllaaA19r
set_option linter.unusedVariables false
set_option linter.unusedSimpArgs false
namespace Go.Mine
open Go.RowKit
def law21_ZigzagCausal_K1 (fuel : Nat) : Option (Bool) :=
  some true
def law21_ZigzagCausal_K2 (fuel : Nat) (x914 : Int) : Option ((Int) ⊕ (Unit ⊕ (Bool))) :=
  some (Sum.inl (w64 (x914 + 1)))
def law21_ZigzagCausal_B2 (fuel : Nat) (r688 : ((List Pt))) (x914 : Int) (r679 : (Pat × Int)) (x1207 : Int) : Option ((Int) ⊕ (Unit ⊕ (Bool))) :=
  (if (decide (x1207 < (r688.length : Int))) = true then (ati r688 x914).bind fun x1281 => (ati r688 x1207).bind fun x1284 => (andM (x1281.proc != x1284.proc) ((ati r688 x1207).bind fun x1299 => (ati r688 x914).bind fun x1302 => (depend_Depends fuel (⟨r679.1.lens, r679.1.ckpts, r679.1.arcs⟩ : Pat) x1299 x1302).bind fun r1306 => some r1306)).bind fun x1298 => (andM x1298 ((ati r688 x914).bind fun x1319 => (ati r688 x1207).bind fun x1322 => (zigzag_Path fuel (⟨r679.1.lens, r679.1.ckpts, r679.1.arcs⟩ : Pat) x1319 x1322).bind fun r1326 => some (!r1326))).bind fun x1318 => (if x1318 = true then some (Sum.inr (Sum.inr false)) else some (Sum.inl (w64 (x1207 + 1)))) else some (Sum.inr (Sum.inl ())))
def law21_ZigzagCausal_B1 (fuel : Nat) (r688 : ((List Pt))) (r679 : (Pat × Int)) (x914 : Int) : Option ((Int) ⊕ (Unit ⊕ (Bool))) :=
  (if (decide (x914 < (r688.length : Int))) = true then (iter (fun s => law21_ZigzagCausal_B2 fuel r688 x914 r679 s) fuel 0).bind (fun t => Sum.elim (fun t => law21_ZigzagCausal_K2 fuel x914) (fun t => some (Sum.inr (Sum.inr t))) t) else some (Sum.inr (Sum.inl ())))
def law21_ZigzagCausal (fuel : Nat) (a0 : (List Int)) : Option (Bool) :=
  (law21_awake fuel).bind fun r670 => (if (!r670) = true then some false else (make_New fuel a0 240).bind fun r675 => (make_Codes_Pattern fuel 12 r675.1 r675.2).bind fun r679 => (ref19_All fuel (⟨r679.1.lens, r679.1.ckpts, r679.1.arcs⟩ : Pat)).bind fun r688 => (iter (fun s => law21_ZigzagCausal_B1 fuel r688 r679 s) fuel 0).bind (fun t => Sum.elim (fun t => law21_ZigzagCausal_K1 fuel) (fun t => some t) t))
end Go.Mine
namespace Go.Proofs.Ytlceljfigccllaa
open Go.RowKit Go.Mine
attribute [local irreducible] eseq ewp iter
theorem law21_ZigzagCausal_w {F R : Nat → Prop} {w : World} {fuel : Nat} {a0 : (List Int)} {v1 : Value} {r : (Bool)} (hS : Sep F R R w w []) (f1 : IsSlice Ty.u8 w R v1 a0) (h : law21_ZigzagCausal fuel a0 = some r) :
    Gives Try.prog 4 [v1] w fun u w1 => ∃ (R1 : Nat → Prop), u = .bool r ∧ Sep F R R1 w w1 [] := by
  refine fn_of Try.func4 rfl Try.ntmps4 (Nat.le_of_ble_eq_true rfl) ?_
  unfold law21_ZigzagCausal at h
  refine e_seq fun K666 hK666 => ?_
  refine e_region_text rfl ?_
  refine q_assign rfl rfl ?_
  refine eseq_nil ?_
  refine hK666 _ _ ?_
  refine e_seq fun K667 hK667 => ?_
  refine e_seq fun K668 hK668 => ?_
  refine e_region_text rfl ?_
  obtain ⟨r670, hr670, h⟩ := Option.of_bind h
  refine q_call rfl (law21_awake_w (Sep.enter (As := []) hS)  hr670) rfl ?_
  rintro _ w669 ⟨R669, rfl, hC669⟩
  have hB669 : Below (World.heap w).size w w669 := hC669.stepB0
  refine ⟨fun _ => .of_below hB669, ?_⟩
  replace f1 := (f1.ext hB669).mono fun k hk _ => hC669.ro0 k hk
  replace hS := Sep.leave (As := []) hS hC669; simp only [List.cons_append, List.nil_append] at hS
  refine q_not rfl rfl ?_
  refine eseq_nil ?_
  refine hK668 _ _ ?_
  refine e_cond rfl (fun hc671 => ?_) (fun hc671 => ?_)
  · replace h := (if_pos hc671).symm.trans h
    refine e_seq fun K672 hK672 => ?_
    refine e_region_text rfl ?_
    refine q_assign rfl rfl ?_
    refine eseq_nil ?_
    refine hK672 _ _ ?_
    refine e_ret ?_
    obtain rfl := Option.some.inj h
    exact ⟨_, res1 rfl rfl, _, rfl, hS⟩
  · replace h := (if_neg (not_true hc671)).symm.trans h
    refine e_skip ?_
    refine hK667 _ _ ?_
    refine e_seq fun K673 hK673 => ?_
    refine e_region_text rfl ?_
    refine q_move rfl rfl ?_
    obtain ⟨r675, hr675, h⟩ := Option.of_bind h
    refine q_call rfl (make_New_w (Sep.enter (As := []) hS) f1 hr675) rfl ?_
    rintro _ w674 ⟨B676, v677, R674, rfl, hC674, f677⟩
    have hB674 : Below (World.heap w669).size w669 w674 := hC674.stepB0
    refine ⟨fun _ => .of_below hB674, ?_⟩
    replace f1 := (f1.ext hB674).mono fun k hk _ => hC674.ro0 k hk
    replace hS := Sep.leave (As := []) hS hC674; simp only [List.cons_append, List.nil_append] at hS
    obtain ⟨r679, hr679, h⟩ := Option.of_bind h
    refine q_call rfl (make_Codes_Pattern_w (Sep.enter (As := [_]) hS) f677 hr679) rfl ?_
    rintro _ w678 ⟨v680, v681, v682, R678, rfl, hC678, f680, f681⟩
    refine ⟨(fun h => by cases h), ?_⟩
    have hk678 := hC678.keptR (Sep.offFeet (As := [_]) hS)
    replace f677 := (f677.kept hk678).mono fun k hk _ => hC678.ro0 k hk
    replace hS := Sep.leave (As := [_]) hS hC678; simp only [List.cons_append, List.nil_append] at hS
    refine q_allocB rfl fun w683 bl683 hg683 hb683 hB683 => ?_
    replace f680 := f680.ext hB683
    replace f681 := f681.ext hB683
    replace hS := hS.newBlk hB683 hg683 hb683
    refine q_storeAgg rfl rfl (hS.blk 0 rfl) rfl (Nat.le_of_ble_eq_true rfl) (all_cons f680.one (all_cons f681.one (all_cons (hS.own 2 rfl).one (all_nil)))) rfl rfl fun w685 hb685 hO685 => ?_
    simp only [setN, List.set, List.take, List.drop] at hb685
    have hk685 := hS.keptBlk 0 rfl hO685
    replace f680 := f680.kept hk685
    replace f681 := f681.kept hk685
    replace hS := hS.setBlk 0 rfl hb685 hO685; simp only [List.set] at hS
    refine eseq_nil ?_
    refine hK673 _ _ ?_
    refine e_seq fun K686 hK686 => ?_
    refine e_region_text rfl ?_
    refine q_loadAgg rfl (Blk.cellsAt (hS.blk 0 rfl) 0 3 rfl) rfl rfl ?_
    obtain ⟨r688, hr688, h⟩ := Option.of_bind h
    refine q_call rfl (ref19_All_w (a0 := (⟨r679.1.lens, r679.1.ckpts, r679.1.arcs⟩ : Pat)) (Sep.all w685) (f680).old (f681).old ((hS.isl 2 rfl)).old hr688) rfl ?_
    rintro v689 w687 ⟨_, R687, rfl, hC687⟩
    have hB687 : Below (World.heap w685).size w685 w687 := hC687.stepBF
    refine ⟨fun _ => .of_below hB687, ?_⟩
    replace f680 := f680.ext hB687
    replace f681 := f681.ext hB687
    replace hS := hS.newOwnS hB687 (hC687.own 0 rfl) (hC687.fresh 0 rfl) (fun _ h => h.elim)
    refine q_assign rfl rfl ?_
    refine eseq_nil ?_
    refine hK686 _ _ ?_
    refine e_seq fun K690 hK690 => ?_
    refine e_seq fun K691 hK691 => ?_
    refine e_region_text rfl ?_
    refine q_move rfl rfl ?_
    refine q_lenS rfl (hS.isl 0 rfl) rfl ?_
    refine q_move rfl rfl ?_
    refine eseq_nil ?_
    refine hK691 _ _ ?_
    refine e_block ?_
    obtain ⟨tl692, ht692, h⟩ := Option.of_bind h
    have hX692_0 : ∀ (R1124 : Nat → Prop) (w1125 : World) (E_ : Env), law21_ZigzagCausal_K1 fuel = some r → Sep F R R1124 w w1125 [] → Sub [] E_ → K690 E_ w1125 := by
      intro R1124 w1125 E_ h hS  hsub
      refine hK690 _ _ (e_sub hsub ?_); clear hsub
      unfold law21_ZigzagCausal_K1 at h
      refine e_seq fun K1126 hK1126 => ?_
      refine e_region_text rfl ?_
      refine q_assign rfl rfl ?_
      refine eseq_nil ?_
      refine hK1126 _ _ ?_
      refine e_ret ?_
      obtain rfl := Option.some.inj h
      exact ⟨_, res1 rfl rfl, _, rfl, hS⟩
    refine e_loop (fun m_ E_ w909 => ∃ (x914 : Int), ∃ (R908 : Nat → Prop), iter (fun s => law21_ZigzagCausal_B1 fuel r688 r679 s) m_ x914 = some tl692 ∧ Sep F R R908 w w909 [HP.blk bl683 [v680, v681, v682] 28, HP.own arcTy (fun _ => False) 86 v682 r679.1.arcs, HP.own ptTy (fun _ => False) 36 v689 r688] ∧ IsSlice Ty.int w909 R908 v680 r679.1.lens ∧ IsSlice (Ty.slice Ty.int) w909 R908 v681 r679.1.ckpts ∧ E_ = [(3, .pointer (some ⟨bl683, 0, none⟩)), (4, v689), (15, .int .i64 (r688.length : Int)), (16, .int .i64 x914)]) _ ⟨_, ⟨0, _, ht692, (hS.pickB [1, 3, 0] 4 rfl rfl), f680, f681, rfl⟩, Sub.cons rfl (Sub.cons rfl (Sub.cons rfl (Sub.cons rfl (Sub.nil _))))⟩ ?_
    clear ht692 hS
    rintro m692 _ w909 ⟨x914, R908, ht692, hS, f910, f911, rfl⟩
    obtain ⟨m692, rfl, o692, ho692, ht692⟩ := iter_some ht692
    replace ho692 : law21_ZigzagCausal_B1 fuel r688 r679 x914 = some o692 := ho692
    unfold law21_ZigzagCausal_B1 at ho692
    refine e_seq fun K1127 hK1127 => ?_
    refine e_region_text rfl ?_
    refine q_lss rfl rfl rfl ?_
    refine eseq_nil ?_
    refine hK1127 _ _ ?_
    refine e_seq fun K1128 hK1128 => ?_
    refine e_cond rfl (fun hc1129 => ?_) (fun hc1129 => ?_)
    · replace ho692 := (if_pos hc1129).symm.trans ho692
      refine e_skip ?_
      refine hK1128 _ _ ?_
      refine e_seq fun K1130 hK1130 => ?_
      refine e_block ?_
      refine e_seq fun K1131 hK1131 => ?_
      refine e_region_text rfl ?_
      refine q_move rfl rfl ?_
      refine q_assign rfl rfl ?_
      refine eseq_nil ?_
      refine hK1131 _ _ ?_
      refine e_seq fun K1132 hK1132 => ?_
      refine e_region_text rfl ?_
      refine q_move rfl rfl ?_
      refine q_lenS rfl (hS.isl 2 rfl) rfl ?_
      refine q_move rfl rfl ?_
      refine eseq_nil ?_
      refine hK1132 _ _ ?_
      refine e_block ?_
      obtain ⟨tl1133, ht1133, ho692⟩ := Option.of_bind ho692
      have hX1133_2 : ∀ (R1269 : Nat → Prop) (w1270 : World) (E_ : Env), law21_ZigzagCausal_K2 fuel x914 = some o692 → Sep F R R1269 w w1270 [HP.blk bl683 [v680, v681, v682] 28, HP.own arcTy (fun _ => False) 86 v682 r679.1.arcs, HP.own ptTy (fun _ => False) 36 v689 r688] → IsSlice Ty.int w1270 R1269 v680 r679.1.lens → IsSlice (Ty.slice Ty.int) w1270 R1269 v681 r679.1.ckpts → Sub [(3, .pointer (some ⟨bl683, 0, none⟩)), (4, v689), (15, .int .i64 (r688.length : Int)), (16, .int .i64 x914)] E_ → K1130 E_ w1270 := by
        intro R1269 w1270 E_ ho692 hS f1271 f1272 hsub
        refine hK1130 _ _ (e_sub hsub ?_); clear hsub
        unfold law21_ZigzagCausal_K2 at ho692
        refine e_region_text rfl ?_
        refine q_addW rfl rfl rfl ?_
        refine q_move rfl rfl ?_
        refine eseq_nil ?_
        obtain rfl := Option.some.inj ho692
        exact ⟨m692, _, Nat.lt_succ_self _, ⟨(w64 (x914 + 1)), _, ht692, hS, f1271, f1272, rfl⟩, Sub.cons rfl (Sub.cons rfl (Sub.cons rfl (Sub.cons rfl (Sub.nil _))))⟩
      refine e_loop (fun m_ E_ w1202 => ∃ (x1207 : Int), ∃ (R1201 : Nat → Prop), iter (fun s => law21_ZigzagCausal_B2 fuel r688 x914 r679 s) m_ x1207 = some tl1133 ∧ Sep F R R1201 w w1202 [HP.blk bl683 [v680, v681, v682] 28, HP.own arcTy (fun _ => False) 86 v682 r679.1.arcs, HP.own ptTy (fun _ => False) 36 v689 r688] ∧ IsSlice Ty.int w1202 R1201 v680 r679.1.lens ∧ IsSlice (Ty.slice Ty.int) w1202 R1201 v681 r679.1.ckpts ∧ E_ = [(3, .pointer (some ⟨bl683, 0, none⟩)), (4, v689), (5, .int .i64 x914), (15, .int .i64 (r688.length : Int)), (16, .int .i64 x914), (20, .int .i64 (r688.length : Int)), (21, .int .i64 x1207)]) _ ⟨_, ⟨0, _, ht1133, hS, f910, f911, rfl⟩, Sub.cons rfl (Sub.cons rfl (Sub.cons rfl (Sub.cons rfl (Sub.cons rfl (Sub.cons rfl (Sub.cons rfl (Sub.nil _)))))))⟩ ?_
      clear ht1133 hS
      rintro m1133 _ w1202 ⟨x1207, R1201, ht1133, hS, f1203, f1204, rfl⟩
      obtain ⟨m1133, rfl, o1133, ho1133, ht1133⟩ := iter_some ht1133
      replace ho1133 : law21_ZigzagCausal_B2 fuel r688 x914 r679 x1207 = some o1133 := ho1133
      unfold law21_ZigzagCausal_B2 at ho1133
      refine e_seq fun K1275 hK1275 => ?_
      refine e_region_text rfl ?_
      refine q_lss rfl rfl rfl ?_
      refine eseq_nil ?_
      refine hK1275 _ _ ?_
      refine e_seq fun K1276 hK1276 => ?_
      refine e_cond rfl (fun hc1277 => ?_) (fun hc1277 => ?_)
      · replace ho1133 := (if_pos hc1277).symm.trans ho1133
        refine e_skip ?_
        refine hK1276 _ _ ?_
        refine e_seq fun K1278 hK1278 => ?_
        refine e_block ?_
        refine e_seq fun K1279 hK1279 => ?_
        refine e_region_text rfl ?_
        refine q_move rfl rfl ?_
        refine q_assign rfl rfl ?_
        refine eseq_nil ?_
        refine hK1279 _ _ ?_
        refine e_seq fun K1280 hK1280 => ?_
        refine e_region_draw mixed (fun _ => False) [0, 0, 3, 7, 15, 0, 0, 96, 224, 480, 1023, 2047, 4095, 4095, 4095, 28671, 61439, 4095, 4095, 397311, 921599, 2097151, 4194303, 8388607, 16777215, 16777215, 16777215, 117440511, 251658239, 16777215, 16777215, 1627389951, 3774873599, 8589934591, 17179869183, 34359738367] [] [0, 1, 2, 3, 4, 5, 6, 7, 8, 9, 10, 11, 12, 13, 14, 15, 16, 17, 18, 19, 20, 21, 22, 23, 24, 25, 26, 27, 28, 29, 30, 31, 32, 33, 34, 35] (by kernel_rfl) ?_
        refine q_move rfl rfl ?_
        refine q_move rfl rfl ?_
        obtain ⟨x1281, hx1281, ho1133⟩ := Option.of_bind ho1133
        refine q_indexO (by infer_instance) rfl (hS.own 2 rfl) rfl hx1281 rfl ?_
        refine q_field rfl rfl ?_
        have f1282 := (hS.ownR 2 rfl).elt hx1281
        have f1283 := Pt_F0 f1282
        refine q_load rfl (Elt.intCell f1283) rfl ?_
        refine q_move rfl rfl ?_
        refine q_move rfl rfl ?_
        obtain ⟨x1284, hx1284, ho1133⟩ := Option.of_bind ho1133
        refine q_indexO (by infer_instance) rfl (hS.own 2 rfl) rfl hx1284 rfl ?_
        refine q_field rfl rfl ?_
        have f1285 := (hS.ownR 2 rfl).elt hx1284
        have f1286 := Pt_F0 f1285
        refine q_load rfl (Elt.intCell f1286) rfl ?_
        refine q_neq rfl rfl rfl ?_
        refine q_move rfl rfl ?_
        obtain ⟨x1298, hx1297, ho1133⟩ := Option.of_bind ho1133
        refine g_andM 10 hx1297 rfl trivial rfl rfl ?_ ?_ ?_
        · intro hg1297 hx1297
          clear ho1133
          have hT1297 := Below.refl (World.heap w1202).size w1202
          refine g_run rfl ?_; refine q_loadAgg rfl (Blk.cellsAt (hS.blk 0 rfl) 0 3 rfl) rfl rfl ?_
          refine g_run rfl ?_; refine q_move rfl rfl ?_
          refine g_run rfl ?_; refine q_move rfl rfl ?_
          obtain ⟨x1299, hx1299, hx1297⟩ := Option.of_bind hx1297
          refine g_run rfl ?_; refine q_indexO (by infer_instance) rfl (hS.own 2 rfl) rfl hx1299 rfl ?_
          have f1300 := (hS.ownR 2 rfl).elt hx1299
          have hc1301 := Pt_open f1300
          refine g_run rfl ?_; refine q_loadAgg rfl hc1301 rfl rfl ?_
          refine g_run rfl ?_; refine q_move rfl rfl ?_
          refine g_run rfl ?_; refine q_move rfl rfl ?_
          obtain ⟨x1302, hx1302, hx1297⟩ := Option.of_bind hx1297
          refine g_run rfl ?_; refine q_indexO (by infer_instance) rfl (hS.own 2 rfl) rfl hx1302 rfl ?_
          have f1303 := (hS.ownR 2 rfl).elt hx1302
          have hc1304 := Pt_open f1303
          refine g_run rfl ?_; refine q_loadAgg rfl hc1304 rfl rfl ?_
          obtain ⟨r1306, hr1306, hx1297⟩ := Option.of_bind hx1297
          refine g_run rfl ?_; refine q_call rfl (depend_Depends_w (a0 := (⟨r679.1.lens, r679.1.ckpts, r679.1.arcs⟩ : Pat)) (a1 := x1299) (a2 := x1302) (Sep.all w1202) (f1203).old (f1204).old ((hS.isl 1 rfl)).old hr1306) rfl ?_
          rintro _ w1305 ⟨R1305, rfl, hC1305⟩
          have hB1305 : Below (World.heap w1202).size w1202 w1305 := hC1305.stepBF
          refine ⟨fun _ => .of_below hB1305, ?_⟩
          replace f1203 := f1203.ext hB1305
          replace f1204 := f1204.ext hB1305
          replace hT1297 := hT1297.trans (Below.mono hB1305 hT1297.size)
          replace hS := hS.below hB1305
          cases hx1297
          exact eseq_nil ⟨hT1297, Sub.set rfl (Sub.set rfl (Sub.set rfl (Sub.set rfl (Sub.set rfl (Sub.set rfl (Sub.set rfl (Sub.set rfl (Sub.set rfl (Sub.set rfl (Sub.bool true rfl hg1297)))))))))), rfl⟩
        · intro hg1297
          refine g_skip rfl rfl rfl ?_
          refine g_skip rfl rfl rfl ?_
          refine g_skip rfl rfl rfl ?_
          refine g_skip rfl rfl rfl ?_
          refine g_skip rfl rfl rfl ?_
          refine g_skip rfl rfl rfl ?_
          refine g_skip rfl rfl rfl ?_
          refine g_skip rfl rfl rfl ?_
          refine g_skip rfl rfl rfl ?_
          refine g_skip rfl rfl rfl ?_
          exact eseq_nil ⟨rfl, Sub.set rfl (Sub.set rfl (Sub.set rfl (Sub.set rfl (Sub.set rfl (Sub.set rfl (Sub.set rfl (Sub.set rfl (Sub.set rfl (Sub.set rfl (Sub.bool false rfl hg1297))))))))))⟩
        intro wm1297 hBm1297; clear hx1297
        replace hS := hS.below hBm1297
        replace f1203 := f1203.ext hBm1297
        replace f1204 := f1204.ext hBm1297
        refine q_move rfl rfl ?_
        obtain ⟨x1318, hx1317, ho1133⟩ := Option.of_bind ho1133
        refine g_andM 11 hx1317 rfl trivial rfl rfl ?_ ?_ ?_
        · intro hg1317 hx1317
          clear ho1133
          have hT1317 := Below.refl (World.heap wm1297).size wm1297
          refine g_run rfl ?_; refine q_loadAgg rfl (Blk.cellsAt (hS.blk 0 rfl) 0 3 rfl) rfl rfl ?_
          refine g_run rfl ?_; refine q_move rfl rfl ?_
          refine g_run rfl ?_; refine q_move rfl rfl ?_
          obtain ⟨x1319, hx1319, hx1317⟩ := Option.of_bind hx1317
          refine g_run rfl ?_; refine q_indexO (by infer_instance) rfl (hS.own 2 rfl) rfl hx1319 rfl ?_
          have f1320 := (hS.ownR 2 rfl).elt hx1319
          have hc1321 := Pt_open f1320
          refine g_run rfl ?_; refine q_loadAgg rfl hc1321 rfl rfl ?_
          refine g_run rfl ?_; refine q_move rfl rfl ?_
          refine g_run rfl ?_; refine q_move rfl rfl ?_
          obtain ⟨x1322, hx1322, hx1317⟩ := Option.of_bind hx1317
          refine g_run rfl ?_; refine q_indexO (by infer_instance) rfl (hS.own 2 rfl) rfl hx1322 rfl ?_
          have f1323 := (hS.ownR 2 rfl).elt hx1322
          have hc1324 := Pt_open f1323
          refine g_run rfl ?_; refine q_loadAgg rfl hc1324 rfl rfl ?_
          obtain ⟨r1326, hr1326, hx1317⟩ := Option.of_bind hx1317
          refine g_run rfl ?_; refine q_call rfl (zigzag_Path_w (a0 := (⟨r679.1.lens, r679.1.ckpts, r679.1.arcs⟩ : Pat)) (a1 := x1319) (a2 := x1322) (Sep.all wm1297) (f1203).old (f1204).old ((hS.isl 1 rfl)).old hr1326) rfl ?_
          rintro _ w1325 ⟨R1325, rfl, hC1325⟩
          have hB1325 : Below (World.heap wm1297).size wm1297 w1325 := hC1325.stepBF
          refine ⟨fun _ => .of_below hB1325, ?_⟩
          replace f1203 := f1203.ext hB1325
          replace f1204 := f1204.ext hB1325
          replace hT1317 := hT1317.trans (Below.mono hB1325 hT1317.size)
          replace hS := hS.below hB1325
          refine g_run rfl ?_; refine q_not rfl rfl ?_
          cases hx1317
          exact eseq_nil ⟨hT1317, Sub.set rfl (Sub.set rfl (Sub.set rfl (Sub.set rfl (Sub.set rfl (Sub.set rfl (Sub.set rfl (Sub.set rfl (Sub.set rfl (Sub.set rfl (Sub.set rfl (Sub.bool true rfl hg1317))))))))))), rfl⟩
        · intro hg1317
          refine g_skip rfl rfl rfl ?_
          refine g_skip rfl rfl rfl ?_
          refine g_skip rfl rfl rfl ?_
          refine g_skip rfl rfl rfl ?_
          refine g_skip rfl rfl rfl ?_
          refine g_skip rfl rfl rfl ?_
          refine g_skip rfl rfl rfl ?_
          refine g_skip rfl rfl rfl ?_
          refine g_skip rfl rfl rfl ?_
          refine g_skip rfl rfl rfl ?_
          refine g_skip rfl rfl rfl ?_
          exact eseq_nil ⟨rfl, Sub.set rfl (Sub.set rfl (Sub.set rfl (Sub.set rfl (Sub.set rfl (Sub.set rfl (Sub.set rfl (Sub.set rfl (Sub.set rfl (Sub.set rfl (Sub.set rfl (Sub.bool false rfl hg1317)))))))))))⟩
        intro wm1317 hBm1317; clear hx1317
        replace hS := hS.below hBm1317
        replace f1203 := f1203.ext hBm1317
        replace f1204 := f1204.ext hBm1317
        refine eseq_nil ?_
        refine hK1280 _ _ ?_
        refine e_cond rfl (fun hc1327 => ?_) (fun hc1327 => ?_)
        · replace ho1133 := (if_pos hc1327).symm.trans ho1133
          refine e_seq fun K1328 hK1328 => ?_
          refine e_region_text rfl ?_
          refine q_assign rfl rfl ?_
          refine eseq_nil ?_
          refine hK1328 _ _ ?_
          refine e_ret ?_
          obtain rfl := Option.some.inj ho1133
          obtain rfl := Option.some.inj ht1133
          obtain rfl := Option.some.inj ho692
          obtain rfl := Option.some.inj ht692
          obtain rfl := Option.some.inj h
          exact ⟨_, res1 rfl rfl, _, rfl, (hS.pickB [] 3 rfl rfl)⟩
        · replace ho1133 := (if_neg (not_true hc1327)).symm.trans ho1133
          refine e_skip ?_
          refine hK1278 _ _ ?_
          refine e_region_text rfl ?_
          refine q_addW rfl rfl rfl ?_
          refine q_move rfl rfl ?_
          refine eseq_nil ?_
          obtain rfl := Option.some.inj ho1133
          exact ⟨m1133, _, Nat.lt_succ_self _, ⟨(w64 (x1207 + 1)), _, ht1133, hS, f1203, f1204, rfl⟩, Sub.cons rfl (Sub.cons rfl (Sub.cons rfl (Sub.cons rfl (Sub.cons rfl (Sub.cons rfl (Sub.cons rfl (Sub.nil _)))))))⟩
      · replace ho1133 := (if_neg (not_true hc1277)).symm.trans ho1133
        refine e_exit ?_
        obtain rfl := Option.some.inj ho1133
        obtain rfl := Option.some.inj ht1133
        exact hX1133_2  _ _ _ ho692 hS f1203 f1204 (Sub.cons rfl (Sub.cons rfl (Sub.cons rfl (Sub.cons rfl (Sub.nil _)))))
    · replace ho692 := (if_neg (not_true hc1129)).symm.trans ho692
      refine e_exit ?_
      obtain rfl := Option.some.inj ho692
      obtain rfl := Option.some.inj ht692
      exact hX692_0  _ _ _ h (hS.pickB [] 3 rfl rfl)  (Sub.nil _)
end Go.Proofs.Ytlceljfigccllaa
