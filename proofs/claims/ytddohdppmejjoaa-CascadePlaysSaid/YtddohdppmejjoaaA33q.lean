/- Printed walks: A33q. -/
import Derived.Test.YtddohdppmejjoaaW33c
import Derived.Test.YtddohdppmejjoaaA33h
set_option linter.unusedVariables false
set_option linter.unusedSimpArgs false
namespace Go.Mine
open Go.RowKit
def ref33_Settle_K1 (fuel : Nat) (x183 : (List Branch)) (x186 : (List Letter)) : Option (Cascade) :=
  some (⟨x183, x186⟩ : Cascade)
def ref33_Settle_B1 (fuel : Nat) (x152 : (List Branch)) (x155 : (List Letter)) (x156 : Int) : Option (((List Branch) × (List Letter) × Int) ⊕ ((List Branch) × (List Letter))) :=
  (if (decide (0 ≤ x156)) = true then (ref33_Step fuel (⟨x152, x155⟩ : Cascade) (⟨2, 0, x156⟩ : Shock)).bind fun r196 => (ref33_news fuel (⟨r196.1.branches, r196.1.flight⟩ : Cascade)).bind fun r201 => some (Sum.inl (r196.1.branches, r196.1.flight, r201)) else some (Sum.inr (x152, x155)))
def ref33_Settle (fuel : Nat) (a0 : Cascade) : Option (Cascade) :=
  (ref33_Copy fuel (⟨a0.branches, a0.flight⟩ : Cascade)).bind fun r111 => (ref33_news fuel (⟨r111.branches, r111.flight⟩ : Cascade)).bind fun r120 => (iter (fun s => ref33_Settle_B1 fuel s.1 s.2.1 s.2.2) fuel (r111.branches, r111.flight, r120)).bind (fun t => ref33_Settle_K1 fuel t.1 t.2)
def law33_CascadePlays_K1 (fuel : Nat) (x1892 : (List Branch)) (x1895 : (List Letter)) (x1898 : (List Branch)) (x1901 : (List Letter)) : Option (Bool) :=
  (cascade_Settle fuel (⟨x1892, x1895⟩ : Cascade)).bind fun r1915 => (ref33_Settle fuel (⟨x1898, x1901⟩ : Cascade)).bind fun r1919 => (ref33_Same fuel r1915 r1919).bind fun r1923 => some r1923
def law33_CascadePlays_J3 (fuel : Nat) (r1935 : (Cascade × Int)) (r1976 : (Cascade × Int)) (x1966 : (List Branch)) (x1969 : (List Letter)) (x1645 : (List Branch)) (x1648 : (List Letter)) (x1651 : (List Branch)) (x1654 : (List Letter)) (x1657 : Int) (x2009 : (List Branch)) (x2012 : (List Letter)) : Option (((List Branch) × (List Letter) × (List Branch) × (List Letter) × Int) ⊕ (((List Branch) × (List Letter) × (List Branch) × (List Letter)) ⊕ (Bool))) :=
  (orM (r1935.2 != r1976.2) ((ref33_Same fuel (⟨x1966, x1969⟩ : Cascade) (⟨x2009, x2012⟩ : Cascade)).bind fun r2023 => some (!r2023))).bind fun x2021 => (if x2021 = true then some (Sum.inr (Sum.inr false)) else (if (r1935.2 != 0) = true then some (Sum.inl (x1645, x1648, x1651, x1654, (w64 (x1657 + 1)))) else (cascade_Quiet fuel (⟨x1966, x1969⟩ : Cascade)).bind fun r2070 => (ref33_Quiet fuel (⟨x2009, x2012⟩ : Cascade)).bind fun r2072 => (orM (r2070 != r2072) ((cascade_Lineages fuel (⟨x1966, x1969⟩ : Cascade)).bind fun r2093 => (ref33_Lineages fuel (⟨x2009, x2012⟩ : Cascade)).bind fun r2098 => (ref32_SameLineages fuel r2093 r2098).bind fun r2102 => some (!r2102))).bind fun x2089 => (if x2089 = true then some (Sum.inr (Sum.inr false)) else some (Sum.inl (x1966, x1969, x2009, x2012, (w64 (x1657 + 1)))))))
def law33_CascadePlays_J2 (fuel : Nat) (x1132 : (List Shock)) (x1657 : Int) (x1651 : (List Branch)) (x1654 : (List Letter)) (r1935 : (Cascade × Int)) (x1645 : (List Branch)) (x1648 : (List Letter)) (x1966 : (List Branch)) (x1969 : (List Letter)) : Option (((List Branch) × (List Letter) × (List Branch) × (List Letter) × Int) ⊕ (((List Branch) × (List Letter) × (List Branch) × (List Letter)) ⊕ (Bool))) :=
  (ati x1132 x1657).bind fun x1972 => (ref33_Step fuel (⟨x1651, x1654⟩ : Cascade) x1972).bind fun r1976 => law33_CascadePlays_J3 fuel r1935 r1976 x1966 x1969 x1645 x1648 x1651 x1654 x1657 r1976.1.branches r1976.1.flight
def law33_CascadePlays_B1 (fuel : Nat) (x1132 : (List Shock)) (x1645 : (List Branch)) (x1648 : (List Letter)) (x1651 : (List Branch)) (x1654 : (List Letter)) (x1657 : Int) : Option (((List Branch) × (List Letter) × (List Branch) × (List Letter) × Int) ⊕ (((List Branch) × (List Letter) × (List Branch) × (List Letter)) ⊕ (Bool))) :=
  (if (decide (x1657 < (x1132.length : Int))) = true then (ati x1132 x1657).bind fun x1931 => (cascade_Step fuel (⟨x1645, x1648⟩ : Cascade) x1931).bind fun r1935 => law33_CascadePlays_J2 fuel x1132 x1657 x1651 x1654 r1935 x1645 x1648 r1935.1.branches r1935.1.flight else some (Sum.inr (Sum.inl (x1645, x1648, x1651, x1654))))
def law33_CascadePlays_J1 (fuel : Nat) (r1094 : (Cascade × Int)) (r1102 : (Cascade × Int)) (x1132 : (List Shock)) : Option (Bool) :=
  (iter (fun s => law33_CascadePlays_B1 fuel x1132 s.1 s.2.1 s.2.2.1 s.2.2.2.1 s.2.2.2.2) fuel (r1094.1.branches, ([] : List Letter), r1102.1.branches, ([] : List Letter), 0)).bind (fun t => Sum.elim (fun t => law33_CascadePlays_K1 fuel t.1 t.2.1 t.2.2.1 t.2.2.2) (fun t => some t) t)
def law33_CascadePlays (fuel : Nat) (a0 : (List Int)) (a1 : Shock) : Option (Bool) :=
  (law33_awake fuel).bind fun r1081 => (if (!r1081) = true then some false else (make_New fuel a0 250).bind fun r1086 => (make_Codes_Next fuel 3 r1086.1 r1086.2).bind fun r1091 => (cascade_New fuel (w64 (2 + r1091.1))).bind fun r1094 => (ref33_New fuel (w64 (2 + r1091.1))).bind fun r1102 => (make_Codes_Shocks fuel (w64 (2 + r1091.1)) 50 r1086.1 r1091.2).bind fun r1110 => (snoc r1110.1 (⟨a1.kind, a1.proc, a1.other⟩ : Shock)).bind fun x1115 => law33_CascadePlays_J1 fuel r1094 r1102 x1115)
end Go.Mine
namespace Go.Proofs.Ytddohdppmejjoaa
open Go.RowKit Go.Mine
attribute [local irreducible] eseq ewp iter
theorem ref33_Settle_w {F R : Nat → Prop} {w : World} {fuel : Nat} {a0 : Cascade} {v1 : Value} {v2 : Value} {r : (Cascade)} (hS : Sep F R R w w []) (f1 : IsSlice branchTy w R v1 a0.branches) (f2 : IsSlice letterTy w R v2 a0.flight) (h : ref33_Settle fuel a0 = some r) :
    Gives Try.prog 28 [.agg #[v1, v2]] w fun u w1 => ∃ (v102 : Value), ∃ (v103 : Value), ∃ (R1 : Nat → Prop), u = .agg #[v102, v103] ∧ Sep F R R1 w w1 [HP.own branchTy R1 48 v102 r.branches, HP.own letterTy (fun _ => False) 43 v103 r.flight] := by
  refine fn_of Try.func28 rfl Try.ntmps28 (Nat.le_of_ble_eq_true rfl) ?_
  unfold ref33_Settle at h
  refine e_seq fun K104 hK104 => ?_
  refine e_region_text rfl ?_
  refine q_boxB rfl rfl rfl fun w105 bl105 hg105 hb105 hB105 => ?_
  replace f1 := f1.ext hB105
  replace f2 := f2.ext hB105
  replace hS := hS.newBlk hB105 hg105 hb105
  refine q_allocB rfl fun w107 bl107 hg107 hb107 hB107 => ?_
  replace f1 := f1.ext hB107
  replace f2 := f2.ext hB107
  replace hS := hS.newBlk hB107 hg107 hb107
  refine eseq_nil ?_
  refine hK104 _ _ ?_
  refine e_seq fun K109 hK109 => ?_
  refine e_region_text rfl ?_
  refine q_loadAgg rfl (Blk.cellsAt (hS.blk 1 rfl) 0 2 rfl) rfl rfl ?_
  obtain ⟨r111, hr111, h⟩ := Option.of_bind h
  refine q_call rfl (ref33_Copy_w (a0 := (⟨a0.branches, a0.flight⟩ : Cascade)) (Sep.enter (As := []) hS) f1 f2 hr111) rfl ?_
  rintro _ w110 ⟨v112, v113, R110, rfl, hC110⟩
  have hB110 : Below (World.heap w107).size w107 w110 := hC110.stepB0
  refine ⟨fun _ => .of_below hB110, ?_⟩
  replace f1 := (f1.ext hB110).mono fun k hk _ => hC110.ro0 k hk
  replace f2 := (f2.ext hB110).mono fun k hk _ => hC110.ro0 k hk
  replace hS := Sep.leave (As := []) hS hC110; simp only [List.cons_append, List.nil_append] at hS
  refine q_allocB rfl fun w114 bl114 hg114 hb114 hB114 => ?_
  replace hS := hS.newBlk hB114 hg114 hb114
  refine q_storeAgg rfl rfl (hS.blk 0 rfl) rfl (Nat.le_of_ble_eq_true rfl) (all_cons (hS.own 1 rfl).one (all_cons (hS.own 2 rfl).one (all_nil))) rfl rfl fun w116 hb116 hO116 => ?_
  simp only [setN, List.set, List.take, List.drop] at hb116
  have hk116 := hS.keptBlk 0 rfl hO116
  replace hS := hS.setBlk 0 rfl hb116 hO116; simp only [List.set] at hS
  refine eseq_nil ?_
  refine hK109 _ _ ?_
  refine e_seq fun K117 hK117 => ?_
  refine e_seq fun K118 hK118 => ?_
  refine e_region_text rfl ?_
  refine q_loadAgg rfl (Blk.cellsAt (hS.blk 0 rfl) 0 2 rfl) rfl rfl ?_
  obtain ⟨r120, hr120, h⟩ := Option.of_bind h
  refine q_call rfl (ref33_news_w (a0 := (⟨r111.branches, r111.flight⟩ : Cascade)) (Sep.all w116) ((hS.isl 1 rfl)).old ((hS.isl 2 rfl)).old hr120) rfl ?_
  rintro _ w119 ⟨R119, rfl, hC119⟩
  have hB119 : Below (World.heap w116).size w116 w119 := hC119.stepBF
  refine ⟨fun _ => .of_below hB119, ?_⟩
  replace hS := hS.below hB119
  refine q_assign rfl rfl ?_
  refine eseq_nil ?_
  refine hK118 _ _ ?_
  refine e_block ?_
  obtain ⟨tl121, ht121, h⟩ := Option.of_bind h
  have hX121_0 : ∀ (x183 : (List Branch)) (x186 : (List Letter)) (v182 : Value) (v185 : Value) (R179 : Nat → Prop) (w180 : World) (E_ : Env), ref33_Settle_K1 fuel x183 x186 = some r → Sep F R R179 w w180 [HP.blk bl107 [.slice none 0 0, .slice none 0 0] 28, HP.blk bl114 [v182, v185] 28, HP.own branchTy R179 48 v182 x183, HP.own letterTy (fun _ => False) 43 v185 x186] → Sub [(2, .pointer (some ⟨bl107, 0, none⟩)), (3, .pointer (some ⟨bl114, 0, none⟩))] E_ → K117 E_ w180 := by
    intro x183 x186 v182 v185 R179 w180 E_ h hS  hsub
    refine hK117 _ _ (e_sub hsub ?_); clear hsub
    unfold ref33_Settle_K1 at h
    refine e_seq fun K187 hK187 => ?_
    refine e_region_text rfl ?_
    refine q_loadAgg rfl (Blk.cellsAt (hS.blk 1 rfl) 0 2 rfl) rfl rfl ?_
    refine q_storeAgg rfl rfl (hS.blk 0 rfl) rfl (Nat.le_of_ble_eq_true rfl) (all_cons (hS.own 2 rfl).one (all_cons (hS.own 3 rfl).one (all_nil))) rfl rfl fun w188 hb188 hO188 => ?_
    simp only [setN, List.set, List.take, List.drop] at hb188
    have hk188 := hS.keptBlk 0 rfl hO188
    replace hS := hS.setBlk 0 rfl hb188 hO188; simp only [List.set] at hS
    refine eseq_nil ?_
    refine hK187 _ _ ?_
    refine e_ret ?_
    obtain rfl := Option.some.inj h
    exact ⟨_, resC1 rfl rfl ((hS.blk 0 rfl).cellsAt 0 2 rfl) rfl, v182, v185, _, rfl, (hS.pickB [2, 3] 4 rfl rfl)⟩
  refine e_loop (fun m_ E_ w149 => ∃ (x152 : (List Branch)), ∃ (x155 : (List Letter)), ∃ (x156 : Int), ∃ (v151 : Value), ∃ (v154 : Value), ∃ (R148 : Nat → Prop), iter (fun s => ref33_Settle_B1 fuel s.1 s.2.1 s.2.2) m_ (x152, x155, x156) = some tl121 ∧ Sep F R R148 w w149 [HP.blk bl107 [.slice none 0 0, .slice none 0 0] 28, HP.blk bl114 [v151, v154] 28, HP.own branchTy R148 48 v151 x152, HP.own letterTy (fun _ => False) 43 v154 x155] ∧ E_ = [(2, .pointer (some ⟨bl107, 0, none⟩)), (3, .pointer (some ⟨bl114, 0, none⟩)), (4, .int .i64 x156)]) _ ⟨_, ⟨r111.branches, r111.flight, r120, v112, v113, _, ht121, (hS.pickB [3, 0, 1, 2] 5 rfl rfl), rfl⟩, Sub.cons rfl (Sub.cons rfl (Sub.cons rfl (Sub.nil _)))⟩ ?_
  clear ht121 hS
  rintro m121 _ w149 ⟨x152, x155, x156, v151, v154, R148, ht121, hS, rfl⟩
  obtain ⟨m121, rfl, o121, ho121, ht121⟩ := iter_some ht121
  replace ho121 : ref33_Settle_B1 fuel x152 x155 x156 = some o121 := ho121
  unfold ref33_Settle_B1 at ho121
  refine e_seq fun K189 hK189 => ?_
  refine e_seq fun K190 hK190 => ?_
  refine e_region_text rfl ?_
  refine q_move rfl rfl ?_
  refine q_geq rfl rfl rfl ?_
  refine eseq_nil ?_
  refine hK190 _ _ ?_
  refine e_cond rfl (fun hc191 => ?_) (fun hc191 => ?_)
  · replace ho121 := (if_pos hc191).symm.trans ho121
    refine e_skip ?_
    refine hK189 _ _ ?_
    refine e_seq fun K192 hK192 => ?_
    refine e_block ?_
    refine e_region_text rfl ?_
    refine q_loadAgg rfl (Blk.cellsAt (hS.blk 1 rfl) 0 2 rfl) rfl rfl ?_
    refine q_move rfl rfl ?_
    refine q_build (Parts.cons rfl rfl (Parts.cons rfl rfl Parts.nil)) rfl rfl ?_
    obtain ⟨R194, hS, hm194, f194⟩ := hS.freezeOwn 2 rfl; simp only [List.eraseIdx] at hS
    obtain ⟨R195, hS, hm195, f195⟩ := hS.freezeOwn 2 rfl; simp only [List.eraseIdx] at hS
    replace f194 := f194.mono fun k hk _ => hm195 k hk
    obtain ⟨r196, hr196, ho121⟩ := Option.of_bind ho121
    refine q_call rfl (ref33_Step_w (a0 := (⟨x152, x155⟩ : Cascade)) (a1 := (⟨2, 0, x156⟩ : Shock)) (Sep.enter (As := []) hS) f194 f195 hr196) rfl ?_
    rintro _ w193 ⟨v197, v198, R193, rfl, hC193⟩
    have hB193 : Below (World.heap w149).size w149 w193 := hC193.stepB0
    refine ⟨fun _ => .of_below hB193, ?_⟩
    replace f194 := (f194.ext hB193).mono fun k hk _ => hC193.ro0 k hk
    replace f195 := (f195.ext hB193).mono fun k hk _ => hC193.ro0 k hk
    replace hS := Sep.leave (As := []) hS hC193; simp only [List.cons_append, List.nil_append] at hS
    refine q_move rfl rfl ?_
    refine q_extract rfl rfl rfl ?_
    refine q_extract rfl rfl rfl ?_
    refine q_storeAgg rfl rfl (hS.blk 3 rfl) rfl (Nat.le_of_ble_eq_true rfl) (all_cons (hS.own 0 rfl).one (all_cons (hS.own 1 rfl).one (all_nil))) rfl rfl fun w199 hb199 hO199 => ?_
    simp only [setN, List.set, List.take, List.drop] at hb199
    have hk199 := hS.keptBlk 3 rfl hO199
    replace hS := hS.setBlk 3 rfl hb199 hO199; simp only [List.set] at hS
    refine eseq_nil ?_
    refine hK192 _ _ ?_
    refine e_region_text rfl ?_
    refine q_loadAgg rfl (Blk.cellsAt (hS.blk 3 rfl) 0 2 rfl) rfl rfl ?_
    obtain ⟨r201, hr201, ho121⟩ := Option.of_bind ho121
    refine q_call rfl (ref33_news_w (a0 := (⟨r196.1.branches, r196.1.flight⟩ : Cascade)) (Sep.all w199) ((hS.isl 0 rfl)).old ((hS.isl 1 rfl)).old hr201) rfl ?_
    rintro _ w200 ⟨R200, rfl, hC200⟩
    have hB200 : Below (World.heap w199).size w199 w200 := hC200.stepBF
    refine ⟨fun _ => .of_below hB200, ?_⟩
    replace hS := hS.below hB200
    refine q_assign rfl rfl ?_
    refine eseq_nil ?_
    obtain rfl := Option.some.inj ho121
    exact ⟨m121, _, Nat.lt_succ_self _, ⟨r196.1.branches, r196.1.flight, r201, v197, v198, _, ht121, (hS.pickB [2, 3, 0, 1] 4 rfl rfl), rfl⟩, Sub.cons rfl (Sub.cons rfl (Sub.cons rfl (Sub.nil _)))⟩
  · replace ho121 := (if_neg (not_true hc191)).symm.trans ho121
    refine e_exit ?_
    obtain rfl := Option.some.inj ho121
    obtain rfl := Option.some.inj ht121
    exact hX121_0 x152 x155 v151 v154 _ _ _ h hS  (Sub.cons rfl (Sub.cons rfl (Sub.nil _)))
theorem law33_CascadePlays_w {F R : Nat → Prop} {w : World} {fuel : Nat} {a0 : (List Int)} {a1 : Shock} {v1 : Value} {r : (Bool)} (hS : Sep F R R w w []) (f1 : IsSlice Ty.u8 w R v1 a0) (h : law33_CascadePlays fuel a0 a1 = some r) :
    Gives Try.prog 5 [v1, .agg #[.int .i64 a1.kind, .int .i64 a1.proc, .int .i64 a1.other]] w fun u w1 => ∃ (R1 : Nat → Prop), u = .bool r ∧ Sep F R R1 w w1 [] := by
  refine fn_of Try.func5 rfl Try.ntmps5 (Nat.le_of_ble_eq_true rfl) ?_
  unfold law33_CascadePlays at h
  refine e_seq fun K1075 hK1075 => ?_
  refine e_region_text rfl ?_
  refine q_boxB rfl rfl rfl fun w1076 bl1076 hg1076 hb1076 hB1076 => ?_
  replace f1 := f1.ext hB1076
  replace hS := hS.newBlk hB1076 hg1076 hb1076
  refine q_assign rfl rfl ?_
  refine eseq_nil ?_
  refine hK1075 _ _ ?_
  refine e_seq fun K1078 hK1078 => ?_
  refine e_seq fun K1079 hK1079 => ?_
  refine e_region_text rfl ?_
  obtain ⟨r1081, hr1081, h⟩ := Option.of_bind h
  refine q_call rfl (law33_awake_w (Sep.enter (As := []) hS)  hr1081) rfl ?_
  rintro _ w1080 ⟨R1080, rfl, hC1080⟩
  have hB1080 : Below (World.heap w1076).size w1076 w1080 := hC1080.stepB0
  refine ⟨fun _ => .of_below hB1080, ?_⟩
  replace f1 := (f1.ext hB1080).mono fun k hk _ => hC1080.ro0 k hk
  replace hS := Sep.leave (As := []) hS hC1080; simp only [List.cons_append, List.nil_append] at hS
  refine q_not rfl rfl ?_
  refine eseq_nil ?_
  refine hK1079 _ _ ?_
  refine e_cond rfl (fun hc1082 => ?_) (fun hc1082 => ?_)
  · replace h := (if_pos hc1082).symm.trans h
    refine e_seq fun K1083 hK1083 => ?_
    refine e_region_text rfl ?_
    refine q_assign rfl rfl ?_
    refine eseq_nil ?_
    refine hK1083 _ _ ?_
    refine e_ret ?_
    obtain rfl := Option.some.inj h
    exact ⟨_, res1 rfl rfl, _, rfl, (hS.pickB [] 1 rfl rfl)⟩
  · replace h := (if_neg (not_true hc1082)).symm.trans h
    refine e_skip ?_
    refine hK1078 _ _ ?_
    refine e_seq fun K1084 hK1084 => ?_
    refine e_region_text rfl ?_
    refine q_move rfl rfl ?_
    obtain ⟨r1086, hr1086, h⟩ := Option.of_bind h
    refine q_call rfl (make_New_w (Sep.enter (As := []) hS) f1 hr1086) rfl ?_
    rintro _ w1085 ⟨B1087, v1088, R1085, rfl, hC1085, f1088⟩
    have hB1085 : Below (World.heap w1080).size w1080 w1085 := hC1085.stepB0
    refine ⟨fun _ => .of_below hB1085, ?_⟩
    replace f1 := (f1.ext hB1085).mono fun k hk _ => hC1085.ro0 k hk
    replace hS := Sep.leave (As := []) hS hC1085; simp only [List.cons_append, List.nil_append] at hS
    refine q_assign rfl rfl ?_
    refine eseq_nil ?_
    refine hK1084 _ _ ?_
    refine e_seq fun K1089 hK1089 => ?_
    refine e_region_text rfl ?_
    refine q_move rfl rfl ?_
    obtain ⟨r1091, hr1091, h⟩ := Option.of_bind h
    refine q_call rfl (make_Codes_Next_w (Sep.enter (As := [_]) hS) f1088 hr1091) rfl ?_
    rintro _ w1090 ⟨R1090, rfl, hC1090⟩
    refine ⟨(fun h => by cases h), ?_⟩
    have hk1090 := hC1090.keptR (Sep.offFeet (As := [_]) hS)
    replace f1088 := (f1088.kept hk1090).mono fun k hk _ => hC1090.ro0 k hk
    replace hS := Sep.leave (As := [_]) hS hC1090; simp only [List.cons_append, List.nil_append] at hS
    refine q_addW rfl rfl rfl ?_
    refine q_assign rfl rfl ?_
    refine eseq_nil ?_
    refine hK1089 _ _ ?_
    refine e_seq fun K1092 hK1092 => ?_
    refine e_region_text rfl ?_
    refine q_move rfl rfl ?_
    obtain ⟨r1094, hr1094, h⟩ := Option.of_bind h
    refine q_call rfl (cascade_New_w (Sep.enter (As := []) hS)  hr1094) rfl ?_
    rintro _ w1093 ⟨v1095, R1093, rfl, hC1093⟩
    have hB1093 : Below (World.heap w1090).size w1090 w1093 := hC1093.stepB0
    refine ⟨fun _ => .of_below hB1093, ?_⟩
    replace f1088 := (f1088.ext hB1093).mono fun k hk _ => hC1093.ro0 k hk
    replace hS := Sep.leave (As := []) hS hC1093; simp only [List.cons_append, List.nil_append] at hS
    refine q_move rfl rfl ?_
    refine q_extract rfl rfl rfl ?_
    refine q_extract rfl rfl rfl ?_
    refine q_allocB rfl fun w1097 bl1097 hg1097 hb1097 hB1097 => ?_
    replace f1088 := f1088.ext hB1097
    replace hS := hS.newBlk hB1097 hg1097 hb1097
    refine q_storeAgg rfl rfl (hS.blk 0 rfl) rfl (Nat.le_of_ble_eq_true rfl) (all_cons (hS.own 1 rfl).one (all_cons rfl (all_nil))) rfl rfl fun w1099 hb1099 hO1099 => ?_
    simp only [setN, List.set, List.take, List.drop] at hb1099
    have hk1099 := hS.keptBlk 0 rfl hO1099
    replace f1088 := f1088.kept hk1099
    replace hS := hS.setBlk 0 rfl hb1099 hO1099; simp only [List.set] at hS
    refine q_assign rfl rfl ?_
    refine eseq_nil ?_
    refine hK1092 _ _ ?_
    refine e_seq fun K1100 hK1100 => ?_
    refine e_region_text rfl ?_
    refine q_move rfl rfl ?_
    obtain ⟨r1102, hr1102, h⟩ := Option.of_bind h
    refine q_call rfl (ref33_New_w (Sep.enter (As := []) hS)  hr1102) rfl ?_
    rintro _ w1101 ⟨v1103, R1101, rfl, hC1101⟩
    have hB1101 : Below (World.heap w1099).size w1099 w1101 := hC1101.stepB0
    refine ⟨fun _ => .of_below hB1101, ?_⟩
    replace f1088 := (f1088.ext hB1101).mono fun k hk _ => hC1101.ro0 k hk
    replace hS := Sep.leave (As := []) hS hC1101; simp only [List.cons_append, List.nil_append] at hS
    refine q_move rfl rfl ?_
    refine q_extract rfl rfl rfl ?_
    refine q_extract rfl rfl rfl ?_
    refine q_allocB rfl fun w1105 bl1105 hg1105 hb1105 hB1105 => ?_
    replace f1088 := f1088.ext hB1105
    replace hS := hS.newBlk hB1105 hg1105 hb1105
    refine q_storeAgg rfl rfl (hS.blk 0 rfl) rfl (Nat.le_of_ble_eq_true rfl) (all_cons (hS.own 1 rfl).one (all_cons rfl (all_nil))) rfl rfl fun w1107 hb1107 hO1107 => ?_
    simp only [setN, List.set, List.take, List.drop] at hb1107
    have hk1107 := hS.keptBlk 0 rfl hO1107
    replace f1088 := f1088.kept hk1107
    replace hS := hS.setBlk 0 rfl hb1107 hO1107; simp only [List.set] at hS
    refine q_assign rfl rfl ?_
    refine eseq_nil ?_
    refine hK1100 _ _ ?_
    refine e_seq fun K1108 hK1108 => ?_
    have hJt1133 : ∀ (x1132 : (List Shock)) (v1131 : Value) (R1126 : Nat → Prop) (w1127 : World) (E_ : Env), law33_CascadePlays_J1 fuel r1094 r1102 x1132 = some r → Sep F R R1126 w w1127 [HP.blk bl1097 [v1095, .slice none 0 0] 28, HP.own branchTy R1126 48 v1095 r1094.1.branches, HP.blk bl1105 [v1103, .slice none 0 0] 28, HP.own branchTy R1126 48 v1103 r1102.1.branches, HP.own shockTy (fun _ => False) 51 v1131 x1132] → Sub [(7, .pointer (some ⟨bl1097, 0, none⟩)), (9, .pointer (some ⟨bl1105, 0, none⟩)), (11, v1131)] E_ → K1108 E_ w1127 := by
      intro x1132 v1131 R1126 w1127 E_ h hS  hsub
      refine hK1108 _ _ (e_sub hsub ?_); clear hsub
      unfold law33_CascadePlays_J1 at h
      refine e_seq fun K1134 hK1134 => ?_
      refine e_seq fun K1135 hK1135 => ?_
      refine e_region_text rfl ?_
      refine q_assign rfl rfl ?_
      refine eseq_nil ?_
      refine hK1135 _ _ ?_
      refine e_block ?_
      obtain ⟨tl1136, ht1136, h⟩ := Option.of_bind h
      have hX1136_0 : ∀ (x1892 : (List Branch)) (x1895 : (List Letter)) (x1898 : (List Branch)) (x1901 : (List Letter)) (v1891 : Value) (v1894 : Value) (v1897 : Value) (v1900 : Value) (R1889 : Nat → Prop) (w1890 : World) (E_ : Env), law33_CascadePlays_K1 fuel x1892 x1895 x1898 x1901 = some r → Sep F R R1889 w w1890 [HP.blk bl1097 [v1891, v1894] 28, HP.blk bl1105 [v1897, v1900] 28] → IsSlice branchTy w1890 R1889 v1891 x1892 → IsSlice letterTy w1890 R1889 v1894 x1895 → IsSlice branchTy w1890 R1889 v1897 x1898 → IsSlice letterTy w1890 R1889 v1900 x1901 → Sub [(7, .pointer (some ⟨bl1097, 0, none⟩)), (9, .pointer (some ⟨bl1105, 0, none⟩))] E_ → K1134 E_ w1890 := by
        intro x1892 x1895 x1898 x1901 v1891 v1894 v1897 v1900 R1889 w1890 E_ h hS f1893 f1896 f1899 f1902 hsub
        refine hK1134 _ _ (e_sub hsub ?_); clear hsub
        unfold law33_CascadePlays_K1 at h
        refine e_seq fun K1903 hK1903 => ?_
        refine e_region_draw mixed (fun _ => False) [0, 1, 0, 7, 15, 31] [1] [0, 2, 1, 3, 4, 5] (by kernel_rfl) ?_
        refine q_loadAgg rfl (Blk.cellsAt (hS.blk 0 rfl) 0 2 rfl) rfl rfl ?_
        refine q_loadAgg rfl (Blk.cellsAt (hS.blk 1 rfl) 0 2 rfl) rfl rfl ?_
        obtain ⟨r1915, hr1915, h⟩ := Option.of_bind h
        refine q_call rfl (cascade_Settle_w (a0 := (⟨x1892, x1895⟩ : Cascade)) (Sep.enter (As := []) hS) f1893 f1896 hr1915) rfl ?_
        rintro _ w1914 ⟨v1916, v1917, R1914, rfl, hC1914⟩
        have hB1914 : Below (World.heap w1890).size w1890 w1914 := hC1914.stepB0
        refine ⟨fun _ => .of_below hB1914, ?_⟩
        replace f1893 := (f1893.ext hB1914).mono fun k hk _ => hC1914.ro0 k hk
        replace f1896 := (f1896.ext hB1914).mono fun k hk _ => hC1914.ro0 k hk
        replace f1899 := (f1899.ext hB1914).mono fun k hk _ => hC1914.ro0 k hk
        replace f1902 := (f1902.ext hB1914).mono fun k hk _ => hC1914.ro0 k hk
        replace hS := Sep.leave (As := []) hS hC1914; simp only [List.cons_append, List.nil_append] at hS
        obtain ⟨r1919, hr1919, h⟩ := Option.of_bind h
        refine q_call rfl (ref33_Settle_w (a0 := (⟨x1898, x1901⟩ : Cascade)) (Sep.enter (As := []) hS) f1899 f1902 hr1919) rfl ?_
        rintro _ w1918 ⟨v1920, v1921, R1918, rfl, hC1918⟩
        have hB1918 : Below (World.heap w1914).size w1914 w1918 := hC1918.stepB0
        refine ⟨fun _ => .of_below hB1918, ?_⟩
        replace f1899 := (f1899.ext hB1918).mono fun k hk _ => hC1918.ro0 k hk
        replace f1902 := (f1902.ext hB1918).mono fun k hk _ => hC1918.ro0 k hk
        replace hS := Sep.leave (As := []) hS hC1918; simp only [List.cons_append, List.nil_append] at hS
        obtain ⟨r1923, hr1923, h⟩ := Option.of_bind h
        refine q_call rfl (ref33_Same_w (a0 := r1915) (a1 := r1919) (Sep.all w1918) ((hS.isl 2 rfl)).old ((hS.isl 3 rfl)).old ((hS.isl 0 rfl)).old ((hS.isl 1 rfl)).old hr1923) rfl ?_
        rintro _ w1922 ⟨R1922, rfl, hC1922⟩
        have hB1922 : Below (World.heap w1918).size w1918 w1922 := hC1922.stepBF
        refine ⟨fun _ => .of_below hB1922, ?_⟩
        replace hS := hS.below hB1922
        refine q_assign rfl rfl ?_
        refine eseq_nil ?_
        refine hK1903 _ _ ?_
        refine e_ret ?_
        obtain rfl := Option.some.inj h
        exact ⟨_, res1 rfl rfl, _, rfl, (hS.pickB [] 6 rfl rfl)⟩
      obtain ⟨R1924, hS, hm1924, f1924⟩ := hS.freezeOwn 1 rfl; simp only [List.eraseIdx] at hS
      replace hS := hS.ownMono 2 rfl; simp only [List.set] at hS
      obtain ⟨R1925, hS, hm1925, f1925⟩ := hS.freezeOwn 2 rfl; simp only [List.eraseIdx] at hS
      replace f1924 := f1924.mono fun k hk _ => hm1925 k hk
      refine e_loop (fun m_ E_ w1643 => ∃ (x1645 : (List Branch)), ∃ (x1648 : (List Letter)), ∃ (x1651 : (List Branch)), ∃ (x1654 : (List Letter)), ∃ (x1657 : Int), ∃ (v1644 : Value), ∃ (v1647 : Value), ∃ (v1650 : Value), ∃ (v1653 : Value), ∃ (R1642 : Nat → Prop), iter (fun s => law33_CascadePlays_B1 fuel x1132 s.1 s.2.1 s.2.2.1 s.2.2.2.1 s.2.2.2.2) m_ (x1645, x1648, x1651, x1654, x1657) = some tl1136 ∧ Sep F R R1642 w w1643 [HP.blk bl1097 [v1644, v1647] 28, HP.blk bl1105 [v1650, v1653] 28, HP.own shockTy (fun _ => False) 51 v1131 x1132] ∧ IsSlice branchTy w1643 R1642 v1644 x1645 ∧ IsSlice letterTy w1643 R1642 v1647 x1648 ∧ IsSlice branchTy w1643 R1642 v1650 x1651 ∧ IsSlice letterTy w1643 R1642 v1653 x1654 ∧ E_ = [(7, .pointer (some ⟨bl1097, 0, none⟩)), (9, .pointer (some ⟨bl1105, 0, none⟩)), (11, v1131), (12, .int .i64 x1657)]) _ ⟨_, ⟨r1094.1.branches, ([] : List Letter), r1102.1.branches, ([] : List Letter), 0, v1095, (.slice none 0 0), v1103, (.slice none 0 0), _, ht1136, hS, f1924, (IsSlice.nil _ _ _), f1925, (IsSlice.nil _ _ _), rfl⟩, Sub.cons rfl (Sub.cons rfl (Sub.cons rfl (Sub.cons rfl (Sub.nil _))))⟩ ?_
      clear ht1136 hS
      rintro m1136 _ w1643 ⟨x1645, x1648, x1651, x1654, x1657, v1644, v1647, v1650, v1653, R1642, ht1136, hS, f1646, f1649, f1652, f1655, rfl⟩
      obtain ⟨m1136, rfl, o1136, ho1136, ht1136⟩ := iter_some ht1136
      replace ho1136 : law33_CascadePlays_B1 fuel x1132 x1645 x1648 x1651 x1654 x1657 = some o1136 := ho1136
      unfold law33_CascadePlays_B1 at ho1136
      refine e_seq fun K1926 hK1926 => ?_
      refine e_seq fun K1927 hK1927 => ?_
      refine e_region_text rfl ?_
      refine q_move rfl rfl ?_
      refine q_move rfl rfl ?_
      refine q_lenS rfl (hS.isl 2 rfl) rfl ?_
      refine q_lss rfl rfl rfl ?_
      refine eseq_nil ?_
      refine hK1927 _ _ ?_
      refine e_cond rfl (fun hc1928 => ?_) (fun hc1928 => ?_)
      · replace ho1136 := (if_pos hc1928).symm.trans ho1136
        refine e_skip ?_
        refine hK1926 _ _ ?_
        refine e_seq fun K1929 hK1929 => ?_
        refine e_block ?_
        refine e_seq fun K1930 hK1930 => ?_
        have hJt1970 : ∀ (r1935 : (Cascade × Int)) (x1966 : (List Branch)) (x1969 : (List Letter)) (B1963 : Nat) (v1965 : Value) (v1968 : Value) (R1955 : Nat → Prop) (w1956 : World) (E_ : Env), law33_CascadePlays_J2 fuel x1132 x1657 x1651 x1654 r1935 x1645 x1648 x1966 x1969 = some o1136 → Sep F R R1955 w w1956 [HP.blk bl1097 [v1644, v1647] 28, HP.blk bl1105 [v1650, v1653] 28, HP.own shockTy (fun _ => False) 51 v1131 x1132, HP.blk B1963 [v1965, v1968] 28, HP.own branchTy R1955 48 v1965 x1966, HP.own letterTy (fun _ => False) 43 v1968 x1969] → IsSlice branchTy w1956 R1955 v1644 x1645 → IsSlice letterTy w1956 R1955 v1647 x1648 → IsSlice branchTy w1956 R1955 v1650 x1651 → IsSlice letterTy w1956 R1955 v1653 x1654 → Sub [(7, .pointer (some ⟨bl1097, 0, none⟩)), (9, .pointer (some ⟨bl1105, 0, none⟩)), (11, v1131), (12, .int .i64 x1657), (13, .pointer (some ⟨B1963, 0, none⟩)), (14, .int .i64 r1935.2)] E_ → K1930 E_ w1956 := by
          intro r1935 x1966 x1969 B1963 v1965 v1968 R1955 w1956 E_ ho1136 hS f1957 f1958 f1959 f1960 hsub
          refine hK1930 _ _ (e_sub hsub ?_); clear hsub
          unfold law33_CascadePlays_J2 at ho1136
          refine e_seq fun K1971 hK1971 => ?_
          have hJt2013 : ∀ (r1976 : (Cascade × Int)) (x2009 : (List Branch)) (x2012 : (List Letter)) (B2006 : Nat) (v2008 : Value) (v2011 : Value) (R1996 : Nat → Prop) (w1997 : World) (E_ : Env), law33_CascadePlays_J3 fuel r1935 r1976 x1966 x1969 x1645 x1648 x1651 x1654 x1657 x2009 x2012 = some o1136 → Sep F R R1996 w w1997 [HP.blk bl1097 [v1644, v1647] 28, HP.blk bl1105 [v1650, v1653] 28, HP.own shockTy (fun _ => False) 51 v1131 x1132, HP.blk B1963 [v1965, v1968] 28, HP.own branchTy R1996 48 v1965 x1966, HP.own letterTy (fun _ => False) 43 v1968 x1969, HP.blk B2006 [v2008, v2011] 28, HP.own branchTy R1996 48 v2008 x2009, HP.own letterTy (fun _ => False) 43 v2011 x2012] → IsSlice branchTy w1997 R1996 v1644 x1645 → IsSlice letterTy w1997 R1996 v1647 x1648 → IsSlice branchTy w1997 R1996 v1650 x1651 → IsSlice letterTy w1997 R1996 v1653 x1654 → Sub [(7, .pointer (some ⟨bl1097, 0, none⟩)), (9, .pointer (some ⟨bl1105, 0, none⟩)), (11, v1131), (12, .int .i64 x1657), (13, .pointer (some ⟨B1963, 0, none⟩)), (14, .int .i64 r1935.2), (15, .pointer (some ⟨B2006, 0, none⟩)), (16, .int .i64 r1976.2)] E_ → K1971 E_ w1997 := by
            intro r1976 x2009 x2012 B2006 v2008 v2011 R1996 w1997 E_ ho1136 hS f1998 f1999 f2000 f2001 hsub
            refine hK1971 _ _ (e_sub hsub ?_); clear hsub
            unfold law33_CascadePlays_J3 at ho1136
            refine e_seq fun K2014 hK2014 => ?_
            refine e_seq fun K2015 hK2015 => ?_
            refine e_region_text rfl ?_
            refine q_move rfl rfl ?_
            refine q_move rfl rfl ?_
            refine q_neq rfl rfl rfl ?_
            refine q_move rfl rfl ?_
            obtain ⟨x2021, hx2020, ho1136⟩ := Option.of_bind ho1136
            refine g_orM 4 hx2020 rfl trivial rfl rfl ?_ ?_ ?_
            · intro hg2020
              refine g_skip rfl rfl rfl ?_
              refine g_skip rfl rfl rfl ?_
              refine g_skip rfl rfl rfl ?_
              refine g_skip rfl rfl rfl ?_
              exact eseq_nil ⟨rfl, Sub.set rfl (Sub.set rfl (Sub.set rfl (Sub.set rfl (Sub.bool true rfl hg2020))))⟩
            · intro hg2020 hx2020
              clear ho1136
              have hT2020 := Below.refl (World.heap w1997).size w1997
              refine g_run rfl ?_; refine q_loadAgg rfl (Blk.cellsAt (hS.blk 3 rfl) 0 2 rfl) rfl rfl ?_
              refine g_run rfl ?_; refine q_loadAgg rfl (Blk.cellsAt (hS.blk 6 rfl) 0 2 rfl) rfl rfl ?_
              obtain ⟨r2023, hr2023, hx2020⟩ := Option.of_bind hx2020
              refine g_run rfl ?_; refine q_call rfl (ref33_Same_w (a0 := (⟨x1966, x1969⟩ : Cascade)) (a1 := (⟨x2009, x2012⟩ : Cascade)) (Sep.all w1997) ((hS.isl 4 rfl)).old ((hS.isl 5 rfl)).old ((hS.isl 7 rfl)).old ((hS.isl 8 rfl)).old hr2023) rfl ?_
              rintro _ w2022 ⟨R2022, rfl, hC2022⟩
              have hB2022 : Below (World.heap w1997).size w1997 w2022 := hC2022.stepBF
              refine ⟨fun _ => .of_below hB2022, ?_⟩
              replace f1998 := f1998.ext hB2022
              replace f1999 := f1999.ext hB2022
              replace f2000 := f2000.ext hB2022
              replace f2001 := f2001.ext hB2022
              replace hT2020 := hT2020.trans (Below.mono hB2022 hT2020.size)
              replace hS := hS.below hB2022
              refine g_run rfl ?_; refine q_not rfl rfl ?_
              cases hx2020
              exact eseq_nil ⟨hT2020, Sub.set rfl (Sub.set rfl (Sub.set rfl (Sub.set rfl (Sub.bool false rfl hg2020)))), rfl⟩
            intro wm2020 hBm2020; clear hx2020
            replace hS := hS.below hBm2020
            replace f1998 := f1998.ext hBm2020
            replace f1999 := f1999.ext hBm2020
            replace f2000 := f2000.ext hBm2020
            replace f2001 := f2001.ext hBm2020
            refine eseq_nil ?_
            refine hK2015 _ _ ?_
            refine e_cond rfl (fun hc2024 => ?_) (fun hc2024 => ?_)
            · replace ho1136 := (if_pos hc2024).symm.trans ho1136
              refine e_seq fun K2025 hK2025 => ?_
              refine e_region_text rfl ?_
              refine q_assign rfl rfl ?_
              refine eseq_nil ?_
              refine hK2025 _ _ ?_
              refine e_ret ?_
              obtain rfl := Option.some.inj ho1136
              obtain rfl := Option.some.inj ht1136
              obtain rfl := Option.some.inj h
              exact ⟨_, res1 rfl rfl, _, rfl, (hS.pickB [] 9 rfl rfl)⟩
            · replace ho1136 := (if_neg (not_true hc2024)).symm.trans ho1136
              refine e_skip ?_
              refine hK2014 _ _ ?_
              refine e_seq fun K2026 hK2026 => ?_
              refine e_seq fun K2027 hK2027 => ?_
              refine e_region_text rfl ?_
              refine q_move rfl rfl ?_
              refine q_neq rfl rfl rfl ?_
              refine eseq_nil ?_
              refine hK2027 _ _ ?_
              refine e_cond rfl (fun hc2028 => ?_) (fun hc2028 => ?_)
              · replace ho1136 := (if_pos hc2028).symm.trans ho1136
                refine e_exit ?_
                refine hK1929 _ _ ?_
                refine e_region_text rfl ?_
                refine q_move rfl rfl ?_
                refine q_addW rfl rfl rfl ?_
                refine q_assign rfl rfl ?_
                refine eseq_nil ?_
                obtain rfl := Option.some.inj ho1136
                exact ⟨m1136, _, Nat.lt_succ_self _, ⟨x1645, x1648, x1651, x1654, (w64 (x1657 + 1)), v1644, v1647, v1650, v1653, _, ht1136, (hS.pickB [0, 1, 2] 9 rfl rfl), f1998, f1999, f2000, f2001, rfl⟩, Sub.cons rfl (Sub.cons rfl (Sub.cons rfl (Sub.cons rfl (Sub.nil _))))⟩
              · replace ho1136 := (if_neg (not_true hc2028)).symm.trans ho1136
                refine e_skip ?_
                refine hK2026 _ _ ?_
                refine e_seq fun K2029 hK2029 => ?_
                refine e_region_draw mixed (fun k => k = bl1097) [0, 0, 1, 7] [2] [0, 1, 2, 3] (by kernel_rfl) ?_
                refine q_loadAgg rfl (Blk.cellsAt (hS.blk 3 rfl) 0 2 rfl) rfl rfl ?_ (hX := fun hx_ => hS.apart 3 0 rfl rfl (by decide) _ rfl hx_)
                refine q_loadAgg rfl (Blk.cellsAt (hS.blk 6 rfl) 0 2 rfl) rfl rfl ?_ (hX := fun hx_ => hS.apart 6 0 rfl rfl (by decide) _ rfl hx_)
                refine q_storeAggX rfl rfl (hS.blk 0 rfl) rfl (Nat.le_of_ble_eq_true rfl) (all_cons (hS.own 4 rfl).one (all_cons (hS.own 5 rfl).one (all_nil))) rfl rfl fun w2032 hb2032 hO2032 => ?_
                simp only [setN, List.set, List.take, List.drop] at hb2032
                have hk2032 := hS.keptBlk 0 rfl hO2032
                replace f2000 := f2000.kept hk2032
                replace f2001 := f2001.kept hk2032
                replace hS := hS.setBlk 0 rfl hb2032 hO2032; simp only [List.set] at hS
                refine q_storeAgg rfl rfl (hS.blk 1 rfl) rfl (Nat.le_of_ble_eq_true rfl) (all_cons (hS.own 7 rfl).one (all_cons (hS.own 8 rfl).one (all_nil))) rfl rfl fun w2033 hb2033 hO2033 => ?_
                simp only [setN, List.set, List.take, List.drop] at hb2033
                have hk2033 := hS.keptBlk 1 rfl hO2033
                replace hS := hS.setBlk 1 rfl hb2033 hO2033; simp only [List.set] at hS
                refine eseq_nil ?_
                refine hK2029 _ _ ?_
                refine e_seq fun K2034 hK2034 => ?_
                refine e_region_draw mixed (fun _ => False) [0, 1, 0, 7, 15, 31, 63, 127, 63, 511, 1023, 2047, 4095] [1, 7] [0, 2, 1, 3, 4, 5, 6, 8, 7, 9, 10, 11, 12] (by kernel_rfl) ?_
                refine q_loadAgg rfl (Blk.cellsAt (hS.blk 0 rfl) 0 2 rfl) rfl rfl ?_
                refine q_loadAgg rfl (Blk.cellsAt (hS.blk 1 rfl) 0 2 rfl) rfl rfl ?_
                obtain ⟨r2070, hr2070, ho1136⟩ := Option.of_bind ho1136
                refine q_call rfl (cascade_Quiet_w (a0 := (⟨x1966, x1969⟩ : Cascade)) (Sep.all w2033) ((hS.isl 4 rfl)).old ((hS.isl 5 rfl)).old hr2070) rfl ?_
                rintro _ w2069 ⟨R2069, rfl, hC2069⟩
                have hB2069 : Below (World.heap w2033).size w2033 w2069 := hC2069.stepBF
                refine ⟨fun _ => .of_below hB2069, ?_⟩
                replace hS := hS.below hB2069
                obtain ⟨r2072, hr2072, ho1136⟩ := Option.of_bind ho1136
                refine q_call rfl (ref33_Quiet_w (a0 := (⟨x2009, x2012⟩ : Cascade)) (Sep.all w2069) ((hS.isl 7 rfl)).old ((hS.isl 8 rfl)).old hr2072) rfl ?_
                rintro _ w2071 ⟨R2071, rfl, hC2071⟩
                have hB2071 : Below (World.heap w2069).size w2069 w2071 := hC2071.stepBF
                refine ⟨fun _ => .of_below hB2071, ?_⟩
                replace hS := hS.below hB2071
                refine q_neqB rfl rfl rfl ?_
                refine q_move rfl rfl ?_
                obtain ⟨x2089, hx2088, ho1136⟩ := Option.of_bind ho1136
                refine g_orM 6 hx2088 rfl trivial rfl rfl ?_ ?_ ?_
                · intro hg2088
                  refine g_skip rfl rfl rfl ?_
                  refine g_skip rfl rfl rfl ?_
                  refine g_skip rfl rfl rfl ?_
                  refine g_skip rfl rfl rfl ?_
                  refine g_skip rfl rfl rfl ?_
                  refine g_skip rfl rfl rfl ?_
                  exact eseq_nil ⟨rfl, Sub.set rfl (Sub.set rfl (Sub.set rfl (Sub.set rfl (Sub.set rfl (Sub.set rfl (Sub.bool true rfl hg2088))))))⟩
                · intro hg2088 hx2088
                  clear ho1136
                  have hT2088 := Below.refl (World.heap w2071).size w2071
                  refine g_run rfl ?_; refine q_loadAgg rfl (Blk.cellsAt (hS.blk 0 rfl) 0 2 rfl) rfl rfl ?_
                  refine g_run rfl ?_; refine q_loadAgg rfl (Blk.cellsAt (hS.blk 1 rfl) 0 2 rfl) rfl rfl ?_
                  obtain ⟨R2091, hS, hm2091, f2091⟩ := hS.freezeOwn 4 rfl; simp only [List.eraseIdx] at hS
                  obtain ⟨R2092, hS, hm2092, f2092⟩ := hS.freezeOwn 4 rfl; simp only [List.eraseIdx] at hS
                  replace f2091 := f2091.mono fun k hk _ => hm2092 k hk
                  obtain ⟨r2093, hr2093, hx2088⟩ := Option.of_bind hx2088
                  refine g_run rfl ?_; refine q_call rfl (cascade_Lineages_w (a0 := (⟨x1966, x1969⟩ : Cascade)) (Sep.enter (As := []) hS) f2091 f2092 hr2093) rfl ?_
                  rintro v2094 w2090 ⟨_, R2090, rfl, hC2090⟩
                  have hB2090 : Below (World.heap w2071).size w2071 w2090 := hC2090.stepB0
                  refine ⟨fun _ => .of_below hB2090, ?_⟩
                  replace f2091 := (f2091.ext hB2090).mono fun k hk _ => hC2090.ro0 k hk
                  replace f2092 := (f2092.ext hB2090).mono fun k hk _ => hC2090.ro0 k hk
                  replace hT2088 := hT2088.trans (Below.mono hB2090 hT2088.size)
                  replace hS := Sep.leave (As := []) hS hC2090; simp only [List.cons_append, List.nil_append] at hS
                  replace hS := hS.ownMono 6 rfl; simp only [List.set] at hS
                  obtain ⟨R2096, hS, hm2096, f2096⟩ := hS.freezeOwn 6 rfl; simp only [List.eraseIdx] at hS
                  replace f2091 := f2091.mono fun k hk _ => hm2096 k hk
                  replace f2092 := f2092.mono fun k hk _ => hm2096 k hk
                  obtain ⟨R2097, hS, hm2097, f2097⟩ := hS.freezeOwn 6 rfl; simp only [List.eraseIdx] at hS
                  replace f2091 := f2091.mono fun k hk _ => hm2097 k hk
                  replace f2092 := f2092.mono fun k hk _ => hm2097 k hk
                  replace f2096 := f2096.mono fun k hk _ => hm2097 k hk
                  obtain ⟨r2098, hr2098, hx2088⟩ := Option.of_bind hx2088
                  refine g_run rfl ?_; refine q_call rfl (ref33_Lineages_w (a0 := (⟨x2009, x2012⟩ : Cascade)) (Sep.enter (As := []) hS) f2096 f2097 hr2098) rfl ?_
                  rintro v2099 w2095 ⟨_, v2100, R2095, rfl, hC2095⟩
                  have hB2095 : Below (World.heap w2090).size w2090 w2095 := hC2095.stepB0
                  refine ⟨fun _ => .of_below hB2095, ?_⟩
                  replace f2091 := (f2091.ext hB2095).mono fun k hk _ => hC2095.ro0 k hk
                  replace f2092 := (f2092.ext hB2095).mono fun k hk _ => hC2095.ro0 k hk
                  replace f2096 := (f2096.ext hB2095).mono fun k hk _ => hC2095.ro0 k hk
                  replace f2097 := (f2097.ext hB2095).mono fun k hk _ => hC2095.ro0 k hk
                  replace hT2088 := hT2088.trans (Below.mono hB2095 hT2088.size)
                  replace hS := Sep.leave (As := []) hS hC2095; simp only [List.cons_append, List.nil_append] at hS
                  obtain ⟨r2102, hr2102, hx2088⟩ := Option.of_bind hx2088
                  refine g_run rfl ?_; refine q_call rfl (ref32_SameLineages_w (Sep.all w2095) ((hS.isl 2 rfl)).old ((hS.rowsI 0 1 rfl rfl (by decide))).old hr2102) rfl ?_
                  rintro _ w2101 ⟨R2101, rfl, hC2101⟩
                  have hB2101 : Below (World.heap w2095).size w2095 w2101 := hC2101.stepBF
                  refine ⟨fun _ => .of_below hB2101, ?_⟩
                  replace f2091 := f2091.ext hB2101
                  replace f2092 := f2092.ext hB2101
                  replace f2096 := f2096.ext hB2101
                  replace f2097 := f2097.ext hB2101
                  replace hT2088 := hT2088.trans (Below.mono hB2101 hT2088.size)
                  replace hS := hS.below hB2101
                  refine g_run rfl ?_; refine q_not rfl rfl ?_
                  cases hx2088
                  exact eseq_nil ⟨hT2088, Sub.set rfl (Sub.set rfl (Sub.set rfl (Sub.set rfl (Sub.set rfl (Sub.set rfl (Sub.bool false rfl hg2088)))))), rfl⟩
                intro wm2088 hBm2088; clear hx2088
                replace hS := hS.below hBm2088
                refine eseq_nil ?_
                refine hK2034 _ _ ?_
                refine e_cond rfl (fun hc2103 => ?_) (fun hc2103 => ?_)
                · replace ho1136 := (if_pos hc2103).symm.trans ho1136
                  refine e_seq fun K2104 hK2104 => ?_
                  refine e_region_text rfl ?_
                  refine q_assign rfl rfl ?_
                  refine eseq_nil ?_
                  refine hK2104 _ _ ?_
                  refine e_ret ?_
                  obtain rfl := Option.some.inj ho1136
                  obtain rfl := Option.some.inj ht1136
                  obtain rfl := Option.some.inj h
                  exact ⟨_, res1 rfl rfl, _, rfl, (hS.pickB [] 9 rfl rfl)⟩
                · replace ho1136 := (if_neg (not_true hc2103)).symm.trans ho1136
                  refine e_skip ?_
                  refine hK1929 _ _ ?_
                  refine e_region_text rfl ?_
                  refine q_move rfl rfl ?_
                  refine q_addW rfl rfl rfl ?_
                  refine q_assign rfl rfl ?_
                  refine eseq_nil ?_
                  obtain ⟨R2105, hS, hm2105, f2105⟩ := hS.freezeOwn 4 rfl; simp only [List.eraseIdx] at hS
                  obtain ⟨R2106, hS, hm2106, f2106⟩ := hS.freezeOwn 4 rfl; simp only [List.eraseIdx] at hS
                  replace f2105 := f2105.mono fun k hk _ => hm2106 k hk
                  replace hS := hS.ownMono 5 rfl; simp only [List.set] at hS
                  obtain ⟨R2107, hS, hm2107, f2107⟩ := hS.freezeOwn 5 rfl; simp only [List.eraseIdx] at hS
                  replace f2105 := f2105.mono fun k hk _ => hm2107 k hk
                  replace f2106 := f2106.mono fun k hk _ => hm2107 k hk
                  obtain ⟨R2108, hS, hm2108, f2108⟩ := hS.freezeOwn 5 rfl; simp only [List.eraseIdx] at hS
                  replace f2105 := f2105.mono fun k hk _ => hm2108 k hk
                  replace f2106 := f2106.mono fun k hk _ => hm2108 k hk
                  replace f2107 := f2107.mono fun k hk _ => hm2108 k hk
                  obtain rfl := Option.some.inj ho1136
                  exact ⟨m1136, _, Nat.lt_succ_self _, ⟨x1966, x1969, x2009, x2012, (w64 (x1657 + 1)), v1965, v1968, v2008, v2011, _, ht1136, (hS.pickB [0, 1, 2] 5 rfl rfl), f2105, f2106, f2107, f2108, rfl⟩, Sub.cons rfl (Sub.cons rfl (Sub.cons rfl (Sub.cons rfl (Sub.nil _))))⟩
          obtain ⟨x1972, hx1972, ho1136⟩ := Option.of_bind ho1136
          obtain ⟨r1976, hr1976, ho1136⟩ := Option.of_bind ho1136
          refine e_region_T mixed (fun _ => False) [0, 0, 0, 6, 14, 31, 63, 127, 127, 0, 767, 2047] [9] (QT.op 0 (QT.op 1 (QT.op 2 (QT.op 3 (QT.op 4 (QT.alt (QT.op 5 (QT.op 6 (QT.op 7 (QT.op 8 (QT.op 9 (QT.op 10 (QT.op 11 QT.fin))))))) (QT.op 9 (QT.op 5 (QT.op 6 (QT.op 7 (QT.op 8 (QT.op 10 (QT.op 11 QT.fin))))))))))))) (by kernel_rfl) ?_
          refine t_op ?_
          refine q_loadAgg rfl (Blk.cellsAt (hS.blk 1 rfl) 0 2 rfl) rfl rfl ?_
          refine eseq_nil ?_
          refine t_op ?_
          refine q_move rfl rfl ?_
          refine eseq_nil ?_
          refine t_op ?_
          refine q_move rfl rfl ?_
          refine eseq_nil ?_
          refine t_op ?_
          refine q_indexO (by infer_instance) rfl (hS.own 2 rfl) rfl hx1972 rfl ?_
          refine eseq_nil ?_
          refine t_op ?_
          have f2109 := (hS.ownR 2 rfl).elt hx1972
          have hc2110 := Shock_open f2109
          refine q_loadAgg rfl hc2110 rfl rfl ?_
          refine eseq_nil ?_
          refine t_alt ?_ ?_
          · skip
            refine t_op ?_
            refine q_call rfl (ref33_Step_w (a0 := (⟨x1651, x1654⟩ : Cascade)) (a1 := x1972) (Sep.enter (As := []) hS) f1959 f1960 hr1976) rfl ?_
            rintro _ w2111 ⟨v2112, v2113, R2111, rfl, hC2111⟩
            have hB2111 : Below (World.heap w1956).size w1956 w2111 := hC2111.stepB0
            refine ⟨fun _ => .of_below hB2111, ?_⟩
            replace f1957 := (f1957.ext hB2111).mono fun k hk _ => hC2111.ro0 k hk
            replace f1958 := (f1958.ext hB2111).mono fun k hk _ => hC2111.ro0 k hk
            replace f1959 := (f1959.ext hB2111).mono fun k hk _ => hC2111.ro0 k hk
            replace f1960 := (f1960.ext hB2111).mono fun k hk _ => hC2111.ro0 k hk
            replace hS := Sep.leave (As := []) hS hC2111; simp only [List.cons_append, List.nil_append] at hS
            refine eseq_nil ?_
            refine t_op ?_
            refine q_move rfl rfl ?_
            refine eseq_nil ?_
            refine t_op ?_
            refine q_extract rfl rfl rfl ?_
            refine eseq_nil ?_
            refine t_op ?_
            refine q_extract rfl rfl rfl ?_
            refine eseq_nil ?_
            refine t_op ?_
            refine q_allocB rfl fun w2114 bl2114 hg2114 hb2114 hB2114 => ?_
            replace f1957 := f1957.ext hB2114
            replace f1958 := f1958.ext hB2114
            replace f1959 := f1959.ext hB2114
            replace f1960 := f1960.ext hB2114
            replace hS := hS.newBlk hB2114 hg2114 hb2114
            refine eseq_nil ?_
            refine t_op ?_
            refine q_storeAgg rfl rfl (hS.blk 0 rfl) rfl (Nat.le_of_ble_eq_true rfl) (all_cons (hS.own 1 rfl).one (all_cons (hS.own 2 rfl).one (all_nil))) rfl rfl fun w2116 hb2116 hO2116 => ?_
            simp only [setN, List.set, List.take, List.drop] at hb2116
            have hk2116 := hS.keptBlk 0 rfl hO2116
            replace f1957 := f1957.kept hk2116
            replace f1958 := f1958.kept hk2116
            replace f1959 := f1959.kept hk2116
            replace f1960 := f1960.kept hk2116
            replace hS := hS.setBlk 0 rfl hb2116 hO2116; simp only [List.set] at hS
            refine eseq_nil ?_
            refine t_op ?_
            refine q_assign rfl rfl ?_
            refine eseq_nil ?_
            refine t_fin ?_
            replace hS := hS.ownMono 7 rfl; simp only [List.set] at hS
            exact hJt2013 r1976 r1976.1.branches r1976.1.flight bl2114 v2112 v2113 _ _ _ ho1136 (hS.pickB [3, 4, 5, 6, 7, 8, 0, 1, 2] 9 rfl rfl) f1957 f1958 f1959 f1960 (Sub.cons rfl (Sub.cons rfl (Sub.cons rfl (Sub.cons rfl (Sub.cons rfl (Sub.cons rfl (Sub.cons rfl (Sub.cons rfl (Sub.nil _)))))))))
          · skip
            refine t_op ?_
            refine q_allocB rfl fun w2117 bl2117 hg2117 hb2117 hB2117 => ?_
            replace f1957 := f1957.ext hB2117
            replace f1958 := f1958.ext hB2117
            replace f1959 := f1959.ext hB2117
            replace f1960 := f1960.ext hB2117
            replace hS := hS.newBlk hB2117 hg2117 hb2117
            refine eseq_nil ?_
            refine t_op ?_
            refine q_call rfl (ref33_Step_w (a0 := (⟨x1651, x1654⟩ : Cascade)) (a1 := x1972) (Sep.enter (As := []) hS) f1959 f1960 hr1976) rfl ?_
            rintro _ w2119 ⟨v2120, v2121, R2119, rfl, hC2119⟩
            have hB2119 : Below (World.heap w2117).size w2117 w2119 := hC2119.stepB0
            refine ⟨fun _ => .of_below hB2119, ?_⟩
            replace f1957 := (f1957.ext hB2119).mono fun k hk _ => hC2119.ro0 k hk
            replace f1958 := (f1958.ext hB2119).mono fun k hk _ => hC2119.ro0 k hk
            replace f1959 := (f1959.ext hB2119).mono fun k hk _ => hC2119.ro0 k hk
            replace f1960 := (f1960.ext hB2119).mono fun k hk _ => hC2119.ro0 k hk
            replace hS := Sep.leave (As := []) hS hC2119; simp only [List.cons_append, List.nil_append] at hS
            refine eseq_nil ?_
            refine t_op ?_
            refine q_move rfl rfl ?_
            refine eseq_nil ?_
            refine t_op ?_
            refine q_extract rfl rfl rfl ?_
            refine eseq_nil ?_
            refine t_op ?_
            refine q_extract rfl rfl rfl ?_
            refine eseq_nil ?_
            refine t_op ?_
            refine q_storeAgg rfl rfl (hS.blk 2 rfl) rfl (Nat.le_of_ble_eq_true rfl) (all_cons (hS.own 0 rfl).one (all_cons (hS.own 1 rfl).one (all_nil))) rfl rfl fun w2122 hb2122 hO2122 => ?_
            simp only [setN, List.set, List.take, List.drop] at hb2122
            have hk2122 := hS.keptBlk 2 rfl hO2122
            replace f1957 := f1957.kept hk2122
            replace f1958 := f1958.kept hk2122
            replace f1959 := f1959.kept hk2122
            replace f1960 := f1960.kept hk2122
            replace hS := hS.setBlk 2 rfl hb2122 hO2122; simp only [List.set] at hS
            refine eseq_nil ?_
            refine t_op ?_
            refine q_assign rfl rfl ?_
            refine eseq_nil ?_
            refine t_fin ?_
            replace hS := hS.ownMono 7 rfl; simp only [List.set] at hS
            exact hJt2013 r1976 r1976.1.branches r1976.1.flight bl2117 v2120 v2121 _ _ _ ho1136 (hS.pickB [3, 4, 5, 6, 7, 8, 2, 0, 1] 9 rfl rfl) f1957 f1958 f1959 f1960 (Sub.cons rfl (Sub.cons rfl (Sub.cons rfl (Sub.cons rfl (Sub.cons rfl (Sub.cons rfl (Sub.cons rfl (Sub.cons rfl (Sub.nil _)))))))))
        obtain ⟨x1931, hx1931, ho1136⟩ := Option.of_bind ho1136
        obtain ⟨r1935, hr1935, ho1136⟩ := Option.of_bind ho1136
        refine e_region_T mixed (fun _ => False) [0, 0, 0, 6, 14, 31, 63, 127, 127, 0, 767, 2047] [9] (QT.op 0 (QT.op 1 (QT.op 2 (QT.op 3 (QT.op 4 (QT.alt (QT.op 5 (QT.op 6 (QT.op 7 (QT.op 8 (QT.op 9 (QT.op 10 (QT.op 11 QT.fin))))))) (QT.op 9 (QT.op 5 (QT.op 6 (QT.op 7 (QT.op 8 (QT.op 10 (QT.op 11 QT.fin))))))))))))) (by kernel_rfl) ?_
        refine t_op ?_
        refine q_loadAgg rfl (Blk.cellsAt (hS.blk 0 rfl) 0 2 rfl) rfl rfl ?_
        refine eseq_nil ?_
        refine t_op ?_
        refine q_move rfl rfl ?_
        refine eseq_nil ?_
        refine t_op ?_
        refine q_move rfl rfl ?_
        refine eseq_nil ?_
        refine t_op ?_
        refine q_indexO (by infer_instance) rfl (hS.own 2 rfl) rfl hx1931 rfl ?_
        refine eseq_nil ?_
        refine t_op ?_
        have f2123 := (hS.ownR 2 rfl).elt hx1931
        have hc2124 := Shock_open f2123
        refine q_loadAgg rfl hc2124 rfl rfl ?_
        refine eseq_nil ?_
        refine t_alt ?_ ?_
        · skip
          refine t_op ?_
          refine q_call rfl (cascade_Step_w (a0 := (⟨x1645, x1648⟩ : Cascade)) (a1 := x1931) (Sep.enter (As := []) hS) f1646 f1649 hr1935) rfl ?_
          rintro _ w2125 ⟨v2126, v2127, R2125, rfl, hC2125⟩
          have hB2125 : Below (World.heap w1643).size w1643 w2125 := hC2125.stepB0
          refine ⟨fun _ => .of_below hB2125, ?_⟩
          replace f1646 := (f1646.ext hB2125).mono fun k hk _ => hC2125.ro0 k hk
          replace f1649 := (f1649.ext hB2125).mono fun k hk _ => hC2125.ro0 k hk
          replace f1652 := (f1652.ext hB2125).mono fun k hk _ => hC2125.ro0 k hk
          replace f1655 := (f1655.ext hB2125).mono fun k hk _ => hC2125.ro0 k hk
          replace hS := Sep.leave (As := []) hS hC2125; simp only [List.cons_append, List.nil_append] at hS
          refine eseq_nil ?_
          refine t_op ?_
          refine q_move rfl rfl ?_
          refine eseq_nil ?_
          refine t_op ?_
          refine q_extract rfl rfl rfl ?_
          refine eseq_nil ?_
          refine t_op ?_
          refine q_extract rfl rfl rfl ?_
          refine eseq_nil ?_
          refine t_op ?_
          refine q_allocB rfl fun w2128 bl2128 hg2128 hb2128 hB2128 => ?_
          replace f1646 := f1646.ext hB2128
          replace f1649 := f1649.ext hB2128
          replace f1652 := f1652.ext hB2128
          replace f1655 := f1655.ext hB2128
          replace hS := hS.newBlk hB2128 hg2128 hb2128
          refine eseq_nil ?_
          refine t_op ?_
          refine q_storeAgg rfl rfl (hS.blk 0 rfl) rfl (Nat.le_of_ble_eq_true rfl) (all_cons (hS.own 1 rfl).one (all_cons (hS.own 2 rfl).one (all_nil))) rfl rfl fun w2130 hb2130 hO2130 => ?_
          simp only [setN, List.set, List.take, List.drop] at hb2130
          have hk2130 := hS.keptBlk 0 rfl hO2130
          replace f1646 := f1646.kept hk2130
          replace f1649 := f1649.kept hk2130
          replace f1652 := f1652.kept hk2130
          replace f1655 := f1655.kept hk2130
          replace hS := hS.setBlk 0 rfl hb2130 hO2130; simp only [List.set] at hS
          refine eseq_nil ?_
          refine t_op ?_
          refine q_assign rfl rfl ?_
          refine eseq_nil ?_
          refine t_fin ?_
          exact hJt1970 r1935 r1935.1.branches r1935.1.flight bl2128 v2126 v2127 _ _ _ ho1136 (hS.pickB [3, 4, 5, 0, 1, 2] 6 rfl rfl) f1646 f1649 f1652 f1655 (Sub.cons rfl (Sub.cons rfl (Sub.cons rfl (Sub.cons rfl (Sub.cons rfl (Sub.cons rfl (Sub.nil _)))))))
        · skip
          refine t_op ?_
          refine q_allocB rfl fun w2131 bl2131 hg2131 hb2131 hB2131 => ?_
          replace f1646 := f1646.ext hB2131
          replace f1649 := f1649.ext hB2131
          replace f1652 := f1652.ext hB2131
          replace f1655 := f1655.ext hB2131
          replace hS := hS.newBlk hB2131 hg2131 hb2131
          refine eseq_nil ?_
          refine t_op ?_
          refine q_call rfl (cascade_Step_w (a0 := (⟨x1645, x1648⟩ : Cascade)) (a1 := x1931) (Sep.enter (As := []) hS) f1646 f1649 hr1935) rfl ?_
          rintro _ w2133 ⟨v2134, v2135, R2133, rfl, hC2133⟩
          have hB2133 : Below (World.heap w2131).size w2131 w2133 := hC2133.stepB0
          refine ⟨fun _ => .of_below hB2133, ?_⟩
          replace f1646 := (f1646.ext hB2133).mono fun k hk _ => hC2133.ro0 k hk
          replace f1649 := (f1649.ext hB2133).mono fun k hk _ => hC2133.ro0 k hk
          replace f1652 := (f1652.ext hB2133).mono fun k hk _ => hC2133.ro0 k hk
          replace f1655 := (f1655.ext hB2133).mono fun k hk _ => hC2133.ro0 k hk
          replace hS := Sep.leave (As := []) hS hC2133; simp only [List.cons_append, List.nil_append] at hS
          refine eseq_nil ?_
          refine t_op ?_
          refine q_move rfl rfl ?_
          refine eseq_nil ?_
          refine t_op ?_
          refine q_extract rfl rfl rfl ?_
          refine eseq_nil ?_
          refine t_op ?_
          refine q_extract rfl rfl rfl ?_
          refine eseq_nil ?_
          refine t_op ?_
          refine q_storeAgg rfl rfl (hS.blk 2 rfl) rfl (Nat.le_of_ble_eq_true rfl) (all_cons (hS.own 0 rfl).one (all_cons (hS.own 1 rfl).one (all_nil))) rfl rfl fun w2136 hb2136 hO2136 => ?_
          simp only [setN, List.set, List.take, List.drop] at hb2136
          have hk2136 := hS.keptBlk 2 rfl hO2136
          replace f1646 := f1646.kept hk2136
          replace f1649 := f1649.kept hk2136
          replace f1652 := f1652.kept hk2136
          replace f1655 := f1655.kept hk2136
          replace hS := hS.setBlk 2 rfl hb2136 hO2136; simp only [List.set] at hS
          refine eseq_nil ?_
          refine t_op ?_
          refine q_assign rfl rfl ?_
          refine eseq_nil ?_
          refine t_fin ?_
          exact hJt1970 r1935 r1935.1.branches r1935.1.flight bl2131 v2134 v2135 _ _ _ ho1136 (hS.pickB [3, 4, 5, 2, 0, 1] 6 rfl rfl) f1646 f1649 f1652 f1655 (Sub.cons rfl (Sub.cons rfl (Sub.cons rfl (Sub.cons rfl (Sub.cons rfl (Sub.cons rfl (Sub.nil _)))))))
      · replace ho1136 := (if_neg (not_true hc1928)).symm.trans ho1136
        refine e_exit ?_
        obtain rfl := Option.some.inj ho1136
        obtain rfl := Option.some.inj ht1136
        exact hX1136_0 x1645 x1648 x1651 x1654 v1644 v1647 v1650 v1653 _ _ _ h (hS.pickB [0, 1] 3 rfl rfl) f1646 f1649 f1652 f1655 (Sub.cons rfl (Sub.cons rfl (Sub.nil _)))
    obtain ⟨r1110, hr1110, h⟩ := Option.of_bind h
    obtain ⟨x1115, hx1115, h⟩ := Option.of_bind h
    refine e_region_T mixed (fun k => k = B1087) [0, 0, 3, 0, 8, 31, 63] [2] (QT.op 0 (QT.op 1 (QT.op 3 (QT.alt (QT.op 2 (QT.op 4 (QT.op 5 (QT.op 6 QT.fin)))) (QT.op 4 (QT.op 2 (QT.op 5 (QT.op 6 QT.fin)))))))) (by kernel_rfl) ?_
    refine t_op ?_
    refine q_move rfl rfl ?_
    refine eseq_nil ?_
    refine t_op ?_
    refine q_move rfl rfl ?_
    refine eseq_nil ?_
    refine t_op ?_
    refine q_loadAgg rfl (Blk.cellsAt (hS.blk 5 rfl) 0 3 rfl) rfl rfl ?_ (hX := fun hx_ => hS.apart 5 4 rfl rfl (by decide) _ rfl hx_)
    refine eseq_nil ?_
    refine t_alt ?_ ?_
    · skip
      refine t_op ?_
      replace hS := hS.pickB [4, 0, 1, 2, 3, 5] 6 rfl rfl; simp only [List.map_cons, List.map_nil, List.getD_cons_zero, List.getD_cons_succ] at hS
      refine q_call rfl (make_Codes_Shocks_w (Sep.enter (As := [_]) hS) f1088 hr1110) rfl ?_
      rintro v2138 w2137 ⟨_, R2137, rfl, hC2137⟩
      refine ⟨fun _ => hC2137.relX1, ?_⟩
      have hk2137 := hC2137.keptR (Sep.offFeet (As := [_]) hS)
      replace f1088 := (f1088.kept hk2137).mono fun k hk _ => hC2137.ro0 k hk
      replace hS := Sep.leave (As := [_]) hS hC2137; simp only [List.cons_append, List.nil_append] at hS
      refine eseq_nil ?_
      refine t_op ?_
      refine q_litO (T := shockTy) (S := (fun _ => False)) (cells := [[.int .i64 a1.kind, .int .i64 a1.proc, .int .i64 a1.other]]) (ys := [(⟨a1.kind, a1.proc, a1.other⟩ : Shock)]) ((Parts.cons rfl rfl Parts.nil)) rfl rfl rfl rfl rfl rfl rfl (fun w1 hB => ⟨⟨[_], _, rfl, rfl, ⟨[_], _, rfl, rfl, rfl⟩⟩, trivial⟩) (fun _ h => h.elim) rfl fun w2139 v2139 ho2139 hv2139 hB2139 => ?_
      replace f1088 := f1088.ext hB2139
      replace hS := hS.newOwnS hB2139 ho2139 hv2139 (fun _ h => h.elim)
      refine eseq_nil ?_
      refine t_op ?_
      refine q_catOwn (T := shockTy) rfl rfl rfl rfl (hS.own 2 rfl) rfl (hS.own 0 rfl) (fun _ h _ => h.elim) (snoc_cat hx1115) (Nat.zero_le _) rfl (fun h => by cases h) fun v2141 w2141 hw2141 hgr2141 hnw2141 => ?_
      have hk2141 := hS.keptOwn 2 rfl hgr2141
      replace f1088 := f1088.kept hk2141
      replace hS := hS.setOwn 2 rfl hw2141 hgr2141 hnw2141; simp only [List.set] at hS
      refine eseq_nil ?_
      refine t_op ?_
      refine q_assign rfl rfl ?_
      refine eseq_nil ?_
      refine t_fin ?_
      replace hS := hS.ownMono 6 rfl; simp only [List.set] at hS
      replace hS := hS.ownMono 4 rfl; simp only [List.set] at hS
      exact hJt1133 x1115 v2141 _ _ _ h (hS.pickB [5, 6, 3, 4, 2] 8 rfl rfl)  (Sub.cons rfl (Sub.cons rfl (Sub.cons rfl (Sub.nil _))))
    · skip
      refine t_op ?_
      refine q_litO (T := shockTy) (S := (fun _ => False)) (cells := [[.int .i64 a1.kind, .int .i64 a1.proc, .int .i64 a1.other]]) (ys := [(⟨a1.kind, a1.proc, a1.other⟩ : Shock)]) ((Parts.cons rfl rfl Parts.nil)) rfl rfl rfl rfl rfl rfl rfl (fun w1 hB => ⟨⟨[_], _, rfl, rfl, ⟨[_], _, rfl, rfl, rfl⟩⟩, trivial⟩) (fun _ h => h.elim) rfl fun w2142 v2142 ho2142 hv2142 hB2142 => ?_
      replace f1088 := f1088.ext hB2142
      replace hS := hS.newOwnS hB2142 ho2142 hv2142 (fun _ h => h.elim)
      refine eseq_nil ?_
      refine t_op ?_
      replace hS := hS.pickB [5, 0, 1, 2, 3, 4, 6] 7 rfl rfl; simp only [List.map_cons, List.map_nil, List.getD_cons_zero, List.getD_cons_succ] at hS
      refine q_call rfl (make_Codes_Shocks_w (Sep.enter (As := [_]) hS) f1088 hr1110) rfl ?_
      rintro v2145 w2144 ⟨_, R2144, rfl, hC2144⟩
      refine ⟨fun _ => hC2144.relX1, ?_⟩
      have hk2144 := hC2144.keptR (Sep.offFeet (As := [_]) hS)
      replace f1088 := (f1088.kept hk2144).mono fun k hk _ => hC2144.ro0 k hk
      replace hS := Sep.leave (As := [_]) hS hC2144; simp only [List.cons_append, List.nil_append] at hS
      refine eseq_nil ?_
      refine t_op ?_
      refine q_catOwn (T := shockTy) rfl rfl rfl rfl (hS.own 1 rfl) rfl (hS.own 2 rfl) (fun _ h _ => h.elim) (snoc_cat hx1115) (Nat.zero_le _) rfl (fun h => by cases h) fun v2146 w2146 hw2146 hgr2146 hnw2146 => ?_
      have hk2146 := hS.keptOwn 1 rfl hgr2146
      replace f1088 := f1088.kept hk2146
      replace hS := hS.setOwn 1 rfl hw2146 hgr2146 hnw2146; simp only [List.set] at hS
      refine eseq_nil ?_
      refine t_op ?_
      refine q_assign rfl rfl ?_
      refine eseq_nil ?_
      refine t_fin ?_
      replace hS := hS.ownMono 6 rfl; simp only [List.set] at hS
      replace hS := hS.ownMono 4 rfl; simp only [List.set] at hS
      exact hJt1133 x1115 v2146 _ _ _ h (hS.pickB [5, 6, 3, 4, 1] 8 rfl rfl)  (Sub.cons rfl (Sub.cons rfl (Sub.cons rfl (Sub.nil _))))
end Go.Proofs.Ytddohdppmejjoaa
