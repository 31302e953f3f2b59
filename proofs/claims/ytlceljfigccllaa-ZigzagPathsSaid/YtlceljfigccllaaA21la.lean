/- Printed walks: A21la. -/
import Derived.Test.YtlceljfigccllaaA21m
import Derived.Test.YtlceljfigccllaaA19r
import Derived.Test.YtlceljfigccllaaA21r
set_option linter.unusedVariables false
set_option linter.unusedSimpArgs false
namespace Go.Mine
open Go.RowKit
def law21_ZigzagPaths_K1 (fuel : Nat) (r668 : (Pat × Int)) : Option (Bool) :=
  (zigzag_Useless fuel (⟨r668.1.lens, r668.1.ckpts, r668.1.arcs⟩ : Pat)).bind fun r1104 => (ref21_Useless fuel (⟨r668.1.lens, r668.1.ckpts, r668.1.arcs⟩ : Pat)).bind fun r1107 => (ref20_SamePoints fuel r1104 r1107).bind fun r1110 => (andM r1110 ((zigzag_Trackable fuel (⟨r668.1.lens, r668.1.ckpts, r668.1.arcs⟩ : Pat)).bind fun r1120 => (ref21_Trackable fuel (⟨r668.1.lens, r668.1.ckpts, r668.1.arcs⟩ : Pat)).bind fun r1122 => some (r1120 == r1122))).bind fun x1118 => some x1118
def law21_ZigzagPaths_K2 (fuel : Nat) (x885 : Int) : Option ((Int) ⊕ (Unit ⊕ (Bool))) :=
  some (Sum.inl (w64 (x885 + 1)))
def law21_ZigzagPaths_B2 (fuel : Nat) (r677 : ((List Pt))) (x885 : Int) (r668 : (Pat × Int)) (x1213 : Int) : Option ((Int) ⊕ (Unit ⊕ (Bool))) :=
  (if (decide (x1213 < (r677.length : Int))) = true then (ati r677 x885).bind fun x1289 => (ati r677 x1213).bind fun x1292 => (ati r677 x885).bind fun x1295 => (ati r677 x1213).bind fun x1298 => (zigzag_Path fuel (⟨r668.1.lens, r668.1.ckpts, r668.1.arcs⟩ : Pat) x1289 x1292).bind fun r1302 => (ref21_Path fuel (⟨r668.1.lens, r668.1.ckpts, r668.1.arcs⟩ : Pat) x1295 x1298).bind fun r1304 => (if (r1302 != r1304) = true then some (Sum.inr (Sum.inr false)) else some (Sum.inl (w64 (x1213 + 1)))) else some (Sum.inr (Sum.inl ())))
def law21_ZigzagPaths_B1 (fuel : Nat) (r677 : ((List Pt))) (r668 : (Pat × Int)) (x885 : Int) : Option ((Int) ⊕ (Unit ⊕ (Bool))) :=
  (if (decide (x885 < (r677.length : Int))) = true then (ati r677 x885).bind fun x1140 => (ati r677 x885).bind fun x1143 => (zigzag_Cycle fuel (⟨r668.1.lens, r668.1.ckpts, r668.1.arcs⟩ : Pat) x1140).bind fun r1147 => (ref21_Cycle fuel (⟨r668.1.lens, r668.1.ckpts, r668.1.arcs⟩ : Pat) x1143).bind fun r1149 => (if (r1147 != r1149) = true then some (Sum.inr (Sum.inr false)) else (iter (fun s => law21_ZigzagPaths_B2 fuel r677 x885 r668 s) fuel 0).bind (fun t => Sum.elim (fun t => law21_ZigzagPaths_K2 fuel x885) (fun t => some (Sum.inr (Sum.inr t))) t)) else some (Sum.inr (Sum.inl ())))
def law21_ZigzagPaths (fuel : Nat) (a0 : (List Int)) : Option (Bool) :=
  (law21_awake fuel).bind fun r659 => (if (!r659) = true then some false else (make_New fuel a0 240).bind fun r664 => (make_Codes_Pattern fuel 12 r664.1 r664.2).bind fun r668 => (ref19_All fuel (⟨r668.1.lens, r668.1.ckpts, r668.1.arcs⟩ : Pat)).bind fun r677 => (iter (fun s => law21_ZigzagPaths_B1 fuel r677 r668 s) fuel 0).bind (fun t => Sum.elim (fun t => law21_ZigzagPaths_K1 fuel r668) (fun t => some t) t))
end Go.Mine
namespace Go.Proofs.Ytlceljfigccllaa
open Go.RowKit Go.Mine
attribute [local irreducible] eseq ewp iter
theorem law21_ZigzagPaths_w {F R : Nat → Prop} {w : World} {fuel : Nat} {a0 : (List Int)} {v1 : Value} {r : (Bool)} (hS : Sep F R R w w []) (f1 : IsSlice Ty.u8 w R v1 a0) (h : law21_ZigzagPaths fuel a0 = some r) :
    Gives Try.prog 3 [v1] w fun u w1 => ∃ (R1 : Nat → Prop), u = .bool r ∧ Sep F R R1 w w1 [] := by
  refine fn_of Try.func3 rfl Try.ntmps3 (Nat.le_of_ble_eq_true rfl) ?_
  unfold law21_ZigzagPaths at h
  refine e_seq fun K655 hK655 => ?_
  refine e_region_text rfl ?_
  refine q_assign rfl rfl ?_
  refine eseq_nil ?_
  refine hK655 _ _ ?_
  refine e_seq fun K656 hK656 => ?_
  refine e_seq fun K657 hK657 => ?_
  refine e_region_text rfl ?_
  obtain ⟨r659, hr659, h⟩ := Option.of_bind h
  refine q_call rfl (law21_awake_w (Sep.enter (As := []) hS)  hr659) rfl ?_
  rintro _ w658 ⟨R658, rfl, hC658⟩
  have hB658 : Below (World.heap w).size w w658 := hC658.stepB0
  refine ⟨fun _ => .of_below hB658, ?_⟩
  replace f1 := (f1.ext hB658).mono fun k hk _ => hC658.ro0 k hk
  replace hS := Sep.leave (As := []) hS hC658; simp only [List.cons_append, List.nil_append] at hS
  refine q_not rfl rfl ?_
  refine eseq_nil ?_
  refine hK657 _ _ ?_
  refine e_cond rfl (fun hc660 => ?_) (fun hc660 => ?_)
  · replace h := (if_pos hc660).symm.trans h
    refine e_seq fun K661 hK661 => ?_
    refine e_region_text rfl ?_
    refine q_assign rfl rfl ?_
    refine eseq_nil ?_
    refine hK661 _ _ ?_
    refine e_ret ?_
    obtain rfl := Option.some.inj h
    exact ⟨_, res1 rfl rfl, _, rfl, hS⟩
  · replace h := (if_neg (not_true hc660)).symm.trans h
    refine e_skip ?_
    refine hK656 _ _ ?_
    refine e_seq fun K662 hK662 => ?_
    refine e_region_text rfl ?_
    refine q_move rfl rfl ?_
    obtain ⟨r664, hr664, h⟩ := Option.of_bind h
    refine q_call rfl (make_New_w (Sep.enter (As := []) hS) f1 hr664) rfl ?_
    rintro _ w663 ⟨B665, v666, R663, rfl, hC663, f666⟩
    have hB663 : Below (World.heap w658).size w658 w663 := hC663.stepB0
    refine ⟨fun _ => .of_below hB663, ?_⟩
    replace f1 := (f1.ext hB663).mono fun k hk _ => hC663.ro0 k hk
    replace hS := Sep.leave (As := []) hS hC663; simp only [List.cons_append, List.nil_append] at hS
    obtain ⟨r668, hr668, h⟩ := Option.of_bind h
    refine q_call rfl (make_Codes_Pattern_w (Sep.enter (As := [_]) hS) f666 hr668) rfl ?_
    rintro _ w667 ⟨v669, v670, v671, R667, rfl, hC667, f669, f670⟩
    refine ⟨(fun h => by cases h), ?_⟩
    have hk667 := hC667.keptR (Sep.offFeet (As := [_]) hS)
    replace f666 := (f666.kept hk667).mono fun k hk _ => hC667.ro0 k hk
    replace hS := Sep.leave (As := [_]) hS hC667; simp only [List.cons_append, List.nil_append] at hS
    refine q_allocB rfl fun w672 bl672 hg672 hb672 hB672 => ?_
    replace f669 := f669.ext hB672
    replace f670 := f670.ext hB672
    replace hS := hS.newBlk hB672 hg672 hb672
    refine q_storeAgg rfl rfl (hS.blk 0 rfl) rfl (Nat.le_of_ble_eq_true rfl) (all_cons f669.one (all_cons f670.one (all_cons (hS.own 2 rfl).one (all_nil)))) rfl rfl fun w674 hb674 hO674 => ?_
    simp only [setN, List.set, List.take, List.drop] at hb674
    have hk674 := hS.keptBlk 0 rfl hO674
    replace f669 := f669.kept hk674
    replace f670 := f670.kept hk674
    replace hS := hS.setBlk 0 rfl hb674 hO674; simp only [List.set] at hS
    refine eseq_nil ?_
    refine hK662 _ _ ?_
    refine e_seq fun K675 hK675 => ?_
    refine e_region_text rfl ?_
    refine q_loadAgg rfl (Blk.cellsAt (hS.blk 0 rfl) 0 3 rfl) rfl rfl ?_
    obtain ⟨r677, hr677, h⟩ := Option.of_bind h
    refine q_call rfl (ref19_All_w (a0 := (⟨r668.1.lens, r668.1.ckpts, r668.1.arcs⟩ : Pat)) (Sep.all w674) (f669).old (f670).old ((hS.isl 2 rfl)).old hr677) rfl ?_
    rintro v678 w676 ⟨_, R676, rfl, hC676⟩
    have hB676 : Below (World.heap w674).size w674 w676 := hC676.stepBF
    refine ⟨fun _ => .of_below hB676, ?_⟩
    replace f669 := f669.ext hB676
    replace f670 := f670.ext hB676
    replace hS := hS.newOwnS hB676 (hC676.own 0 rfl) (hC676.fresh 0 rfl) (fun _ h => h.elim)
    refine q_assign rfl rfl ?_
    refine eseq_nil ?_
    refine hK675 _ _ ?_
    refine e_seq fun K679 hK679 => ?_
    refine e_seq fun K680 hK680 => ?_
    refine e_region_text rfl ?_
    refine q_move rfl rfl ?_
    refine q_lenS rfl (hS.isl 0 rfl) rfl ?_
    refine q_move rfl rfl ?_
    refine eseq_nil ?_
    refine hK680 _ _ ?_
    refine e_block ?_
    obtain ⟨tl681, ht681, h⟩ := Option.of_bind h
    have hX681_0 : ∀ (R1077 : Nat → Prop) (w1078 : World) (E_ : Env), law21_ZigzagPaths_K1 fuel r668 = some r → Sep F R R1077 w w1078 [HP.blk bl672 [v669, v670, v671] 28, HP.own arcTy (fun _ => False) 86 v671 r668.1.arcs] → IsSlice Ty.int w1078 R1077 v669 r668.1.lens → IsSlice (Ty.slice Ty.int) w1078 R1077 v670 r668.1.ckpts → Sub [(3, .pointer (some ⟨bl672, 0, none⟩))] E_ → K679 E_ w1078 := by
      intro R1077 w1078 E_ h hS f1079 f1080 hsub
      refine hK679 _ _ (e_sub hsub ?_); clear hsub
      unfold law21_ZigzagPaths_K1 at h
      refine e_seq fun K1082 hK1082 => ?_
      refine e_region_draw mixed (fun _ => False) [0, 1, 0, 7, 15, 31, 63, 127, 63, 511, 1023, 2047, 4095] [1, 7] [0, 2, 1, 3, 4, 5, 6, 8, 7, 9, 10, 11, 12] (by kernel_rfl) ?_
      refine q_loadAgg rfl (Blk.cellsAt (hS.blk 0 rfl) 0 3 rfl) rfl rfl ?_
      refine q_loadAgg rfl (Blk.cellsAt (hS.blk 0 rfl) 0 3 rfl) rfl rfl ?_
      obtain ⟨r1104, hr1104, h⟩ := Option.of_bind h
      refine q_call rfl (zigzag_Useless_w (a0 := (⟨r668.1.lens, r668.1.ckpts, r668.1.arcs⟩ : Pat)) (Sep.all w1078) (f1079).old (f1080).old ((hS.isl 1 rfl)).old hr1104) rfl ?_
      rintro v1105 w1103 ⟨_, R1103, rfl, hC1103⟩
      have hB1103 : Below (World.heap w1078).size w1078 w1103 := hC1103.stepBF
      refine ⟨fun _ => .of_below hB1103, ?_⟩
      replace f1079 := f1079.ext hB1103
      replace f1080 := f1080.ext hB1103
      replace hS := hS.newOwnS hB1103 (hC1103.own 0 rfl) (hC1103.fresh 0 rfl) (fun _ h => h.elim)
      obtain ⟨r1107, hr1107, h⟩ := Option.of_bind h
      refine q_call rfl (ref21_Useless_w (a0 := (⟨r668.1.lens, r668.1.ckpts, r668.1.arcs⟩ : Pat)) (Sep.all w1103) (f1079).old (f1080).old ((hS.isl 2 rfl)).old hr1107) rfl ?_
      rintro v1108 w1106 ⟨_, R1106, rfl, hC1106⟩
      have hB1106 : Below (World.heap w1103).size w1103 w1106 := hC1106.stepBF
      refine ⟨fun _ => .of_below hB1106, ?_⟩
      replace f1079 := f1079.ext hB1106
      replace f1080 := f1080.ext hB1106
      replace hS := hS.newOwnS hB1106 (hC1106.own 0 rfl) (hC1106.fresh 0 rfl) (fun _ h => h.elim)
      obtain ⟨r1110, hr1110, h⟩ := Option.of_bind h
      refine q_call rfl (ref20_SamePoints_w (Sep.all w1106) ((hS.isl 1 rfl)).old ((hS.isl 0 rfl)).old hr1110) rfl ?_
      rintro _ w1109 ⟨R1109, rfl, hC1109⟩
      have hB1109 : Below (World.heap w1106).size w1106 w1109 := hC1109.stepBF
      refine ⟨fun _ => .of_below hB1109, ?_⟩
      replace f1079 := f1079.ext hB1109
      replace f1080 := f1080.ext hB1109
      replace hS := hS.below hB1109
      refine q_move rfl rfl ?_
      obtain ⟨x1118, hx1117, h⟩ := Option.of_bind h
      refine g_andM 5 hx1117 rfl trivial rfl rfl ?_ ?_ ?_
      · intro hg1117 hx1117
        clear h
        have hT1117 := Below.refl (World.heap w1109).size w1109
        refine g_run rfl ?_; refine q_loadAgg rfl (Blk.cellsAt (hS.blk 2 rfl) 0 3 rfl) rfl rfl ?_
        refine g_run rfl ?_; refine q_loadAgg rfl (Blk.cellsAt (hS.blk 2 rfl) 0 3 rfl) rfl rfl ?_
        obtain ⟨r1120, hr1120, hx1117⟩ := Option.of_bind hx1117
        refine g_run rfl ?_; refine q_call rfl (zigzag_Trackable_w (a0 := (⟨r668.1.lens, r668.1.ckpts, r668.1.arcs⟩ : Pat)) (Sep.all w1109) (f1079).old (f1080).old ((hS.isl 3 rfl)).old hr1120) rfl ?_
        rintro _ w1119 ⟨R1119, rfl, hC1119⟩
        have hB1119 : Below (World.heap w1109).size w1109 w1119 := hC1119.stepBF
        refine ⟨fun _ => .of_below hB1119, ?_⟩
        replace f1079 := f1079.ext hB1119
        replace f1080 := f1080.ext hB1119
        replace hT1117 := hT1117.trans (Below.mono hB1119 hT1117.size)
        replace hS := hS.below hB1119
        obtain ⟨r1122, hr1122, hx1117⟩ := Option.of_bind hx1117
        refine g_run rfl ?_; refine q_call rfl (ref21_Trackable_w (a0 := (⟨r668.1.lens, r668.1.ckpts, r668.1.arcs⟩ : Pat)) (Sep.all w1119) (f1079).old (f1080).old ((hS.isl 3 rfl)).old hr1122) rfl ?_
        rintro _ w1121 ⟨R1121, rfl, hC1121⟩
        have hB1121 : Below (World.heap w1119).size w1119 w1121 := hC1121.stepBF
        refine ⟨fun _ => .of_below hB1121, ?_⟩
        replace f1079 := f1079.ext hB1121
        replace f1080 := f1080.ext hB1121
        replace hT1117 := hT1117.trans (Below.mono hB1121 hT1117.size)
        replace hS := hS.below hB1121
        refine g_run rfl ?_; refine q_eqlB rfl rfl rfl ?_
        cases hx1117
        exact eseq_nil ⟨hT1117, Sub.set rfl (Sub.set rfl (Sub.set rfl (Sub.set rfl (Sub.set rfl (Sub.bool true rfl hg1117))))), rfl⟩
      · intro hg1117
        refine g_skip rfl rfl rfl ?_
        refine g_skip rfl rfl rfl ?_
        refine g_skip rfl rfl rfl ?_
        refine g_skip rfl rfl rfl ?_
        refine g_skip rfl rfl rfl ?_
        exact eseq_nil ⟨rfl, Sub.set rfl (Sub.set rfl (Sub.set rfl (Sub.set rfl (Sub.set rfl (Sub.bool false rfl hg1117)))))⟩
      intro wm1117 hBm1117; clear hx1117
      replace hS := hS.below hBm1117
      refine q_assign rfl rfl ?_
      refine eseq_nil ?_
      refine hK1082 _ _ ?_
      refine e_ret ?_
      obtain rfl := Option.some.inj h
      exact ⟨_, res1 rfl rfl, _, rfl, (hS.pickB [] 4 rfl rfl)⟩
    refine e_loop (fun m_ E_ w880 => ∃ (x885 : Int), ∃ (R879 : Nat → Prop), iter (fun s => law21_ZigzagPaths_B1 fuel r677 r668 s) m_ x885 = some tl681 ∧ Sep F R R879 w w880 [HP.blk bl672 [v669, v670, v671] 28, HP.own arcTy (fun _ => False) 86 v671 r668.1.arcs, HP.own ptTy (fun _ => False) 36 v678 r677] ∧ IsSlice Ty.int w880 R879 v669 r668.1.lens ∧ IsSlice (Ty.slice Ty.int) w880 R879 v670 r668.1.ckpts ∧ E_ = [(3, .pointer (some ⟨bl672, 0, none⟩)), (4, v678), (15, .int .i64 (r677.length : Int)), (16, .int .i64 x885)]) _ ⟨_, ⟨0, _, ht681, (hS.pickB [1, 3, 0] 4 rfl rfl), f669, f670, rfl⟩, Sub.cons rfl (Sub.cons rfl (Sub.cons rfl (Sub.cons rfl (Sub.nil _))))⟩ ?_
    clear ht681 hS
    rintro m681 _ w880 ⟨x885, R879, ht681, hS, f881, f882, rfl⟩
    obtain ⟨m681, rfl, o681, ho681, ht681⟩ := iter_some ht681
    replace ho681 : law21_ZigzagPaths_B1 fuel r677 r668 x885 = some o681 := ho681
    unfold law21_ZigzagPaths_B1 at ho681
    refine e_seq fun K1123 hK1123 => ?_
    refine e_region_text rfl ?_
    refine q_lss rfl rfl rfl ?_
    refine eseq_nil ?_
    refine hK1123 _ _ ?_
    refine e_seq fun K1124 hK1124 => ?_
    refine e_cond rfl (fun hc1125 => ?_) (fun hc1125 => ?_)
    · replace ho681 := (if_pos hc1125).symm.trans ho681
      refine e_skip ?_
      refine hK1124 _ _ ?_
      refine e_seq fun K1126 hK1126 => ?_
      refine e_block ?_
      refine e_seq fun K1127 hK1127 => ?_
      refine e_region_text rfl ?_
      refine q_move rfl rfl ?_
      refine q_assign rfl rfl ?_
      refine eseq_nil ?_
      refine hK1127 _ _ ?_
      refine e_seq fun K1128 hK1128 => ?_
      refine e_seq fun K1129 hK1129 => ?_
      refine e_region_draw mixed (fun _ => False) [0, 0, 0, 6, 14, 31, 0, 0, 0, 384, 896, 2047, 4095] [5] [0, 1, 2, 3, 4, 6, 7, 8, 9, 10, 5, 11, 12] (by kernel_rfl) ?_
      refine q_loadAgg rfl (Blk.cellsAt (hS.blk 0 rfl) 0 3 rfl) rfl rfl ?_
      refine q_move rfl rfl ?_
      refine q_move rfl rfl ?_
      obtain ⟨x1140, hx1140, ho681⟩ := Option.of_bind ho681
      refine q_indexO (by infer_instance) rfl (hS.own 2 rfl) rfl hx1140 rfl ?_
      have f1141 := (hS.ownR 2 rfl).elt hx1140
      have hc1142 := Pt_open f1141
      refine q_loadAgg rfl hc1142 rfl rfl ?_
      refine q_loadAgg rfl (Blk.cellsAt (hS.blk 0 rfl) 0 3 rfl) rfl rfl ?_
      refine q_move rfl rfl ?_
      refine q_move rfl rfl ?_
      obtain ⟨x1143, hx1143, ho681⟩ := Option.of_bind ho681
      refine q_indexO (by infer_instance) rfl (hS.own 2 rfl) rfl hx1143 rfl ?_
      have f1144 := (hS.ownR 2 rfl).elt hx1143
      have hc1145 := Pt_open f1144
      refine q_loadAgg rfl hc1145 rfl rfl ?_
      obtain ⟨r1147, hr1147, ho681⟩ := Option.of_bind ho681
      refine q_call rfl (zigzag_Cycle_w (a0 := (⟨r668.1.lens, r668.1.ckpts, r668.1.arcs⟩ : Pat)) (a1 := x1140) (Sep.all w880) (f881).old (f882).old ((hS.isl 1 rfl)).old hr1147) rfl ?_
      rintro _ w1146 ⟨R1146, rfl, hC1146⟩
      have hB1146 : Below (World.heap w880).size w880 w1146 := hC1146.stepBF
      refine ⟨fun _ => .of_below hB1146, ?_⟩
      replace f881 := f881.ext hB1146
      replace f882 := f882.ext hB1146
      replace hS := hS.below hB1146
      obtain ⟨r1149, hr1149, ho681⟩ := Option.of_bind ho681
      refine q_call rfl (ref21_Cycle_w (a0 := (⟨r668.1.lens, r668.1.ckpts, r668.1.arcs⟩ : Pat)) (a1 := x1143) (Sep.all w1146) (f881).old (f882).old ((hS.isl 1 rfl)).old hr1149) rfl ?_
      rintro _ w1148 ⟨R1148, rfl, hC1148⟩
      have hB1148 : Below (World.heap w1146).size w1146 w1148 := hC1148.stepBF
      refine ⟨fun _ => .of_below hB1148, ?_⟩
      replace f881 := f881.ext hB1148
      replace f882 := f882.ext hB1148
      replace hS := hS.below hB1148
      refine q_neqB rfl rfl rfl ?_
      refine eseq_nil ?_
      refine hK1129 _ _ ?_
      refine e_cond rfl (fun hc1150 => ?_) (fun hc1150 => ?_)
      · replace ho681 := (if_pos hc1150).symm.trans ho681
        refine e_seq fun K1151 hK1151 => ?_
        refine e_region_text rfl ?_
        refine q_assign rfl rfl ?_
        refine eseq_nil ?_
        refine hK1151 _ _ ?_
        refine e_ret ?_
        obtain rfl := Option.some.inj ho681
        obtain rfl := Option.some.inj ht681
        obtain rfl := Option.some.inj h
        exact ⟨_, res1 rfl rfl, _, rfl, (hS.pickB [] 3 rfl rfl)⟩
      · replace ho681 := (if_neg (not_true hc1150)).symm.trans ho681
        refine e_skip ?_
        refine hK1128 _ _ ?_
        refine e_seq fun K1152 hK1152 => ?_
        refine e_region_text rfl ?_
        refine q_move rfl rfl ?_
        refine q_lenS rfl (hS.isl 2 rfl) rfl ?_
        refine q_move rfl rfl ?_
        refine eseq_nil ?_
        refine hK1152 _ _ ?_
        refine e_block ?_
        obtain ⟨tl1153, ht1153, ho681⟩ := Option.of_bind ho681
        have hX1153_2 : ∀ (R1261 : Nat → Prop) (w1262 : World) (E_ : Env), law21_ZigzagPaths_K2 fuel x885 = some o681 → Sep F R R1261 w w1262 [HP.blk bl672 [v669, v670, v671] 28, HP.own arcTy (fun _ => False) 86 v671 r668.1.arcs, HP.own ptTy (fun _ => False) 36 v678 r677] → IsSlice Ty.int w1262 R1261 v669 r668.1.lens → IsSlice (Ty.slice Ty.int) w1262 R1261 v670 r668.1.ckpts → Sub [(3, .pointer (some ⟨bl672, 0, none⟩)), (4, v678), (15, .int .i64 (r677.length : Int)), (16, .int .i64 x885)] E_ → K1126 E_ w1262 := by
          intro R1261 w1262 E_ ho681 hS f1263 f1264 hsub
          refine hK1126 _ _ (e_sub hsub ?_); clear hsub
          unfold law21_ZigzagPaths_K2 at ho681
          refine e_region_text rfl ?_
          refine q_addW rfl rfl rfl ?_
          refine q_move rfl rfl ?_
          refine eseq_nil ?_
          obtain rfl := Option.some.inj ho681
          exact ⟨m681, _, Nat.lt_succ_self _, ⟨(w64 (x885 + 1)), _, ht681, hS, f1263, f1264, rfl⟩, Sub.cons rfl (Sub.cons rfl (Sub.cons rfl (Sub.cons rfl (Sub.nil _))))⟩
        refine e_loop (fun m_ E_ w1208 => ∃ (x1213 : Int), ∃ (R1207 : Nat → Prop), iter (fun s => law21_ZigzagPaths_B2 fuel r677 x885 r668 s) m_ x1213 = some tl1153 ∧ Sep F R R1207 w w1208 [HP.blk bl672 [v669, v670, v671] 28, HP.own arcTy (fun _ => False) 86 v671 r668.1.arcs, HP.own ptTy (fun _ => False) 36 v678 r677] ∧ IsSlice Ty.int w1208 R1207 v669 r668.1.lens ∧ IsSlice (Ty.slice Ty.int) w1208 R1207 v670 r668.1.ckpts ∧ E_ = [(3, .pointer (some ⟨bl672, 0, none⟩)), (4, v678), (5, .int .i64 x885), (15, .int .i64 (r677.length : Int)), (16, .int .i64 x885), (33, .int .i64 (r677.length : Int)), (34, .int .i64 x1213)]) _ ⟨_, ⟨0, _, ht1153, hS, f881, f882, rfl⟩, Sub.cons rfl (Sub.cons rfl (Sub.cons rfl (Sub.cons rfl (Sub.cons rfl (Sub.cons rfl (Sub.cons rfl (Sub.nil _)))))))⟩ ?_
        clear ht1153 hS
        rintro m1153 _ w1208 ⟨x1213, R1207, ht1153, hS, f1209, f1210, rfl⟩
        obtain ⟨m1153, rfl, o1153, ho1153, ht1153⟩ := iter_some ht1153
        replace ho1153 : law21_ZigzagPaths_B2 fuel r677 x885 r668 x1213 = some o1153 := ho1153
        unfold law21_ZigzagPaths_B2 at ho1153
        refine e_seq fun K1267 hK1267 => ?_
        refine e_region_text rfl ?_
        refine q_lss rfl rfl rfl ?_
        refine eseq_nil ?_
        refine hK1267 _ _ ?_
        refine e_seq fun K1268 hK1268 => ?_
        refine e_cond rfl (fun hc1269 => ?_) (fun hc1269 => ?_)
        · replace ho1153 := (if_pos hc1269).symm.trans ho1153
          refine e_skip ?_
          refine hK1268 _ _ ?_
          refine e_seq fun K1270 hK1270 => ?_
          refine e_block ?_
          refine e_seq fun K1271 hK1271 => ?_
          refine e_region_text rfl ?_
          refine q_move rfl rfl ?_
          refine q_assign rfl rfl ?_
          refine eseq_nil ?_
          refine hK1271 _ _ ?_
          refine e_seq fun K1272 hK1272 => ?_
          refine e_region_draw mixed (fun _ => False) [0, 0, 0, 6, 14, 0, 0, 96, 224, 511, 0, 0, 0, 6144, 14336, 0, 0, 98304, 229376, 524287, 1048575] [9] [0, 1, 2, 3, 4, 5, 6, 7, 8, 10, 11, 12, 13, 14, 15, 16, 17, 18, 9, 19, 20] (by kernel_rfl) ?_
          refine q_loadAgg rfl (Blk.cellsAt (hS.blk 0 rfl) 0 3 rfl) rfl rfl ?_
          refine q_move rfl rfl ?_
          refine q_move rfl rfl ?_
          obtain ⟨x1289, hx1289, ho1153⟩ := Option.of_bind ho1153
          refine q_indexO (by infer_instance) rfl (hS.own 2 rfl) rfl hx1289 rfl ?_
          have f1290 := (hS.ownR 2 rfl).elt hx1289
          have hc1291 := Pt_open f1290
          refine q_loadAgg rfl hc1291 rfl rfl ?_
          refine q_move rfl rfl ?_
          refine q_move rfl rfl ?_
          obtain ⟨x1292, hx1292, ho1153⟩ := Option.of_bind ho1153
          refine q_indexO (by infer_instance) rfl (hS.own 2 rfl) rfl hx1292 rfl ?_
          have f1293 := (hS.ownR 2 rfl).elt hx1292
          have hc1294 := Pt_open f1293
          refine q_loadAgg rfl hc1294 rfl rfl ?_
          refine q_loadAgg rfl (Blk.cellsAt (hS.blk 0 rfl) 0 3 rfl) rfl rfl ?_
          refine q_move rfl rfl ?_
          refine q_move rfl rfl ?_
          obtain ⟨x1295, hx1295, ho1153⟩ := Option.of_bind ho1153
          refine q_indexO (by infer_instance) rfl (hS.own 2 rfl) rfl hx1295 rfl ?_
          have f1296 := (hS.ownR 2 rfl).elt hx1295
          have hc1297 := Pt_open f1296
          refine q_loadAgg rfl hc1297 rfl rfl ?_
          refine q_move rfl rfl ?_
          refine q_move rfl rfl ?_
          obtain ⟨x1298, hx1298, ho1153⟩ := Option.of_bind ho1153
          refine q_indexO (by infer_instance) rfl (hS.own 2 rfl) rfl hx1298 rfl ?_
          have f1299 := (hS.ownR 2 rfl).elt hx1298
          have hc1300 := Pt_open f1299
          refine q_loadAgg rfl hc1300 rfl rfl ?_
          obtain ⟨r1302, hr1302, ho1153⟩ := Option.of_bind ho1153
          refine q_call rfl (zigzag_Path_w (a0 := (⟨r668.1.lens, r668.1.ckpts, r668.1.arcs⟩ : Pat)) (a1 := x1289) (a2 := x1292) (Sep.all w1208) (f1209).old (f1210).old ((hS.isl 1 rfl)).old hr1302) rfl ?_
          rintro _ w1301 ⟨R1301, rfl, hC1301⟩
          have hB1301 : Below (World.heap w1208).size w1208 w1301 := hC1301.stepBF
          refine ⟨fun _ => .of_below hB1301, ?_⟩
          replace f1209 := f1209.ext hB1301
          replace f1210 := f1210.ext hB1301
          replace hS := hS.below hB1301
          obtain ⟨r1304, hr1304, ho1153⟩ := Option.of_bind ho1153
          refine q_call rfl (ref21_Path_w (a0 := (⟨r668.1.lens, r668.1.ckpts, r668.1.arcs⟩ : Pat)) (a1 := x1295) (a2 := x1298) (Sep.all w1301) (f1209).old (f1210).old ((hS.isl 1 rfl)).old hr1304) rfl ?_
          rintro _ w1303 ⟨R1303, rfl, hC1303⟩
          have hB1303 : Below (World.heap w1301).size w1301 w1303 := hC1303.stepBF
          refine ⟨fun _ => .of_below hB1303, ?_⟩
          replace f1209 := f1209.ext hB1303
          replace f1210 := f1210.ext hB1303
          replace hS := hS.below hB1303
          refine q_neqB rfl rfl rfl ?_
          refine eseq_nil ?_
          refine hK1272 _ _ ?_
          refine e_cond rfl (fun hc1305 => ?_) (fun hc1305 => ?_)
          · replace ho1153 := (if_pos hc1305).symm.trans ho1153
            refine e_seq fun K1306 hK1306 => ?_
            refine e_region_text rfl ?_
            refine q_assign rfl rfl ?_
            refine eseq_nil ?_
            refine hK1306 _ _ ?_
            refine e_ret ?_
            obtain rfl := Option.some.inj ho1153
            obtain rfl := Option.some.inj ht1153
            obtain rfl := Option.some.inj ho681
            obtain rfl := Option.some.inj ht681
            obtain rfl := Option.some.inj h
            exact ⟨_, res1 rfl rfl, _, rfl, (hS.pickB [] 3 rfl rfl)⟩
          · replace ho1153 := (if_neg (not_true hc1305)).symm.trans ho1153
            refine e_skip ?_
            refine hK1270 _ _ ?_
            refine e_region_text rfl ?_
            refine q_addW rfl rfl rfl ?_
            refine q_move rfl rfl ?_
            refine eseq_nil ?_
            obtain rfl := Option.some.inj ho1153
            exact ⟨m1153, _, Nat.lt_succ_self _, ⟨(w64 (x1213 + 1)), _, ht1153, hS, f1209, f1210, rfl⟩, Sub.cons rfl (Sub.cons rfl (Sub.cons rfl (Sub.cons rfl (Sub.cons rfl (Sub.cons rfl (Sub.cons rfl (Sub.nil _)))))))⟩
        · replace ho1153 := (if_neg (not_true hc1269)).symm.trans ho1153
          refine e_exit ?_
          obtain rfl := Option.some.inj ho1153
          obtain rfl := Option.some.inj ht1153
          exact hX1153_2  _ _ _ ho681 hS f1209 f1210 (Sub.cons rfl (Sub.cons rfl (Sub.cons rfl (Sub.cons rfl (Sub.nil _)))))
    · replace ho681 := (if_neg (not_true hc1125)).symm.trans ho681
      refine e_exit ?_
      obtain rfl := Option.some.inj ho681
      obtain rfl := Option.some.inj ht681
      exact hX681_0  _ _ _ h (hS.pickB [0, 1] 3 rfl rfl) f881 f882 (Sub.cons rfl (Sub.nil _))
end Go.Proofs.Ytlceljfigccllaa
