/- Printed walks: A26d. -/
import Derived.Test.YtbmjcbhappjnaaaM26p
import Derived.Test.YtbmjcbhappjnaaaA23
import Derived.Test.YtbmjcbhappjnaaaA16c
import Derived.Test.YtbmjcbhappjnaaaAacts
set_option linter.unusedVariables false
set_option linter.unusedSimpArgs false
namespace Go.Mine
open Go.RowKit
def law26_awake (fuel : Nat) : Option (Bool) :=
  (modelbased_Play fuel 2 4 ([(⟨1, 0, 1⟩ : Deed), (⟨1, 1, 0⟩ : Deed), (⟨2, 0, 0⟩ : Deed)])).bind fun r83 => (andM (r83.2 == 0) ((ref23_SameLists fuel r83.1.pat.ckpts ([[0], [0, 1]])).bind fun r117 => some r117)).bind fun x107 => (andM x107 (some ((r83.1.vecs.length : Int) == 2))).bind fun x121 => (andM x121 ((ati r83.1.vecs 1).bind fun x139 => (ref23_SameLists fuel x139 ([[0, 0], [0, 1]])).bind fun r151 => some r151)).bind fun x138 => some x138
def law26_draw (fuel : Nat) (a0 : (List Int)) : Option (Int × Int × (List Deed)) :=
  (make_New fuel a0 200).bind fun r21 => (make_Codes_Next fuel 3 r21.1 r21.2).bind fun r26 => (make_Codes_Next fuel 4 r21.1 r26.2).bind fun r28 => (make_Codes_Acts fuel (w64 (2 + r26.1)) 50 r21.1 r28.2).bind fun r31 => some (w64 (2 + r26.1), w64 (1 + r28.1), r31.1)
end Go.Mine
namespace Go.Proofs.Ytbmjcbhappjnaaa
open Go.RowKit Go.Mine
attribute [local irreducible] eseq ewp iter
theorem law26_awake_w {F R : Nat → Prop} {w : World} {fuel : Nat} {r : (Bool)} (hS : Sep F R R w w []) (h : law26_awake fuel = some r) :
    Gives Try.prog 12 [] w fun u w1 => ∃ (R1 : Nat → Prop), u = .bool r ∧ Sep F R R1 w w1 [] := by
  refine fn_of Try.func12 rfl Try.ntmps12 (Nat.le_of_ble_eq_true rfl) ?_
  unfold law26_awake at h
  refine e_seq fun K77 hK77 => ?_
  refine e_region_text rfl ?_
  refine q_assign rfl rfl ?_
  refine eseq_nil ?_
  refine hK77 _ _ ?_
  refine e_seq fun K78 hK78 => ?_
  refine e_region_text rfl ?_
  refine q_build (Parts.cons rfl rfl (Parts.cons rfl rfl (Parts.cons rfl rfl Parts.nil))) rfl rfl ?_
  refine q_build (Parts.cons rfl rfl (Parts.cons rfl rfl (Parts.cons rfl rfl Parts.nil))) rfl rfl ?_
  refine q_build (Parts.cons rfl rfl (Parts.cons rfl rfl Parts.nil)) rfl rfl ?_
  refine q_litO (T := deedTy) (S := (fun _ => False)) (cells := [[.int .i64 1, .int .i64 0, .int .i64 1], [.int .i64 1, .int .i64 1, .int .i64 0], [.int .i64 2, .int .i64 0, .int .i64 0]]) (ys := [(⟨1, 0, 1⟩ : Deed), (⟨1, 1, 0⟩ : Deed), (⟨2, 0, 0⟩ : Deed)]) ((Parts.cons rfl rfl (Parts.cons rfl rfl (Parts.cons rfl rfl Parts.nil)))) rfl rfl rfl rfl rfl rfl rfl (fun w1 hB => ⟨⟨[_], _, rfl, rfl, ⟨[_], _, rfl, rfl, rfl⟩⟩, ⟨[_], _, rfl, rfl, ⟨[_], _, rfl, rfl, rfl⟩⟩, ⟨[_], _, rfl, rfl, ⟨[_], _, rfl, rfl, rfl⟩⟩, trivial⟩) (fun _ h => h.elim) rfl fun w79 v79 ho79 hv79 hB79 => ?_
  replace hS := hS.newOwnS hB79 ho79 hv79 (fun _ h => h.elim)
  obtain ⟨R82, hS, hm82, f82⟩ := hS.freezeOwn 0 rfl; simp only [List.eraseIdx] at hS
  obtain ⟨r83, hr83, h⟩ := Option.of_bind h
  refine q_call rfl (modelbased_Play_w (Sep.enter (As := []) hS) f82 hr83) rfl ?_
  rintro _ w81 ⟨v84, v85, v86, v87, v88, v89, R81, rfl, hC81, f84, f85, f86, f87, f88, f89⟩
  have hB81 : Below (World.heap w79).size w79 w81 := hC81.stepB0
  refine ⟨fun _ => .of_below hB81, ?_⟩
  replace f82 := (f82.ext hB81).mono fun k hk _ => hC81.ro0 k hk
  replace hS := Sep.leave (As := []) hS hC81; simp only [List.cons_append, List.nil_append] at hS
  refine q_move rfl rfl ?_
  refine q_extract rfl rfl rfl ?_
  refine q_extract rfl rfl rfl ?_
  refine q_allocB rfl fun w90 bl90 hg90 hb90 hB90 => ?_
  replace f84 := f84.ext hB90
  replace f85 := f85.ext hB90
  replace f86 := f86.ext hB90
  replace f87 := f87.ext hB90
  replace f88 := f88.ext hB90
  replace f89 := f89.ext hB90
  replace hS := hS.newBlk hB90 hg90 hb90
  refine q_storeAgg rfl rfl (hS.blk 0 rfl) rfl (Nat.le_of_ble_eq_true rfl) (all_cons f84.one (all_cons f85.one (all_cons f86.one (all_cons f87.one (all_cons f88.one (all_cons f89.one (all_nil))))))) rfl rfl fun w92 hb92 hO92 => ?_
  simp only [setN, List.set, List.take, List.drop] at hb92
  have hk92 := hS.keptBlk 0 rfl hO92
  replace f84 := f84.kept hk92
  replace f85 := f85.kept hk92
  replace f86 := f86.kept hk92
  replace f87 := f87.kept hk92
  replace f88 := f88.kept hk92
  replace f89 := f89.kept hk92
  replace hS := hS.setBlk 0 rfl hb92 hO92; simp only [List.set] at hS
  refine q_assign rfl rfl ?_
  refine eseq_nil ?_
  refine hK78 _ _ ?_
  refine e_seq fun K93 hK93 => ?_
  refine e_region_text rfl ?_
  refine q_move rfl rfl ?_
  refine q_eql rfl rfl rfl ?_
  refine q_move rfl rfl ?_
  obtain ⟨x107, hx106, h⟩ := Option.of_bind h
  refine g_andM 7 hx106 rfl trivial rfl rfl ?_ ?_ ?_
  · intro hg106 hx106
    clear h
    have hT106 := Below.refl (World.heap w92).size w92
    refine g_run rfl ?_; refine q_field rfl rfl ?_
    refine g_run rfl ?_; refine q_field rfl rfl ?_
    refine g_run rfl ?_; refine q_load rfl (Blk.cell (hS.blk 0 rfl) rfl) rfl ?_
    refine g_run rfl ?_; refine q_litO (T := Ty.int) (S := (fun _ => False)) (cells := [[.int .i64 0]]) (ys := [0]) ((Parts.cons rfl rfl Parts.nil)) rfl rfl rfl rfl rfl rfl rfl (fun w1 hB => ⟨rfl, trivial⟩) (fun _ h => h.elim) rfl fun w108 v108 ho108 hv108 hB108 => ?_
    replace f84 := f84.ext hB108
    replace f85 := f85.ext hB108
    replace f86 := f86.ext hB108
    replace f87 := f87.ext hB108
    replace f88 := f88.ext hB108
    replace f89 := f89.ext hB108
    replace hT106 := hT106.trans (Below.mono hB108 hT106.size)
    replace hS := hS.newOwnS hB108 ho108 hv108 (fun _ h => h.elim)
    refine g_run rfl ?_; refine q_litO (T := Ty.int) (S := (fun _ => False)) (cells := [[.int .i64 0], [.int .i64 1]]) (ys := [0, 1]) ((Parts.cons rfl rfl (Parts.cons rfl rfl Parts.nil))) rfl rfl rfl rfl rfl rfl rfl (fun w1 hB => ⟨rfl, rfl, trivial⟩) (fun _ h => h.elim) rfl fun w110 v110 ho110 hv110 hB110 => ?_
    replace f84 := f84.ext hB110
    replace f85 := f85.ext hB110
    replace f86 := f86.ext hB110
    replace f87 := f87.ext hB110
    replace f88 := f88.ext hB110
    replace f89 := f89.ext hB110
    replace hT106 := hT106.trans (Below.mono hB110 hT106.size)
    replace hS := hS.newOwnS hB110 ho110 hv110 (fun _ h => h.elim)
    refine g_run rfl ?_; refine q_litO (T := Ty.raw) (S := (fun _ => False)) (cells := [[v108], [v110]]) (ys := [v108, v110]) ((Parts.cons rfl (cells_one (hS.own 1 rfl).one) (Parts.cons rfl (cells_one (hS.own 0 rfl).one) Parts.nil))) rfl rfl rfl rfl rfl rfl rfl (fun w1 hB => ⟨⟨rfl, (hS.own 1 rfl).one⟩, ⟨rfl, (hS.own 0 rfl).one⟩, trivial⟩) (fun _ h => h.elim) rfl fun w112 v112 ho112 hv112 hB112 => ?_
    replace f84 := f84.ext hB112
    replace f85 := f85.ext hB112
    replace f86 := f86.ext hB112
    replace f87 := f87.ext hB112
    replace f88 := f88.ext hB112
    replace f89 := f89.ext hB112
    replace hT106 := hT106.trans (Below.mono hB112 hT106.size)
    replace hS := hS.newOwnS hB112 ho112 hv112 (fun _ h => h.elim)
    replace hS := hS.pickB [2, 0, 1, 3] 4 rfl rfl; simp only [List.map_cons, List.map_nil, List.getD_cons_zero, List.getD_cons_succ] at hS
    replace hS := hS.famOne
    replace hS := hS.pickB [2, 0, 1, 3] 4 rfl rfl; simp only [List.map_cons, List.map_nil, List.getD_cons_zero, List.getD_cons_succ] at hS
    replace hS := hS.famOne
    replace hS := hS.pickB [1, 0, 2, 3] 4 rfl rfl; simp only [List.map_cons, List.map_nil, List.getD_cons_zero, List.getD_cons_succ] at hS
    replace hS := hS.famCat; simp only [List.cons_append, List.nil_append] at hS
    obtain ⟨r117, hr117, hx106⟩ := Option.of_bind hx106
    refine g_run rfl ?_; refine q_call rfl (ref23_SameLists_w (Sep.all w112) (f85).old ((hS.rowsI 1 0 rfl rfl (by decide))).old hr117) rfl ?_
    rintro _ w116 ⟨R116, rfl, hC116⟩
    have hB116 : Below (World.heap w112).size w112 w116 := hC116.stepBF
    refine ⟨fun _ => .of_below hB116, ?_⟩
    replace f84 := f84.ext hB116
    replace f85 := f85.ext hB116
    replace f86 := f86.ext hB116
    replace f87 := f87.ext hB116
    replace f88 := f88.ext hB116
    replace f89 := f89.ext hB116
    replace hT106 := hT106.trans (Below.mono hB116 hT106.size)
    replace hS := hS.below hB116
    cases hx106
    exact eseq_nil ⟨hT106, Sub.set rfl (Sub.set rfl (Sub.set rfl (Sub.set rfl (Sub.set rfl (Sub.set rfl (Sub.set rfl (Sub.bool true rfl hg106))))))), rfl⟩
  · intro hg106
    refine g_skip rfl rfl rfl ?_
    refine g_skip rfl rfl rfl ?_
    refine g_skip rfl rfl rfl ?_
    refine g_skip rfl rfl rfl ?_
    refine g_skip rfl rfl rfl ?_
    refine g_skip rfl rfl rfl ?_
    refine g_skip rfl rfl rfl ?_
    exact eseq_nil ⟨rfl, Sub.set rfl (Sub.set rfl (Sub.set rfl (Sub.set rfl (Sub.set rfl (Sub.set rfl (Sub.set rfl (Sub.bool false rfl hg106)))))))⟩
  intro wm106 hBm106; clear hx106
  replace hS := hS.below hBm106
  replace f84 := f84.ext hBm106
  replace f85 := f85.ext hBm106
  replace f86 := f86.ext hBm106
  replace f87 := f87.ext hBm106
  replace f88 := f88.ext hBm106
  replace f89 := f89.ext hBm106
  refine q_move rfl rfl ?_
  obtain ⟨x121, hx120, h⟩ := Option.of_bind h
  refine g_andM 4 hx120 rfl trivial rfl rfl ?_ ?_ ?_
  · intro hg120 hx120
    clear h
    have hT120 := Below.refl (World.heap wm106).size wm106
    refine g_run rfl ?_; refine q_field rfl rfl ?_
    refine g_run rfl ?_; refine q_load rfl (Blk.cell (hS.blk 0 rfl) rfl) rfl ?_
    refine g_run rfl ?_; refine q_lenS rfl f88 rfl ?_
    refine g_run rfl ?_; refine q_eql rfl rfl rfl ?_
    cases hx120
    exact eseq_nil ⟨hT120, Sub.set rfl (Sub.set rfl (Sub.set rfl (Sub.set rfl (Sub.bool true rfl hg120)))), rfl⟩
  · intro hg120
    refine g_skip rfl rfl rfl ?_
    refine g_skip rfl rfl rfl ?_
    refine g_skip rfl rfl rfl ?_
    refine g_skip rfl rfl rfl ?_
    exact eseq_nil ⟨rfl, Sub.set rfl (Sub.set rfl (Sub.set rfl (Sub.set rfl (Sub.bool false rfl hg120))))⟩
  intro wm120 hBm120; clear hx120
  replace hS := hS.below hBm120
  replace f84 := f84.ext hBm120
  replace f85 := f85.ext hBm120
  replace f86 := f86.ext hBm120
  replace f87 := f87.ext hBm120
  replace f88 := f88.ext hBm120
  replace f89 := f89.ext hBm120
  refine q_move rfl rfl ?_
  obtain ⟨x138, hx137, h⟩ := Option.of_bind h
  refine g_andM 8 hx137 rfl trivial rfl rfl ?_ ?_ ?_
  · intro hg137 hx137
    clear h
    have hT137 := Below.refl (World.heap wm120).size wm120
    refine g_run rfl ?_; refine q_field rfl rfl ?_
    refine g_run rfl ?_; refine q_load rfl (Blk.cell (hS.blk 0 rfl) rfl) rfl ?_
    obtain ⟨x139, hx139, hx137⟩ := Option.of_bind hx137
    refine g_run rfl ?_; refine q_atS (by infer_instance) rfl f88 rfl hx139 rfl fun b140 o140 hm140 f140 => ?_
    refine g_run rfl ?_; refine q_loadE rfl f140 rfl (fun v141 f141 => ?_)
    refine g_run rfl ?_; refine q_litO (T := Ty.int) (S := (fun _ => False)) (cells := [[.int .i64 0], [.int .i64 0]]) (ys := [0, 0]) ((Parts.cons rfl rfl (Parts.cons rfl rfl Parts.nil))) rfl rfl rfl rfl rfl rfl rfl (fun w1 hB => ⟨rfl, rfl, trivial⟩) (fun _ h => h.elim) rfl fun w142 v142 ho142 hv142 hB142 => ?_
    replace f141 := f141.ext hB142
    replace hT137 := hT137.trans (Below.mono hB142 hT137.size)
    replace hS := hS.newOwnS hB142 ho142 hv142 (fun _ h => h.elim)
    refine g_run rfl ?_; refine q_litO (T := Ty.int) (S := (fun _ => False)) (cells := [[.int .i64 0], [.int .i64 1]]) (ys := [0, 1]) ((Parts.cons rfl rfl (Parts.cons rfl rfl Parts.nil))) rfl rfl rfl rfl rfl rfl rfl (fun w1 hB => ⟨rfl, rfl, trivial⟩) (fun _ h => h.elim) rfl fun w144 v144 ho144 hv144 hB144 => ?_
    replace f141 := f141.ext hB144
    replace hT137 := hT137.trans (Below.mono hB144 hT137.size)
    replace hS := hS.newOwnS hB144 ho144 hv144 (fun _ h => h.elim)
    refine g_run rfl ?_; refine q_litO (T := Ty.raw) (S := (fun _ => False)) (cells := [[v142], [v144]]) (ys := [v142, v144]) ((Parts.cons rfl (cells_one (hS.own 1 rfl).one) (Parts.cons rfl (cells_one (hS.own 0 rfl).one) Parts.nil))) rfl rfl rfl rfl rfl rfl rfl (fun w1 hB => ⟨⟨rfl, (hS.own 1 rfl).one⟩, ⟨rfl, (hS.own 0 rfl).one⟩, trivial⟩) (fun _ h => h.elim) rfl fun w146 v146 ho146 hv146 hB146 => ?_
    replace f141 := f141.ext hB146
    replace hT137 := hT137.trans (Below.mono hB146 hT137.size)
    replace hS := hS.newOwnS hB146 ho146 hv146 (fun _ h => h.elim)
    replace hS := hS.pickB [2, 0, 1, 3] 4 rfl rfl; simp only [List.map_cons, List.map_nil, List.getD_cons_zero, List.getD_cons_succ] at hS
    replace hS := hS.famOne
    replace hS := hS.pickB [2, 0, 1, 3] 4 rfl rfl; simp only [List.map_cons, List.map_nil, List.getD_cons_zero, List.getD_cons_succ] at hS
    replace hS := hS.famOne
    replace hS := hS.pickB [1, 0, 2, 3] 4 rfl rfl; simp only [List.map_cons, List.map_nil, List.getD_cons_zero, List.getD_cons_succ] at hS
    replace hS := hS.famCat; simp only [List.cons_append, List.nil_append] at hS
    obtain ⟨r151, hr151, hx137⟩ := Option.of_bind hx137
    refine g_run rfl ?_; refine q_call rfl (ref23_SameLists_w (Sep.all w146) (f141).old ((hS.rowsI 1 0 rfl rfl (by decide))).old hr151) rfl ?_
    rintro _ w150 ⟨R150, rfl, hC150⟩
    have hB150 : Below (World.heap w146).size w146 w150 := hC150.stepBF
    refine ⟨fun _ => .of_below hB150, ?_⟩
    replace f141 := f141.ext hB150
    replace hT137 := hT137.trans (Below.mono hB150 hT137.size)
    replace hS := hS.below hB150
    cases hx137
    exact eseq_nil ⟨hT137, Sub.set rfl (Sub.set rfl (Sub.set rfl (Sub.set rfl (Sub.set rfl (Sub.set rfl (Sub.set rfl (Sub.set rfl (Sub.bool true rfl hg137)))))))), rfl⟩
  · intro hg137
    refine g_skip rfl rfl rfl ?_
    refine g_skip rfl rfl rfl ?_
    refine g_skip rfl rfl rfl ?_
    refine g_skip rfl rfl rfl ?_
    refine g_skip rfl rfl rfl ?_
    refine g_skip rfl rfl rfl ?_
    refine g_skip rfl rfl rfl ?_
    refine g_skip rfl rfl rfl ?_
    exact eseq_nil ⟨rfl, Sub.set rfl (Sub.set rfl (Sub.set rfl (Sub.set rfl (Sub.set rfl (Sub.set rfl (Sub.set rfl (Sub.set rfl (Sub.bool false rfl hg137))))))))⟩
  intro wm137 hBm137; clear hx137
  replace hS := hS.below hBm137
  refine q_assign rfl rfl ?_
  refine eseq_nil ?_
  refine hK93 _ _ ?_
  refine e_ret ?_
  obtain rfl := Option.some.inj h
  exact ⟨_, res1 rfl rfl, _, rfl, (hS.pickB [] 1 rfl rfl)⟩
theorem law26_draw_w {F R : Nat → Prop} {w : World} {fuel : Nat} {a0 : (List Int)} {v1 : Value} {r : (Int × Int × (List Deed))} (hS : Sep F R R w w []) (f1 : IsSlice Ty.u8 w R v1 a0) (h : law26_draw fuel a0 = some r) :
    Gives Try.prog 13 [v1] w fun u w1 => ∃ (v17 : Value), ∃ (R1 : Nat → Prop), u = .tuple #[.int .i64 r.1, .int .i64 r.2.1, v17] ∧ Sep F R R1 w w1 [HP.own deedTy (fun _ => False) 80 v17 r.2.2] := by
  refine fn_of Try.func13 rfl Try.ntmps13 (Nat.le_of_ble_eq_true rfl) ?_
  unfold law26_draw at h
  refine e_seq fun K18 hK18 => ?_
  refine e_region_text rfl ?_
  refine q_assign rfl rfl ?_
  refine q_assign rfl rfl ?_
  refine q_assign rfl rfl ?_
  refine eseq_nil ?_
  refine hK18 _ _ ?_
  refine e_seq fun K19 hK19 => ?_
  refine e_region_text rfl ?_
  refine q_move rfl rfl ?_
  obtain ⟨r21, hr21, h⟩ := Option.of_bind h
  refine q_call rfl (make_New_w (Sep.enter (As := []) hS) f1 hr21) rfl ?_
  rintro _ w20 ⟨B22, v23, R20, rfl, hC20, f23⟩
  have hB20 : Below (World.heap w).size w w20 := hC20.stepB0
  refine ⟨fun _ => .of_below hB20, ?_⟩
  replace f1 := (f1.ext hB20).mono fun k hk _ => hC20.ro0 k hk
  replace hS := Sep.leave (As := []) hS hC20; simp only [List.cons_append, List.nil_append] at hS
  refine q_assign rfl rfl ?_
  refine eseq_nil ?_
  refine hK19 _ _ ?_
  refine e_seq fun K24 hK24 => ?_
  refine e_region_text rfl ?_
  refine q_move rfl rfl ?_
  obtain ⟨r26, hr26, h⟩ := Option.of_bind h
  refine q_call rfl (make_Codes_Next_w (Sep.enter (As := [_]) hS) f23 hr26) rfl ?_
  rintro _ w25 ⟨R25, rfl, hC25⟩
  refine ⟨(fun h => by cases h), ?_⟩
  have hk25 := hC25.keptR (Sep.offFeet (As := [_]) hS)
  replace f23 := (f23.kept hk25).mono fun k hk _ => hC25.ro0 k hk
  replace hS := Sep.leave (As := [_]) hS hC25; simp only [List.cons_append, List.nil_append] at hS
  refine q_addW rfl rfl rfl ?_
  refine q_move rfl rfl ?_
  obtain ⟨r28, hr28, h⟩ := Option.of_bind h
  refine q_call rfl (make_Codes_Next_w (Sep.enter (As := [_]) hS) f23 hr28) rfl ?_
  rintro _ w27 ⟨R27, rfl, hC27⟩
  refine ⟨(fun h => by cases h), ?_⟩
  have hk27 := hC27.keptR (Sep.offFeet (As := [_]) hS)
  replace f23 := (f23.kept hk27).mono fun k hk _ => hC27.ro0 k hk
  replace hS := Sep.leave (As := [_]) hS hC27; simp only [List.cons_append, List.nil_append] at hS
  refine q_addW rfl rfl rfl ?_
  refine q_assign rfl rfl ?_
  refine q_assign rfl rfl ?_
  refine eseq_nil ?_
  refine hK24 _ _ ?_
  refine e_seq fun K29 hK29 => ?_
  refine e_region_text rfl ?_
  refine q_move rfl rfl ?_
  refine q_move rfl rfl ?_
  refine q_move rfl rfl ?_
  refine q_move rfl rfl ?_
  obtain ⟨r31, hr31, h⟩ := Option.of_bind h
  refine q_call rfl (make_Codes_Acts_w (Sep.enter (As := [_]) hS) f23 hr31) rfl ?_
  rintro v32 w30 ⟨_, R30, rfl, hC30⟩
  refine ⟨(fun h => by cases h), ?_⟩
  have hk30 := hC30.keptR (Sep.offFeet (As := [_]) hS)
  replace f23 := (f23.kept hk30).mono fun k hk _ => hC30.ro0 k hk
  replace hS := Sep.leave (As := [_]) hS hC30; simp only [List.cons_append, List.nil_append] at hS
  refine q_assign rfl rfl ?_
  refine q_assign rfl rfl ?_
  refine q_assign rfl rfl ?_
  refine eseq_nil ?_
  refine hK29 _ _ ?_
  refine e_ret ?_
  obtain rfl := Option.some.inj h
  exact ⟨_, res3 rfl rfl rfl rfl, v32, _, rfl, (hS.pickB [1] 2 rfl rfl)⟩
end Go.Proofs.Ytbmjcbhappjnaaa
