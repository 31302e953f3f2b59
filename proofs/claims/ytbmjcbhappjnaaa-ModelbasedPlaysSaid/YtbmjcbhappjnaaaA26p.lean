/- Printed walks: A26p. -/
import Derived.Test.YtbmjcbhappjnaaaA26d
import Derived.Test.YtbmjcbhappjnaaaA26r
set_option linter.unusedVariables false
set_option linter.unusedSimpArgs false
namespace Go.Mine
open Go.RowKit
def law26_ModelbasedPlays (fuel : Nat) (a0 : Int) (a1 : Int) (a2 : (List Deed)) (a3 : (List Int)) : Option (Bool) :=
  (law26_awake fuel).bind fun r99 => (orM (!r99) (some (decide (300 < (a2.length : Int))))).bind fun x103 => (if x103 = true then some (decide (300 < (a2.length : Int))) else (law26_draw fuel a3).bind fun r108 => (modelbased_Play fuel a0 a1 a2).bind fun r112 => (ref26_Play fuel a0 a1 a2).bind fun r124 => (modelbased_Play fuel r108.1 r108.2.1 r108.2.2).bind fun r140 => (ref26_Play fuel r108.1 r108.2.1 r108.2.2).bind fun r152 => (andM (r112.2 == r124.2) (some (r140.2 == r152.2))).bind fun x169 => (andM x169 ((ref25_Same fuel (⟨(⟨r112.1.pat.lens, r112.1.pat.ckpts, r112.1.pat.arcs⟩ : Pat), r112.1.clocks, r112.1.vecs, r112.1.forced⟩ : Hist) (⟨(⟨r124.1.pat.lens, r124.1.pat.ckpts, r124.1.pat.arcs⟩ : Pat), ([] : List (List Int)), r124.1.vecs, r124.1.forced⟩ : Hist)).bind fun r177 => some r177)).bind fun x175 => (andM x175 ((ref25_Same fuel (⟨(⟨r140.1.pat.lens, r140.1.pat.ckpts, r140.1.pat.arcs⟩ : Pat), r140.1.clocks, r140.1.vecs, r140.1.forced⟩ : Hist) (⟨(⟨r152.1.pat.lens, r152.1.pat.ckpts, r152.1.pat.arcs⟩ : Pat), ([] : List (List Int)), r152.1.vecs, r152.1.forced⟩ : Hist)).bind fun r185 => some r185)).bind fun x183 => some x183)
end Go.Mine
namespace Go.Proofs.Ytbmjcbhappjnaaa
open Go.RowKit Go.Mine
attribute [local irreducible] eseq ewp iter
theorem law26_ModelbasedPlays_w {F R : Nat → Prop} {w : World} {fuel : Nat} {a0 : Int} {a1 : Int} {a2 : (List Deed)} {a3 : (List Int)} {v1 : Value} {v2 : Value} {r : (Bool)} (hS : Sep F R R w w []) (f1 : IsSlice deedTy w R v1 a2) (f2 : IsSlice Ty.u8 w R v2 a3) (h : law26_ModelbasedPlays fuel a0 a1 a2 a3 = some r) :
    Gives Try.prog 3 [.int .i64 a0, .int .i64 a1, v1, v2] w fun u w1 => ∃ (R1 : Nat → Prop), u = .bool r ∧ Sep F R R1 w w1 [] := by
  refine fn_of Try.func3 rfl Try.ntmps3 (Nat.le_of_ble_eq_true rfl) ?_
  unfold law26_ModelbasedPlays at h
  refine e_seq fun K95 hK95 => ?_
  refine e_region_text rfl ?_
  refine q_assign rfl rfl ?_
  refine eseq_nil ?_
  refine hK95 _ _ ?_
  refine e_seq fun K96 hK96 => ?_
  refine e_seq fun K97 hK97 => ?_
  refine e_region_text rfl ?_
  obtain ⟨r99, hr99, h⟩ := Option.of_bind h
  refine q_call rfl (law26_awake_w (Sep.enter (As := []) hS)  hr99) rfl ?_
  rintro _ w98 ⟨R98, rfl, hC98⟩
  have hB98 : Below (World.heap w).size w w98 := hC98.stepB0
  refine ⟨fun _ => .of_below hB98, ?_⟩
  replace f1 := (f1.ext hB98).mono fun k hk _ => hC98.ro0 k hk
  replace f2 := (f2.ext hB98).mono fun k hk _ => hC98.ro0 k hk
  replace hS := Sep.leave (As := []) hS hC98; simp only [List.cons_append, List.nil_append] at hS
  refine q_not rfl rfl ?_
  refine q_move rfl rfl ?_
  obtain ⟨x103, hx102, h⟩ := Option.of_bind h
  refine g_orM 3 hx102 rfl trivial rfl rfl ?_ ?_ ?_
  · intro hg102
    refine g_skip rfl rfl rfl ?_
    refine g_skip rfl rfl rfl ?_
    refine g_skip rfl rfl rfl ?_
    exact eseq_nil ⟨rfl, Sub.set rfl (Sub.set rfl (Sub.set rfl (Sub.bool true rfl hg102)))⟩
  · intro hg102 hx102
    clear h
    have hT102 := Below.refl (World.heap w98).size w98
    refine g_run rfl ?_; refine q_move rfl rfl ?_
    refine g_run rfl ?_; refine q_lenS rfl f1 rfl ?_
    refine g_run rfl ?_; refine q_gtr rfl rfl rfl ?_
    cases hx102
    exact eseq_nil ⟨hT102, Sub.set rfl (Sub.set rfl (Sub.set rfl (Sub.bool false rfl hg102))), rfl⟩
  intro wm102 hBm102; clear hx102
  replace hS := hS.below hBm102
  replace f1 := f1.ext hBm102
  replace f2 := f2.ext hBm102
  refine eseq_nil ?_
  refine hK97 _ _ ?_
  refine e_cond rfl (fun hc104 => ?_) (fun hc104 => ?_)
  · replace h := (if_pos hc104).symm.trans h
    refine e_seq fun K105 hK105 => ?_
    refine e_region_text rfl ?_
    refine q_move rfl rfl ?_
    refine q_lenS rfl f1 rfl ?_
    refine q_gtr rfl rfl rfl ?_
    refine q_assign rfl rfl ?_
    refine eseq_nil ?_
    refine hK105 _ _ ?_
    refine e_ret ?_
    obtain rfl := Option.some.inj h
    exact ⟨_, res1 rfl rfl, _, rfl, hS⟩
  · replace h := (if_neg (not_true hc104)).symm.trans h
    refine e_skip ?_
    refine hK96 _ _ ?_
    refine e_seq fun K106 hK106 => ?_
    refine e_region_text rfl ?_
    refine q_move rfl rfl ?_
    obtain ⟨r108, hr108, h⟩ := Option.of_bind h
    refine q_call rfl (law26_draw_w (Sep.enter (As := []) hS) f2 hr108) rfl ?_
    rintro _ w107 ⟨v109, R107, rfl, hC107⟩
    have hB107 : Below (World.heap wm102).size wm102 w107 := hC107.stepB0
    refine ⟨fun _ => .of_below hB107, ?_⟩
    replace f1 := (f1.ext hB107).mono fun k hk _ => hC107.ro0 k hk
    replace f2 := (f2.ext hB107).mono fun k hk _ => hC107.ro0 k hk
    replace hS := Sep.leave (As := []) hS hC107; simp only [List.cons_append, List.nil_append] at hS
    refine q_move rfl rfl ?_
    refine q_extract rfl rfl rfl ?_
    refine q_extract rfl rfl rfl ?_
    refine q_extract rfl rfl rfl ?_
    refine q_assign rfl rfl ?_
    refine q_assign rfl rfl ?_
    refine q_assign rfl rfl ?_
    refine eseq_nil ?_
    refine hK106 _ _ ?_
    refine e_seq fun K110 hK110 => ?_
    refine e_region_text rfl ?_
    refine q_move rfl rfl ?_
    refine q_move rfl rfl ?_
    refine q_move rfl rfl ?_
    obtain ⟨r112, hr112, h⟩ := Option.of_bind h
    refine q_call rfl (modelbased_Play_w (Sep.enter (As := []) hS) f1 hr112) rfl ?_
    rintro _ w111 ⟨v113, v114, v115, v116, v117, v118, R111, rfl, hC111, f113, f114, f115, f116, f117, f118⟩
    have hB111 : Below (World.heap w107).size w107 w111 := hC111.stepB0
    refine ⟨fun _ => .of_below hB111, ?_⟩
    replace f1 := (f1.ext hB111).mono fun k hk _ => hC111.ro0 k hk
    replace hS := Sep.leave (As := []) hS hC111; simp only [List.cons_append, List.nil_append] at hS
    refine q_move rfl rfl ?_
    refine q_extract rfl rfl rfl ?_
    refine q_extract rfl rfl rfl ?_
    refine q_allocB rfl fun w119 bl119 hg119 hb119 hB119 => ?_
    replace f1 := f1.ext hB119
    replace f113 := f113.ext hB119
    replace f114 := f114.ext hB119
    replace f115 := f115.ext hB119
    replace f116 := f116.ext hB119
    replace f117 := f117.ext hB119
    replace f118 := f118.ext hB119
    replace hS := hS.newBlk hB119 hg119 hb119
    refine q_storeAgg rfl rfl (hS.blk 0 rfl) rfl (Nat.le_of_ble_eq_true rfl) (all_cons f113.one (all_cons f114.one (all_cons f115.one (all_cons f116.one (all_cons f117.one (all_cons f118.one (all_nil))))))) rfl rfl fun w121 hb121 hO121 => ?_
    simp only [setN, List.set, List.take, List.drop] at hb121
    have hk121 := hS.keptBlk 0 rfl hO121
    replace f1 := f1.kept hk121
    replace f113 := f113.kept hk121
    replace f114 := f114.kept hk121
    replace f115 := f115.kept hk121
    replace f116 := f116.kept hk121
    replace f117 := f117.kept hk121
    replace f118 := f118.kept hk121
    replace hS := hS.setBlk 0 rfl hb121 hO121; simp only [List.set] at hS
    refine q_assign rfl rfl ?_
    refine eseq_nil ?_
    refine hK110 _ _ ?_
    refine e_seq fun K122 hK122 => ?_
    refine e_region_text rfl ?_
    refine q_move rfl rfl ?_
    refine q_move rfl rfl ?_
    refine q_move rfl rfl ?_
    obtain ⟨r124, hr124, h⟩ := Option.of_bind h
    refine q_call rfl (ref26_Play_w (Sep.enter (As := []) hS) f1 hr124) rfl ?_
    rintro _ w123 ⟨v125, v126, v127, v128, v130, v131, v132, v133, R123, rfl, hC123⟩
    have hB123 : Below (World.heap w121).size w121 w123 := hC123.stepB0
    refine ⟨fun _ => .of_below hB123, ?_⟩
    replace f113 := (f113.ext hB123).mono fun k hk _ => hC123.ro0 k hk
    replace f114 := (f114.ext hB123).mono fun k hk _ => hC123.ro0 k hk
    replace f115 := (f115.ext hB123).mono fun k hk _ => hC123.ro0 k hk
    replace f116 := (f116.ext hB123).mono fun k hk _ => hC123.ro0 k hk
    replace f117 := (f117.ext hB123).mono fun k hk _ => hC123.ro0 k hk
    replace f118 := (f118.ext hB123).mono fun k hk _ => hC123.ro0 k hk
    replace f1 := (f1.ext hB123).mono fun k hk _ => hC123.ro0 k hk
    replace hS := Sep.leave (As := []) hS hC123; simp only [List.cons_append, List.nil_append] at hS
    refine q_move rfl rfl ?_
    refine q_extract rfl rfl rfl ?_
    refine q_extract rfl rfl rfl ?_
    refine q_allocB rfl fun w134 bl134 hg134 hb134 hB134 => ?_
    replace f113 := f113.ext hB134
    replace f114 := f114.ext hB134
    replace f115 := f115.ext hB134
    replace f116 := f116.ext hB134
    replace f117 := f117.ext hB134
    replace f118 := f118.ext hB134
    replace hS := hS.newBlk hB134 hg134 hb134
    refine q_storeAgg rfl rfl (hS.blk 0 rfl) rfl (Nat.le_of_ble_eq_true rfl) (all_cons (hS.own 1 rfl).one (all_cons (hS.own 2 rfl).one (all_cons (hS.own 4 rfl).one (all_cons rfl (all_cons (hS.own 5 rfl).one (all_cons (hS.own 7 rfl).one (all_nil))))))) rfl rfl fun w136 hb136 hO136 => ?_
    simp only [setN, List.set, List.take, List.drop] at hb136
    have hk136 := hS.keptBlk 0 rfl hO136
    replace f113 := f113.kept hk136
    replace f114 := f114.kept hk136
    replace f115 := f115.kept hk136
    replace f116 := f116.kept hk136
    replace f117 := f117.kept hk136
    replace f118 := f118.kept hk136
    replace hS := hS.setBlk 0 rfl hb136 hO136; simp only [List.set] at hS
    refine q_assign rfl rfl ?_
    refine eseq_nil ?_
    refine hK122 _ _ ?_
    refine e_seq fun K137 hK137 => ?_
    refine e_region_text rfl ?_
    refine q_move rfl rfl ?_
    refine q_move rfl rfl ?_
    refine q_move rfl rfl ?_
    obtain ⟨R139, hS, hm139, f139⟩ := hS.freezeOwn 10 rfl; simp only [List.eraseIdx] at hS
    replace f113 := f113.mono fun k hk _ => hm139 k hk
    replace f114 := f114.mono fun k hk _ => hm139 k hk
    replace f115 := f115.mono fun k hk _ => hm139 k hk
    replace f116 := f116.mono fun k hk _ => hm139 k hk
    replace f117 := f117.mono fun k hk _ => hm139 k hk
    replace f118 := f118.mono fun k hk _ => hm139 k hk
    obtain ⟨r140, hr140, h⟩ := Option.of_bind h
    refine q_call rfl (modelbased_Play_w (Sep.enter (As := []) hS) f139 hr140) rfl ?_
    rintro _ w138 ⟨v141, v142, v143, v144, v145, v146, R138, rfl, hC138, f141, f142, f143, f144, f145, f146⟩
    have hB138 : Below (World.heap w136).size w136 w138 := hC138.stepB0
    refine ⟨fun _ => .of_below hB138, ?_⟩
    replace f139 := (f139.ext hB138).mono fun k hk _ => hC138.ro0 k hk
    replace f113 := (f113.ext hB138).mono fun k hk _ => hC138.ro0 k hk
    replace f114 := (f114.ext hB138).mono fun k hk _ => hC138.ro0 k hk
    replace f115 := (f115.ext hB138).mono fun k hk _ => hC138.ro0 k hk
    replace f116 := (f116.ext hB138).mono fun k hk _ => hC138.ro0 k hk
    replace f117 := (f117.ext hB138).mono fun k hk _ => hC138.ro0 k hk
    replace f118 := (f118.ext hB138).mono fun k hk _ => hC138.ro0 k hk
    replace hS := Sep.leave (As := []) hS hC138; simp only [List.cons_append, List.nil_append] at hS
    refine q_move rfl rfl ?_
    refine q_extract rfl rfl rfl ?_
    refine q_extract rfl rfl rfl ?_
    refine q_allocB rfl fun w147 bl147 hg147 hb147 hB147 => ?_
    replace f139 := f139.ext hB147
    replace f113 := f113.ext hB147
    replace f114 := f114.ext hB147
    replace f115 := f115.ext hB147
    replace f116 := f116.ext hB147
    replace f117 := f117.ext hB147
    replace f118 := f118.ext hB147
    replace f141 := f141.ext hB147
    replace f142 := f142.ext hB147
    replace f143 := f143.ext hB147
    replace f144 := f144.ext hB147
    replace f145 := f145.ext hB147
    replace f146 := f146.ext hB147
    replace hS := hS.newBlk hB147 hg147 hb147
    refine q_storeAgg rfl rfl (hS.blk 0 rfl) rfl (Nat.le_of_ble_eq_true rfl) (all_cons f141.one (all_cons f142.one (all_cons f143.one (all_cons f144.one (all_cons f145.one (all_cons f146.one (all_nil))))))) rfl rfl fun w149 hb149 hO149 => ?_
    simp only [setN, List.set, List.take, List.drop] at hb149
    have hk149 := hS.keptBlk 0 rfl hO149
    replace f139 := f139.kept hk149
    replace f113 := f113.kept hk149
    replace f114 := f114.kept hk149
    replace f115 := f115.kept hk149
    replace f116 := f116.kept hk149
    replace f117 := f117.kept hk149
    replace f118 := f118.kept hk149
    replace f141 := f141.kept hk149
    replace f142 := f142.kept hk149
    replace f143 := f143.kept hk149
    replace f144 := f144.kept hk149
    replace f145 := f145.kept hk149
    replace f146 := f146.kept hk149
    replace hS := hS.setBlk 0 rfl hb149 hO149; simp only [List.set] at hS
    refine q_assign rfl rfl ?_
    refine eseq_nil ?_
    refine hK137 _ _ ?_
    refine e_seq fun K150 hK150 => ?_
    refine e_region_text rfl ?_
    refine q_move rfl rfl ?_
    refine q_move rfl rfl ?_
    refine q_move rfl rfl ?_
    obtain ⟨r152, hr152, h⟩ := Option.of_bind h
    refine q_call rfl (ref26_Play_w (Sep.enter (As := []) hS) f139 hr152) rfl ?_
    rintro _ w151 ⟨v153, v154, v155, v156, v158, v159, v160, v161, R151, rfl, hC151⟩
    have hB151 : Below (World.heap w149).size w149 w151 := hC151.stepB0
    refine ⟨fun _ => .of_below hB151, ?_⟩
    replace f113 := (f113.ext hB151).mono fun k hk _ => hC151.ro0 k hk
    replace f114 := (f114.ext hB151).mono fun k hk _ => hC151.ro0 k hk
    replace f115 := (f115.ext hB151).mono fun k hk _ => hC151.ro0 k hk
    replace f116 := (f116.ext hB151).mono fun k hk _ => hC151.ro0 k hk
    replace f117 := (f117.ext hB151).mono fun k hk _ => hC151.ro0 k hk
    replace f118 := (f118.ext hB151).mono fun k hk _ => hC151.ro0 k hk
    replace f141 := (f141.ext hB151).mono fun k hk _ => hC151.ro0 k hk
    replace f142 := (f142.ext hB151).mono fun k hk _ => hC151.ro0 k hk
    replace f143 := (f143.ext hB151).mono fun k hk _ => hC151.ro0 k hk
    replace f144 := (f144.ext hB151).mono fun k hk _ => hC151.ro0 k hk
    replace f145 := (f145.ext hB151).mono fun k hk _ => hC151.ro0 k hk
    replace f146 := (f146.ext hB151).mono fun k hk _ => hC151.ro0 k hk
    replace f139 := (f139.ext hB151).mono fun k hk _ => hC151.ro0 k hk
    replace hS := Sep.leave (As := []) hS hC151; simp only [List.cons_append, List.nil_append] at hS
    refine q_move rfl rfl ?_
    refine q_extract rfl rfl rfl ?_
    refine q_extract rfl rfl rfl ?_
    refine q_allocB rfl fun w162 bl162 hg162 hb162 hB162 => ?_
    replace f113 := f113.ext hB162
    replace f114 := f114.ext hB162
    replace f115 := f115.ext hB162
    replace f116 := f116.ext hB162
    replace f117 := f117.ext hB162
    replace f118 := f118.ext hB162
    replace f141 := f141.ext hB162
    replace f142 := f142.ext hB162
    replace f143 := f143.ext hB162
    replace f144 := f144.ext hB162
    replace f145 := f145.ext hB162
    replace f146 := f146.ext hB162
    replace hS := hS.newBlk hB162 hg162 hb162
    refine q_storeAgg rfl rfl (hS.blk 0 rfl) rfl (Nat.le_of_ble_eq_true rfl) (all_cons (hS.own 1 rfl).one (all_cons (hS.own 2 rfl).one (all_cons (hS.own 4 rfl).one (all_cons rfl (all_cons (hS.own 5 rfl).one (all_cons (hS.own 7 rfl).one (all_nil))))))) rfl rfl fun w164 hb164 hO164 => ?_
    simp only [setN, List.set, List.take, List.drop] at hb164
    have hk164 := hS.keptBlk 0 rfl hO164
    replace f113 := f113.kept hk164
    replace f114 := f114.kept hk164
    replace f115 := f115.kept hk164
    replace f116 := f116.kept hk164
    replace f117 := f117.kept hk164
    replace f118 := f118.kept hk164
    replace f141 := f141.kept hk164
    replace f142 := f142.kept hk164
    replace f143 := f143.kept hk164
    replace f144 := f144.kept hk164
    replace f145 := f145.kept hk164
    replace f146 := f146.kept hk164
    replace hS := hS.setBlk 0 rfl hb164 hO164; simp only [List.set] at hS
    refine q_assign rfl rfl ?_
    refine eseq_nil ?_
    refine hK150 _ _ ?_
    refine e_seq fun K165 hK165 => ?_
    refine e_region_text rfl ?_
    refine q_move rfl rfl ?_
    refine q_move rfl rfl ?_
    refine q_eql rfl rfl rfl ?_
    refine q_move rfl rfl ?_
    obtain ⟨x169, hx168, h⟩ := Option.of_bind h
    refine g_andM 3 hx168 rfl trivial rfl rfl ?_ ?_ ?_
    · intro hg168 hx168
      clear h
      have hT168 := Below.refl (World.heap w164).size w164
      refine g_run rfl ?_; refine q_move rfl rfl ?_
      refine g_run rfl ?_; refine q_move rfl rfl ?_
      refine g_run rfl ?_; refine q_eql rfl rfl rfl ?_
      cases hx168
      exact eseq_nil ⟨hT168, Sub.set rfl (Sub.set rfl (Sub.set rfl (Sub.bool true rfl hg168))), rfl⟩
    · intro hg168
      refine g_skip rfl rfl rfl ?_
      refine g_skip rfl rfl rfl ?_
      refine g_skip rfl rfl rfl ?_
      exact eseq_nil ⟨rfl, Sub.set rfl (Sub.set rfl (Sub.set rfl (Sub.bool false rfl hg168)))⟩
    intro wm168 hBm168; clear hx168
    replace hS := hS.below hBm168
    replace f113 := f113.ext hBm168
    replace f114 := f114.ext hBm168
    replace f115 := f115.ext hBm168
    replace f116 := f116.ext hBm168
    replace f117 := f117.ext hBm168
    replace f118 := f118.ext hBm168
    replace f141 := f141.ext hBm168
    replace f142 := f142.ext hBm168
    replace f143 := f143.ext hBm168
    replace f144 := f144.ext hBm168
    replace f145 := f145.ext hBm168
    replace f146 := f146.ext hBm168
    refine q_move rfl rfl ?_
    obtain ⟨x175, hx174, h⟩ := Option.of_bind h
    refine g_andM 3 hx174 rfl trivial rfl rfl ?_ ?_ ?_
    · intro hg174 hx174
      clear h
      have hT174 := Below.refl (World.heap wm168).size wm168
      refine g_run rfl ?_; refine q_loadAgg rfl (Blk.cellsAt (hS.blk 19 rfl) 0 6 rfl) rfl rfl ?_
      refine g_run rfl ?_; refine q_loadAgg rfl (Blk.cellsAt (hS.blk 10 rfl) 0 6 rfl) rfl rfl ?_
      obtain ⟨r177, hr177, hx174⟩ := Option.of_bind hx174
      refine g_run rfl ?_; refine q_call rfl (ref25_Same_w (a0 := (⟨(⟨r112.1.pat.lens, r112.1.pat.ckpts, r112.1.pat.arcs⟩ : Pat), r112.1.clocks, r112.1.vecs, r112.1.forced⟩ : Hist)) (a1 := (⟨(⟨r124.1.pat.lens, r124.1.pat.ckpts, r124.1.pat.arcs⟩ : Pat), ([] : List (List Int)), r124.1.vecs, r124.1.forced⟩ : Hist)) (Sep.all wm168) (f113).old (f114).old (f115).old (f116).old (f117).old (f118).old ((hS.isl 11 rfl)).old ((hS.rowsI 12 13 rfl rfl (by decide))).old ((hS.isl 14 rfl)).old ((IsSlice.nil (Ty.slice Ty.int) _ (fun _ => False))).old ((hS.rowsI 15 16 rfl rfl (by decide))).old ((hS.rowsI 17 18 rfl rfl (by decide))).old hr177) rfl ?_
      rintro _ w176 ⟨R176, rfl, hC176⟩
      have hB176 : Below (World.heap wm168).size wm168 w176 := hC176.stepBF
      refine ⟨fun _ => .of_below hB176, ?_⟩
      replace f141 := f141.ext hB176
      replace f142 := f142.ext hB176
      replace f143 := f143.ext hB176
      replace f144 := f144.ext hB176
      replace f145 := f145.ext hB176
      replace f146 := f146.ext hB176
      replace f113 := f113.ext hB176
      replace f114 := f114.ext hB176
      replace f115 := f115.ext hB176
      replace f116 := f116.ext hB176
      replace f117 := f117.ext hB176
      replace f118 := f118.ext hB176
      replace hT174 := hT174.trans (Below.mono hB176 hT174.size)
      replace hS := hS.below hB176
      cases hx174
      exact eseq_nil ⟨hT174, Sub.set rfl (Sub.set rfl (Sub.set rfl (Sub.bool true rfl hg174))), rfl⟩
    · intro hg174
      refine g_skip rfl rfl rfl ?_
      refine g_skip rfl rfl rfl ?_
      refine g_skip rfl rfl rfl ?_
      exact eseq_nil ⟨rfl, Sub.set rfl (Sub.set rfl (Sub.set rfl (Sub.bool false rfl hg174)))⟩
    intro wm174 hBm174; clear hx174
    replace hS := hS.below hBm174
    replace f141 := f141.ext hBm174
    replace f142 := f142.ext hBm174
    replace f143 := f143.ext hBm174
    replace f144 := f144.ext hBm174
    replace f145 := f145.ext hBm174
    replace f146 := f146.ext hBm174
    refine q_move rfl rfl ?_
    obtain ⟨x183, hx182, h⟩ := Option.of_bind h
    refine g_andM 3 hx182 rfl trivial rfl rfl ?_ ?_ ?_
    · intro hg182 hx182
      clear h
      have hT182 := Below.refl (World.heap wm174).size wm174
      refine g_run rfl ?_; refine q_loadAgg rfl (Blk.cellsAt (hS.blk 9 rfl) 0 6 rfl) rfl rfl ?_
      refine g_run rfl ?_; refine q_loadAgg rfl (Blk.cellsAt (hS.blk 0 rfl) 0 6 rfl) rfl rfl ?_
      obtain ⟨r185, hr185, hx182⟩ := Option.of_bind hx182
      refine g_run rfl ?_; refine q_call rfl (ref25_Same_w (a0 := (⟨(⟨r140.1.pat.lens, r140.1.pat.ckpts, r140.1.pat.arcs⟩ : Pat), r140.1.clocks, r140.1.vecs, r140.1.forced⟩ : Hist)) (a1 := (⟨(⟨r152.1.pat.lens, r152.1.pat.ckpts, r152.1.pat.arcs⟩ : Pat), ([] : List (List Int)), r152.1.vecs, r152.1.forced⟩ : Hist)) (Sep.all wm174) (f141).old (f142).old (f143).old (f144).old (f145).old (f146).old ((hS.isl 1 rfl)).old ((hS.rowsI 2 3 rfl rfl (by decide))).old ((hS.isl 4 rfl)).old ((IsSlice.nil (Ty.slice Ty.int) _ (fun _ => False))).old ((hS.rowsI 5 6 rfl rfl (by decide))).old ((hS.rowsI 7 8 rfl rfl (by decide))).old hr185) rfl ?_
      rintro _ w184 ⟨R184, rfl, hC184⟩
      have hB184 : Below (World.heap wm174).size wm174 w184 := hC184.stepBF
      refine ⟨fun _ => .of_below hB184, ?_⟩
      replace f141 := f141.ext hB184
      replace f142 := f142.ext hB184
      replace f143 := f143.ext hB184
      replace f144 := f144.ext hB184
      replace f145 := f145.ext hB184
      replace f146 := f146.ext hB184
      replace hT182 := hT182.trans (Below.mono hB184 hT182.size)
      replace hS := hS.below hB184
      cases hx182
      exact eseq_nil ⟨hT182, Sub.set rfl (Sub.set rfl (Sub.set rfl (Sub.bool true rfl hg182))), rfl⟩
    · intro hg182
      refine g_skip rfl rfl rfl ?_
      refine g_skip rfl rfl rfl ?_
      refine g_skip rfl rfl rfl ?_
      exact eseq_nil ⟨rfl, Sub.set rfl (Sub.set rfl (Sub.set rfl (Sub.bool false rfl hg182)))⟩
    intro wm182 hBm182; clear hx182
    replace hS := hS.below hBm182
    refine q_assign rfl rfl ?_
    refine eseq_nil ?_
    refine hK165 _ _ ?_
    refine e_ret ?_
    obtain rfl := Option.some.inj h
    exact ⟨_, res1 rfl rfl, _, rfl, (hS.pickB [] 20 rfl rfl)⟩
end Go.Proofs.Ytbmjcbhappjnaaa
