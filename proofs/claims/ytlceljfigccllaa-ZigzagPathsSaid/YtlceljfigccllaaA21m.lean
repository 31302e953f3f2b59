/- Printed walks: A21m. -/
import Derived.Test.YtlceljfigccllaaA21
import Derived.Test.YtlceljfigccllaaApat
set_option linter.unusedVariables false
set_option linter.unusedSimpArgs false
namespace Go.Mine
open Go.RowKit
def law21_useless (fuel : Nat) : Option (Pat) :=
  some (⟨[2, 3], [[0], [0, 1]], [(⟨0, 1, 1, 1⟩ : Arc), (⟨1, 2, 0, 2⟩ : Arc)]⟩ : Pat)
def law21_awake (fuel : Nat) : Option (Bool) :=
  (law21_useless fuel).bind fun r141 => (zigzag_Useless fuel r141).bind fun r147 => (andM ((r147.length : Int) == 1) ((ati r147 0).bind fun x219 => some ((x219.proc == 1) && ((x219.index == 1) && true)))).bind fun x218 => (andM x218 ((law21_useless fuel).bind fun r235 => (zigzag_Trackable fuel r235).bind fun r241 => some (!r241))).bind fun x233 => (andM x233 ((ati r147 0).bind fun x260 => (ati r147 0).bind fun x263 => (law21_useless fuel).bind fun r267 => (zigzag_Path fuel r267 x260 x263).bind fun r273 => some r273)).bind fun x259 => some x259
end Go.Mine
namespace Go.Proofs.Ytlceljfigccllaa
open Go.RowKit Go.Mine
attribute [local irreducible] eseq ewp iter
theorem law21_useless_w {F R : Nat → Prop} {w : World} {fuel : Nat} {r : (Pat)} (hS : Sep F R R w w []) (h : law21_useless fuel = some r) :
    Gives Try.prog 54 [] w fun u w1 => ∃ (v18 : Value), ∃ (v19 : Value), ∃ (v20 : List Value), ∃ (v21 : Value), ∃ (R1 : Nat → Prop), u = .agg #[v18, v19, v21] ∧ Sep F R R1 w w1 [HP.own Ty.int (fun _ => False) 3 v18 r.lens, HP.own Ty.raw (fun _ => False) 24 v19 v20, HP.famS Ty.int (fun _ => False) 3 v20 r.ckpts, HP.own arcTy (fun _ => False) 86 v21 r.arcs] := by
  refine fn_of Try.func54 rfl Try.ntmps54 (Nat.le_of_ble_eq_true rfl) ?_
  unfold law21_useless at h
  refine e_seq fun K22 hK22 => ?_
  refine e_region_text rfl ?_
  refine q_allocB rfl fun w23 bl23 hg23 hb23 hB23 => ?_
  replace hS := hS.newBlk hB23 hg23 hb23
  refine eseq_nil ?_
  refine hK22 _ _ ?_
  refine e_seq fun K25 hK25 => ?_
  refine e_region_text rfl ?_
  refine q_litO (T := Ty.int) (S := (fun _ => False)) (cells := [[.int .i64 2], [.int .i64 3]]) (ys := [2, 3]) ((Parts.cons rfl rfl (Parts.cons rfl rfl Parts.nil))) rfl rfl rfl rfl rfl rfl rfl (fun w1 hB => ⟨rfl, rfl, trivial⟩) (fun _ h => h.elim) rfl fun w26 v26 ho26 hv26 hB26 => ?_
  replace hS := hS.newOwnS hB26 ho26 hv26 (fun _ h => h.elim)
  refine q_litO (T := Ty.int) (S := (fun _ => False)) (cells := [[.int .i64 0]]) (ys := [0]) ((Parts.cons rfl rfl Parts.nil)) rfl rfl rfl rfl rfl rfl rfl (fun w1 hB => ⟨rfl, trivial⟩) (fun _ h => h.elim) rfl fun w28 v28 ho28 hv28 hB28 => ?_
  replace hS := hS.newOwnS hB28 ho28 hv28 (fun _ h => h.elim)
  refine q_litO (T := Ty.int) (S := (fun _ => False)) (cells := [[.int .i64 0], [.int .i64 1]]) (ys := [0, 1]) ((Parts.cons rfl rfl (Parts.cons rfl rfl Parts.nil))) rfl rfl rfl rfl rfl rfl rfl (fun w1 hB => ⟨rfl, rfl, trivial⟩) (fun _ h => h.elim) rfl fun w30 v30 ho30 hv30 hB30 => ?_
  replace hS := hS.newOwnS hB30 ho30 hv30 (fun _ h => h.elim)
  refine q_litO (T := Ty.raw) (S := (fun _ => False)) (cells := [[v28], [v30]]) (ys := [v28, v30]) ((Parts.cons rfl (cells_one (hS.own 1 rfl).one) (Parts.cons rfl (cells_one (hS.own 0 rfl).one) Parts.nil))) rfl rfl rfl rfl rfl rfl rfl (fun w1 hB => ⟨⟨rfl, (hS.own 1 rfl).one⟩, ⟨rfl, (hS.own 0 rfl).one⟩, trivial⟩) (fun _ h => h.elim) rfl fun w32 v32 ho32 hv32 hB32 => ?_
  replace hS := hS.newOwnS hB32 ho32 hv32 (fun _ h => h.elim)
  replace hS := hS.pickB [2, 0, 1, 3, 4] 5 rfl rfl; simp only [List.map_cons, List.map_nil, List.getD_cons_zero, List.getD_cons_succ] at hS
  replace hS := hS.famOne
  replace hS := hS.pickB [2, 0, 1, 3, 4] 5 rfl rfl; simp only [List.map_cons, List.map_nil, List.getD_cons_zero, List.getD_cons_succ] at hS
  replace hS := hS.famOne
  replace hS := hS.pickB [1, 0, 2, 3, 4] 5 rfl rfl; simp only [List.map_cons, List.map_nil, List.getD_cons_zero, List.getD_cons_succ] at hS
  replace hS := hS.famCat; simp only [List.cons_append, List.nil_append] at hS
  refine q_build (Parts.cons rfl rfl (Parts.cons rfl rfl (Parts.cons rfl rfl (Parts.cons rfl rfl Parts.nil)))) rfl rfl ?_
  refine q_build (Parts.cons rfl rfl (Parts.cons rfl rfl (Parts.cons rfl rfl (Parts.cons rfl rfl Parts.nil)))) rfl rfl ?_
  refine q_litO (T := arcTy) (S := (fun _ => False)) (cells := [[.int .i64 0, .int .i64 1, .int .i64 1, .int .i64 1], [.int .i64 1, .int .i64 2, .int .i64 0, .int .i64 2]]) (ys := [(⟨0, 1, 1, 1⟩ : Arc), (⟨1, 2, 0, 2⟩ : Arc)]) ((Parts.cons rfl rfl (Parts.cons rfl rfl Parts.nil))) rfl rfl rfl rfl rfl rfl rfl (fun w1 hB => ⟨⟨[_], _, rfl, rfl, ⟨[_], _, rfl, rfl, ⟨[_], _, rfl, rfl, rfl⟩⟩⟩, ⟨[_], _, rfl, rfl, ⟨[_], _, rfl, rfl, ⟨[_], _, rfl, rfl, rfl⟩⟩⟩, trivial⟩) (fun _ h => h.elim) rfl fun w36 v36 ho36 hv36 hB36 => ?_
  replace hS := hS.newOwnS hB36 ho36 hv36 (fun _ h => h.elim)
  refine q_build (Parts.cons rfl (cells_one (hS.own 3 rfl).one) (Parts.cons rfl (cells_one (hS.own 2 rfl).one) (Parts.cons rfl (cells_one (hS.own 0 rfl).one) Parts.nil))) rfl rfl ?_
  refine q_storeAgg rfl rfl (hS.blk 4 rfl) rfl (Nat.le_of_ble_eq_true rfl) (all_cons (hS.own 3 rfl).one (all_cons (hS.own 2 rfl).one (all_cons (hS.own 0 rfl).one (all_nil)))) rfl rfl fun w38 hb38 hO38 => ?_
  simp only [setN, List.set, List.take, List.drop] at hb38
  have hk38 := hS.keptBlk 4 rfl hO38
  replace hS := hS.setBlk 4 rfl hb38 hO38; simp only [List.set] at hS
  refine eseq_nil ?_
  refine hK25 _ _ ?_
  refine e_ret ?_
  obtain rfl := Option.some.inj h
  exact ⟨_, resC1 rfl rfl ((hS.blk 4 rfl).cellsAt 0 3 rfl) rfl, v26, v32, ([v28, v30]), v36, _, rfl, (hS.pickB [3, 2, 1, 0] 5 rfl rfl)⟩
theorem law21_awake_w {F R : Nat → Prop} {w : World} {fuel : Nat} {r : (Bool)} (hS : Sep F R R w w []) (h : law21_awake fuel = some r) :
    Gives Try.prog 15 [] w fun u w1 => ∃ (R1 : Nat → Prop), u = .bool r ∧ Sep F R R1 w w1 [] := by
  refine fn_of Try.func15 rfl Try.ntmps15 (Nat.le_of_ble_eq_true rfl) ?_
  unfold law21_awake at h
  refine e_seq fun K138 hK138 => ?_
  refine e_region_text rfl ?_
  refine q_assign rfl rfl ?_
  refine eseq_nil ?_
  refine hK138 _ _ ?_
  refine e_seq fun K139 hK139 => ?_
  refine e_region_text rfl ?_
  obtain ⟨r141, hr141, h⟩ := Option.of_bind h
  refine q_call rfl (law21_useless_w (Sep.enter (As := []) hS)  hr141) rfl ?_
  rintro _ w140 ⟨v142, v143, v144, v145, R140, rfl, hC140⟩
  have hB140 : Below (World.heap w).size w w140 := hC140.stepB0
  refine ⟨fun _ => .of_below hB140, ?_⟩
  replace hS := Sep.leave (As := []) hS hC140; simp only [List.cons_append, List.nil_append] at hS
  obtain ⟨r147, hr147, h⟩ := Option.of_bind h
  refine q_call rfl (zigzag_Useless_w (a0 := r141) (Sep.all w140) ((hS.isl 0 rfl)).old ((hS.rowsI 1 2 rfl rfl (by decide))).old ((hS.isl 3 rfl)).old hr147) rfl ?_
  rintro v148 w146 ⟨_, R146, rfl, hC146⟩
  have hB146 : Below (World.heap w140).size w140 w146 := hC146.stepBF
  refine ⟨fun _ => .of_below hB146, ?_⟩
  replace hS := hS.newOwnS hB146 (hC146.own 0 rfl) (hC146.fresh 0 rfl) (fun _ h => h.elim)
  refine q_assign rfl rfl ?_
  refine eseq_nil ?_
  refine hK139 _ _ ?_
  refine e_seq fun K149 hK149 => ?_
  refine e_region_draw mixed (fun _ => False) [0, 1, 3, 7, 15, 31, 63, 15, 255, 511, 1023, 2047, 4095, 8191, 16383, 32767, 65535, 65535, 196607, 458751, 65535, 1114111, 3211263, 8388607, 16777215, 33554431] [16] [0, 1, 2, 3, 4, 5, 6, 7, 8, 9, 10, 11, 12, 13, 14, 15, 17, 18, 19, 20, 21, 22, 16, 23, 24, 25] (by kernel_rfl) ?_
  refine q_move rfl rfl ?_
  refine q_lenS rfl (hS.isl 0 rfl) rfl ?_
  refine q_eql rfl rfl rfl ?_
  refine q_move rfl rfl ?_
  obtain ⟨x218, hx217, h⟩ := Option.of_bind h
  refine g_andM 5 hx217 rfl trivial rfl rfl ?_ ?_ ?_
  · intro hg217 hx217
    clear h
    have hT217 := Below.refl (World.heap w146).size w146
    refine g_run rfl ?_; refine q_move rfl rfl ?_
    obtain ⟨x219, hx219, hx217⟩ := Option.of_bind hx217
    refine g_run rfl ?_; refine q_indexO (by infer_instance) rfl (hS.own 0 rfl) rfl hx219 rfl ?_
    have f220 := (hS.ownR 0 rfl).elt hx219
    have hc221 := Pt_open f220
    refine g_run rfl ?_; refine q_loadAgg rfl hc221 rfl rfl ?_
    refine g_run rfl ?_; refine q_build (Parts.cons rfl rfl (Parts.cons rfl rfl Parts.nil)) rfl rfl ?_
    refine g_run rfl ?_; refine q_eqlA eqT36 (by kernel_rfl) rfl rfl rfl ?_
    cases hx217
    exact eseq_nil ⟨hT217, Sub.set rfl (Sub.set rfl (Sub.set rfl (Sub.set rfl (Sub.set rfl (Sub.bool true rfl hg217))))), rfl⟩
  · intro hg217
    refine g_skip rfl rfl rfl ?_
    refine g_skip rfl rfl rfl ?_
    refine g_skip rfl rfl rfl ?_
    refine g_skip rfl rfl rfl ?_
    refine g_skip rfl rfl rfl ?_
    exact eseq_nil ⟨rfl, Sub.set rfl (Sub.set rfl (Sub.set rfl (Sub.set rfl (Sub.set rfl (Sub.bool false rfl hg217)))))⟩
  intro wm217 hBm217; clear hx217
  replace hS := hS.below hBm217
  refine q_move rfl rfl ?_
  obtain ⟨x233, hx232, h⟩ := Option.of_bind h
  refine g_andM 3 hx232 rfl trivial rfl rfl ?_ ?_ ?_
  · intro hg232 hx232
    clear h
    have hT232 := Below.refl (World.heap wm217).size wm217
    obtain ⟨r235, hr235, hx232⟩ := Option.of_bind hx232
    refine g_run rfl ?_; refine q_call rfl (law21_useless_w (Sep.enter (As := []) hS)  hr235) rfl ?_
    rintro _ w234 ⟨v236, v237, v238, v239, R234, rfl, hC234⟩
    have hB234 : Below (World.heap wm217).size wm217 w234 := hC234.stepB0
    refine ⟨fun _ => .of_below hB234, ?_⟩
    replace hT232 := hT232.trans (Below.mono hB234 hT232.size)
    replace hS := Sep.leave (As := []) hS hC234; simp only [List.cons_append, List.nil_append] at hS
    obtain ⟨r241, hr241, hx232⟩ := Option.of_bind hx232
    refine g_run rfl ?_; refine q_call rfl (zigzag_Trackable_w (a0 := r235) (Sep.all w234) ((hS.isl 0 rfl)).old ((hS.rowsI 1 2 rfl rfl (by decide))).old ((hS.isl 3 rfl)).old hr241) rfl ?_
    rintro _ w240 ⟨R240, rfl, hC240⟩
    have hB240 : Below (World.heap w234).size w234 w240 := hC240.stepBF
    refine ⟨fun _ => .of_below hB240, ?_⟩
    replace hT232 := hT232.trans (Below.mono hB240 hT232.size)
    replace hS := hS.below hB240
    refine g_run rfl ?_; refine q_not rfl rfl ?_
    cases hx232
    exact eseq_nil ⟨hT232, Sub.set rfl (Sub.set rfl (Sub.set rfl (Sub.bool true rfl hg232))), rfl⟩
  · intro hg232
    refine g_skip rfl rfl rfl ?_
    refine g_skip rfl rfl rfl ?_
    refine g_skip rfl rfl rfl ?_
    exact eseq_nil ⟨rfl, Sub.set rfl (Sub.set rfl (Sub.set rfl (Sub.bool false rfl hg232)))⟩
  intro wm232 hBm232; clear hx232
  replace hS := hS.below hBm232
  refine q_move rfl rfl ?_
  obtain ⟨x259, hx258, h⟩ := Option.of_bind h
  refine g_andM 8 hx258 rfl trivial rfl rfl ?_ ?_ ?_
  · intro hg258 hx258
    clear h
    have hT258 := Below.refl (World.heap wm232).size wm232
    refine g_run rfl ?_; refine q_move rfl rfl ?_
    obtain ⟨x260, hx260, hx258⟩ := Option.of_bind hx258
    refine g_run rfl ?_; refine q_indexO (by infer_instance) rfl (hS.own 0 rfl) rfl hx260 rfl ?_
    have f261 := (hS.ownR 0 rfl).elt hx260
    have hc262 := Pt_open f261
    refine g_run rfl ?_; refine q_loadAgg rfl hc262 rfl rfl ?_
    refine g_run rfl ?_; refine q_move rfl rfl ?_
    obtain ⟨x263, hx263, hx258⟩ := Option.of_bind hx258
    refine g_run rfl ?_; refine q_indexO (by infer_instance) rfl (hS.own 0 rfl) rfl hx263 rfl ?_
    have f264 := (hS.ownR 0 rfl).elt hx263
    have hc265 := Pt_open f264
    refine g_run rfl ?_; refine q_loadAgg rfl hc265 rfl rfl ?_
    obtain ⟨r267, hr267, hx258⟩ := Option.of_bind hx258
    refine g_run rfl ?_; refine q_call rfl (law21_useless_w (Sep.enter (As := []) hS)  hr267) rfl ?_
    rintro _ w266 ⟨v268, v269, v270, v271, R266, rfl, hC266⟩
    have hB266 : Below (World.heap wm232).size wm232 w266 := hC266.stepB0
    refine ⟨fun _ => .of_below hB266, ?_⟩
    replace hT258 := hT258.trans (Below.mono hB266 hT258.size)
    replace hS := Sep.leave (As := []) hS hC266; simp only [List.cons_append, List.nil_append] at hS
    obtain ⟨r273, hr273, hx258⟩ := Option.of_bind hx258
    refine g_run rfl ?_; refine q_call rfl (zigzag_Path_w (a0 := r267) (a1 := x260) (a2 := x263) (Sep.all w266) ((hS.isl 0 rfl)).old ((hS.rowsI 1 2 rfl rfl (by decide))).old ((hS.isl 3 rfl)).old hr273) rfl ?_
    rintro _ w272 ⟨R272, rfl, hC272⟩
    have hB272 : Below (World.heap w266).size w266 w272 := hC272.stepBF
    refine ⟨fun _ => .of_below hB272, ?_⟩
    replace hT258 := hT258.trans (Below.mono hB272 hT258.size)
    replace hS := hS.below hB272
    cases hx258
    exact eseq_nil ⟨hT258, Sub.set rfl (Sub.set rfl (Sub.set rfl (Sub.set rfl (Sub.set rfl (Sub.set rfl (Sub.set rfl (Sub.set rfl (Sub.bool true rfl hg258)))))))), rfl⟩
  · intro hg258
    refine g_skip rfl rfl rfl ?_
    refine g_skip rfl rfl rfl ?_
    refine g_skip rfl rfl rfl ?_
    refine g_skip rfl rfl rfl ?_
    refine g_skip rfl rfl rfl ?_
    refine g_skip rfl rfl rfl ?_
    refine g_skip rfl rfl rfl ?_
    refine g_skip rfl rfl rfl ?_
    exact eseq_nil ⟨rfl, Sub.set rfl (Sub.set rfl (Sub.set rfl (Sub.set rfl (Sub.set rfl (Sub.set rfl (Sub.set rfl (Sub.set rfl (Sub.bool false rfl hg258))))))))⟩
  intro wm258 hBm258; clear hx258
  replace hS := hS.below hBm258
  refine q_assign rfl rfl ?_
  refine eseq_nil ?_
  refine hK149 _ _ ?_
  refine e_ret ?_
  obtain rfl := Option.some.inj h
  exact ⟨_, res1 rfl rfl, _, rfl, (hS.pickB [] 5 rfl rfl)⟩
end Go.Proofs.Ytlceljfigccllaa
