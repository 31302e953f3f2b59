/- Printed walks: A22c. -/
import Derived.Test.YtljpjekifbamfaaA22b
set_option linter.unusedVariables false
set_option linter.unusedSimpArgs false
namespace Go.Mine
open Go.RowKit
def law22_awake_J1 (fuel : Nat) (x178 : (List Int)) (x181 : (List Int)) : Option (Bool) :=
  (andM ((x178.length : Int) == 2) ((ati x178 1).bind fun x190 => some (x190 == 0))).bind fun x189 => (andM x189 (some ((x181.length : Int) == 2))).bind fun x195 => (andM x195 ((ati x181 0).bind fun x202 => some (x202 == 1))).bind fun x201 => (andM x201 ((ati x181 1).bind fun x210 => some (x210 == 0))).bind fun x209 => (andM x209 ((line_Sets fuel 2 1).bind fun r221 => some ((r221.length : Int) == 3))).bind fun x219 => some x219
def law22_awake (fuel : Nat) : Option (Bool) :=
  (line_Failure fuel (⟨[1, 1], [[0], [0]], [(⟨0, 1, 1, 1⟩ : Arc)]⟩ : Pat) ([0])).bind fun r145 => (line_Failure fuel (⟨[1, 1], [[0], [0]], [(⟨0, 1, 1, 1⟩ : Arc)]⟩ : Pat) ([1])).bind fun r150 => law22_awake_J1 fuel r145 r150
end Go.Mine
namespace Go.Proofs.Ytljpjekifbamfaa
open Go.RowKit Go.Mine
attribute [local irreducible] eseq ewp iter
theorem law22_awake_w {F R : Nat → Prop} {w : World} {fuel : Nat} {r : (Bool)} (hS : Sep F R R w w []) (h : law22_awake fuel = some r) :
    Gives Try.prog 31 [] w fun u w1 => ∃ (R1 : Nat → Prop), u = .bool r ∧ Sep F R R1 w w1 [] := by
  refine fn_of Try.func31 rfl Try.ntmps31 (Nat.le_of_ble_eq_true rfl) ?_
  unfold law22_awake at h
  refine e_seq fun K124 hK124 => ?_
  refine e_region_text rfl ?_
  refine q_assign rfl rfl ?_
  refine eseq_nil ?_
  refine hK124 _ _ ?_
  refine e_seq fun K125 hK125 => ?_
  refine e_region_text rfl ?_
  refine q_litO (T := Ty.int) (S := (fun _ => False)) (cells := [[.int .i64 1], [.int .i64 1]]) (ys := [1, 1]) ((Parts.cons rfl rfl (Parts.cons rfl rfl Parts.nil))) rfl rfl rfl rfl rfl rfl rfl (fun w1 hB => ⟨rfl, rfl, trivial⟩) (fun _ h => h.elim) rfl fun w126 v126 ho126 hv126 hB126 => ?_
  replace hS := hS.newOwnS hB126 ho126 hv126 (fun _ h => h.elim)
  refine q_litO (T := Ty.int) (S := (fun _ => False)) (cells := [[.int .i64 0]]) (ys := [0]) ((Parts.cons rfl rfl Parts.nil)) rfl rfl rfl rfl rfl rfl rfl (fun w1 hB => ⟨rfl, trivial⟩) (fun _ h => h.elim) rfl fun w128 v128 ho128 hv128 hB128 => ?_
  replace hS := hS.newOwnS hB128 ho128 hv128 (fun _ h => h.elim)
  refine q_litO (T := Ty.int) (S := (fun _ => False)) (cells := [[.int .i64 0]]) (ys := [0]) ((Parts.cons rfl rfl Parts.nil)) rfl rfl rfl rfl rfl rfl rfl (fun w1 hB => ⟨rfl, trivial⟩) (fun _ h => h.elim) rfl fun w130 v130 ho130 hv130 hB130 => ?_
  replace hS := hS.newOwnS hB130 ho130 hv130 (fun _ h => h.elim)
  refine q_litO (T := Ty.raw) (S := (fun _ => False)) (cells := [[v128], [v130]]) (ys := [v128, v130]) ((Parts.cons rfl (cells_one (hS.own 1 rfl).one) (Parts.cons rfl (cells_one (hS.own 0 rfl).one) Parts.nil))) rfl rfl rfl rfl rfl rfl rfl (fun w1 hB => ⟨⟨rfl, (hS.own 1 rfl).one⟩, ⟨rfl, (hS.own 0 rfl).one⟩, trivial⟩) (fun _ h => h.elim) rfl fun w132 v132 ho132 hv132 hB132 => ?_
  replace hS := hS.newOwnS hB132 ho132 hv132 (fun _ h => h.elim)
  replace hS := hS.pickB [2, 0, 1, 3] 4 rfl rfl; simp only [List.map_cons, List.map_nil, List.getD_cons_zero, List.getD_cons_succ] at hS
  replace hS := hS.famOne
  replace hS := hS.pickB [2, 0, 1, 3] 4 rfl rfl; simp only [List.map_cons, List.map_nil, List.getD_cons_zero, List.getD_cons_succ] at hS
  replace hS := hS.famOne
  replace hS := hS.pickB [1, 0, 2, 3] 4 rfl rfl; simp only [List.map_cons, List.map_nil, List.getD_cons_zero, List.getD_cons_succ] at hS
  replace hS := hS.famCat; simp only [List.cons_append, List.nil_append] at hS
  refine q_build (Parts.cons rfl rfl (Parts.cons rfl rfl (Parts.cons rfl rfl (Parts.cons rfl rfl Parts.nil)))) rfl rfl ?_
  refine q_litO (T := arcTy) (S := (fun _ => False)) (cells := [[.int .i64 0, .int .i64 1, .int .i64 1, .int .i64 1]]) (ys := [(⟨0, 1, 1, 1⟩ : Arc)]) ((Parts.cons rfl rfl Parts.nil)) rfl rfl rfl rfl rfl rfl rfl (fun w1 hB => ⟨⟨[_], _, rfl, rfl, ⟨[_], _, rfl, rfl, ⟨[_], _, rfl, rfl, rfl⟩⟩⟩, trivial⟩) (fun _ h => h.elim) rfl fun w136 v136 ho136 hv136 hB136 => ?_
  replace hS := hS.newOwnS hB136 ho136 hv136 (fun _ h => h.elim)
  refine q_build (Parts.cons rfl (cells_one (hS.own 3 rfl).one) (Parts.cons rfl (cells_one (hS.own 2 rfl).one) (Parts.cons rfl (cells_one (hS.own 0 rfl).one) Parts.nil))) rfl rfl ?_
  refine q_allocB rfl fun w138 bl138 hg138 hb138 hB138 => ?_
  replace hS := hS.newBlk hB138 hg138 hb138
  refine q_storeAgg rfl rfl (hS.blk 0 rfl) rfl (Nat.le_of_ble_eq_true rfl) (all_cons (hS.own 4 rfl).one (all_cons (hS.own 3 rfl).one (all_cons (hS.own 1 rfl).one (all_nil)))) rfl rfl fun w140 hb140 hO140 => ?_
  simp only [setN, List.set, List.take, List.drop] at hb140
  have hk140 := hS.keptBlk 0 rfl hO140
  replace hS := hS.setBlk 0 rfl hb140 hO140; simp only [List.set] at hS
  refine eseq_nil ?_
  refine hK125 _ _ ?_
  refine e_seq fun K141 hK141 => ?_
  have hJt182 : ∀ (x178 : (List Int)) (x181 : (List Int)) (v177 : Value) (v180 : Value) (R174 : Nat → Prop) (w175 : World) (E_ : Env), law22_awake_J1 fuel x178 x181 = some r → Sep F R R174 w w175 [HP.own Ty.int (fun _ => False) 3 v177 x178, HP.own Ty.int (fun _ => False) 3 v180 x181] → Sub [(2, v177), (3, v180)] E_ → K141 E_ w175 := by
    intro x178 x181 v177 v180 R174 w175 E_ h hS  hsub
    refine hK141 _ _ (e_sub hsub ?_); clear hsub
    unfold law22_awake_J1 at h
    refine e_seq fun K183 hK183 => ?_
    refine e_region_text rfl ?_
    refine q_move rfl rfl ?_
    refine q_lenS rfl (hS.isl 0 rfl) rfl ?_
    refine q_eql rfl rfl rfl ?_
    refine q_move rfl rfl ?_
    obtain ⟨x189, hx188, h⟩ := Option.of_bind h
    refine g_andM 4 hx188 rfl trivial rfl rfl ?_ ?_ ?_
    · intro hg188 hx188
      clear h
      have hT188 := Below.refl (World.heap w175).size w175
      refine g_run rfl ?_; refine q_move rfl rfl ?_
      obtain ⟨x190, hx190, hx188⟩ := Option.of_bind hx188
      refine g_run rfl ?_; refine q_indexO (by infer_instance) rfl (hS.own 0 rfl) rfl hx190 rfl ?_
      have f191 := (hS.ownR 0 rfl).elt hx190
      refine g_run rfl ?_; refine q_load rfl (Elt.intCell f191) rfl ?_
      refine g_run rfl ?_; refine q_eql rfl rfl rfl ?_
      cases hx188
      exact eseq_nil ⟨hT188, Sub.set rfl (Sub.set rfl (Sub.set rfl (Sub.set rfl (Sub.bool true rfl hg188)))), rfl⟩
    · intro hg188
      refine g_skip rfl rfl rfl ?_
      refine g_skip rfl rfl rfl ?_
      refine g_skip rfl rfl rfl ?_
      refine g_skip rfl rfl rfl ?_
      exact eseq_nil ⟨rfl, Sub.set rfl (Sub.set rfl (Sub.set rfl (Sub.set rfl (Sub.bool false rfl hg188))))⟩
    intro wm188 hBm188; clear hx188
    replace hS := hS.below hBm188
    refine q_move rfl rfl ?_
    obtain ⟨x195, hx194, h⟩ := Option.of_bind h
    refine g_andM 3 hx194 rfl trivial rfl rfl ?_ ?_ ?_
    · intro hg194 hx194
      clear h
      have hT194 := Below.refl (World.heap wm188).size wm188
      refine g_run rfl ?_; refine q_move rfl rfl ?_
      refine g_run rfl ?_; refine q_lenS rfl (hS.isl 1 rfl) rfl ?_
      refine g_run rfl ?_; refine q_eql rfl rfl rfl ?_
      cases hx194
      exact eseq_nil ⟨hT194, Sub.set rfl (Sub.set rfl (Sub.set rfl (Sub.bool true rfl hg194))), rfl⟩
    · intro hg194
      refine g_skip rfl rfl rfl ?_
      refine g_skip rfl rfl rfl ?_
      refine g_skip rfl rfl rfl ?_
      exact eseq_nil ⟨rfl, Sub.set rfl (Sub.set rfl (Sub.set rfl (Sub.bool false rfl hg194)))⟩
    intro wm194 hBm194; clear hx194
    replace hS := hS.below hBm194
    refine q_move rfl rfl ?_
    obtain ⟨x201, hx200, h⟩ := Option.of_bind h
    refine g_andM 4 hx200 rfl trivial rfl rfl ?_ ?_ ?_
    · intro hg200 hx200
      clear h
      have hT200 := Below.refl (World.heap wm194).size wm194
      refine g_run rfl ?_; refine q_move rfl rfl ?_
      obtain ⟨x202, hx202, hx200⟩ := Option.of_bind hx200
      refine g_run rfl ?_; refine q_indexO (by infer_instance) rfl (hS.own 1 rfl) rfl hx202 rfl ?_
      have f203 := (hS.ownR 1 rfl).elt hx202
      refine g_run rfl ?_; refine q_load rfl (Elt.intCell f203) rfl ?_
      refine g_run rfl ?_; refine q_eql rfl rfl rfl ?_
      cases hx200
      exact eseq_nil ⟨hT200, Sub.set rfl (Sub.set rfl (Sub.set rfl (Sub.set rfl (Sub.bool true rfl hg200)))), rfl⟩
    · intro hg200
      refine g_skip rfl rfl rfl ?_
      refine g_skip rfl rfl rfl ?_
      refine g_skip rfl rfl rfl ?_
      refine g_skip rfl rfl rfl ?_
      exact eseq_nil ⟨rfl, Sub.set rfl (Sub.set rfl (Sub.set rfl (Sub.set rfl (Sub.bool false rfl hg200))))⟩
    intro wm200 hBm200; clear hx200
    replace hS := hS.below hBm200
    refine q_move rfl rfl ?_
    obtain ⟨x209, hx208, h⟩ := Option.of_bind h
    refine g_andM 4 hx208 rfl trivial rfl rfl ?_ ?_ ?_
    · intro hg208 hx208
      clear h
      have hT208 := Below.refl (World.heap wm200).size wm200
      refine g_run rfl ?_; refine q_move rfl rfl ?_
      obtain ⟨x210, hx210, hx208⟩ := Option.of_bind hx208
      refine g_run rfl ?_; refine q_indexO (by infer_instance) rfl (hS.own 1 rfl) rfl hx210 rfl ?_
      have f211 := (hS.ownR 1 rfl).elt hx210
      refine g_run rfl ?_; refine q_load rfl (Elt.intCell f211) rfl ?_
      refine g_run rfl ?_; refine q_eql rfl rfl rfl ?_
      cases hx208
      exact eseq_nil ⟨hT208, Sub.set rfl (Sub.set rfl (Sub.set rfl (Sub.set rfl (Sub.bool true rfl hg208)))), rfl⟩
    · intro hg208
      refine g_skip rfl rfl rfl ?_
      refine g_skip rfl rfl rfl ?_
      refine g_skip rfl rfl rfl ?_
      refine g_skip rfl rfl rfl ?_
      exact eseq_nil ⟨rfl, Sub.set rfl (Sub.set rfl (Sub.set rfl (Sub.set rfl (Sub.bool false rfl hg208))))⟩
    intro wm208 hBm208; clear hx208
    replace hS := hS.below hBm208
    refine q_move rfl rfl ?_
    obtain ⟨x219, hx218, h⟩ := Option.of_bind h
    refine g_andM 3 hx218 rfl trivial rfl rfl ?_ ?_ ?_
    · intro hg218 hx218
      clear h
      have hT218 := Below.refl (World.heap wm208).size wm208
      obtain ⟨r221, hr221, hx218⟩ := Option.of_bind hx218
      refine g_run rfl ?_; refine q_call rfl (line_Sets_w (Sep.enter (As := []) hS)  hr221) rfl ?_
      rintro v222 w220 ⟨_, v223, R220, rfl, hC220⟩
      have hB220 : Below (World.heap wm208).size wm208 w220 := hC220.stepB0
      refine ⟨fun _ => .of_below hB220, ?_⟩
      replace hT218 := hT218.trans (Below.mono hB220 hT218.size)
      replace hS := Sep.leave (As := []) hS hC220; simp only [List.cons_append, List.nil_append] at hS
      refine g_run rfl ?_; refine q_lenR rfl (hS.own 0 rfl) (hS.famLen 1 rfl) rfl ?_
      refine g_run rfl ?_; refine q_eql rfl rfl rfl ?_
      cases hx218
      exact eseq_nil ⟨hT218, Sub.set rfl (Sub.set rfl (Sub.set rfl (Sub.bool true rfl hg218))), rfl⟩
    · intro hg218
      refine g_skip rfl rfl rfl ?_
      refine g_skip rfl rfl rfl ?_
      refine g_skip rfl rfl rfl ?_
      exact eseq_nil ⟨rfl, Sub.set rfl (Sub.set rfl (Sub.set rfl (Sub.bool false rfl hg218)))⟩
    intro wm218 hBm218; clear hx218
    replace hS := hS.below hBm218
    refine q_assign rfl rfl ?_
    refine eseq_nil ?_
    refine hK183 _ _ ?_
    refine e_ret ?_
    obtain rfl := Option.some.inj h
    exact ⟨_, res1 rfl rfl, _, rfl, (hS.pickB [] 2 rfl rfl)⟩
  obtain ⟨r145, hr145, h⟩ := Option.of_bind h
  obtain ⟨r150, hr150, h⟩ := Option.of_bind h
  refine e_region_T mixed (fun _ => False) [0, 0, 3, 0, 0, 31, 63, 127] [1, 2, 4] (QT.op 0 (QT.op 3 (QT.alt (QT.op 1 (QT.alt (QT.op 2 (QT.op 4 (QT.op 5 (QT.op 6 (QT.op 7 QT.fin))))) (QT.op 4 (QT.op 2 (QT.op 5 (QT.op 6 (QT.op 7 QT.fin))))))) (QT.op 4 (QT.op 1 (QT.op 2 (QT.op 5 (QT.op 6 (QT.op 7 QT.fin))))))))) (by kernel_rfl) ?_
  refine t_op ?_
  refine q_loadAgg rfl (Blk.cellsAt (hS.blk 0 rfl) 0 3 rfl) rfl rfl ?_
  refine eseq_nil ?_
  refine t_op ?_
  refine q_loadAgg rfl (Blk.cellsAt (hS.blk 0 rfl) 0 3 rfl) rfl rfl ?_
  refine eseq_nil ?_
  refine t_alt ?_ ?_
  · skip
    refine t_op ?_
    refine q_litO (T := Ty.int) (S := (fun _ => False)) (cells := [[.int .i64 0]]) (ys := [0]) ((Parts.cons rfl rfl Parts.nil)) rfl rfl rfl rfl rfl rfl rfl (fun w1 hB => ⟨rfl, trivial⟩) (fun _ h => h.elim) rfl fun w224 v224 ho224 hv224 hB224 => ?_
    replace hS := hS.newOwnS hB224 ho224 hv224 (fun _ h => h.elim)
    refine eseq_nil ?_
    refine t_alt ?_ ?_
    · skip
      refine t_op ?_
      refine q_call rfl (line_Failure_w (a0 := (⟨[1, 1], [[0], [0]], [(⟨0, 1, 1, 1⟩ : Arc)]⟩ : Pat)) (Sep.all w224) ((hS.isl 5 rfl)).old ((hS.rowsI 4 3 rfl rfl (by decide))).old ((hS.isl 2 rfl)).old ((hS.isl 0 rfl)).old hr145) rfl ?_
      rintro v227 w226 ⟨_, R226, rfl, hC226⟩
      have hB226 : Below (World.heap w224).size w224 w226 := hC226.stepBF
      refine ⟨fun _ => .of_below hB226, ?_⟩
      replace hS := hS.newOwnS hB226 (hC226.own 0 rfl) (hC226.fresh 0 rfl) (fun _ h => h.elim)
      refine eseq_nil ?_
      refine t_op ?_
      refine q_litO (T := Ty.int) (S := (fun _ => False)) (cells := [[.int .i64 1]]) (ys := [1]) ((Parts.cons rfl rfl Parts.nil)) rfl rfl rfl rfl rfl rfl rfl (fun w1 hB => ⟨rfl, trivial⟩) (fun _ h => h.elim) rfl fun w228 v228 ho228 hv228 hB228 => ?_
      replace hS := hS.newOwnS hB228 ho228 hv228 (fun _ h => h.elim)
      refine eseq_nil ?_
      refine t_op ?_
      refine q_call rfl (line_Failure_w (a0 := (⟨[1, 1], [[0], [0]], [(⟨0, 1, 1, 1⟩ : Arc)]⟩ : Pat)) (Sep.all w228) ((hS.isl 7 rfl)).old ((hS.rowsI 6 5 rfl rfl (by decide))).old ((hS.isl 4 rfl)).old ((hS.isl 0 rfl)).old hr150) rfl ?_
      rintro v231 w230 ⟨_, R230, rfl, hC230⟩
      have hB230 : Below (World.heap w228).size w228 w230 := hC230.stepBF
      refine ⟨fun _ => .of_below hB230, ?_⟩
      replace hS := hS.newOwnS hB230 (hC230.own 0 rfl) (hC230.fresh 0 rfl) (fun _ h => h.elim)
      refine eseq_nil ?_
      refine t_op ?_
      refine q_assign rfl rfl ?_
      refine eseq_nil ?_
      refine t_op ?_
      refine q_assign rfl rfl ?_
      refine eseq_nil ?_
      refine t_fin ?_
      exact hJt182 r145 r150 v227 v231 _ _ _ h (hS.pickB [2, 0] 9 rfl rfl)  (Sub.cons rfl (Sub.cons rfl (Sub.nil _)))
    · skip
      refine t_op ?_
      refine q_litO (T := Ty.int) (S := (fun _ => False)) (cells := [[.int .i64 1]]) (ys := [1]) ((Parts.cons rfl rfl Parts.nil)) rfl rfl rfl rfl rfl rfl rfl (fun w1 hB => ⟨rfl, trivial⟩) (fun _ h => h.elim) rfl fun w232 v232 ho232 hv232 hB232 => ?_
      replace hS := hS.newOwnS hB232 ho232 hv232 (fun _ h => h.elim)
      refine eseq_nil ?_
      refine t_op ?_
      refine q_call rfl (line_Failure_w (a0 := (⟨[1, 1], [[0], [0]], [(⟨0, 1, 1, 1⟩ : Arc)]⟩ : Pat)) (Sep.all w232) ((hS.isl 6 rfl)).old ((hS.rowsI 5 4 rfl rfl (by decide))).old ((hS.isl 3 rfl)).old ((hS.isl 1 rfl)).old hr145) rfl ?_
      rintro v235 w234 ⟨_, R234, rfl, hC234⟩
      have hB234 : Below (World.heap w232).size w232 w234 := hC234.stepBF
      refine ⟨fun _ => .of_below hB234, ?_⟩
      replace hS := hS.newOwnS hB234 (hC234.own 0 rfl) (hC234.fresh 0 rfl) (fun _ h => h.elim)
      refine eseq_nil ?_
      refine t_op ?_
      refine q_call rfl (line_Failure_w (a0 := (⟨[1, 1], [[0], [0]], [(⟨0, 1, 1, 1⟩ : Arc)]⟩ : Pat)) (Sep.all w234) ((hS.isl 7 rfl)).old ((hS.rowsI 6 5 rfl rfl (by decide))).old ((hS.isl 4 rfl)).old ((hS.isl 1 rfl)).old hr150) rfl ?_
      rintro v237 w236 ⟨_, R236, rfl, hC236⟩
      have hB236 : Below (World.heap w234).size w234 w236 := hC236.stepBF
      refine ⟨fun _ => .of_below hB236, ?_⟩
      replace hS := hS.newOwnS hB236 (hC236.own 0 rfl) (hC236.fresh 0 rfl) (fun _ h => h.elim)
      refine eseq_nil ?_
      refine t_op ?_
      refine q_assign rfl rfl ?_
      refine eseq_nil ?_
      refine t_op ?_
      refine q_assign rfl rfl ?_
      refine eseq_nil ?_
      refine t_fin ?_
      exact hJt182 r145 r150 v235 v237 _ _ _ h (hS.pickB [1, 0] 9 rfl rfl)  (Sub.cons rfl (Sub.cons rfl (Sub.nil _)))
  · skip
    refine t_op ?_
    refine q_litO (T := Ty.int) (S := (fun _ => False)) (cells := [[.int .i64 1]]) (ys := [1]) ((Parts.cons rfl rfl Parts.nil)) rfl rfl rfl rfl rfl rfl rfl (fun w1 hB => ⟨rfl, trivial⟩) (fun _ h => h.elim) rfl fun w238 v238 ho238 hv238 hB238 => ?_
    replace hS := hS.newOwnS hB238 ho238 hv238 (fun _ h => h.elim)
    refine eseq_nil ?_
    refine t_op ?_
    refine q_litO (T := Ty.int) (S := (fun _ => False)) (cells := [[.int .i64 0]]) (ys := [0]) ((Parts.cons rfl rfl Parts.nil)) rfl rfl rfl rfl rfl rfl rfl (fun w1 hB => ⟨rfl, trivial⟩) (fun _ h => h.elim) rfl fun w240 v240 ho240 hv240 hB240 => ?_
    replace hS := hS.newOwnS hB240 ho240 hv240 (fun _ h => h.elim)
    refine eseq_nil ?_
    refine t_op ?_
    refine q_call rfl (line_Failure_w (a0 := (⟨[1, 1], [[0], [0]], [(⟨0, 1, 1, 1⟩ : Arc)]⟩ : Pat)) (Sep.all w240) ((hS.isl 6 rfl)).old ((hS.rowsI 5 4 rfl rfl (by decide))).old ((hS.isl 3 rfl)).old ((hS.isl 0 rfl)).old hr145) rfl ?_
    rintro v243 w242 ⟨_, R242, rfl, hC242⟩
    have hB242 : Below (World.heap w240).size w240 w242 := hC242.stepBF
    refine ⟨fun _ => .of_below hB242, ?_⟩
    replace hS := hS.newOwnS hB242 (hC242.own 0 rfl) (hC242.fresh 0 rfl) (fun _ h => h.elim)
    refine eseq_nil ?_
    refine t_op ?_
    refine q_call rfl (line_Failure_w (a0 := (⟨[1, 1], [[0], [0]], [(⟨0, 1, 1, 1⟩ : Arc)]⟩ : Pat)) (Sep.all w242) ((hS.isl 7 rfl)).old ((hS.rowsI 6 5 rfl rfl (by decide))).old ((hS.isl 4 rfl)).old ((hS.isl 2 rfl)).old hr150) rfl ?_
    rintro v245 w244 ⟨_, R244, rfl, hC244⟩
    have hB244 : Below (World.heap w242).size w242 w244 := hC244.stepBF
    refine ⟨fun _ => .of_below hB244, ?_⟩
    replace hS := hS.newOwnS hB244 (hC244.own 0 rfl) (hC244.fresh 0 rfl) (fun _ h => h.elim)
    refine eseq_nil ?_
    refine t_op ?_
    refine q_assign rfl rfl ?_
    refine eseq_nil ?_
    refine t_op ?_
    refine q_assign rfl rfl ?_
    refine eseq_nil ?_
    refine t_fin ?_
    exact hJt182 r145 r150 v243 v245 _ _ _ h (hS.pickB [1, 0] 9 rfl rfl)  (Sub.cons rfl (Sub.cons rfl (Sub.nil _)))
end Go.Proofs.Ytljpjekifbamfaa
