/- Printed walks: A33c. -/
import Derived.Test.YtddohdppmejjoaaA33b
import Derived.Test.YtddohdppmejjoaaClip
import Derived.Test.YtddohdppmejjoaaDel
set_option linter.unusedVariables false
set_option linter.unusedSimpArgs false
namespace Go.Mine
open Go.RowKit
def clipEvents (fuel : Nat) (a0 : List Evt) : Option (List Evt) := some a0
def machine_event (fuel : Nat) (a1 : Int) (a2 : Evt) (c0_0 : (List Branch)) (c0_1 : (List Letter)) : Option ((List Branch)) :=
  (ati c0_0 a1).bind fun x51 => (clipEvents fuel x51.events).bind fun r60 => (snoc r60 (⟨a2.kind, x51.inc, a2.frm, (⟨a2.sent.inc, a2.sent.index⟩ : Lab), a2.ord, a2.value⟩ : Evt)).bind fun x67 => (seti c0_0 a1 ({ x51 with events := x67 })).bind fun x70 => some x70
def machine_send (fuel : Nat) (a1 : Int) (a2 : Int) (c0_0 : (List Branch)) (c0_1 : (List Letter)) : Option ((List Branch) × (List Letter)) :=
  (machine_event fuel a1 (⟨2, 0, 0, (⟨0, 0⟩ : Lab), 0, 0⟩ : Evt) c0_0 c0_1).bind fun r35 => (ati r35 a1).bind fun x38 => (snoc c0_1 (⟨a1, a2, false, (⟨x38.inc, (x38.events.length : Int)⟩ : Lab), (⟨0, 0, 0⟩ : EndI)⟩ : Letter)).bind fun x58 => some (r35, x58)
end Go.Mine
namespace Go.Proofs.Ytddohdppmejjoaa
open Go.RowKit Go.Mine
attribute [local irreducible] eseq ewp iter
theorem clipEvents_w {F R : Nat → Prop} {w : World} {fuel : Nat} {a0 : List Evt} {v1 : Value} {r : List Evt} (hS : Sep F R R w w []) (f1 : IsSlice evtTy w R v1 a0) (h : clipEvents fuel a0 = some r) :
    Gives Try.prog 66 [v1] w fun u w1 => ∃ (v2 : Value), ∃ (R1 : Nat → Prop), u = v2 ∧ Sep F R R1 w w1 [] ∧ IsSlice evtTy w1 R1 v2 r ∧ FullS v2 := by
  cases h
  refine fn_of Try.func66 rfl Try.ntmps66 (Nat.le_of_ble_eq_true rfl) ?_
  refine e_seq fun K hK => ?_
  refine e_region_text rfl ?_
  refine q_assign rfl rfl ?_
  refine eseq_nil ?_
  refine hK _ _ ?_; clear hK
  refine e_seq fun K hK => ?_
  refine e_region_text rfl ?_
  refine q_move rfl rfl ?_
  refine q_move rfl rfl ?_
  refine q_lenS rfl f1 rfl ?_
  refine q_move rfl rfl ?_
  refine q_lenS rfl f1 rfl ?_
  refine q_clip (T := evtTy) (inferInstance : TSlice Try.prog 45 83 7) rfl f1 rfl rfl rfl fun v8 f8 hf8 => ?_
  refine q_assign rfl rfl ?_
  refine eseq_nil ?_
  refine hK _ _ ?_; clear hK
  refine e_ret ?_
  exact ⟨_, res1 rfl rfl, _, R, rfl, hS, f8, hf8⟩
theorem machine_event_w {F R : Nat → Prop} {w : World} {fuel : Nat} {a1 : Int} {a2 : Evt} {c0_0 : (List Branch)} {c0_1 : (List Letter)} {B0 : Nat} {v2 : Value} {v3 : Value} {r : ((List Branch))} (hS : Sep F R R w w [HP.blk B0 [v2, v3] 74, HP.own branchTy R 48 v2 c0_0, HP.own letterTy (fun _ => False) 43 v3 c0_1]) (h : machine_event fuel a1 a2 c0_0 c0_1 = some r) :
    Gives Try.prog 59 [.pointer (some ⟨B0, 0, none⟩), .int .i64 a1, .agg #[.int .i64 a2.kind, .int .i64 a2.inc, .int .i64 a2.frm, .int .i64 a2.sent.inc, .int .i64 a2.sent.index, .int .i64 a2.ord, .int .i64 a2.value]] w fun u w1 => ∃ (v46 : Value), ∃ (R1 : Nat → Prop), u = .tuple #[] ∧ Sep F R R1 w w1 [HP.blk B0 [v46, v3] 74, HP.own branchTy R1 48 v46 r, HP.own letterTy (fun _ => False) 43 v3 c0_1] := by
  refine fn_of Try.func59 rfl Try.ntmps59 (Nat.le_of_ble_eq_true rfl) ?_
  unfold machine_event at h
  refine e_seq fun K47 hK47 => ?_
  refine e_region_text rfl ?_
  refine q_boxB rfl rfl rfl fun w48 bl48 hg48 hb48 hB48 => ?_
  replace hS := hS.newBlk hB48 hg48 hb48
  refine eseq_nil ?_
  refine hK47 _ _ ?_
  refine e_seq fun K50 hK50 => ?_
  refine e_region_text rfl ?_
  refine q_move rfl rfl ?_
  refine q_nilCheck rfl rfl ?_
  refine q_field rfl rfl ?_
  refine q_field rfl rfl ?_
  refine q_load rfl (Blk.cell (hS.blk 1 rfl) rfl) rfl ?_
  refine q_move rfl rfl ?_
  obtain ⟨x51, hx51, h⟩ := Option.of_bind h
  refine q_indexO (by infer_instance) rfl (hS.own 2 rfl) rfl hx51 rfl ?_
  refine q_assign rfl rfl ?_
  refine eseq_nil ?_
  refine hK50 _ _ ?_
  refine e_seq fun K52 hK52 => ?_
  refine e_region_text rfl ?_
  refine q_move rfl rfl ?_
  refine q_nilCheck rfl rfl ?_
  refine q_field rfl rfl ?_
  have f53 := (hS.ownR 2 rfl).elt hx51
  have f54 := Branch_F0 f53
  refine q_load rfl (Elt.intCell f54) rfl ?_
  refine q_field rfl rfl ?_
  refine q_store rfl rfl (hS.blk 0 rfl) (Nat.le_of_ble_eq_true rfl) rfl rfl rfl fun w55 hb55 hO55 => ?_
  have hk55 := hS.keptBlk 0 rfl hO55
  replace hS := hS.setBlk 0 rfl hb55 hO55; simp only [List.set] at hS
  refine eseq_nil ?_
  refine hK52 _ _ ?_
  obtain ⟨r60, hr60, h⟩ := Option.of_bind h
  obtain ⟨x67, hx67, h⟩ := Option.of_bind h
  obtain ⟨x70, hx70, h⟩ := Option.of_bind h
  refine e_region_T mixed (fun _ => False) [0, 0, 2, 6, 14, 30, 0, 64, 254, 511, 1023, 2047] [5, 7] (QT.op 0 (QT.op 1 (QT.op 2 (QT.op 3 (QT.op 4 (QT.op 6 (QT.alt (QT.op 5 (QT.op 7 (QT.op 8 (QT.op 9 (QT.op 10 (QT.op 11 QT.fin)))))) (QT.op 7 (QT.op 5 (QT.op 8 (QT.op 9 (QT.op 10 (QT.op 11 QT.fin))))))))))))) (by kernel_rfl) ?_
  refine t_op ?_
  refine q_move rfl rfl ?_
  refine eseq_nil ?_
  refine t_op ?_
  refine q_move rfl rfl ?_
  refine eseq_nil ?_
  refine t_op ?_
  refine q_nilCheck rfl rfl ?_
  refine eseq_nil ?_
  refine t_op ?_
  refine q_field rfl rfl ?_
  refine eseq_nil ?_
  refine t_op ?_
  have f71 := (hS.ownR 2 rfl).elt hx51
  have f72 := Branch_F1 f71
  refine q_loadE rfl f72 rfl (fun v73 f73 => ?_)
  refine eseq_nil ?_
  refine t_op ?_
  refine q_loadAgg rfl (Blk.cellsAt (hS.blk 0 rfl) 0 7 rfl) rfl rfl ?_
  refine eseq_nil ?_
  refine t_alt ?_ ?_
  · skip
    refine t_op ?_
    refine q_call rfl (clipEvents_w (Sep.enter (As := []) hS) f73 hr60) rfl ?_
    rintro v75 w74 ⟨_, R74, rfl, hC74, f75, hful74⟩
    have hB74 : Below (World.heap w55).size w55 w74 := hC74.stepB0
    refine ⟨fun _ => .of_below hB74, ?_⟩
    replace f73 := (f73.ext hB74).mono fun k hk _ => hC74.ro0 k hk
    replace hS := Sep.leave (As := []) hS hC74; simp only [List.cons_append, List.nil_append] at hS
    refine eseq_nil ?_
    refine t_op ?_
    refine q_litO (T := evtTy) (S := (fun _ => False)) (cells := [[.int .i64 a2.kind, .int .i64 x51.inc, .int .i64 a2.frm, .int .i64 a2.sent.inc, .int .i64 a2.sent.index, .int .i64 a2.ord, .int .i64 a2.value]]) (ys := [(⟨a2.kind, x51.inc, a2.frm, (⟨a2.sent.inc, a2.sent.index⟩ : Lab), a2.ord, a2.value⟩ : Evt)]) ((Parts.cons rfl rfl Parts.nil)) rfl rfl rfl rfl rfl rfl rfl (fun w1 hB => ⟨⟨[_], _, rfl, rfl, ⟨[_], _, rfl, rfl, ⟨[_], _, rfl, rfl, ⟨[_, _], _, rfl, ⟨[_], _, rfl, rfl, rfl⟩, ⟨[_], _, rfl, rfl, rfl⟩⟩⟩⟩⟩, trivial⟩) (fun _ h => h.elim) rfl fun w76 v76 ho76 hv76 hB76 => ?_
    replace f73 := f73.ext hB76
    replace f75 := f75.ext hB76
    replace hS := hS.newOwnS hB76 ho76 hv76 (fun _ h => h.elim)
    refine eseq_nil ?_
    refine t_op ?_
    replace hS := hS.nilOwn0 evtTy 83
    refine q_catClip (T := evtTy) (S := fun _ => False) rfl rfl rfl rfl f75 hful74 rfl (hS.own 1 rfl) (List.cons_ne_nil _ _) (snoc_cat hx67) rfl fun v79 w79 hw79 hgr79 hnw79 => ?_
    have hk79 := hS.keptOwn 0 rfl hgr79
    replace f73 := f73.kept hk79
    replace f75 := f75.kept hk79
    replace hS := hS.setOwn 0 rfl hw79 hgr79 hnw79; simp only [List.set] at hS
    refine eseq_nil ?_
    refine t_op ?_
    refine q_nilCheck rfl rfl ?_
    refine eseq_nil ?_
    refine t_op ?_
    refine q_field rfl rfl ?_
    refine eseq_nil ?_
    refine t_op ?_
    obtain ⟨R81, hS, hm81, f81⟩ := hS.freezeOwn 0 rfl; simp only [List.eraseIdx] at hS
    replace f73 := f73.mono fun k hk _ => hm81 k hk
    replace f75 := f75.mono fun k hk _ => hm81 k hk
    replace hS := hS.ownMono 3 rfl; simp only [List.set] at hS
    refine q_storeO (T := branchTy) (j := 1) rfl rfl (hS.own 3 rfl) hx51 hx70 rfl f81.one rfl (fun cs_ hc_ => by obtain ⟨u0_, u1_, rfl, g0_, g1_⟩ := Branch_R hc_; show branchTy.R _ _ [.int .i64 x51.inc, v79, .int .i64 x51.stable, u1_] _; exact ⟨_, _, rfl, rfl, ⟨_, _, rfl, ⟨_, rfl, (f81.mono (hS.ownOff 3 rfl))⟩, ⟨_, _, rfl, rfl, ⟨_, rfl, g1_⟩⟩⟩⟩) fun w80 ho80 hO80 => ?_
    have hk80 := hS.keptO 3 rfl hx51 hO80
    replace f73 := f73.kept hk80
    replace f75 := f75.kept hk80
    replace f81 := f81.kept hk80
    replace hS := hS.putO 3 rfl hx51 ho80 hO80; simp only [List.set] at hS
    refine eseq_nil ?_
    refine t_fin ?_
    obtain rfl := Option.some.inj h
    exact ⟨_, res0 rfl, v2, _, rfl, (hS.pickB [2, 3, 4] 5 rfl rfl)⟩
  · skip
    refine t_op ?_
    refine q_litO (T := evtTy) (S := (fun _ => False)) (cells := [[.int .i64 a2.kind, .int .i64 x51.inc, .int .i64 a2.frm, .int .i64 a2.sent.inc, .int .i64 a2.sent.index, .int .i64 a2.ord, .int .i64 a2.value]]) (ys := [(⟨a2.kind, x51.inc, a2.frm, (⟨a2.sent.inc, a2.sent.index⟩ : Lab), a2.ord, a2.value⟩ : Evt)]) ((Parts.cons rfl rfl Parts.nil)) rfl rfl rfl rfl rfl rfl rfl (fun w1 hB => ⟨⟨[_], _, rfl, rfl, ⟨[_], _, rfl, rfl, ⟨[_], _, rfl, rfl, ⟨[_, _], _, rfl, ⟨[_], _, rfl, rfl, rfl⟩, ⟨[_], _, rfl, rfl, rfl⟩⟩⟩⟩⟩, trivial⟩) (fun _ h => h.elim) rfl fun w82 v82 ho82 hv82 hB82 => ?_
    replace f73 := f73.ext hB82
    replace hS := hS.newOwnS hB82 ho82 hv82 (fun _ h => h.elim)
    refine eseq_nil ?_
    refine t_op ?_
    refine q_call rfl (clipEvents_w (Sep.enter (As := []) hS) f73 hr60) rfl ?_
    rintro v85 w84 ⟨_, R84, rfl, hC84, f85, hful84⟩
    have hB84 : Below (World.heap w82).size w82 w84 := hC84.stepB0
    refine ⟨fun _ => .of_below hB84, ?_⟩
    replace f73 := (f73.ext hB84).mono fun k hk _ => hC84.ro0 k hk
    replace hS := Sep.leave (As := []) hS hC84; simp only [List.cons_append, List.nil_append] at hS
    refine eseq_nil ?_
    refine t_op ?_
    replace hS := hS.nilOwn0 evtTy 83
    refine q_catClip (T := evtTy) (S := fun _ => False) rfl rfl rfl rfl f85 hful84 rfl (hS.own 1 rfl) (List.cons_ne_nil _ _) (snoc_cat hx67) rfl fun v87 w87 hw87 hgr87 hnw87 => ?_
    have hk87 := hS.keptOwn 0 rfl hgr87
    replace f73 := f73.kept hk87
    replace f85 := f85.kept hk87
    replace hS := hS.setOwn 0 rfl hw87 hgr87 hnw87; simp only [List.set] at hS
    refine eseq_nil ?_
    refine t_op ?_
    refine q_nilCheck rfl rfl ?_
    refine eseq_nil ?_
    refine t_op ?_
    refine q_field rfl rfl ?_
    refine eseq_nil ?_
    refine t_op ?_
    obtain ⟨R89, hS, hm89, f89⟩ := hS.freezeOwn 0 rfl; simp only [List.eraseIdx] at hS
    replace f73 := f73.mono fun k hk _ => hm89 k hk
    replace f85 := f85.mono fun k hk _ => hm89 k hk
    replace hS := hS.ownMono 3 rfl; simp only [List.set] at hS
    refine q_storeO (T := branchTy) (j := 1) rfl rfl (hS.own 3 rfl) hx51 hx70 rfl f89.one rfl (fun cs_ hc_ => by obtain ⟨u0_, u1_, rfl, g0_, g1_⟩ := Branch_R hc_; show branchTy.R _ _ [.int .i64 x51.inc, v87, .int .i64 x51.stable, u1_] _; exact ⟨_, _, rfl, rfl, ⟨_, _, rfl, ⟨_, rfl, (f89.mono (hS.ownOff 3 rfl))⟩, ⟨_, _, rfl, rfl, ⟨_, rfl, g1_⟩⟩⟩⟩) fun w88 ho88 hO88 => ?_
    have hk88 := hS.keptO 3 rfl hx51 hO88
    replace f73 := f73.kept hk88
    replace f85 := f85.kept hk88
    replace f89 := f89.kept hk88
    replace hS := hS.putO 3 rfl hx51 ho88 hO88; simp only [List.set] at hS
    refine eseq_nil ?_
    refine t_fin ?_
    obtain rfl := Option.some.inj h
    exact ⟨_, res0 rfl, v2, _, rfl, (hS.pickB [2, 3, 4] 5 rfl rfl)⟩
theorem machine_send_w {F R : Nat → Prop} {w : World} {fuel : Nat} {a1 : Int} {a2 : Int} {c0_0 : (List Branch)} {c0_1 : (List Letter)} {B0 : Nat} {v2 : Value} {v3 : Value} {r : ((List Branch) × (List Letter))} (hS : Sep F R R w w [HP.blk B0 [v2, v3] 74, HP.own branchTy R 48 v2 c0_0, HP.own letterTy (fun _ => False) 43 v3 c0_1]) (h : machine_send fuel a1 a2 c0_0 c0_1 = some r) :
    Gives Try.prog 40 [.pointer (some ⟨B0, 0, none⟩), .int .i64 a1, .int .i64 a2] w fun u w1 => ∃ (v31 : Value), ∃ (v32 : Value), ∃ (R1 : Nat → Prop), u = .tuple #[] ∧ Sep F R R1 w w1 [HP.blk B0 [v31, v32] 74, HP.own branchTy R1 48 v31 r.1, HP.own letterTy (fun _ => False) 43 v32 r.2] := by
  refine fn_of Try.func40 rfl Try.ntmps40 (Nat.le_of_ble_eq_true rfl) ?_
  unfold machine_send at h
  refine e_seq fun K33 hK33 => ?_
  refine e_region_text rfl ?_
  refine q_move rfl rfl ?_
  refine q_move rfl rfl ?_
  refine q_build (Parts.cons rfl rfl Parts.nil) rfl rfl ?_
  obtain ⟨r35, hr35, h⟩ := Option.of_bind h
  refine q_call rfl (machine_event_w (a2 := (⟨2, 0, 0, (⟨0, 0⟩ : Lab), 0, 0⟩ : Evt)) (Sep.enter (As := [_, _, _]) hS)  hr35) rfl ?_
  rintro _ w34 ⟨v36, R34, rfl, hC34⟩
  refine ⟨(fun h => by cases h), ?_⟩
  have hk34 := hC34.keptR (Sep.offFeet (As := [_, _, _]) hS)
  replace hS := Sep.leave (As := [_, _, _]) hS hC34; simp only [List.cons_append, List.nil_append] at hS
  refine eseq_nil ?_
  refine hK33 _ _ ?_
  refine e_seq fun K37 hK37 => ?_
  refine e_region_text rfl ?_
  refine q_move rfl rfl ?_
  refine q_nilCheck rfl rfl ?_
  refine q_field rfl rfl ?_
  refine q_field rfl rfl ?_
  refine q_load rfl (Blk.cell (hS.blk 0 rfl) rfl) rfl ?_
  refine q_move rfl rfl ?_
  obtain ⟨x38, hx38, h⟩ := Option.of_bind h
  refine q_indexO (by infer_instance) rfl (hS.own 1 rfl) rfl hx38 rfl ?_
  have f39 := (hS.ownR 1 rfl).elt hx38
  obtain ⟨v40, v41, hc42, f40, f41⟩ := Branch_open f39
  refine q_loadAgg rfl hc42 rfl rfl ?_
  refine q_allocB rfl fun w43 bl43 hg43 hb43 hB43 => ?_
  replace f40 := f40.ext hB43
  replace f41 := f41.ext hB43
  replace hS := hS.newBlk hB43 hg43 hb43
  refine q_storeAgg rfl rfl (hS.blk 0 rfl) rfl (Nat.le_of_ble_eq_true rfl) (all_cons rfl (all_cons f40.one (all_cons rfl (all_cons f41.one (all_nil))))) rfl rfl fun w45 hb45 hO45 => ?_
  simp only [setN, List.set, List.take, List.drop] at hb45
  have hk45 := hS.keptBlk 0 rfl hO45
  replace f40 := f40.kept hk45
  replace f41 := f41.kept hk45
  replace hS := hS.setBlk 0 rfl hb45 hO45; simp only [List.set] at hS
  refine eseq_nil ?_
  refine hK37 _ _ ?_
  refine e_seq fun K46 hK46 => ?_
  refine e_region_text rfl ?_
  refine q_field rfl rfl ?_
  refine q_load rfl (Blk.cell (hS.blk 0 rfl) rfl) rfl ?_
  refine q_field rfl rfl ?_
  refine q_load rfl (Blk.cell (hS.blk 0 rfl) rfl) rfl ?_
  refine q_lenS rfl f40 rfl ?_
  refine q_build (Parts.cons rfl rfl (Parts.cons rfl rfl Parts.nil)) rfl rfl ?_
  refine q_allocB rfl fun w47 bl47 hg47 hb47 hB47 => ?_
  replace hS := hS.newBlk hB47 hg47 hb47
  refine q_storeAgg rfl rfl (hS.blk 0 rfl) rfl (Nat.le_of_ble_eq_true rfl) (all_cons rfl (all_cons rfl (all_nil))) rfl rfl fun w49 hb49 hO49 => ?_
  simp only [setN, List.set, List.take, List.drop] at hb49
  have hk49 := hS.keptBlk 0 rfl hO49
  replace hS := hS.setBlk 0 rfl hb49 hO49; simp only [List.set] at hS
  refine eseq_nil ?_
  refine hK46 _ _ ?_
  refine e_region_draw mixed (fun _ => False) [0, 0, 2, 6, 14, 30, 0, 0, 0, 448, 960, 2046, 4095, 8191, 16383, 32767] [10] [0, 1, 2, 3, 4, 5, 6, 7, 8, 9, 10, 11, 12, 13, 14, 15] (by kernel_rfl) ?_
  refine q_move rfl rfl ?_
  refine q_move rfl rfl ?_
  refine q_nilCheck rfl rfl ?_
  refine q_field rfl rfl ?_
  refine q_field rfl rfl ?_
  refine q_load rfl (Blk.cell (hS.blk 2 rfl) rfl) rfl ?_
  refine q_move rfl rfl ?_
  refine q_move rfl rfl ?_
  refine q_loadAgg rfl (Blk.cellsAt (hS.blk 0 rfl) 0 2 rfl) rfl rfl ?_
  refine q_build (Parts.cons rfl rfl (Parts.cons rfl rfl (Parts.cons rfl rfl Parts.nil))) rfl rfl ?_
  refine q_litO (T := letterTy) (S := (fun _ => False)) (cells := [[.int .i64 a1, .int .i64 a2, .bool false, .int .i64 x38.inc, .int .i64 (x38.events.length : Int), .int .i64 0, .int .i64 0, .int .i64 0]]) (ys := [(⟨a1, a2, false, (⟨x38.inc, (x38.events.length : Int)⟩ : Lab), (⟨0, 0, 0⟩ : EndI)⟩ : Letter)]) ((Parts.cons rfl rfl Parts.nil)) rfl rfl rfl rfl rfl rfl rfl (fun w1 hB => ⟨⟨[_], _, rfl, rfl, ⟨[_], _, rfl, rfl, ⟨[_], _, rfl, rfl, ⟨[_, _], _, rfl, ⟨[_], _, rfl, rfl, rfl⟩, ⟨[_], _, rfl, rfl, ⟨[_], _, rfl, rfl, rfl⟩⟩⟩⟩⟩⟩, trivial⟩) (fun _ h => h.elim) rfl fun w55 v55 ho55 hv55 hB55 => ?_
  replace hS := hS.newOwnS hB55 ho55 hv55 (fun _ h => h.elim)
  obtain ⟨x58, hx58, h⟩ := Option.of_bind h
  refine q_catOwn (T := letterTy) rfl rfl rfl rfl (hS.own 5 rfl) rfl (hS.own 0 rfl) (fun _ h _ => h.elim) (snoc_cat hx58) (Nat.zero_le _) rfl (fun h => by cases h) fun v57 w57 hw57 hgr57 hnw57 => ?_
  have hk57 := hS.keptOwn 5 rfl hgr57
  replace hS := hS.setOwn 5 rfl hw57 hgr57 hnw57; simp only [List.set] at hS
  refine q_nilCheck rfl rfl ?_
  refine q_field rfl rfl ?_
  refine q_field rfl rfl ?_
  refine q_store rfl rfl (hS.blk 3 rfl) (Nat.le_of_ble_eq_true rfl) (hS.own 5 rfl).one rfl rfl fun w59 hb59 hO59 => ?_
  have hk59 := hS.keptBlk 3 rfl hO59
  replace hS := hS.setBlk 3 rfl hb59 hO59; simp only [List.set] at hS
  refine eseq_nil ?_
  obtain rfl := Option.some.inj h
  exact ⟨_, res0 rfl, v36, v57, _, rfl, (hS.pickB [3, 4, 5] 6 rfl rfl)⟩
end Go.Proofs.Ytddohdppmejjoaa
