/- Printed walks: A22e. -/
import Derived.Test.YtljpjekifbamfaaA22c
import Derived.Test.YtljpjekifbamfaaA20b
set_option linter.unusedVariables false
set_option linter.unusedSimpArgs false
namespace Go.Mine
open Go.RowKit
def law22_LineGraph (fuel : Nat) (a0 : (List Int)) (a1 : (List Int)) : Option (Bool) :=
  (law22_awake fuel).bind fun r59 => (if (!r59) = true then some false else (make_New fuel a0 240).bind fun r65 => (make_Codes_Pattern fuel 24 r65.1 r65.2).bind fun r69 => (make_New fuel a1 20).bind fun r85 => (make_Codes_Procs fuel (r69.1.lens.length : Int) r85.1 r85.2).bind fun r89 => (line_Failure fuel (⟨r69.1.lens, r69.1.ckpts, r69.1.arcs⟩ : Pat) r89.1).bind fun r101 => (rgraph_Recovery fuel (⟨r69.1.lens, r69.1.ckpts, r69.1.arcs⟩ : Pat) r89.1).bind fun r104 => (ref03_SameInts fuel r101 r104).bind fun r107 => some r107)
end Go.Mine
namespace Go.Proofs.Ytljpjekifbamfaa
open Go.RowKit Go.Mine
attribute [local irreducible] eseq ewp iter
theorem law22_LineGraph_w {F R : Nat → Prop} {w : World} {fuel : Nat} {a0 : (List Int)} {a1 : (List Int)} {v1 : Value} {v2 : Value} {r : (Bool)} (hS : Sep F R R w w []) (f1 : IsSlice Ty.u8 w R v1 a0) (f2 : IsSlice Ty.u8 w R v2 a1) (h : law22_LineGraph fuel a0 a1 = some r) :
    Gives Try.prog 9 [v1, v2] w fun u w1 => ∃ (R1 : Nat → Prop), u = .bool r ∧ Sep F R R1 w w1 [] := by
  refine fn_of Try.func9 rfl Try.ntmps9 (Nat.le_of_ble_eq_true rfl) ?_
  unfold law22_LineGraph at h
  refine e_seq fun K55 hK55 => ?_
  refine e_region_text rfl ?_
  refine q_assign rfl rfl ?_
  refine eseq_nil ?_
  refine hK55 _ _ ?_
  refine e_seq fun K56 hK56 => ?_
  refine e_seq fun K57 hK57 => ?_
  refine e_region_text rfl ?_
  obtain ⟨r59, hr59, h⟩ := Option.of_bind h
  refine q_call rfl (law22_awake_w (Sep.enter (As := []) hS)  hr59) rfl ?_
  rintro _ w58 ⟨R58, rfl, hC58⟩
  have hB58 : Below (World.heap w).size w w58 := hC58.stepB0
  refine ⟨fun _ => .of_below hB58, ?_⟩
  replace f1 := (f1.ext hB58).mono fun k hk _ => hC58.ro0 k hk
  replace f2 := (f2.ext hB58).mono fun k hk _ => hC58.ro0 k hk
  replace hS := Sep.leave (As := []) hS hC58; simp only [List.cons_append, List.nil_append] at hS
  refine q_not rfl rfl ?_
  refine eseq_nil ?_
  refine hK57 _ _ ?_
  refine e_cond rfl (fun hc60 => ?_) (fun hc60 => ?_)
  · replace h := (if_pos hc60).symm.trans h
    refine e_seq fun K61 hK61 => ?_
    refine e_region_text rfl ?_
    refine q_assign rfl rfl ?_
    refine eseq_nil ?_
    refine hK61 _ _ ?_
    refine e_ret ?_
    obtain rfl := Option.some.inj h
    exact ⟨_, res1 rfl rfl, _, rfl, hS⟩
  · replace h := (if_neg (not_true hc60)).symm.trans h
    refine e_skip ?_
    refine hK56 _ _ ?_
    refine e_seq fun K62 hK62 => ?_
    refine e_region_text rfl ?_
    refine q_move rfl rfl ?_
    obtain ⟨r65, hr65, h⟩ := Option.of_bind h
    refine q_call rfl (make_New_w (Sep.enter (As := []) hS) f1 hr65) rfl ?_
    rintro _ w63 ⟨B66, v67, R63, rfl, hC63, f67⟩
    have hB63 : Below (World.heap w58).size w58 w63 := hC63.stepB0
    refine ⟨fun _ => .of_below hB63, ?_⟩
    replace f2 := (f2.ext hB63).mono fun k hk _ => hC63.ro0 k hk
    replace f1 := (f1.ext hB63).mono fun k hk _ => hC63.ro0 k hk
    replace hS := Sep.leave (As := []) hS hC63; simp only [List.cons_append, List.nil_append] at hS
    obtain ⟨r69, hr69, h⟩ := Option.of_bind h
    refine q_call rfl (make_Codes_Pattern_w (Sep.enter (As := [_]) hS) f67 hr69) rfl ?_
    rintro _ w68 ⟨v70, v71, v72, R68, rfl, hC68, f70, f71⟩
    refine ⟨(fun h => by cases h), ?_⟩
    have hk68 := hC68.keptR (Sep.offFeet (As := [_]) hS)
    replace f2 := (f2.kept hk68).mono fun k hk _ => hC68.ro0 k hk
    replace f67 := (f67.kept hk68).mono fun k hk _ => hC68.ro0 k hk
    replace hS := Sep.leave (As := [_]) hS hC68; simp only [List.cons_append, List.nil_append] at hS
    refine q_allocB rfl fun w73 bl73 hg73 hb73 hB73 => ?_
    replace f2 := f2.ext hB73
    replace f70 := f70.ext hB73
    replace f71 := f71.ext hB73
    replace hS := hS.newBlk hB73 hg73 hb73
    refine q_storeAgg rfl rfl (hS.blk 0 rfl) rfl (Nat.le_of_ble_eq_true rfl) (all_cons f70.one (all_cons f71.one (all_cons (hS.own 2 rfl).one (all_nil)))) rfl rfl fun w75 hb75 hO75 => ?_
    simp only [setN, List.set, List.take, List.drop] at hb75
    have hk75 := hS.keptBlk 0 rfl hO75
    replace f2 := f2.kept hk75
    replace f70 := f70.kept hk75
    replace f71 := f71.kept hk75
    replace hS := hS.setBlk 0 rfl hb75 hO75; simp only [List.set] at hS
    refine eseq_nil ?_
    refine hK62 _ _ ?_
    refine e_seq fun K76 hK76 => ?_
    refine e_region_draw mixed (fun _ => False) [0, 1, 0, 4, 12, 31, 63] [1] [0, 2, 3, 4, 1, 5, 6] (by kernel_rfl) ?_
    refine q_move rfl rfl ?_
    refine q_field rfl rfl ?_
    refine q_load rfl (Blk.cell (hS.blk 0 rfl) rfl) rfl ?_
    refine q_lenS rfl f70 rfl ?_
    obtain ⟨r85, hr85, h⟩ := Option.of_bind h
    refine q_call rfl (make_New_w (Sep.enter (As := []) hS) f2 hr85) rfl ?_
    rintro _ w84 ⟨B86, v87, R84, rfl, hC84, f87⟩
    have hB84 : Below (World.heap w75).size w75 w84 := hC84.stepB0
    refine ⟨fun _ => .of_below hB84, ?_⟩
    replace f70 := (f70.ext hB84).mono fun k hk _ => hC84.ro0 k hk
    replace f71 := (f71.ext hB84).mono fun k hk _ => hC84.ro0 k hk
    replace f2 := (f2.ext hB84).mono fun k hk _ => hC84.ro0 k hk
    replace hS := Sep.leave (As := []) hS hC84; simp only [List.cons_append, List.nil_append] at hS
    obtain ⟨r89, hr89, h⟩ := Option.of_bind h
    refine q_call rfl (make_Codes_Procs_w (Sep.enter (As := [_]) hS) f87 hr89) rfl ?_
    rintro v90 w88 ⟨_, R88, rfl, hC88⟩
    refine ⟨(fun h => by cases h), ?_⟩
    have hk88 := hC88.keptR (Sep.offFeet (As := [_]) hS)
    replace f70 := (f70.kept hk88).mono fun k hk _ => hC88.ro0 k hk
    replace f71 := (f71.kept hk88).mono fun k hk _ => hC88.ro0 k hk
    replace f87 := (f87.kept hk88).mono fun k hk _ => hC88.ro0 k hk
    replace hS := Sep.leave (As := [_]) hS hC88; simp only [List.cons_append, List.nil_append] at hS
    refine q_assign rfl rfl ?_
    refine eseq_nil ?_
    refine hK76 _ _ ?_
    refine e_seq fun K91 hK91 => ?_
    refine e_region_draw mixed (fun _ => False) [0, 0, 3, 0, 0, 31, 63, 127] [2] [0, 1, 3, 4, 2, 5, 6, 7] (by kernel_rfl) ?_
    refine q_loadAgg rfl (Blk.cellsAt (hS.blk 2 rfl) 0 3 rfl) rfl rfl ?_
    refine q_move rfl rfl ?_
    refine q_loadAgg rfl (Blk.cellsAt (hS.blk 2 rfl) 0 3 rfl) rfl rfl ?_
    refine q_move rfl rfl ?_
    obtain ⟨r101, hr101, h⟩ := Option.of_bind h
    refine q_call rfl (line_Failure_w (a0 := (⟨r69.1.lens, r69.1.ckpts, r69.1.arcs⟩ : Pat)) (Sep.all w88) (f70).old (f71).old ((hS.isl 4 rfl)).old ((hS.isl 1 rfl)).old hr101) rfl ?_
    rintro v102 w100 ⟨_, R100, rfl, hC100⟩
    have hB100 : Below (World.heap w88).size w88 w100 := hC100.stepBF
    refine ⟨fun _ => .of_below hB100, ?_⟩
    replace f70 := f70.ext hB100
    replace f71 := f71.ext hB100
    replace hS := hS.newOwnS hB100 (hC100.own 0 rfl) (hC100.fresh 0 rfl) (fun _ h => h.elim)
    obtain ⟨r104, hr104, h⟩ := Option.of_bind h
    refine q_call rfl (rgraph_Recovery_w (a0 := (⟨r69.1.lens, r69.1.ckpts, r69.1.arcs⟩ : Pat)) (Sep.all w100) (f70).old (f71).old ((hS.isl 5 rfl)).old ((hS.isl 2 rfl)).old hr104) rfl ?_
    rintro v105 w103 ⟨_, R103, rfl, hC103⟩
    have hB103 : Below (World.heap w100).size w100 w103 := hC103.stepBF
    refine ⟨fun _ => .of_below hB103, ?_⟩
    replace f70 := f70.ext hB103
    replace f71 := f71.ext hB103
    replace hS := hS.newOwnS hB103 (hC103.own 0 rfl) (hC103.fresh 0 rfl) (fun _ h => h.elim)
    obtain ⟨r107, hr107, h⟩ := Option.of_bind h
    refine q_call rfl (ref03_SameInts_w (Sep.all w103) ((hS.isl 1 rfl)).old ((hS.isl 0 rfl)).old hr107) rfl ?_
    rintro _ w106 ⟨R106, rfl, hC106⟩
    have hB106 : Below (World.heap w103).size w103 w106 := hC106.stepBF
    refine ⟨fun _ => .of_below hB106, ?_⟩
    replace hS := hS.below hB106
    refine q_assign rfl rfl ?_
    refine eseq_nil ?_
    refine hK91 _ _ ?_
    refine e_ret ?_
    obtain rfl := Option.some.inj h
    exact ⟨_, res1 rfl rfl, _, rfl, (hS.pickB [] 7 rfl rfl)⟩
end Go.Proofs.Ytljpjekifbamfaa
