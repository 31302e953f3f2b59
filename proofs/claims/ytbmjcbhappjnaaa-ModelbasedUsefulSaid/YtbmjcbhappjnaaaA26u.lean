/- Printed walks: A26u. -/
import Derived.Test.YtbmjcbhappjnaaaA26d
import Derived.Test.YtbmjcbhappjnaaaA21
set_option linter.unusedVariables false
set_option linter.unusedSimpArgs false
namespace Go.Mine
open Go.RowKit
def law26_ModelbasedUseful (fuel : Nat) (a0 : (List Int)) : Option (Bool) :=
  (law26_awake fuel).bind fun r49 => (if (!r49) = true then some false else (law26_draw fuel a0).bind fun r54 => (modelbased_Play fuel r54.1 r54.2.1 r54.2.2).bind fun r59 => (andM (r59.2 == 0) ((law26_sound fuel (⟨(⟨r59.1.pat.lens, r59.1.pat.ckpts, r59.1.pat.arcs⟩ : Pat), r59.1.clocks, r59.1.vecs, r59.1.forced⟩ : Hist) r54.1).bind fun r78 => some r78)).bind fun x76 => (andM x76 ((zigzag_Useless fuel (⟨r59.1.pat.lens, r59.1.pat.ckpts, r59.1.pat.arcs⟩ : Pat)).bind fun r87 => some ((r87.length : Int) == 0))).bind fun x85 => some x85)
end Go.Mine
namespace Go.Proofs.Ytbmjcbhappjnaaa
open Go.RowKit Go.Mine
attribute [local irreducible] eseq ewp iter
theorem law26_ModelbasedUseful_w {F R : Nat → Prop} {w : World} {fuel : Nat} {a0 : (List Int)} {v1 : Value} {r : (Bool)} (hS : Sep F R R w w []) (f1 : IsSlice Ty.u8 w R v1 a0) (h : law26_ModelbasedUseful fuel a0 = some r) :
    Gives Try.prog 10 [v1] w fun u w1 => ∃ (R1 : Nat → Prop), u = .bool r ∧ Sep F R R1 w w1 [] := by
  refine fn_of Try.func10 rfl Try.ntmps10 (Nat.le_of_ble_eq_true rfl) ?_
  unfold law26_ModelbasedUseful at h
  refine e_seq fun K45 hK45 => ?_
  refine e_region_text rfl ?_
  refine q_assign rfl rfl ?_
  refine eseq_nil ?_
  refine hK45 _ _ ?_
  refine e_seq fun K46 hK46 => ?_
  refine e_seq fun K47 hK47 => ?_
  refine e_region_text rfl ?_
  obtain ⟨r49, hr49, h⟩ := Option.of_bind h
  refine q_call rfl (law26_awake_w (Sep.enter (As := []) hS)  hr49) rfl ?_
  rintro _ w48 ⟨R48, rfl, hC48⟩
  have hB48 : Below (World.heap w).size w w48 := hC48.stepB0
  refine ⟨fun _ => .of_below hB48, ?_⟩
  replace f1 := (f1.ext hB48).mono fun k hk _ => hC48.ro0 k hk
  replace hS := Sep.leave (As := []) hS hC48; simp only [List.cons_append, List.nil_append] at hS
  refine q_not rfl rfl ?_
  refine eseq_nil ?_
  refine hK47 _ _ ?_
  refine e_cond rfl (fun hc50 => ?_) (fun hc50 => ?_)
  · replace h := (if_pos hc50).symm.trans h
    refine e_seq fun K51 hK51 => ?_
    refine e_region_text rfl ?_
    refine q_assign rfl rfl ?_
    refine eseq_nil ?_
    refine hK51 _ _ ?_
    refine e_ret ?_
    obtain rfl := Option.some.inj h
    exact ⟨_, res1 rfl rfl, _, rfl, hS⟩
  · replace h := (if_neg (not_true hc50)).symm.trans h
    refine e_skip ?_
    refine hK46 _ _ ?_
    refine e_seq fun K52 hK52 => ?_
    refine e_region_text rfl ?_
    refine q_move rfl rfl ?_
    obtain ⟨r54, hr54, h⟩ := Option.of_bind h
    refine q_call rfl (law26_draw_w (Sep.enter (As := []) hS) f1 hr54) rfl ?_
    rintro _ w53 ⟨v55, R53, rfl, hC53⟩
    have hB53 : Below (World.heap w48).size w48 w53 := hC53.stepB0
    refine ⟨fun _ => .of_below hB53, ?_⟩
    replace f1 := (f1.ext hB53).mono fun k hk _ => hC53.ro0 k hk
    replace hS := Sep.leave (As := []) hS hC53; simp only [List.cons_append, List.nil_append] at hS
    refine q_move rfl rfl ?_
    refine q_extract rfl rfl rfl ?_
    refine q_extract rfl rfl rfl ?_
    refine q_extract rfl rfl rfl ?_
    refine q_assign rfl rfl ?_
    refine q_assign rfl rfl ?_
    refine q_assign rfl rfl ?_
    refine eseq_nil ?_
    refine hK52 _ _ ?_
    refine e_seq fun K56 hK56 => ?_
    refine e_region_text rfl ?_
    refine q_move rfl rfl ?_
    refine q_move rfl rfl ?_
    refine q_move rfl rfl ?_
    obtain ⟨R58, hS, hm58, f58⟩ := hS.freezeOwn 0 rfl; simp only [List.eraseIdx] at hS
    obtain ⟨r59, hr59, h⟩ := Option.of_bind h
    refine q_call rfl (modelbased_Play_w (Sep.enter (As := []) hS) f58 hr59) rfl ?_
    rintro _ w57 ⟨v60, v61, v62, v63, v65, v66, R57, rfl, hC57, f60, f61, f62, f63, f65, f66⟩
    have hB57 : Below (World.heap w53).size w53 w57 := hC57.stepB0
    refine ⟨fun _ => .of_below hB57, ?_⟩
    replace f58 := (f58.ext hB57).mono fun k hk _ => hC57.ro0 k hk
    replace hS := Sep.leave (As := []) hS hC57; simp only [List.cons_append, List.nil_append] at hS
    refine q_move rfl rfl ?_
    refine q_extract rfl rfl rfl ?_
    refine q_extract rfl rfl rfl ?_
    refine q_allocB rfl fun w67 bl67 hg67 hb67 hB67 => ?_
    replace f60 := f60.ext hB67
    replace f61 := f61.ext hB67
    replace f62 := f62.ext hB67
    replace f63 := f63.ext hB67
    replace f65 := f65.ext hB67
    replace f66 := f66.ext hB67
    replace hS := hS.newBlk hB67 hg67 hb67
    refine q_storeAgg rfl rfl (hS.blk 0 rfl) rfl (Nat.le_of_ble_eq_true rfl) (all_cons f60.one (all_cons f61.one (all_cons f62.one (all_cons f63.one (all_cons f65.one (all_cons f66.one (all_nil))))))) rfl rfl fun w69 hb69 hO69 => ?_
    simp only [setN, List.set, List.take, List.drop] at hb69
    have hk69 := hS.keptBlk 0 rfl hO69
    replace f60 := f60.kept hk69
    replace f61 := f61.kept hk69
    replace f62 := f62.kept hk69
    replace f63 := f63.kept hk69
    replace f65 := f65.kept hk69
    replace f66 := f66.kept hk69
    replace hS := hS.setBlk 0 rfl hb69 hO69; simp only [List.set] at hS
    refine q_assign rfl rfl ?_
    refine eseq_nil ?_
    refine hK56 _ _ ?_
    refine e_seq fun K70 hK70 => ?_
    refine e_region_text rfl ?_
    refine q_move rfl rfl ?_
    refine q_eql rfl rfl rfl ?_
    refine q_move rfl rfl ?_
    obtain ⟨x76, hx75, h⟩ := Option.of_bind h
    refine g_andM 3 hx75 rfl trivial rfl rfl ?_ ?_ ?_
    · intro hg75 hx75
      clear h
      have hT75 := Below.refl (World.heap w69).size w69
      refine g_run rfl ?_; refine q_loadAgg rfl (Blk.cellsAt (hS.blk 0 rfl) 0 6 rfl) rfl rfl ?_
      refine g_run rfl ?_; refine q_move rfl rfl ?_
      obtain ⟨r78, hr78, hx75⟩ := Option.of_bind hx75
      refine g_run rfl ?_; refine q_call rfl (law26_sound_w (a0 := (⟨(⟨r59.1.pat.lens, r59.1.pat.ckpts, r59.1.pat.arcs⟩ : Pat), r59.1.clocks, r59.1.vecs, r59.1.forced⟩ : Hist)) (Sep.enter (As := []) hS) f60 f61 f62 f63 f65 f66 hr78) rfl ?_
      rintro _ w77 ⟨R77, rfl, hC77⟩
      have hB77 : Below (World.heap w69).size w69 w77 := hC77.stepB0
      refine ⟨fun _ => .of_below hB77, ?_⟩
      replace f60 := (f60.ext hB77).mono fun k hk _ => hC77.ro0 k hk
      replace f61 := (f61.ext hB77).mono fun k hk _ => hC77.ro0 k hk
      replace f62 := (f62.ext hB77).mono fun k hk _ => hC77.ro0 k hk
      replace f63 := (f63.ext hB77).mono fun k hk _ => hC77.ro0 k hk
      replace f65 := (f65.ext hB77).mono fun k hk _ => hC77.ro0 k hk
      replace f66 := (f66.ext hB77).mono fun k hk _ => hC77.ro0 k hk
      replace hT75 := hT75.trans (Below.mono hB77 hT75.size)
      replace hS := Sep.leave (As := []) hS hC77; simp only [List.cons_append, List.nil_append] at hS
      cases hx75
      exact eseq_nil ⟨hT75, Sub.set rfl (Sub.set rfl (Sub.set rfl (Sub.bool true rfl hg75))), rfl⟩
    · intro hg75
      refine g_skip rfl rfl rfl ?_
      refine g_skip rfl rfl rfl ?_
      refine g_skip rfl rfl rfl ?_
      exact eseq_nil ⟨rfl, Sub.set rfl (Sub.set rfl (Sub.set rfl (Sub.bool false rfl hg75)))⟩
    intro wm75 hBm75; clear hx75
    replace hS := hS.below hBm75
    replace f60 := f60.ext hBm75
    replace f61 := f61.ext hBm75
    replace f62 := f62.ext hBm75
    replace f63 := f63.ext hBm75
    replace f65 := f65.ext hBm75
    replace f66 := f66.ext hBm75
    refine q_move rfl rfl ?_
    obtain ⟨x85, hx84, h⟩ := Option.of_bind h
    refine g_andM 5 hx84 rfl trivial rfl rfl ?_ ?_ ?_
    · intro hg84 hx84
      clear h
      have hT84 := Below.refl (World.heap wm75).size wm75
      refine g_run rfl ?_; refine q_field rfl rfl ?_
      refine g_run rfl ?_; refine q_loadAgg rfl (Blk.cellsAt (hS.blk 0 rfl) 0 3 rfl) rfl rfl ?_
      obtain ⟨r87, hr87, hx84⟩ := Option.of_bind hx84
      refine g_run rfl ?_; refine q_call rfl (zigzag_Useless_w (a0 := (⟨r59.1.pat.lens, r59.1.pat.ckpts, r59.1.pat.arcs⟩ : Pat)) (Sep.enter (As := []) hS) f60 f61 f62 hr87) rfl ?_
      rintro v88 w86 ⟨_, R86, rfl, hC86⟩
      have hB86 : Below (World.heap wm75).size wm75 w86 := hC86.stepB0
      refine ⟨fun _ => .of_below hB86, ?_⟩
      replace f60 := (f60.ext hB86).mono fun k hk _ => hC86.ro0 k hk
      replace f61 := (f61.ext hB86).mono fun k hk _ => hC86.ro0 k hk
      replace f62 := (f62.ext hB86).mono fun k hk _ => hC86.ro0 k hk
      replace hT84 := hT84.trans (Below.mono hB86 hT84.size)
      replace hS := Sep.leave (As := []) hS hC86; simp only [List.cons_append, List.nil_append] at hS
      refine g_run rfl ?_; refine q_lenS rfl (hS.isl 0 rfl) rfl ?_
      refine g_run rfl ?_; refine q_eql rfl rfl rfl ?_
      cases hx84
      exact eseq_nil ⟨hT84, Sub.set rfl (Sub.set rfl (Sub.set rfl (Sub.set rfl (Sub.set rfl (Sub.bool true rfl hg84))))), rfl⟩
    · intro hg84
      refine g_skip rfl rfl rfl ?_
      refine g_skip rfl rfl rfl ?_
      refine g_skip rfl rfl rfl ?_
      refine g_skip rfl rfl rfl ?_
      refine g_skip rfl rfl rfl ?_
      exact eseq_nil ⟨rfl, Sub.set rfl (Sub.set rfl (Sub.set rfl (Sub.set rfl (Sub.set rfl (Sub.bool false rfl hg84)))))⟩
    intro wm84 hBm84; clear hx84
    replace hS := hS.below hBm84
    refine q_assign rfl rfl ?_
    refine eseq_nil ?_
    refine hK70 _ _ ?_
    refine e_ret ?_
    obtain rfl := Option.some.inj h
    exact ⟨_, res1 rfl rfl, _, rfl, (hS.pickB [] 1 rfl rfl)⟩
end Go.Proofs.Ytbmjcbhappjnaaa
