/- Printed walks: A25e. -/
import Derived.Test.YtbmjcbhappjnaaaA25d
import Derived.Test.YtbmjcbhappjnaaaA21
set_option linter.unusedVariables false
set_option linter.unusedSimpArgs false
namespace Go.Mine
open Go.RowKit
def law25_IndexedUseful (fuel : Nat) (a0 : (List Int)) : Option (Bool) :=
  (law25_awake fuel).bind fun r52 => (if (!r52) = true then some false else (law25_draw fuel a0).bind fun r57 => (indexed_Play fuel r57.1 r57.2).bind fun r62 => (andM (r62.2 == 0) ((law25_sound fuel (⟨(⟨r62.1.pat.lens, r62.1.pat.ckpts, r62.1.pat.arcs⟩ : Pat), r62.1.clocks, ([] : List (List (List Int))), r62.1.forced⟩ : Hist) r57.1).bind fun r84 => some r84)).bind fun x82 => (andM x82 ((zigzag_Useless fuel (⟨r62.1.pat.lens, r62.1.pat.ckpts, r62.1.pat.arcs⟩ : Pat)).bind fun r93 => some ((r93.length : Int) == 0))).bind fun x91 => some x91)
end Go.Mine
namespace Go.Proofs.Ytbmjcbhappjnaaa
open Go.RowKit Go.Mine
attribute [local irreducible] eseq ewp iter
theorem law25_IndexedUseful_w {F R : Nat → Prop} {w : World} {fuel : Nat} {a0 : (List Int)} {v1 : Value} {r : (Bool)} (hS : Sep F R R w w []) (f1 : IsSlice Ty.u8 w R v1 a0) (h : law25_IndexedUseful fuel a0 = some r) :
    Gives Try.prog 9 [v1] w fun u w1 => ∃ (R1 : Nat → Prop), u = .bool r ∧ Sep F R R1 w w1 [] := by
  refine fn_of Try.func9 rfl Try.ntmps9 (Nat.le_of_ble_eq_true rfl) ?_
  unfold law25_IndexedUseful at h
  refine e_seq fun K48 hK48 => ?_
  refine e_region_text rfl ?_
  refine q_assign rfl rfl ?_
  refine eseq_nil ?_
  refine hK48 _ _ ?_
  refine e_seq fun K49 hK49 => ?_
  refine e_seq fun K50 hK50 => ?_
  refine e_region_text rfl ?_
  obtain ⟨r52, hr52, h⟩ := Option.of_bind h
  refine q_call rfl (law25_awake_w (Sep.enter (As := []) hS)  hr52) rfl ?_
  rintro _ w51 ⟨R51, rfl, hC51⟩
  have hB51 : Below (World.heap w).size w w51 := hC51.stepB0
  refine ⟨fun _ => .of_below hB51, ?_⟩
  replace f1 := (f1.ext hB51).mono fun k hk _ => hC51.ro0 k hk
  replace hS := Sep.leave (As := []) hS hC51; simp only [List.cons_append, List.nil_append] at hS
  refine q_not rfl rfl ?_
  refine eseq_nil ?_
  refine hK50 _ _ ?_
  refine e_cond rfl (fun hc53 => ?_) (fun hc53 => ?_)
  · replace h := (if_pos hc53).symm.trans h
    refine e_seq fun K54 hK54 => ?_
    refine e_region_text rfl ?_
    refine q_assign rfl rfl ?_
    refine eseq_nil ?_
    refine hK54 _ _ ?_
    refine e_ret ?_
    obtain rfl := Option.some.inj h
    exact ⟨_, res1 rfl rfl, _, rfl, hS⟩
  · replace h := (if_neg (not_true hc53)).symm.trans h
    refine e_skip ?_
    refine hK49 _ _ ?_
    refine e_seq fun K55 hK55 => ?_
    refine e_region_text rfl ?_
    refine q_move rfl rfl ?_
    obtain ⟨r57, hr57, h⟩ := Option.of_bind h
    refine q_call rfl (law25_draw_w (Sep.enter (As := []) hS) f1 hr57) rfl ?_
    rintro _ w56 ⟨v58, R56, rfl, hC56⟩
    have hB56 : Below (World.heap w51).size w51 w56 := hC56.stepB0
    refine ⟨fun _ => .of_below hB56, ?_⟩
    replace f1 := (f1.ext hB56).mono fun k hk _ => hC56.ro0 k hk
    replace hS := Sep.leave (As := []) hS hC56; simp only [List.cons_append, List.nil_append] at hS
    refine q_move rfl rfl ?_
    refine q_extract rfl rfl rfl ?_
    refine q_extract rfl rfl rfl ?_
    refine q_assign rfl rfl ?_
    refine q_assign rfl rfl ?_
    refine eseq_nil ?_
    refine hK55 _ _ ?_
    refine e_seq fun K59 hK59 => ?_
    refine e_region_text rfl ?_
    refine q_move rfl rfl ?_
    refine q_move rfl rfl ?_
    obtain ⟨R61, hS, hm61, f61⟩ := hS.freezeOwn 0 rfl; simp only [List.eraseIdx] at hS
    obtain ⟨r62, hr62, h⟩ := Option.of_bind h
    refine q_call rfl (indexed_Play_w (Sep.enter (As := []) hS) f61 hr62) rfl ?_
    rintro _ w60 ⟨v63, v65, v66, v67, v68, v69, v71, v72, R60, rfl, hC60⟩
    have hB60 : Below (World.heap w56).size w56 w60 := hC60.stepB0
    refine ⟨fun _ => .of_below hB60, ?_⟩
    replace f61 := (f61.ext hB60).mono fun k hk _ => hC60.ro0 k hk
    replace hS := Sep.leave (As := []) hS hC60; simp only [List.cons_append, List.nil_append] at hS
    refine q_move rfl rfl ?_
    refine q_extract rfl rfl rfl ?_
    refine q_extract rfl rfl rfl ?_
    refine q_allocB rfl fun w73 bl73 hg73 hb73 hB73 => ?_
    replace hS := hS.newBlk hB73 hg73 hb73
    refine q_storeAgg rfl rfl (hS.blk 0 rfl) rfl (Nat.le_of_ble_eq_true rfl) (all_cons (hS.own 1 rfl).one (all_cons (hS.own 2 rfl).one (all_cons (hS.own 4 rfl).one (all_cons (hS.own 5 rfl).one (all_cons rfl (all_cons (hS.own 7 rfl).one (all_nil))))))) rfl rfl fun w75 hb75 hO75 => ?_
    simp only [setN, List.set, List.take, List.drop] at hb75
    have hk75 := hS.keptBlk 0 rfl hO75
    replace hS := hS.setBlk 0 rfl hb75 hO75; simp only [List.set] at hS
    refine q_assign rfl rfl ?_
    refine eseq_nil ?_
    refine hK59 _ _ ?_
    refine e_seq fun K76 hK76 => ?_
    refine e_region_text rfl ?_
    refine q_move rfl rfl ?_
    refine q_eql rfl rfl rfl ?_
    refine q_move rfl rfl ?_
    obtain ⟨x82, hx81, h⟩ := Option.of_bind h
    refine g_andM 3 hx81 rfl trivial rfl rfl ?_ ?_ ?_
    · intro hg81 hx81
      clear h
      have hT81 := Below.refl (World.heap w75).size w75
      refine g_run rfl ?_; refine q_loadAgg rfl (Blk.cellsAt (hS.blk 0 rfl) 0 6 rfl) rfl rfl ?_
      refine g_run rfl ?_; refine q_move rfl rfl ?_
      obtain ⟨r84, hr84, hx81⟩ := Option.of_bind hx81
      refine g_run rfl ?_; refine q_call rfl (law25_sound_w (a0 := (⟨(⟨r62.1.pat.lens, r62.1.pat.ckpts, r62.1.pat.arcs⟩ : Pat), r62.1.clocks, ([] : List (List (List Int))), r62.1.forced⟩ : Hist)) (Sep.all w75) ((hS.isl 1 rfl)).old ((hS.rowsI 2 3 rfl rfl (by decide))).old ((hS.isl 4 rfl)).old ((hS.rowsI 5 6 rfl rfl (by decide))).old ((IsSlice.nil (Ty.slice (Ty.slice Ty.int)) _ (fun _ => False))).old ((hS.rowsI 7 8 rfl rfl (by decide))).old hr84) rfl ?_
      rintro _ w83 ⟨R83, rfl, hC83⟩
      have hB83 : Below (World.heap w75).size w75 w83 := hC83.stepBF
      refine ⟨fun _ => .of_below hB83, ?_⟩
      replace hT81 := hT81.trans (Below.mono hB83 hT81.size)
      replace hS := hS.below hB83
      cases hx81
      exact eseq_nil ⟨hT81, Sub.set rfl (Sub.set rfl (Sub.set rfl (Sub.bool true rfl hg81))), rfl⟩
    · intro hg81
      refine g_skip rfl rfl rfl ?_
      refine g_skip rfl rfl rfl ?_
      refine g_skip rfl rfl rfl ?_
      exact eseq_nil ⟨rfl, Sub.set rfl (Sub.set rfl (Sub.set rfl (Sub.bool false rfl hg81)))⟩
    intro wm81 hBm81; clear hx81
    replace hS := hS.below hBm81
    refine q_move rfl rfl ?_
    obtain ⟨x91, hx90, h⟩ := Option.of_bind h
    refine g_andM 5 hx90 rfl trivial rfl rfl ?_ ?_ ?_
    · intro hg90 hx90
      clear h
      have hT90 := Below.refl (World.heap wm81).size wm81
      refine g_run rfl ?_; refine q_field rfl rfl ?_
      refine g_run rfl ?_; refine q_loadAgg rfl (Blk.cellsAt (hS.blk 0 rfl) 0 3 rfl) rfl rfl ?_
      obtain ⟨r93, hr93, hx90⟩ := Option.of_bind hx90
      refine g_run rfl ?_; refine q_call rfl (zigzag_Useless_w (a0 := (⟨r62.1.pat.lens, r62.1.pat.ckpts, r62.1.pat.arcs⟩ : Pat)) (Sep.all wm81) ((hS.isl 1 rfl)).old ((hS.rowsI 2 3 rfl rfl (by decide))).old ((hS.isl 4 rfl)).old hr93) rfl ?_
      rintro v94 w92 ⟨_, R92, rfl, hC92⟩
      have hB92 : Below (World.heap wm81).size wm81 w92 := hC92.stepBF
      refine ⟨fun _ => .of_below hB92, ?_⟩
      replace hT90 := hT90.trans (Below.mono hB92 hT90.size)
      replace hS := hS.newOwnS hB92 (hC92.own 0 rfl) (hC92.fresh 0 rfl) (fun _ h => h.elim)
      refine g_run rfl ?_; refine q_lenS rfl (hS.isl 0 rfl) rfl ?_
      refine g_run rfl ?_; refine q_eql rfl rfl rfl ?_
      cases hx90
      exact eseq_nil ⟨hT90, Sub.set rfl (Sub.set rfl (Sub.set rfl (Sub.set rfl (Sub.set rfl (Sub.bool true rfl hg90))))), rfl⟩
    · intro hg90
      refine g_skip rfl rfl rfl ?_
      refine g_skip rfl rfl rfl ?_
      refine g_skip rfl rfl rfl ?_
      refine g_skip rfl rfl rfl ?_
      refine g_skip rfl rfl rfl ?_
      exact eseq_nil ⟨rfl, Sub.set rfl (Sub.set rfl (Sub.set rfl (Sub.set rfl (Sub.set rfl (Sub.bool false rfl hg90)))))⟩
    intro wm90 hBm90; clear hx90
    replace hS := hS.below hBm90
    refine q_assign rfl rfl ?_
    refine eseq_nil ?_
    refine hK76 _ _ ?_
    refine e_ret ?_
    obtain rfl := Option.some.inj h
    exact ⟨_, res1 rfl rfl, _, rfl, (hS.pickB [] 9 rfl rfl)⟩
end Go.Proofs.Ytbmjcbhappjnaaa
