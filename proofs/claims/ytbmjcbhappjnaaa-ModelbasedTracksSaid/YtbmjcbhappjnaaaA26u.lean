/- Printed walks: A26u. -/
import Derived.Test.YtbmjcbhappjnaaaA26d
import Derived.Test.YtbmjcbhappjnaaaA21
set_option linter.unusedVariables false
set_option linter.unusedSimpArgs false
namespace Go.Mine
open Go.RowKit
def law26_ModelbasedTracks (fuel : Nat) (a0 : (List Int)) : Option (Bool) :=
  (law26_awake fuel).bind fun r47 => (if (!r47) = true then some false else (law26_draw fuel a0).bind fun r52 => (modelbased_Play fuel r52.1 r52.2.1 r52.2.2).bind fun r57 => (andM (r57.2 == 0) ((law26_sound fuel (⟨(⟨r57.1.pat.lens, r57.1.pat.ckpts, r57.1.pat.arcs⟩ : Pat), r57.1.clocks, r57.1.vecs, r57.1.forced⟩ : Hist) r52.1).bind fun r76 => some r76)).bind fun x74 => (andM x74 ((zigzag_Trackable fuel (⟨r57.1.pat.lens, r57.1.pat.ckpts, r57.1.pat.arcs⟩ : Pat)).bind fun r84 => some r84)).bind fun x82 => some x82)
end Go.Mine
namespace Go.Proofs.Ytbmjcbhappjnaaa
open Go.RowKit Go.Mine
attribute [local irreducible] eseq ewp iter
theorem law26_ModelbasedTracks_w {F R : Nat → Prop} {w : World} {fuel : Nat} {a0 : (List Int)} {v1 : Value} {r : (Bool)} (hS : Sep F R R w w []) (f1 : IsSlice Ty.u8 w R v1 a0) (h : law26_ModelbasedTracks fuel a0 = some r) :
    Gives Try.prog 11 [v1] w fun u w1 => ∃ (R1 : Nat → Prop), u = .bool r ∧ Sep F R R1 w w1 [] := by
  refine fn_of Try.func11 rfl Try.ntmps11 (Nat.le_of_ble_eq_true rfl) ?_
  unfold law26_ModelbasedTracks at h
  refine e_seq fun K43 hK43 => ?_
  refine e_region_text rfl ?_
  refine q_assign rfl rfl ?_
  refine eseq_nil ?_
  refine hK43 _ _ ?_
  refine e_seq fun K44 hK44 => ?_
  refine e_seq fun K45 hK45 => ?_
  refine e_region_text rfl ?_
  obtain ⟨r47, hr47, h⟩ := Option.of_bind h
  refine q_call rfl (law26_awake_w (Sep.enter (As := []) hS)  hr47) rfl ?_
  rintro _ w46 ⟨R46, rfl, hC46⟩
  have hB46 : Below (World.heap w).size w w46 := hC46.stepB0
  refine ⟨fun _ => .of_below hB46, ?_⟩
  replace f1 := (f1.ext hB46).mono fun k hk _ => hC46.ro0 k hk
  replace hS := Sep.leave (As := []) hS hC46; simp only [List.cons_append, List.nil_append] at hS
  refine q_not rfl rfl ?_
  refine eseq_nil ?_
  refine hK45 _ _ ?_
  refine e_cond rfl (fun hc48 => ?_) (fun hc48 => ?_)
  · replace h := (if_pos hc48).symm.trans h
    refine e_seq fun K49 hK49 => ?_
    refine e_region_text rfl ?_
    refine q_assign rfl rfl ?_
    refine eseq_nil ?_
    refine hK49 _ _ ?_
    refine e_ret ?_
    obtain rfl := Option.some.inj h
    exact ⟨_, res1 rfl rfl, _, rfl, hS⟩
  · replace h := (if_neg (not_true hc48)).symm.trans h
    refine e_skip ?_
    refine hK44 _ _ ?_
    refine e_seq fun K50 hK50 => ?_
    refine e_region_text rfl ?_
    refine q_move rfl rfl ?_
    obtain ⟨r52, hr52, h⟩ := Option.of_bind h
    refine q_call rfl (law26_draw_w (Sep.enter (As := []) hS) f1 hr52) rfl ?_
    rintro _ w51 ⟨v53, R51, rfl, hC51⟩
    have hB51 : Below (World.heap w46).size w46 w51 := hC51.stepB0
    refine ⟨fun _ => .of_below hB51, ?_⟩
    replace f1 := (f1.ext hB51).mono fun k hk _ => hC51.ro0 k hk
    replace hS := Sep.leave (As := []) hS hC51; simp only [List.cons_append, List.nil_append] at hS
    refine q_move rfl rfl ?_
    refine q_extract rfl rfl rfl ?_
    refine q_extract rfl rfl rfl ?_
    refine q_extract rfl rfl rfl ?_
    refine q_assign rfl rfl ?_
    refine q_assign rfl rfl ?_
    refine q_assign rfl rfl ?_
    refine eseq_nil ?_
    refine hK50 _ _ ?_
    refine e_seq fun K54 hK54 => ?_
    refine e_region_text rfl ?_
    refine q_move rfl rfl ?_
    refine q_move rfl rfl ?_
    refine q_move rfl rfl ?_
    obtain ⟨R56, hS, hm56, f56⟩ := hS.freezeOwn 0 rfl; simp only [List.eraseIdx] at hS
    obtain ⟨r57, hr57, h⟩ := Option.of_bind h
    refine q_call rfl (modelbased_Play_w (Sep.enter (As := []) hS) f56 hr57) rfl ?_
    rintro _ w55 ⟨v58, v59, v60, v61, v62, v63, R55, rfl, hC55, f58, f59, f60, f61, f62, f63⟩
    have hB55 : Below (World.heap w51).size w51 w55 := hC55.stepB0
    refine ⟨fun _ => .of_below hB55, ?_⟩
    replace f56 := (f56.ext hB55).mono fun k hk _ => hC55.ro0 k hk
    replace hS := Sep.leave (As := []) hS hC55; simp only [List.cons_append, List.nil_append] at hS
    refine q_move rfl rfl ?_
    refine q_extract rfl rfl rfl ?_
    refine q_extract rfl rfl rfl ?_
    refine q_allocB rfl fun w65 bl65 hg65 hb65 hB65 => ?_
    replace f58 := f58.ext hB65
    replace f59 := f59.ext hB65
    replace f60 := f60.ext hB65
    replace f61 := f61.ext hB65
    replace f62 := f62.ext hB65
    replace f63 := f63.ext hB65
    replace hS := hS.newBlk hB65 hg65 hb65
    refine q_storeAgg rfl rfl (hS.blk 0 rfl) rfl (Nat.le_of_ble_eq_true rfl) (all_cons f58.one (all_cons f59.one (all_cons f60.one (all_cons f61.one (all_cons f62.one (all_cons f63.one (all_nil))))))) rfl rfl fun w67 hb67 hO67 => ?_
    simp only [setN, List.set, List.take, List.drop] at hb67
    have hk67 := hS.keptBlk 0 rfl hO67
    replace f58 := f58.kept hk67
    replace f59 := f59.kept hk67
    replace f60 := f60.kept hk67
    replace f61 := f61.kept hk67
    replace f62 := f62.kept hk67
    replace f63 := f63.kept hk67
    replace hS := hS.setBlk 0 rfl hb67 hO67; simp only [List.set] at hS
    refine q_assign rfl rfl ?_
    refine eseq_nil ?_
    refine hK54 _ _ ?_
    refine e_seq fun K68 hK68 => ?_
    refine e_region_text rfl ?_
    refine q_move rfl rfl ?_
    refine q_eql rfl rfl rfl ?_
    refine q_move rfl rfl ?_
    obtain ⟨x74, hx73, h⟩ := Option.of_bind h
    refine g_andM 3 hx73 rfl trivial rfl rfl ?_ ?_ ?_
    · intro hg73 hx73
      clear h
      have hT73 := Below.refl (World.heap w67).size w67
      refine g_run rfl ?_; refine q_loadAgg rfl (Blk.cellsAt (hS.blk 0 rfl) 0 6 rfl) rfl rfl ?_
      refine g_run rfl ?_; refine q_move rfl rfl ?_
      obtain ⟨r76, hr76, hx73⟩ := Option.of_bind hx73
      refine g_run rfl ?_; refine q_call rfl (law26_sound_w (a0 := (⟨(⟨r57.1.pat.lens, r57.1.pat.ckpts, r57.1.pat.arcs⟩ : Pat), r57.1.clocks, r57.1.vecs, r57.1.forced⟩ : Hist)) (Sep.enter (As := []) hS) f58 f59 f60 f61 f62 f63 hr76) rfl ?_
      rintro _ w75 ⟨R75, rfl, hC75⟩
      have hB75 : Below (World.heap w67).size w67 w75 := hC75.stepB0
      refine ⟨fun _ => .of_below hB75, ?_⟩
      replace f58 := (f58.ext hB75).mono fun k hk _ => hC75.ro0 k hk
      replace f59 := (f59.ext hB75).mono fun k hk _ => hC75.ro0 k hk
      replace f60 := (f60.ext hB75).mono fun k hk _ => hC75.ro0 k hk
      replace f61 := (f61.ext hB75).mono fun k hk _ => hC75.ro0 k hk
      replace f62 := (f62.ext hB75).mono fun k hk _ => hC75.ro0 k hk
      replace f63 := (f63.ext hB75).mono fun k hk _ => hC75.ro0 k hk
      replace hT73 := hT73.trans (Below.mono hB75 hT73.size)
      replace hS := Sep.leave (As := []) hS hC75; simp only [List.cons_append, List.nil_append] at hS
      cases hx73
      exact eseq_nil ⟨hT73, Sub.set rfl (Sub.set rfl (Sub.set rfl (Sub.bool true rfl hg73))), rfl⟩
    · intro hg73
      refine g_skip rfl rfl rfl ?_
      refine g_skip rfl rfl rfl ?_
      refine g_skip rfl rfl rfl ?_
      exact eseq_nil ⟨rfl, Sub.set rfl (Sub.set rfl (Sub.set rfl (Sub.bool false rfl hg73)))⟩
    intro wm73 hBm73; clear hx73
    replace hS := hS.below hBm73
    replace f58 := f58.ext hBm73
    replace f59 := f59.ext hBm73
    replace f60 := f60.ext hBm73
    replace f61 := f61.ext hBm73
    replace f62 := f62.ext hBm73
    replace f63 := f63.ext hBm73
    refine q_move rfl rfl ?_
    obtain ⟨x82, hx81, h⟩ := Option.of_bind h
    refine g_andM 3 hx81 rfl trivial rfl rfl ?_ ?_ ?_
    · intro hg81 hx81
      clear h
      have hT81 := Below.refl (World.heap wm73).size wm73
      refine g_run rfl ?_; refine q_field rfl rfl ?_
      refine g_run rfl ?_; refine q_loadAgg rfl (Blk.cellsAt (hS.blk 0 rfl) 0 3 rfl) rfl rfl ?_
      obtain ⟨r84, hr84, hx81⟩ := Option.of_bind hx81
      refine g_run rfl ?_; refine q_call rfl (zigzag_Trackable_w (a0 := (⟨r57.1.pat.lens, r57.1.pat.ckpts, r57.1.pat.arcs⟩ : Pat)) (Sep.enter (As := []) hS) f58 f59 f60 hr84) rfl ?_
      rintro _ w83 ⟨R83, rfl, hC83⟩
      have hB83 : Below (World.heap wm73).size wm73 w83 := hC83.stepB0
      refine ⟨fun _ => .of_below hB83, ?_⟩
      replace f58 := (f58.ext hB83).mono fun k hk _ => hC83.ro0 k hk
      replace f59 := (f59.ext hB83).mono fun k hk _ => hC83.ro0 k hk
      replace f60 := (f60.ext hB83).mono fun k hk _ => hC83.ro0 k hk
      replace hT81 := hT81.trans (Below.mono hB83 hT81.size)
      replace hS := Sep.leave (As := []) hS hC83; simp only [List.cons_append, List.nil_append] at hS
      cases hx81
      exact eseq_nil ⟨hT81, Sub.set rfl (Sub.set rfl (Sub.set rfl (Sub.bool true rfl hg81))), rfl⟩
    · intro hg81
      refine g_skip rfl rfl rfl ?_
      refine g_skip rfl rfl rfl ?_
      refine g_skip rfl rfl rfl ?_
      exact eseq_nil ⟨rfl, Sub.set rfl (Sub.set rfl (Sub.set rfl (Sub.bool false rfl hg81)))⟩
    intro wm81 hBm81; clear hx81
    replace hS := hS.below hBm81
    refine q_assign rfl rfl ?_
    refine eseq_nil ?_
    refine hK68 _ _ ?_
    refine e_ret ?_
    obtain rfl := Option.some.inj h
    exact ⟨_, res1 rfl rfl, _, rfl, (hS.pickB [] 1 rfl rfl)⟩
end Go.Proofs.Ytbmjcbhappjnaaa
