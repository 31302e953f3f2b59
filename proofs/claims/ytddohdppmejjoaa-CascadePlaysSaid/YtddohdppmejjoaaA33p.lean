/- Printed walks: A33p. -/
import Derived.Test.YtddohdppmejjoaaA33h
set_option linter.unusedVariables false
set_option linter.unusedSimpArgs false
namespace Go.Mine
open Go.RowKit
def ref33_back_K1 (fuel : Nat) (x177 : (List Branch)) (x252 : (List Letter)) : Option ((List Branch) × (List Letter)) :=
  some (x177, x252)
def ref33_back_B1 (fuel : Nat) (x177 : (List Branch)) (a1 : Int) (y153 : Branch) (a2 : Int) (x217 : (List Letter)) (x218 : Int) : Option (((List Letter) × Int) ⊕ ((List Letter))) :=
  (if (decide (x218 < (x177.length : Int))) = true then (if (x218 != a1) = true then (snoc x217 (⟨a1, x218, true, (⟨0, 0⟩ : Lab), (⟨a1, y153.inc, a2⟩ : EndI)⟩ : Letter)).bind fun x267 => some (Sum.inl (x267, (w64 (x218 + 1)))) else some (Sum.inl (x217, (w64 (x218 + 1))))) else some (Sum.inr x217))
def ref33_back (fuel : Nat) (a1 : Int) (a2 : Int) (c0_0 : (List Branch)) (c0_1 : (List Letter)) : Option ((List Branch) × (List Letter)) :=
  (ati c0_0 a1).bind fun x139 => (takeL x139.events a2).bind fun x145 => (some ({ x139 with events := x145 })).bind fun y147 => (seti c0_0 a1 y147).bind fun x148 => (some ({ y147 with stable := min y147.stable a2 })).bind fun y153 => (seti x148 a1 y153).bind fun x154 => (ref31_Add fuel y153.ends (⟨a1, y153.inc, a2⟩ : EndI)).bind fun r166 => (some ({ y153 with ends := r166 })).bind fun y170 => (seti x154 a1 y170).bind fun x171 => (some ({ y170 with inc := w64 (y170.inc + 1) })).bind fun y176 => (seti x171 a1 y176).bind fun x177 => (iter (fun s => ref33_back_B1 fuel x177 a1 y153 a2 s.1 s.2) fuel (c0_1, 0)).bind (fun t => ref33_back_K1 fuel x177 t)
def ref33_check_K1 (fuel : Nat) (c0_0 : (List Branch)) (c0_1 : (List Letter)) : Option ((List Branch) × (List Letter)) :=
  some (c0_0, c0_1)
def ref33_check_B1 (fuel : Nat) (x158 : Branch) (a1 : Int) (c0_0 : (List Branch)) (c0_1 : (List Letter)) (x223 : Int) : Option ((Int) ⊕ (Unit ⊕ ((List Branch) × (List Letter)))) :=
  (if (decide (x223 < (x158.events.length : Int))) = true then (ati x158.events x223).bind fun x276 => (andM (x276.kind == 1) ((ati x158.events x223).bind fun x292 => (ati x158.events x223).bind fun x295 => (ref31_Undone fuel x158.ends x292.frm x295.sent).bind fun r300 => some r300)).bind fun x291 => (if x291 = true then (ref33_back fuel a1 x223 c0_0 c0_1).bind fun r304 => some (Sum.inr (Sum.inr (r304.1, r304.2))) else some (Sum.inl (w64 (x223 + 1)))) else some (Sum.inr (Sum.inl ())))
def ref33_check (fuel : Nat) (a1 : Int) (c0_0 : (List Branch)) (c0_1 : (List Letter)) : Option ((List Branch) × (List Letter)) :=
  (ati c0_0 a1).bind fun x158 => (iter (fun s => ref33_check_B1 fuel x158 a1 c0_0 c0_1 s) fuel 0).bind (fun t => Sum.elim (fun t => ref33_check_K1 fuel c0_0 c0_1) (fun t => some t) t)
end Go.Mine
namespace Go.Proofs.Ytddohdppmejjoaa
open Go.RowKit Go.Mine
attribute [local irreducible] eseq ewp iter
theorem ref33_back_w {F R : Nat → Prop} {w : World} {fuel : Nat} {a1 : Int} {a2 : Int} {c0_0 : (List Branch)} {c0_1 : (List Letter)} {B0 : Nat} {v2 : Value} {v3 : Value} {r : ((List Branch) × (List Letter))} (hS : Sep F R R w w [HP.blk B0 [v2, v3] 28, HP.own branchTy R 48 v2 c0_0, HP.own letterTy (fun _ => False) 43 v3 c0_1]) (h : ref33_back fuel a1 a2 c0_0 c0_1 = some r) :
    Gives Try.prog 50 [.pointer (some ⟨B0, 0, none⟩), .int .i64 a1, .int .i64 a2] w fun u w1 => ∃ (v136 : Value), ∃ (v137 : Value), ∃ (R1 : Nat → Prop), u = .tuple #[] ∧ Sep F R R1 w w1 [HP.blk B0 [v136, v137] 28, HP.own branchTy R1 48 v136 r.1, HP.own letterTy (fun _ => False) 43 v137 r.2] := by
  refine fn_of Try.func50 rfl Try.ntmps50 (Nat.le_of_ble_eq_true rfl) ?_
  unfold ref33_back at h
  refine e_seq fun K138 hK138 => ?_
  refine e_region_text rfl ?_
  refine q_move rfl rfl ?_
  refine q_nilCheck rfl rfl ?_
  refine q_field rfl rfl ?_
  refine q_load rfl (Blk.cell (hS.blk 0 rfl) rfl) rfl ?_
  refine q_move rfl rfl ?_
  obtain ⟨x139, hx139, h⟩ := Option.of_bind h
  refine q_indexO (by infer_instance) rfl (hS.own 1 rfl) rfl hx139 rfl ?_
  refine q_assign rfl rfl ?_
  refine eseq_nil ?_
  refine hK138 _ _ ?_
  refine e_seq fun K140 hK140 => ?_
  refine e_region_text rfl ?_
  refine q_move rfl rfl ?_
  refine q_move rfl rfl ?_
  refine q_nilCheck rfl rfl ?_
  refine q_field rfl rfl ?_
  have f141 := (hS.ownR 1 rfl).elt hx139
  have f142 := Branch_F1 f141
  refine q_loadE rfl f142 rfl (fun v143 f143 => ?_)
  refine q_move rfl rfl ?_
  obtain ⟨x145, hx145, h⟩ := Option.of_bind h
  refine q_takeS (by infer_instance) rfl f143 rfl hx145 rfl fun v144 f144 => ?_
  refine q_nilCheck rfl rfl ?_
  refine q_field rfl rfl ?_
  obtain ⟨y147, hy147, h⟩ := Option.of_bind h
  obtain ⟨x148, hx148, h⟩ := Option.of_bind h
  refine q_storeO (T := branchTy) (j := 1) rfl rfl (hS.own 1 rfl) hx139 hx148 rfl f144.one rfl (Option.some.inj hy147 ▸ (fun cs_ hc_ => by obtain ⟨u0_, u1_, rfl, g0_, g1_⟩ := Branch_R hc_; show branchTy.R _ _ [.int .i64 x139.inc, v144, .int .i64 x139.stable, u1_] _; exact ⟨_, _, rfl, rfl, ⟨_, _, rfl, ⟨_, rfl, (f144.mono (hS.ownOff 1 rfl))⟩, ⟨_, _, rfl, rfl, ⟨_, rfl, g1_⟩⟩⟩⟩)) fun w146 ho146 hO146 => ?_
  have hk146 := hS.keptO 1 rfl hx139 hO146
  replace f144 := f144.kept hk146
  replace hS := hS.putO 1 rfl hx139 ho146 hO146; simp only [List.set] at hS
  refine eseq_nil ?_
  refine hK140 _ _ ?_
  refine e_seq fun K149 hK149 => ?_
  refine e_region_text rfl ?_
  refine q_move rfl rfl ?_
  refine q_move rfl rfl ?_
  refine q_nilCheck rfl rfl ?_
  refine q_field rfl rfl ?_
  have f150 := (hS.ownR 1 rfl).elt (ati_seti_same hx148)
  have f151 := Branch_F2 f150
  refine q_load rfl (Elt.intCell f151) rfl ?_
  refine q_move rfl rfl ?_
  refine q_min rfl rfl rfl ?_
  refine q_nilCheck rfl rfl ?_
  refine q_field rfl rfl ?_
  obtain ⟨y153, hy153, h⟩ := Option.of_bind h
  obtain ⟨x154, hx154, h⟩ := Option.of_bind h
  refine q_storeO (T := branchTy) (j := 2) rfl rfl (hS.own 1 rfl) (ati_seti_same hx148) hx154 rfl rfl rfl (Option.some.inj hy153 ▸ (fun cs_ hc_ => by obtain ⟨u0_, u1_, rfl, g0_, g1_⟩ := Branch_R hc_; show branchTy.R _ _ [.int .i64 y147.inc, u0_, .int .i64 (min y147.stable a2), u1_] _; exact ⟨_, _, rfl, rfl, ⟨_, _, rfl, ⟨_, rfl, g0_⟩, ⟨_, _, rfl, rfl, ⟨_, rfl, g1_⟩⟩⟩⟩)) fun w152 ho152 hO152 => ?_
  have hk152 := hS.keptO 1 rfl (ati_seti_same hx148) hO152
  replace hS := hS.putO 1 rfl (ati_seti_same hx148) ho152 hO152; simp only [List.set] at hS
  refine eseq_nil ?_
  refine hK149 _ _ ?_
  refine e_seq fun K155 hK155 => ?_
  refine e_region_text rfl ?_
  refine q_move rfl rfl ?_
  refine q_move rfl rfl ?_
  refine q_nilCheck rfl rfl ?_
  refine q_field rfl rfl ?_
  have f156 := (hS.ownR 1 rfl).elt (ati_seti_same hx154)
  have f157 := Branch_F0 f156
  refine q_load rfl (Elt.intCell f157) rfl ?_
  refine q_move rfl rfl ?_
  refine q_build (Parts.cons rfl rfl (Parts.cons rfl rfl (Parts.cons rfl rfl Parts.nil))) rfl rfl ?_
  refine q_allocB rfl fun w158 bl158 hg158 hb158 hB158 => ?_
  replace hS := hS.newBlk hB158 hg158 hb158
  refine q_storeAgg rfl rfl (hS.blk 0 rfl) rfl (Nat.le_of_ble_eq_true rfl) (all_cons rfl (all_cons rfl (all_cons rfl (all_nil)))) rfl rfl fun w160 hb160 hO160 => ?_
  simp only [setN, List.set, List.take, List.drop] at hb160
  have hk160 := hS.keptBlk 0 rfl hO160
  replace hS := hS.setBlk 0 rfl hb160 hO160; simp only [List.set] at hS
  refine eseq_nil ?_
  refine hK155 _ _ ?_
  refine e_seq fun K161 hK161 => ?_
  refine e_region_draw mixed (fun _ => False) [0, 0, 2, 6, 14, 0, 62, 127, 255, 511] [] [0, 1, 2, 3, 4, 5, 6, 7, 8, 9] (by kernel_rfl) ?_
  refine q_move rfl rfl ?_
  refine q_move rfl rfl ?_
  refine q_nilCheck rfl rfl ?_
  refine q_field rfl rfl ?_
  have f162 := (hS.ownR 2 rfl).elt (ati_seti_same hx154)
  have f163 := Branch_F3 f162
  refine q_loadE rfl f163 rfl (fun v164 f164 => ?_)
  refine q_loadAgg rfl (Blk.cellsAt (hS.blk 0 rfl) 0 3 rfl) rfl rfl ?_
  obtain ⟨r166, hr166, h⟩ := Option.of_bind h
  refine q_call rfl (ref31_Add_w (a1 := (⟨a1, y153.inc, a2⟩ : EndI)) (Sep.enter (As := []) hS) f164 hr166) rfl ?_
  rintro v167 w165 ⟨_, R165, rfl, hC165⟩
  have hB165 : Below (World.heap w160).size w160 w165 := hC165.stepB0
  refine ⟨fun _ => .of_below hB165, ?_⟩
  replace f164 := (f164.ext hB165).mono fun k hk _ => hC165.ro0 k hk
  replace hS := Sep.leave (As := []) hS hC165; simp only [List.cons_append, List.nil_append] at hS
  refine q_nilCheck rfl rfl ?_
  refine q_field rfl rfl ?_
  obtain ⟨R169, hS, hm169, f169⟩ := hS.freezeOwn 0 rfl; simp only [List.eraseIdx] at hS
  replace hS := hS.ownMono 2 rfl; simp only [List.set] at hS
  obtain ⟨y170, hy170, h⟩ := Option.of_bind h
  obtain ⟨x171, hx171, h⟩ := Option.of_bind h
  refine q_storeO (T := branchTy) (j := 3) rfl rfl (hS.own 2 rfl) (ati_seti_same hx154) hx171 rfl f169.one rfl (Option.some.inj hy170 ▸ (fun cs_ hc_ => by obtain ⟨u0_, u1_, rfl, g0_, g1_⟩ := Branch_R hc_; show branchTy.R _ _ [.int .i64 y153.inc, u0_, .int .i64 y153.stable, v167] _; exact ⟨_, _, rfl, rfl, ⟨_, _, rfl, ⟨_, rfl, g0_⟩, ⟨_, _, rfl, rfl, ⟨_, rfl, (f169.mono (hS.ownOff 2 rfl))⟩⟩⟩⟩)) fun w168 ho168 hO168 => ?_
  have hk168 := hS.keptO 2 rfl (ati_seti_same hx154) hO168
  replace f169 := f169.kept hk168
  replace hS := hS.putO 2 rfl (ati_seti_same hx154) ho168 hO168; simp only [List.set] at hS
  refine eseq_nil ?_
  refine hK161 _ _ ?_
  refine e_seq fun K172 hK172 => ?_
  refine e_region_text rfl ?_
  refine q_move rfl rfl ?_
  refine q_nilCheck rfl rfl ?_
  refine q_field rfl rfl ?_
  have f173 := (hS.ownR 2 rfl).elt (ati_seti_same hx171)
  have f174 := Branch_F0 f173
  refine q_load rfl (Elt.intCell f174) rfl ?_
  refine q_addW rfl rfl rfl ?_
  refine q_nilCheck rfl rfl ?_
  refine q_field rfl rfl ?_
  obtain ⟨y176, hy176, h⟩ := Option.of_bind h
  obtain ⟨x177, hx177, h⟩ := Option.of_bind h
  refine q_storeO (T := branchTy) (j := 0) rfl rfl (hS.own 2 rfl) (ati_seti_same hx171) hx177 rfl rfl rfl (Option.some.inj hy176 ▸ (fun cs_ hc_ => by obtain ⟨u0_, u1_, rfl, g0_, g1_⟩ := Branch_R hc_; show branchTy.R _ _ [.int .i64 (w64 (y170.inc + 1)), u0_, .int .i64 y170.stable, u1_] _; exact ⟨_, _, rfl, rfl, ⟨_, _, rfl, ⟨_, rfl, g0_⟩, ⟨_, _, rfl, rfl, ⟨_, rfl, g1_⟩⟩⟩⟩)) fun w175 ho175 hO175 => ?_
  have hk175 := hS.keptO 2 rfl (ati_seti_same hx171) hO175
  replace hS := hS.putO 2 rfl (ati_seti_same hx171) ho175 hO175; simp only [List.set] at hS
  refine eseq_nil ?_
  refine hK172 _ _ ?_
  refine e_seq fun K178 hK178 => ?_
  refine e_region_text rfl ?_
  refine q_assign rfl rfl ?_
  refine eseq_nil ?_
  refine hK178 _ _ ?_
  refine e_block ?_
  obtain ⟨tl179, ht179, h⟩ := Option.of_bind h
  refine e_loop (fun m_ E_ w213 => ∃ (x217 : (List Letter)), ∃ (x218 : Int), ∃ (v216 : Value), ∃ (R212 : Nat → Prop), iter (fun s => ref33_back_B1 fuel x177 a1 y153 a2 s.1 s.2) m_ (x217, x218) = some tl179 ∧ Sep F R R212 w w213 [HP.blk B0 [v2, v216] 28, HP.own branchTy R212 48 v2 x177, HP.own letterTy (fun _ => False) 43 v216 x217, HP.blk bl158 [.int .i64 a1, .int .i64 y153.inc, .int .i64 a2] 41] ∧ E_ = [(0, .pointer (some ⟨B0, 0, none⟩)), (1, .int .i64 a1), (7, .pointer (some ⟨bl158, 0, none⟩)), (8, .int .i64 x218)]) _ ⟨_, ⟨c0_1, 0, v3, _, ht179, (hS.pickB [1, 2, 3, 0] 4 rfl rfl), rfl⟩, Sub.cons rfl (Sub.cons rfl (Sub.cons rfl (Sub.cons rfl (Sub.nil _))))⟩ ?_
  clear ht179 hS
  rintro m179 _ w213 ⟨x217, x218, v216, R212, ht179, hS, rfl⟩
  obtain ⟨m179, rfl, o179, ho179, ht179⟩ := iter_some ht179
  replace ho179 : ref33_back_B1 fuel x177 a1 y153 a2 x217 x218 = some o179 := ho179
  unfold ref33_back_B1 at ho179
  refine e_seq fun K253 hK253 => ?_
  refine e_seq fun K254 hK254 => ?_
  refine e_region_text rfl ?_
  refine q_move rfl rfl ?_
  refine q_move rfl rfl ?_
  refine q_nilCheck rfl rfl ?_
  refine q_field rfl rfl ?_
  refine q_load rfl (Blk.cell (hS.blk 0 rfl) rfl) rfl ?_
  refine q_lenS rfl (hS.isl 1 rfl) rfl ?_
  refine q_lss rfl rfl rfl ?_
  refine eseq_nil ?_
  refine hK254 _ _ ?_
  refine e_cond rfl (fun hc255 => ?_) (fun hc255 => ?_)
  · replace ho179 := (if_pos hc255).symm.trans ho179
    refine e_skip ?_
    refine hK253 _ _ ?_
    refine e_seq fun K256 hK256 => ?_
    refine e_block ?_
    refine e_seq fun K257 hK257 => ?_
    refine e_region_text rfl ?_
    refine q_move rfl rfl ?_
    refine q_move rfl rfl ?_
    refine q_neq rfl rfl rfl ?_
    refine eseq_nil ?_
    refine hK257 _ _ ?_
    refine e_cond rfl (fun hc258 => ?_) (fun hc258 => ?_)
    · replace ho179 := (if_pos hc258).symm.trans ho179
      refine e_region_draw mixed (fun _ => False) [0, 0, 2, 6, 14, 0, 0, 0, 224, 480, 1022, 2047, 4095, 8191] [9] [0, 1, 2, 3, 4, 5, 6, 7, 8, 9, 10, 11, 12, 13] (by kernel_rfl) ?_
      refine q_move rfl rfl ?_
      refine q_move rfl rfl ?_
      refine q_nilCheck rfl rfl ?_
      refine q_field rfl rfl ?_
      refine q_load rfl (Blk.cell (hS.blk 0 rfl) rfl) rfl ?_
      refine q_move rfl rfl ?_
      refine q_move rfl rfl ?_
      refine q_loadAgg rfl (Blk.cellsAt (hS.blk 3 rfl) 0 3 rfl) rfl rfl ?_
      refine q_build (Parts.cons rfl rfl (Parts.cons rfl rfl (Parts.cons rfl rfl (Parts.cons rfl rfl Parts.nil)))) rfl rfl ?_
      refine q_litO (T := letterTy) (S := (fun _ => False)) (cells := [[.int .i64 a1, .int .i64 x218, .bool true, .int .i64 0, .int .i64 0, .int .i64 a1, .int .i64 y153.inc, .int .i64 a2]]) (ys := [(⟨a1, x218, true, (⟨0, 0⟩ : Lab), (⟨a1, y153.inc, a2⟩ : EndI)⟩ : Letter)]) ((Parts.cons rfl rfl Parts.nil)) rfl rfl rfl rfl rfl rfl rfl (fun w1 hB => ⟨⟨[_], _, rfl, rfl, ⟨[_], _, rfl, rfl, ⟨[_], _, rfl, rfl, ⟨[_, _], _, rfl, ⟨[_], _, rfl, rfl, rfl⟩, ⟨[_], _, rfl, rfl, ⟨[_], _, rfl, rfl, rfl⟩⟩⟩⟩⟩⟩, trivial⟩) (fun _ h => h.elim) rfl fun w264 v264 ho264 hv264 hB264 => ?_
      replace hS := hS.newOwnS hB264 ho264 hv264 (fun _ h => h.elim)
      obtain ⟨x267, hx267, ho179⟩ := Option.of_bind ho179
      refine q_catOwn (T := letterTy) rfl rfl rfl rfl (hS.own 3 rfl) rfl (hS.own 0 rfl) (fun _ h _ => h.elim) (snoc_cat hx267) (Nat.zero_le _) rfl (fun h => by cases h) fun v266 w266 hw266 hgr266 hnw266 => ?_
      have hk266 := hS.keptOwn 3 rfl hgr266
      replace hS := hS.setOwn 3 rfl hw266 hgr266 hnw266; simp only [List.set] at hS
      refine q_nilCheck rfl rfl ?_
      refine q_field rfl rfl ?_
      refine q_store rfl rfl (hS.blk 1 rfl) (Nat.le_of_ble_eq_true rfl) (hS.own 3 rfl).one rfl rfl fun w268 hb268 hO268 => ?_
      have hk268 := hS.keptBlk 1 rfl hO268
      replace hS := hS.setBlk 1 rfl hb268 hO268; simp only [List.set] at hS
      refine eseq_nil ?_
      refine hK256 _ _ ?_
      refine e_region_text rfl ?_
      refine q_move rfl rfl ?_
      refine q_addW rfl rfl rfl ?_
      refine q_assign rfl rfl ?_
      refine eseq_nil ?_
      obtain rfl := Option.some.inj ho179
      exact ⟨m179, _, Nat.lt_succ_self _, ⟨x267, (w64 (x218 + 1)), v266, _, ht179, (hS.pickB [1, 2, 3, 4] 5 rfl rfl), rfl⟩, Sub.cons rfl (Sub.cons rfl (Sub.cons rfl (Sub.cons rfl (Sub.nil _))))⟩
    · replace ho179 := (if_neg (not_true hc258)).symm.trans ho179
      refine e_skip ?_
      refine hK256 _ _ ?_
      refine e_region_text rfl ?_
      refine q_move rfl rfl ?_
      refine q_addW rfl rfl rfl ?_
      refine q_assign rfl rfl ?_
      refine eseq_nil ?_
      obtain rfl := Option.some.inj ho179
      exact ⟨m179, _, Nat.lt_succ_self _, ⟨x217, (w64 (x218 + 1)), v216, _, ht179, hS, rfl⟩, Sub.cons rfl (Sub.cons rfl (Sub.cons rfl (Sub.cons rfl (Sub.nil _))))⟩
  · replace ho179 := (if_neg (not_true hc255)).symm.trans ho179
    refine e_exit ?_
    obtain rfl := Option.some.inj ho179
    obtain rfl := Option.some.inj ht179
    replace h : ref33_back_K1 fuel x177 x217 = some r := h
    unfold ref33_back_K1 at h
    obtain rfl := Option.some.inj h
    exact ⟨_, res0 rfl, v2, v216, _, rfl, (hS.pickB [0, 1, 2] 4 rfl rfl)⟩
theorem ref33_check_w {F R : Nat → Prop} {w : World} {fuel : Nat} {a1 : Int} {c0_0 : (List Branch)} {c0_1 : (List Letter)} {B0 : Nat} {v2 : Value} {v3 : Value} {r : ((List Branch) × (List Letter))} (hS : Sep F R R w w [HP.blk B0 [v2, v3] 28, HP.own branchTy R 48 v2 c0_0, HP.own letterTy (fun _ => False) 43 v3 c0_1]) (h : ref33_check fuel a1 c0_0 c0_1 = some r) :
    Gives Try.prog 48 [.pointer (some ⟨B0, 0, none⟩), .int .i64 a1] w fun u w1 => ∃ (v155 : Value), ∃ (v156 : Value), ∃ (R1 : Nat → Prop), u = .tuple #[] ∧ Sep F R R1 w w1 [HP.blk B0 [v155, v156] 28, HP.own branchTy R1 48 v155 r.1, HP.own letterTy (fun _ => False) 43 v156 r.2] := by
  refine fn_of Try.func48 rfl Try.ntmps48 (Nat.le_of_ble_eq_true rfl) ?_
  unfold ref33_check at h
  refine e_seq fun K157 hK157 => ?_
  refine e_region_text rfl ?_
  refine q_move rfl rfl ?_
  refine q_nilCheck rfl rfl ?_
  refine q_field rfl rfl ?_
  refine q_load rfl (Blk.cell (hS.blk 0 rfl) rfl) rfl ?_
  refine q_move rfl rfl ?_
  obtain ⟨x158, hx158, h⟩ := Option.of_bind h
  refine q_indexO (by infer_instance) rfl (hS.own 1 rfl) rfl hx158 rfl ?_
  have f159 := (hS.ownR 1 rfl).elt hx158
  obtain ⟨v160, v161, hc162, f160, f161⟩ := Branch_open f159
  refine q_loadAgg rfl hc162 rfl rfl ?_
  refine q_allocB rfl fun w163 bl163 hg163 hb163 hB163 => ?_
  replace f160 := f160.ext hB163
  replace f161 := f161.ext hB163
  replace hS := hS.newBlk hB163 hg163 hb163
  refine q_storeAgg rfl rfl (hS.blk 0 rfl) rfl (Nat.le_of_ble_eq_true rfl) (all_cons rfl (all_cons f160.one (all_cons rfl (all_cons f161.one (all_nil))))) rfl rfl fun w165 hb165 hO165 => ?_
  simp only [setN, List.set, List.take, List.drop] at hb165
  have hk165 := hS.keptBlk 0 rfl hO165
  replace f160 := f160.kept hk165
  replace f161 := f161.kept hk165
  replace hS := hS.setBlk 0 rfl hb165 hO165; simp only [List.set] at hS
  refine eseq_nil ?_
  refine hK157 _ _ ?_
  refine e_seq fun K166 hK166 => ?_
  refine e_region_text rfl ?_
  refine q_assign rfl rfl ?_
  refine eseq_nil ?_
  refine hK166 _ _ ?_
  refine e_block ?_
  obtain ⟨tl167, ht167, h⟩ := Option.of_bind h
  refine e_loop (fun m_ E_ w218 => ∃ (x223 : Int), ∃ (R217 : Nat → Prop), iter (fun s => ref33_check_B1 fuel x158 a1 c0_0 c0_1 s) m_ x223 = some tl167 ∧ Sep F R R217 w w218 [HP.blk B0 [v2, v3] 28, HP.own branchTy R217 48 v2 c0_0, HP.own letterTy (fun _ => False) 43 v3 c0_1, HP.blk bl163 [.int .i64 x158.inc, v160, .int .i64 x158.stable, v161] 48] ∧ IsSlice evtTy w218 R217 v160 x158.events ∧ IsSlice endITy w218 R217 v161 x158.ends ∧ E_ = [(0, .pointer (some ⟨B0, 0, none⟩)), (1, .int .i64 a1), (4, .pointer (some ⟨bl163, 0, none⟩)), (5, .int .i64 x223)]) _ ⟨_, ⟨0, _, ht167, (hS.pickB [1, 2, 3, 0] 4 rfl rfl), f160, f161, rfl⟩, Sub.cons rfl (Sub.cons rfl (Sub.cons rfl (Sub.cons rfl (Sub.nil _))))⟩ ?_
  clear ht167 hS
  rintro m167 _ w218 ⟨x223, R217, ht167, hS, f221, f222, rfl⟩
  obtain ⟨m167, rfl, o167, ho167, ht167⟩ := iter_some ht167
  replace ho167 : ref33_check_B1 fuel x158 a1 c0_0 c0_1 x223 = some o167 := ho167
  unfold ref33_check_B1 at ho167
  refine e_seq fun K271 hK271 => ?_
  refine e_seq fun K272 hK272 => ?_
  refine e_region_text rfl ?_
  refine q_move rfl rfl ?_
  refine q_field rfl rfl ?_
  refine q_load rfl (Blk.cell (hS.blk 3 rfl) rfl) rfl ?_
  refine q_lenS rfl f221 rfl ?_
  refine q_lss rfl rfl rfl ?_
  refine eseq_nil ?_
  refine hK272 _ _ ?_
  refine e_cond rfl (fun hc273 => ?_) (fun hc273 => ?_)
  · replace ho167 := (if_pos hc273).symm.trans ho167
    refine e_skip ?_
    refine hK271 _ _ ?_
    refine e_seq fun K274 hK274 => ?_
    refine e_block ?_
    refine e_seq fun K275 hK275 => ?_
    refine e_region_draw mixed (fun _ => False) [0, 1, 0, 7, 15, 31, 63, 127, 255, 511, 255, 1279, 255, 7423, 15615, 31999, 255, 65791, 255, 459007, 983295, 2031871, 4194303, 8388607] [] [0, 1, 2, 3, 4, 5, 6, 7, 8, 9, 10, 11, 12, 13, 14, 15, 16, 17, 18, 19, 20, 21, 22, 23] (by kernel_rfl) ?_
    refine q_field rfl rfl ?_
    refine q_load rfl (Blk.cell (hS.blk 3 rfl) rfl) rfl ?_
    refine q_move rfl rfl ?_
    obtain ⟨x276, hx276, ho167⟩ := Option.of_bind ho167
    refine q_atS (by infer_instance) rfl f221 rfl hx276 rfl fun b277 o277 hm277 f277 => ?_
    refine q_field rfl rfl ?_
    have f278 := Evt_F0 f277
    refine q_load rfl (Elt.intCell f278) rfl ?_
    refine q_eql rfl rfl rfl ?_
    refine q_move rfl rfl ?_
    obtain ⟨x291, hx290, ho167⟩ := Option.of_bind ho167
    refine g_andM 15 hx290 rfl trivial rfl rfl ?_ ?_ ?_
    · intro hg290 hx290
      clear ho167
      have hT290 := Below.refl (World.heap w218).size w218
      refine g_run rfl ?_; refine q_field rfl rfl ?_
      refine g_run rfl ?_; refine q_load rfl (Blk.cell (hS.blk 3 rfl) rfl) rfl ?_
      refine g_run rfl ?_; refine q_field rfl rfl ?_
      refine g_run rfl ?_; refine q_load rfl (Blk.cell (hS.blk 3 rfl) rfl) rfl ?_
      refine g_run rfl ?_; refine q_move rfl rfl ?_
      obtain ⟨x292, hx292, hx290⟩ := Option.of_bind hx290
      refine g_run rfl ?_; refine q_atS (by infer_instance) rfl f221 rfl hx292 rfl fun b293 o293 hm293 f293 => ?_
      refine g_run rfl ?_; refine q_field rfl rfl ?_
      have f294 := Evt_F2 f293
      refine g_run rfl ?_; refine q_load rfl (Elt.intCell f294) rfl ?_
      refine g_run rfl ?_; refine q_field rfl rfl ?_
      refine g_run rfl ?_; refine q_load rfl (Blk.cell (hS.blk 3 rfl) rfl) rfl ?_
      refine g_run rfl ?_; refine q_move rfl rfl ?_
      obtain ⟨x295, hx295, hx290⟩ := Option.of_bind hx290
      refine g_run rfl ?_; refine q_atS (by infer_instance) rfl f221 rfl hx295 rfl fun b296 o296 hm296 f296 => ?_
      refine g_run rfl ?_; refine q_field rfl rfl ?_
      have f297 := Evt_F3 f296
      have hc298 := Lab_open f297
      refine g_run rfl ?_; refine q_loadAgg rfl hc298 rfl rfl ?_
      obtain ⟨r300, hr300, hx290⟩ := Option.of_bind hx290
      refine g_run rfl ?_; refine q_call rfl (ref31_Undone_w (a2 := x295.sent) (Sep.enter (As := []) hS) f222 hr300) rfl ?_
      rintro _ w299 ⟨R299, rfl, hC299⟩
      have hB299 : Below (World.heap w218).size w218 w299 := hC299.stepB0
      refine ⟨fun _ => .of_below hB299, ?_⟩
      replace f221 := (f221.ext hB299).mono fun k hk _ => hC299.ro0 k hk
      replace f222 := (f222.ext hB299).mono fun k hk _ => hC299.ro0 k hk
      replace f293 := (f293.ext hB299).mono fun k hk _ => hC299.ro0 k hk
      replace f294 := (f294.ext hB299).mono fun k hk _ => hC299.ro0 k hk
      replace f296 := (f296.ext hB299).mono fun k hk _ => hC299.ro0 k hk
      replace f297 := (f297.ext hB299).mono fun k hk _ => hC299.ro0 k hk
      replace hT290 := hT290.trans (Below.mono hB299 hT290.size)
      replace hS := Sep.leave (As := []) hS hC299; simp only [List.cons_append, List.nil_append] at hS
      cases hx290
      exact eseq_nil ⟨hT290, Sub.set rfl (Sub.set rfl (Sub.set rfl (Sub.set rfl (Sub.set rfl (Sub.set rfl (Sub.set rfl (Sub.set rfl (Sub.set rfl (Sub.set rfl (Sub.set rfl (Sub.set rfl (Sub.set rfl (Sub.set rfl (Sub.set rfl (Sub.bool true rfl hg290))))))))))))))), rfl⟩
    · intro hg290
      refine g_skip rfl rfl rfl ?_
      refine g_skip rfl rfl rfl ?_
      refine g_skip rfl rfl rfl ?_
      refine g_skip rfl rfl rfl ?_
      refine g_skip rfl rfl rfl ?_
      refine g_skip rfl rfl rfl ?_
      refine g_skip rfl rfl rfl ?_
      refine g_skip rfl rfl rfl ?_
      refine g_skip rfl rfl rfl ?_
      refine g_skip rfl rfl rfl ?_
      refine g_skip rfl rfl rfl ?_
      refine g_skip rfl rfl rfl ?_
      refine g_skip rfl rfl rfl ?_
      refine g_skip rfl rfl rfl ?_
      refine g_skip rfl rfl rfl ?_
      exact eseq_nil ⟨rfl, Sub.set rfl (Sub.set rfl (Sub.set rfl (Sub.set rfl (Sub.set rfl (Sub.set rfl (Sub.set rfl (Sub.set rfl (Sub.set rfl (Sub.set rfl (Sub.set rfl (Sub.set rfl (Sub.set rfl (Sub.set rfl (Sub.set rfl (Sub.bool false rfl hg290)))))))))))))))⟩
    intro wm290 hBm290; clear hx290
    replace hS := hS.below hBm290
    replace f221 := f221.ext hBm290
    replace f222 := f222.ext hBm290
    refine eseq_nil ?_
    refine hK275 _ _ ?_
    refine e_cond rfl (fun hc301 => ?_) (fun hc301 => ?_)
    · replace ho167 := (if_pos hc301).symm.trans ho167
      refine e_seq fun K302 hK302 => ?_
      refine e_region_text rfl ?_
      refine q_move rfl rfl ?_
      refine q_move rfl rfl ?_
      refine q_move rfl rfl ?_
      obtain ⟨r304, hr304, ho167⟩ := Option.of_bind ho167
      refine q_call rfl (ref33_back_w (Sep.enter (As := [_, _, _]) hS)  hr304) rfl ?_
      rintro _ w303 ⟨v305, v306, R303, rfl, hC303⟩
      refine ⟨(fun h => by cases h), ?_⟩
      have hk303 := hC303.keptR (Sep.offFeet (As := [_, _, _]) hS)
      replace hS := Sep.leave (As := [_, _, _]) hS hC303; simp only [List.cons_append, List.nil_append] at hS
      refine eseq_nil ?_
      refine hK302 _ _ ?_
      refine e_ret ?_
      obtain rfl := Option.some.inj ho167
      obtain rfl := Option.some.inj ht167
      obtain rfl := Option.some.inj h
      exact ⟨_, res0 rfl, v305, v306, _, rfl, (hS.pickB [0, 1, 2] 4 rfl rfl)⟩
    · replace ho167 := (if_neg (not_true hc301)).symm.trans ho167
      refine e_skip ?_
      refine hK274 _ _ ?_
      refine e_region_text rfl ?_
      refine q_move rfl rfl ?_
      refine q_addW rfl rfl rfl ?_
      refine q_assign rfl rfl ?_
      refine eseq_nil ?_
      obtain rfl := Option.some.inj ho167
      exact ⟨m167, _, Nat.lt_succ_self _, ⟨(w64 (x223 + 1)), _, ht167, hS, f221, f222, rfl⟩, Sub.cons rfl (Sub.cons rfl (Sub.cons rfl (Sub.cons rfl (Sub.nil _))))⟩
  · replace ho167 := (if_neg (not_true hc273)).symm.trans ho167
    refine e_exit ?_
    obtain rfl := Option.some.inj ho167
    obtain rfl := Option.some.inj ht167
    replace h : ref33_check_K1 fuel c0_0 c0_1 = some r := h
    unfold ref33_check_K1 at h
    obtain rfl := Option.some.inj h
    exact ⟨_, res0 rfl, v2, v3, _, rfl, (hS.pickB [0, 1, 2] 4 rfl rfl)⟩
end Go.Proofs.Ytddohdppmejjoaa
