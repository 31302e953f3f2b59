/- Printed walks: A33d. -/
import Derived.Test.YtddohdppmejjoaaA33c
set_option linter.unusedVariables false
set_option linter.unusedSimpArgs false
namespace Go.Mine
open Go.RowKit
def machine_goBack_K1 (fuel : Nat) (x180 : (List Branch)) (x257 : (List Letter)) : Option ((List Branch) × (List Letter)) :=
  some (x180, x257)
def machine_goBack_B1 (fuel : Nat) (x180 : (List Branch)) (a1 : Int) (y156 : Branch) (a2 : Int) (x221 : (List Letter)) (x222 : Int) : Option (((List Letter) × Int) ⊕ ((List Letter))) :=
  (if (decide (x222 < (x180.length : Int))) = true then (if (x222 != a1) = true then (snoc x221 (⟨a1, x222, true, (⟨0, 0⟩ : Lab), (⟨a1, y156.inc, a2⟩ : EndI)⟩ : Letter)).bind fun x273 => some (Sum.inl (x273, (w64 (x222 + 1)))) else some (Sum.inl (x221, (w64 (x222 + 1))))) else some (Sum.inr x221))
def machine_goBack (fuel : Nat) (a1 : Int) (a2 : Int) (c0_0 : (List Branch)) (c0_1 : (List Letter)) : Option ((List Branch) × (List Letter)) :=
  (ati c0_0 a1).bind fun x142 => (takeL x142.events a2).bind fun x148 => (some ({ x142 with events := x148 })).bind fun y150 => (seti c0_0 a1 y150).bind fun x151 => (some ({ y150 with stable := min y150.stable a2 })).bind fun y156 => (seti x151 a1 y156).bind fun x157 => (incarnation_Add fuel y156.ends (⟨a1, y156.inc, a2⟩ : EndI)).bind fun r169 => (some ({ y156 with ends := r169 })).bind fun y173 => (seti x157 a1 y173).bind fun x174 => (some ({ y173 with inc := w64 (y173.inc + 1) })).bind fun y179 => (seti x174 a1 y179).bind fun x180 => (iter (fun s => machine_goBack_B1 fuel x180 a1 y156 a2 s.1 s.2) fuel (c0_1, 0)).bind (fun t => machine_goBack_K1 fuel x180 t)
def cascade_machine_check_1 (fuel : Nat) (a0 : Evt) (c1_0 : Int) (c1_1 : (List Evt)) (c1_2 : Int) (c1_3 : (List EndI)) : Option (Bool) :=
  (andM (a0.kind == 1) ((incarnation_Undone fuel c1_3 a0.frm (⟨a0.sent.inc, a0.sent.index⟩ : Lab)).bind fun r27 => some r27)).bind fun x25 => some x25
def IndexUndone_K1 (fuel : Nat) : Option (Int) :=
  some (-1)
def IndexUndone_B1 (fuel : Nat) (a0 : (List Evt)) (c1a_0 : Int) (c1a_1 : (List Evt)) (c1a_2 : Int) (c1a_3 : (List EndI)) (x115 : Int) : Option ((Int) ⊕ (Unit ⊕ (Int))) :=
  (if (decide (x115 < (a0.length : Int))) = true then (ati a0 x115).bind fun x145 => (cascade_machine_check_1 fuel x145 c1a_0 c1a_1 c1a_2 c1a_3).bind fun r149 => (if r149 = true then some (Sum.inr (Sum.inr x115)) else some (Sum.inl (w64 (x115 + 1)))) else some (Sum.inr (Sum.inl ())))
def IndexUndone (fuel : Nat) (a0 : (List Evt)) (c1a_0 : Int) (c1a_1 : (List Evt)) (c1a_2 : Int) (c1a_3 : (List EndI)) : Option (Int) :=
  (iter (fun s => IndexUndone_B1 fuel a0 c1a_0 c1a_1 c1a_2 c1a_3 s) fuel 0).bind (fun t => Sum.elim (fun t => IndexUndone_K1 fuel) (fun t => some t) t)
def machine_check (fuel : Nat) (a1 : Int) (c0_0 : (List Branch)) (c0_1 : (List Letter)) : Option ((List Branch) × (List Letter)) :=
  (ati c0_0 a1).bind fun x25 => (IndexUndone fuel x25.events x25.inc x25.events x25.stable x25.ends).bind fun r35 => (if (decide (0 ≤ r35)) = true then (machine_goBack fuel a1 r35 c0_0 c0_1).bind fun r39 => some (r39.1, r39.2) else some (c0_0, c0_1))
end Go.Mine
namespace Go.Proofs.Ytddohdppmejjoaa
open Go.RowKit Go.Mine
attribute [local irreducible] eseq ewp iter
theorem machine_goBack_w {F R : Nat → Prop} {w : World} {fuel : Nat} {a1 : Int} {a2 : Int} {c0_0 : (List Branch)} {c0_1 : (List Letter)} {B0 : Nat} {v2 : Value} {v3 : Value} {r : ((List Branch) × (List Letter))} (hS : Sep F R R w w [HP.blk B0 [v2, v3] 74, HP.own branchTy R 48 v2 c0_0, HP.own letterTy (fun _ => False) 43 v3 c0_1]) (h : machine_goBack fuel a1 a2 c0_0 c0_1 = some r) :
    Gives Try.prog 42 [.pointer (some ⟨B0, 0, none⟩), .int .i64 a1, .int .i64 a2] w fun u w1 => ∃ (v139 : Value), ∃ (v140 : Value), ∃ (R1 : Nat → Prop), u = .tuple #[] ∧ Sep F R R1 w w1 [HP.blk B0 [v139, v140] 74, HP.own branchTy R1 48 v139 r.1, HP.own letterTy (fun _ => False) 43 v140 r.2] := by
  refine fn_of Try.func42 rfl Try.ntmps42 (Nat.le_of_ble_eq_true rfl) ?_
  unfold machine_goBack at h
  refine e_seq fun K141 hK141 => ?_
  refine e_region_text rfl ?_
  refine q_move rfl rfl ?_
  refine q_nilCheck rfl rfl ?_
  refine q_field rfl rfl ?_
  refine q_field rfl rfl ?_
  refine q_load rfl (Blk.cell (hS.blk 0 rfl) rfl) rfl ?_
  refine q_move rfl rfl ?_
  obtain ⟨x142, hx142, h⟩ := Option.of_bind h
  refine q_indexO (by infer_instance) rfl (hS.own 1 rfl) rfl hx142 rfl ?_
  refine q_assign rfl rfl ?_
  refine eseq_nil ?_
  refine hK141 _ _ ?_
  refine e_seq fun K143 hK143 => ?_
  refine e_region_text rfl ?_
  refine q_move rfl rfl ?_
  refine q_move rfl rfl ?_
  refine q_nilCheck rfl rfl ?_
  refine q_field rfl rfl ?_
  have f144 := (hS.ownR 1 rfl).elt hx142
  have f145 := Branch_F1 f144
  refine q_loadE rfl f145 rfl (fun v146 f146 => ?_)
  refine q_move rfl rfl ?_
  refine q_move rfl rfl ?_
  obtain ⟨x148, hx148, h⟩ := Option.of_bind h
  refine q_take3 (T := evtTy) (by infer_instance) rfl f146 rfl rfl hx148 rfl fun v147 f147 g147 => ?_
  refine q_nilCheck rfl rfl ?_
  refine q_field rfl rfl ?_
  obtain ⟨y150, hy150, h⟩ := Option.of_bind h
  obtain ⟨x151, hx151, h⟩ := Option.of_bind h
  refine q_storeO (T := branchTy) (j := 1) rfl rfl (hS.own 1 rfl) hx142 hx151 rfl f147.one rfl (Option.some.inj hy150 ▸ (fun cs_ hc_ => by obtain ⟨u0_, u1_, rfl, g0_, g1_⟩ := Branch_R hc_; show branchTy.R _ _ [.int .i64 x142.inc, v147, .int .i64 x142.stable, u1_] _; exact ⟨_, _, rfl, rfl, ⟨_, _, rfl, ⟨_, rfl, (f147.mono (hS.ownOff 1 rfl))⟩, ⟨_, _, rfl, rfl, ⟨_, rfl, g1_⟩⟩⟩⟩)) fun w149 ho149 hO149 => ?_
  have hk149 := hS.keptO 1 rfl hx142 hO149
  replace f147 := f147.kept hk149
  replace hS := hS.putO 1 rfl hx142 ho149 hO149; simp only [List.set] at hS
  refine eseq_nil ?_
  refine hK143 _ _ ?_
  refine e_seq fun K152 hK152 => ?_
  refine e_region_text rfl ?_
  refine q_move rfl rfl ?_
  refine q_move rfl rfl ?_
  refine q_nilCheck rfl rfl ?_
  refine q_field rfl rfl ?_
  have f153 := (hS.ownR 1 rfl).elt (ati_seti_same hx151)
  have f154 := Branch_F2 f153
  refine q_load rfl (Elt.intCell f154) rfl ?_
  refine q_move rfl rfl ?_
  refine q_min rfl rfl rfl ?_
  refine q_nilCheck rfl rfl ?_
  refine q_field rfl rfl ?_
  obtain ⟨y156, hy156, h⟩ := Option.of_bind h
  obtain ⟨x157, hx157, h⟩ := Option.of_bind h
  refine q_storeO (T := branchTy) (j := 2) rfl rfl (hS.own 1 rfl) (ati_seti_same hx151) hx157 rfl rfl rfl (Option.some.inj hy156 ▸ (fun cs_ hc_ => by obtain ⟨u0_, u1_, rfl, g0_, g1_⟩ := Branch_R hc_; show branchTy.R _ _ [.int .i64 y150.inc, u0_, .int .i64 (min y150.stable a2), u1_] _; exact ⟨_, _, rfl, rfl, ⟨_, _, rfl, ⟨_, rfl, g0_⟩, ⟨_, _, rfl, rfl, ⟨_, rfl, g1_⟩⟩⟩⟩)) fun w155 ho155 hO155 => ?_
  have hk155 := hS.keptO 1 rfl (ati_seti_same hx151) hO155
  replace hS := hS.putO 1 rfl (ati_seti_same hx151) ho155 hO155; simp only [List.set] at hS
  refine eseq_nil ?_
  refine hK152 _ _ ?_
  refine e_seq fun K158 hK158 => ?_
  refine e_region_text rfl ?_
  refine q_move rfl rfl ?_
  refine q_move rfl rfl ?_
  refine q_nilCheck rfl rfl ?_
  refine q_field rfl rfl ?_
  have f159 := (hS.ownR 1 rfl).elt (ati_seti_same hx157)
  have f160 := Branch_F0 f159
  refine q_load rfl (Elt.intCell f160) rfl ?_
  refine q_move rfl rfl ?_
  refine q_build (Parts.cons rfl rfl (Parts.cons rfl rfl (Parts.cons rfl rfl Parts.nil))) rfl rfl ?_
  refine q_allocB rfl fun w161 bl161 hg161 hb161 hB161 => ?_
  replace hS := hS.newBlk hB161 hg161 hb161
  refine q_storeAgg rfl rfl (hS.blk 0 rfl) rfl (Nat.le_of_ble_eq_true rfl) (all_cons rfl (all_cons rfl (all_cons rfl (all_nil)))) rfl rfl fun w163 hb163 hO163 => ?_
  simp only [setN, List.set, List.take, List.drop] at hb163
  have hk163 := hS.keptBlk 0 rfl hO163
  replace hS := hS.setBlk 0 rfl hb163 hO163; simp only [List.set] at hS
  refine eseq_nil ?_
  refine hK158 _ _ ?_
  refine e_seq fun K164 hK164 => ?_
  refine e_region_draw mixed (fun _ => False) [0, 0, 2, 6, 14, 0, 62, 127, 255, 511] [] [0, 1, 2, 3, 4, 5, 6, 7, 8, 9] (by kernel_rfl) ?_
  refine q_move rfl rfl ?_
  refine q_move rfl rfl ?_
  refine q_nilCheck rfl rfl ?_
  refine q_field rfl rfl ?_
  have f165 := (hS.ownR 2 rfl).elt (ati_seti_same hx157)
  have f166 := Branch_F3 f165
  refine q_loadE rfl f166 rfl (fun v167 f167 => ?_)
  refine q_loadAgg rfl (Blk.cellsAt (hS.blk 0 rfl) 0 3 rfl) rfl rfl ?_
  obtain ⟨r169, hr169, h⟩ := Option.of_bind h
  refine q_call rfl (incarnation_Add_w (a1 := (⟨a1, y156.inc, a2⟩ : EndI)) (Sep.enter (As := []) hS) f167 hr169) rfl ?_
  rintro v170 w168 ⟨_, R168, rfl, hC168⟩
  have hB168 : Below (World.heap w163).size w163 w168 := hC168.stepB0
  refine ⟨fun _ => .of_below hB168, ?_⟩
  replace f167 := (f167.ext hB168).mono fun k hk _ => hC168.ro0 k hk
  replace hS := Sep.leave (As := []) hS hC168; simp only [List.cons_append, List.nil_append] at hS
  refine q_nilCheck rfl rfl ?_
  refine q_field rfl rfl ?_
  obtain ⟨R172, hS, hm172, f172⟩ := hS.freezeOwn 0 rfl; simp only [List.eraseIdx] at hS
  replace hS := hS.ownMono 2 rfl; simp only [List.set] at hS
  obtain ⟨y173, hy173, h⟩ := Option.of_bind h
  obtain ⟨x174, hx174, h⟩ := Option.of_bind h
  refine q_storeO (T := branchTy) (j := 3) rfl rfl (hS.own 2 rfl) (ati_seti_same hx157) hx174 rfl f172.one rfl (Option.some.inj hy173 ▸ (fun cs_ hc_ => by obtain ⟨u0_, u1_, rfl, g0_, g1_⟩ := Branch_R hc_; show branchTy.R _ _ [.int .i64 y156.inc, u0_, .int .i64 y156.stable, v170] _; exact ⟨_, _, rfl, rfl, ⟨_, _, rfl, ⟨_, rfl, g0_⟩, ⟨_, _, rfl, rfl, ⟨_, rfl, (f172.mono (hS.ownOff 2 rfl))⟩⟩⟩⟩)) fun w171 ho171 hO171 => ?_
  have hk171 := hS.keptO 2 rfl (ati_seti_same hx157) hO171
  replace f172 := f172.kept hk171
  replace hS := hS.putO 2 rfl (ati_seti_same hx157) ho171 hO171; simp only [List.set] at hS
  refine eseq_nil ?_
  refine hK164 _ _ ?_
  refine e_seq fun K175 hK175 => ?_
  refine e_region_text rfl ?_
  refine q_move rfl rfl ?_
  refine q_nilCheck rfl rfl ?_
  refine q_field rfl rfl ?_
  have f176 := (hS.ownR 2 rfl).elt (ati_seti_same hx174)
  have f177 := Branch_F0 f176
  refine q_load rfl (Elt.intCell f177) rfl ?_
  refine q_addW rfl rfl rfl ?_
  refine q_nilCheck rfl rfl ?_
  refine q_field rfl rfl ?_
  obtain ⟨y179, hy179, h⟩ := Option.of_bind h
  obtain ⟨x180, hx180, h⟩ := Option.of_bind h
  refine q_storeO (T := branchTy) (j := 0) rfl rfl (hS.own 2 rfl) (ati_seti_same hx174) hx180 rfl rfl rfl (Option.some.inj hy179 ▸ (fun cs_ hc_ => by obtain ⟨u0_, u1_, rfl, g0_, g1_⟩ := Branch_R hc_; show branchTy.R _ _ [.int .i64 (w64 (y173.inc + 1)), u0_, .int .i64 y173.stable, u1_] _; exact ⟨_, _, rfl, rfl, ⟨_, _, rfl, ⟨_, rfl, g0_⟩, ⟨_, _, rfl, rfl, ⟨_, rfl, g1_⟩⟩⟩⟩)) fun w178 ho178 hO178 => ?_
  have hk178 := hS.keptO 2 rfl (ati_seti_same hx174) hO178
  replace hS := hS.putO 2 rfl (ati_seti_same hx174) ho178 hO178; simp only [List.set] at hS
  refine eseq_nil ?_
  refine hK175 _ _ ?_
  refine e_seq fun K181 hK181 => ?_
  refine e_region_text rfl ?_
  refine q_move rfl rfl ?_
  refine q_nilCheck rfl rfl ?_
  refine q_field rfl rfl ?_
  refine q_field rfl rfl ?_
  refine q_load rfl (Blk.cell (hS.blk 1 rfl) rfl) rfl ?_
  refine q_lenS rfl (hS.isl 2 rfl) rfl ?_
  refine q_move rfl rfl ?_
  refine eseq_nil ?_
  refine hK181 _ _ ?_
  refine e_block ?_
  obtain ⟨tl182, ht182, h⟩ := Option.of_bind h
  refine e_loop (fun m_ E_ w217 => ∃ (x221 : (List Letter)), ∃ (x222 : Int), ∃ (v220 : Value), ∃ (R216 : Nat → Prop), iter (fun s => machine_goBack_B1 fuel x180 a1 y156 a2 s.1 s.2) m_ (x221, x222) = some tl182 ∧ Sep F R R216 w w217 [HP.blk B0 [v2, v220] 74, HP.own branchTy R216 48 v2 x180, HP.own letterTy (fun _ => False) 43 v220 x221, HP.blk bl161 [.int .i64 a1, .int .i64 y156.inc, .int .i64 a2] 41] ∧ E_ = [(0, .pointer (some ⟨B0, 0, none⟩)), (1, .int .i64 a1), (7, .pointer (some ⟨bl161, 0, none⟩)), (63, .int .i64 (x180.length : Int)), (64, .int .i64 x222)]) _ ⟨_, ⟨c0_1, 0, v3, _, ht182, (hS.pickB [1, 2, 3, 0] 4 rfl rfl), rfl⟩, Sub.cons rfl (Sub.cons rfl (Sub.cons rfl (Sub.cons rfl (Sub.cons rfl (Sub.nil _)))))⟩ ?_
  clear ht182 hS
  rintro m182 _ w217 ⟨x221, x222, v220, R216, ht182, hS, rfl⟩
  obtain ⟨m182, rfl, o182, ho182, ht182⟩ := iter_some ht182
  replace ho182 : machine_goBack_B1 fuel x180 a1 y156 a2 x221 x222 = some o182 := ho182
  unfold machine_goBack_B1 at ho182
  refine e_seq fun K258 hK258 => ?_
  refine e_region_text rfl ?_
  refine q_lss rfl rfl rfl ?_
  refine eseq_nil ?_
  refine hK258 _ _ ?_
  refine e_seq fun K259 hK259 => ?_
  refine e_cond rfl (fun hc260 => ?_) (fun hc260 => ?_)
  · replace ho182 := (if_pos hc260).symm.trans ho182
    refine e_skip ?_
    refine hK259 _ _ ?_
    refine e_seq fun K261 hK261 => ?_
    refine e_block ?_
    refine e_seq fun K262 hK262 => ?_
    refine e_region_text rfl ?_
    refine q_move rfl rfl ?_
    refine q_assign rfl rfl ?_
    refine eseq_nil ?_
    refine hK262 _ _ ?_
    refine e_seq fun K263 hK263 => ?_
    refine e_region_text rfl ?_
    refine q_move rfl rfl ?_
    refine q_move rfl rfl ?_
    refine q_neq rfl rfl rfl ?_
    refine eseq_nil ?_
    refine hK263 _ _ ?_
    refine e_cond rfl (fun hc264 => ?_) (fun hc264 => ?_)
    · replace ho182 := (if_pos hc264).symm.trans ho182
      refine e_region_draw mixed (fun _ => False) [0, 0, 2, 6, 14, 30, 0, 0, 0, 448, 960, 2046, 4095, 8191, 16383, 32767] [10] [0, 1, 2, 3, 4, 5, 6, 7, 8, 9, 10, 11, 12, 13, 14, 15] (by kernel_rfl) ?_
      refine q_move rfl rfl ?_
      refine q_move rfl rfl ?_
      refine q_nilCheck rfl rfl ?_
      refine q_field rfl rfl ?_
      refine q_field rfl rfl ?_
      refine q_load rfl (Blk.cell (hS.blk 0 rfl) rfl) rfl ?_
      refine q_move rfl rfl ?_
      refine q_move rfl rfl ?_
      refine q_loadAgg rfl (Blk.cellsAt (hS.blk 3 rfl) 0 3 rfl) rfl rfl ?_
      refine q_build (Parts.cons rfl rfl (Parts.cons rfl rfl (Parts.cons rfl rfl (Parts.cons rfl rfl Parts.nil)))) rfl rfl ?_
      refine q_litO (T := letterTy) (S := (fun _ => False)) (cells := [[.int .i64 a1, .int .i64 x222, .bool true, .int .i64 0, .int .i64 0, .int .i64 a1, .int .i64 y156.inc, .int .i64 a2]]) (ys := [(⟨a1, x222, true, (⟨0, 0⟩ : Lab), (⟨a1, y156.inc, a2⟩ : EndI)⟩ : Letter)]) ((Parts.cons rfl rfl Parts.nil)) rfl rfl rfl rfl rfl rfl rfl (fun w1 hB => ⟨⟨[_], _, rfl, rfl, ⟨[_], _, rfl, rfl, ⟨[_], _, rfl, rfl, ⟨[_, _], _, rfl, ⟨[_], _, rfl, rfl, rfl⟩, ⟨[_], _, rfl, rfl, ⟨[_], _, rfl, rfl, rfl⟩⟩⟩⟩⟩⟩, trivial⟩) (fun _ h => h.elim) rfl fun w270 v270 ho270 hv270 hB270 => ?_
      replace hS := hS.newOwnS hB270 ho270 hv270 (fun _ h => h.elim)
      obtain ⟨x273, hx273, ho182⟩ := Option.of_bind ho182
      refine q_catOwn (T := letterTy) rfl rfl rfl rfl (hS.own 3 rfl) rfl (hS.own 0 rfl) (fun _ h _ => h.elim) (snoc_cat hx273) (Nat.zero_le _) rfl (fun h => by cases h) fun v272 w272 hw272 hgr272 hnw272 => ?_
      have hk272 := hS.keptOwn 3 rfl hgr272
      replace hS := hS.setOwn 3 rfl hw272 hgr272 hnw272; simp only [List.set] at hS
      refine q_nilCheck rfl rfl ?_
      refine q_field rfl rfl ?_
      refine q_field rfl rfl ?_
      refine q_store rfl rfl (hS.blk 1 rfl) (Nat.le_of_ble_eq_true rfl) (hS.own 3 rfl).one rfl rfl fun w274 hb274 hO274 => ?_
      have hk274 := hS.keptBlk 1 rfl hO274
      replace hS := hS.setBlk 1 rfl hb274 hO274; simp only [List.set] at hS
      refine eseq_nil ?_
      refine hK261 _ _ ?_
      refine e_region_text rfl ?_
      refine q_addW rfl rfl rfl ?_
      refine q_move rfl rfl ?_
      refine eseq_nil ?_
      obtain rfl := Option.some.inj ho182
      exact ⟨m182, _, Nat.lt_succ_self _, ⟨x273, (w64 (x222 + 1)), v272, _, ht182, (hS.pickB [1, 2, 3, 4] 5 rfl rfl), rfl⟩, Sub.cons rfl (Sub.cons rfl (Sub.cons rfl (Sub.cons rfl (Sub.cons rfl (Sub.nil _)))))⟩
    · replace ho182 := (if_neg (not_true hc264)).symm.trans ho182
      refine e_skip ?_
      refine hK261 _ _ ?_
      refine e_region_text rfl ?_
      refine q_addW rfl rfl rfl ?_
      refine q_move rfl rfl ?_
      refine eseq_nil ?_
      obtain rfl := Option.some.inj ho182
      exact ⟨m182, _, Nat.lt_succ_self _, ⟨x221, (w64 (x222 + 1)), v220, _, ht182, hS, rfl⟩, Sub.cons rfl (Sub.cons rfl (Sub.cons rfl (Sub.cons rfl (Sub.cons rfl (Sub.nil _)))))⟩
  · replace ho182 := (if_neg (not_true hc260)).symm.trans ho182
    refine e_exit ?_
    obtain rfl := Option.some.inj ho182
    obtain rfl := Option.some.inj ht182
    replace h : machine_goBack_K1 fuel x180 x221 = some r := h
    unfold machine_goBack_K1 at h
    obtain rfl := Option.some.inj h
    exact ⟨_, res0 rfl, v2, v220, _, rfl, (hS.pickB [0, 1, 2] 4 rfl rfl)⟩
theorem cascade_machine_check_1_w {F R : Nat → Prop} {w : World} {fuel : Nat} {a0 : Evt} {c1_0 : Int} {c1_1 : (List Evt)} {c1_2 : Int} {c1_3 : (List EndI)} {B1 : Nat} {v2 : Value} {v3 : Value} {r : (Bool)} (hS : Sep F R R w w []) (f1 : Lent w R B1 [.int .i64 c1_0, v2, .int .i64 c1_2, v3] 48) (f2 : IsSlice evtTy w R v2 c1_1) (f3 : IsSlice endITy w R v3 c1_3) (h : cascade_machine_check_1 fuel a0 c1_0 c1_1 c1_2 c1_3 = some r) :
    Gives Try.prog 69 [.agg #[.int .i64 a0.kind, .int .i64 a0.inc, .int .i64 a0.frm, .int .i64 a0.sent.inc, .int .i64 a0.sent.index, .int .i64 a0.ord, .int .i64 a0.value], .pointer (some ⟨B1, 0, none⟩)] w fun u w1 => ∃ (R1 : Nat → Prop), u = .bool r ∧ Sep F R R1 w w1 [] := by
  refine fn_of Try.func69 rfl Try.ntmps69 (Nat.le_of_ble_eq_true rfl) ?_
  unfold cascade_machine_check_1 at h
  refine e_seq fun K16 hK16 => ?_
  refine e_region_text rfl ?_
  refine q_boxB rfl rfl rfl fun w17 bl17 hg17 hb17 hB17 => ?_
  replace f1 := f1.ext hB17
  replace f2 := f2.ext hB17
  replace f3 := f3.ext hB17
  replace hS := hS.newBlk hB17 hg17 hb17
  refine q_assign rfl rfl ?_
  refine eseq_nil ?_
  refine hK16 _ _ ?_
  refine e_seq fun K19 hK19 => ?_
  refine e_region_text rfl ?_
  refine q_field rfl rfl ?_
  refine q_load rfl (Blk.cell (hS.blk 0 rfl) rfl) rfl ?_
  refine q_eql rfl rfl rfl ?_
  refine q_move rfl rfl ?_
  obtain ⟨x25, hx24, h⟩ := Option.of_bind h
  refine g_andM 7 hx24 rfl trivial rfl rfl ?_ ?_ ?_
  · intro hg24 hx24
    clear h
    have hT24 := Below.refl (World.heap w17).size w17
    refine g_run rfl ?_; refine q_field rfl rfl ?_
    refine g_run rfl ?_; refine q_load rfl (Blk.cell f1.blk rfl) rfl ?_
    refine g_run rfl ?_; refine q_field rfl rfl ?_
    refine g_run rfl ?_; refine q_load rfl (Blk.cell (hS.blk 0 rfl) rfl) rfl ?_
    refine g_run rfl ?_; refine q_field rfl rfl ?_
    refine g_run rfl ?_; refine q_loadAgg rfl (Blk.cellsAt (hS.blk 0 rfl) 3 2 rfl) rfl rfl ?_
    obtain ⟨r27, hr27, hx24⟩ := Option.of_bind hx24
    refine g_run rfl ?_; refine q_call rfl (incarnation_Undone_w (a2 := (⟨a0.sent.inc, a0.sent.index⟩ : Lab)) (Sep.enter (As := []) hS) f3 hr27) rfl ?_
    rintro _ w26 ⟨R26, rfl, hC26⟩
    have hB26 : Below (World.heap w17).size w17 w26 := hC26.stepB0
    refine ⟨fun _ => .of_below hB26, ?_⟩
    replace f3 := (f3.ext hB26).mono fun k hk _ => hC26.ro0 k hk
    replace hT24 := hT24.trans (Below.mono hB26 hT24.size)
    replace hS := Sep.leave (As := []) hS hC26; simp only [List.cons_append, List.nil_append] at hS
    cases hx24
    exact eseq_nil ⟨hT24, Sub.set rfl (Sub.set rfl (Sub.set rfl (Sub.set rfl (Sub.set rfl (Sub.set rfl (Sub.set rfl (Sub.bool true rfl hg24))))))), rfl⟩
  · intro hg24
    refine g_skip rfl rfl rfl ?_
    refine g_skip rfl rfl rfl ?_
    refine g_skip rfl rfl rfl ?_
    refine g_skip rfl rfl rfl ?_
    refine g_skip rfl rfl rfl ?_
    refine g_skip rfl rfl rfl ?_
    refine g_skip rfl rfl rfl ?_
    exact eseq_nil ⟨rfl, Sub.set rfl (Sub.set rfl (Sub.set rfl (Sub.set rfl (Sub.set rfl (Sub.set rfl (Sub.set rfl (Sub.bool false rfl hg24)))))))⟩
  intro wm24 hBm24; clear hx24
  replace hS := hS.below hBm24
  refine q_assign rfl rfl ?_
  refine eseq_nil ?_
  refine hK19 _ _ ?_
  refine e_ret ?_
  obtain rfl := Option.some.inj h
  exact ⟨_, res1 rfl rfl, _, rfl, (hS.pickB [] 1 rfl rfl)⟩
theorem IndexUndone_w {F R : Nat → Prop} {w : World} {fuel : Nat} {a0 : (List Evt)} {c1a_0 : Int} {c1a_1 : (List Evt)} {c1a_2 : Int} {c1a_3 : (List EndI)} {v1 : Value} {B1_0 : Nat} {v3 : Value} {v4 : Value} {r : (Int)} (hS : Sep F R R w w []) (f1 : IsSlice evtTy w R v1 a0) (f2 : Lent w R B1_0 [.int .i64 c1a_0, v3, .int .i64 c1a_2, v4] 48) (f3 : IsSlice evtTy w R v3 c1a_1) (f4 : IsSlice endITy w R v4 c1a_3) (h : IndexUndone fuel a0 c1a_0 c1a_1 c1a_2 c1a_3 = some r) :
    Gives Try.prog 54 [v1, .func (.func 69) #[] #[.pointer (some ⟨B1_0, 0, none⟩)]] w fun u w1 => ∃ (R1 : Nat → Prop), u = .int .i64 r ∧ Sep F R R1 w w1 [] := by
  refine fn_of Try.func54 rfl Try.ntmps54 (Nat.le_of_ble_eq_true rfl) ?_
  unfold IndexUndone at h
  refine e_seq fun K79 hK79 => ?_
  refine e_region_text rfl ?_
  refine q_assign rfl rfl ?_
  refine eseq_nil ?_
  refine hK79 _ _ ?_
  refine e_seq fun K80 hK80 => ?_
  refine e_seq fun K81 hK81 => ?_
  refine e_region_text rfl ?_
  refine q_move rfl rfl ?_
  refine q_lenS rfl f1 rfl ?_
  refine q_move rfl rfl ?_
  refine eseq_nil ?_
  refine hK81 _ _ ?_
  refine e_block ?_
  obtain ⟨tl82, ht82, h⟩ := Option.of_bind h
  have hX82_0 : ∀ (R136 : Nat → Prop) (w137 : World) (E_ : Env), IndexUndone_K1 fuel = some r → Sep F R R136 w w137 [] → Sub [] E_ → K80 E_ w137 := by
    intro R136 w137 E_ h hS  hsub
    refine hK80 _ _ (e_sub hsub ?_); clear hsub
    unfold IndexUndone_K1 at h
    refine e_seq fun K138 hK138 => ?_
    refine e_region_text rfl ?_
    refine q_assign rfl rfl ?_
    refine eseq_nil ?_
    refine hK138 _ _ ?_
    refine e_ret ?_
    obtain rfl := Option.some.inj h
    exact ⟨_, res1 rfl rfl, _, rfl, hS⟩
  refine e_loop (fun m_ E_ w110 => ∃ (x115 : Int), ∃ (R109 : Nat → Prop), iter (fun s => IndexUndone_B1 fuel a0 c1a_0 c1a_1 c1a_2 c1a_3 s) m_ x115 = some tl82 ∧ Sep F R R109 w w110 [] ∧ IsSlice evtTy w110 R109 v1 a0 ∧ Lent w110 R109 B1_0 [.int .i64 c1a_0, v3, .int .i64 c1a_2, v4] 48 ∧ IsSlice evtTy w110 R109 v3 c1a_1 ∧ IsSlice endITy w110 R109 v4 c1a_3 ∧ E_ = [(0, v1), (1, .func (.func 69) #[] #[.pointer (some ⟨B1_0, 0, none⟩)]), (7, .int .i64 (a0.length : Int)), (8, .int .i64 x115)]) _ ⟨_, ⟨0, _, ht82, hS, f1, f2, f3, f4, rfl⟩, Sub.cons rfl (Sub.cons rfl (Sub.cons rfl (Sub.cons rfl (Sub.nil _))))⟩ ?_
  clear ht82 hS
  rintro m82 _ w110 ⟨x115, R109, ht82, hS, f111, f112, f113, f114, rfl⟩
  obtain ⟨m82, rfl, o82, ho82, ht82⟩ := iter_some ht82
  replace ho82 : IndexUndone_B1 fuel a0 c1a_0 c1a_1 c1a_2 c1a_3 x115 = some o82 := ho82
  unfold IndexUndone_B1 at ho82
  refine e_seq fun K139 hK139 => ?_
  refine e_region_text rfl ?_
  refine q_lss rfl rfl rfl ?_
  refine eseq_nil ?_
  refine hK139 _ _ ?_
  refine e_seq fun K140 hK140 => ?_
  refine e_cond rfl (fun hc141 => ?_) (fun hc141 => ?_)
  · replace ho82 := (if_pos hc141).symm.trans ho82
    refine e_skip ?_
    refine hK140 _ _ ?_
    refine e_seq fun K142 hK142 => ?_
    refine e_block ?_
    refine e_seq fun K143 hK143 => ?_
    refine e_region_text rfl ?_
    refine q_move rfl rfl ?_
    refine q_assign rfl rfl ?_
    refine eseq_nil ?_
    refine hK143 _ _ ?_
    refine e_seq fun K144 hK144 => ?_
    refine e_region_text rfl ?_
    refine q_move rfl rfl ?_
    refine q_move rfl rfl ?_
    refine q_move rfl rfl ?_
    obtain ⟨x145, hx145, ho82⟩ := Option.of_bind ho82
    refine q_atS (by infer_instance) rfl f111 rfl hx145 rfl fun b146 o146 hm146 f146 => ?_
    have hc147 := Evt_open f146
    refine q_loadAgg rfl hc147 rfl rfl ?_
    obtain ⟨r149, hr149, ho82⟩ := Option.of_bind ho82
    refine q_callC rfl rfl (cascade_machine_check_1_w (a0 := x145) (Sep.enter (As := []) hS) f112 f113 f114 hr149) rfl ?_
    rintro _ w148 ⟨R148, rfl, hC148⟩
    have hB148 : Below (World.heap w110).size w110 w148 := hC148.stepB0
    refine ⟨fun _ => .of_below hB148, ?_⟩
    replace f111 := (f111.ext hB148).mono fun k hk _ => hC148.ro0 k hk
    replace f112 := (f112.ext hB148).mono fun k hk _ => hC148.ro0 k hk
    replace f113 := (f113.ext hB148).mono fun k hk _ => hC148.ro0 k hk
    replace f114 := (f114.ext hB148).mono fun k hk _ => hC148.ro0 k hk
    replace hS := Sep.leave (As := []) hS hC148; simp only [List.cons_append, List.nil_append] at hS
    refine eseq_nil ?_
    refine hK144 _ _ ?_
    refine e_cond rfl (fun hc150 => ?_) (fun hc150 => ?_)
    · replace ho82 := (if_pos hc150).symm.trans ho82
      refine e_seq fun K151 hK151 => ?_
      refine e_region_text rfl ?_
      refine q_move rfl rfl ?_
      refine q_assign rfl rfl ?_
      refine eseq_nil ?_
      refine hK151 _ _ ?_
      refine e_ret ?_
      obtain rfl := Option.some.inj ho82
      obtain rfl := Option.some.inj ht82
      obtain rfl := Option.some.inj h
      exact ⟨_, res1 rfl rfl, _, rfl, hS⟩
    · replace ho82 := (if_neg (not_true hc150)).symm.trans ho82
      refine e_skip ?_
      refine hK142 _ _ ?_
      refine e_region_text rfl ?_
      refine q_addW rfl rfl rfl ?_
      refine q_move rfl rfl ?_
      refine eseq_nil ?_
      obtain rfl := Option.some.inj ho82
      exact ⟨m82, _, Nat.lt_succ_self _, ⟨(w64 (x115 + 1)), _, ht82, hS, f111, f112, f113, f114, rfl⟩, Sub.cons rfl (Sub.cons rfl (Sub.cons rfl (Sub.cons rfl (Sub.nil _))))⟩
  · replace ho82 := (if_neg (not_true hc141)).symm.trans ho82
    refine e_exit ?_
    obtain rfl := Option.some.inj ho82
    obtain rfl := Option.some.inj ht82
    exact hX82_0  _ _ _ h hS  (Sub.nil _)
theorem machine_check_w {F R : Nat → Prop} {w : World} {fuel : Nat} {a1 : Int} {c0_0 : (List Branch)} {c0_1 : (List Letter)} {B0 : Nat} {v2 : Value} {v3 : Value} {r : ((List Branch) × (List Letter))} (hS : Sep F R R w w [HP.blk B0 [v2, v3] 74, HP.own branchTy R 48 v2 c0_0, HP.own letterTy (fun _ => False) 43 v3 c0_1]) (h : machine_check fuel a1 c0_0 c0_1 = some r) :
    Gives Try.prog 61 [.pointer (some ⟨B0, 0, none⟩), .int .i64 a1] w fun u w1 => ∃ (v22 : Value), ∃ (v23 : Value), ∃ (R1 : Nat → Prop), u = .tuple #[] ∧ Sep F R R1 w w1 [HP.blk B0 [v22, v23] 74, HP.own branchTy R1 48 v22 r.1, HP.own letterTy (fun _ => False) 43 v23 r.2] := by
  refine fn_of Try.func61 rfl Try.ntmps61 (Nat.le_of_ble_eq_true rfl) ?_
  unfold machine_check at h
  refine e_seq fun K24 hK24 => ?_
  refine e_region_text rfl ?_
  refine q_move rfl rfl ?_
  refine q_nilCheck rfl rfl ?_
  refine q_field rfl rfl ?_
  refine q_field rfl rfl ?_
  refine q_load rfl (Blk.cell (hS.blk 0 rfl) rfl) rfl ?_
  refine q_move rfl rfl ?_
  obtain ⟨x25, hx25, h⟩ := Option.of_bind h
  refine q_indexO (by infer_instance) rfl (hS.own 1 rfl) rfl hx25 rfl ?_
  have f26 := (hS.ownR 1 rfl).elt hx25
  obtain ⟨v27, v28, hc29, f27, f28⟩ := Branch_open f26
  refine q_loadAgg rfl hc29 rfl rfl ?_
  refine q_allocB rfl fun w30 bl30 hg30 hb30 hB30 => ?_
  replace f27 := f27.ext hB30
  replace f28 := f28.ext hB30
  replace hS := hS.newBlk hB30 hg30 hb30
  refine q_storeAgg rfl rfl (hS.blk 0 rfl) rfl (Nat.le_of_ble_eq_true rfl) (all_cons rfl (all_cons f27.one (all_cons rfl (all_cons f28.one (all_nil))))) rfl rfl fun w32 hb32 hO32 => ?_
  simp only [setN, List.set, List.take, List.drop] at hb32
  have hk32 := hS.keptBlk 0 rfl hO32
  replace f27 := f27.kept hk32
  replace f28 := f28.kept hk32
  replace hS := hS.setBlk 0 rfl hb32 hO32; simp only [List.set] at hS
  refine eseq_nil ?_
  refine hK24 _ _ ?_
  refine e_seq fun K33 hK33 => ?_
  refine e_region_text rfl ?_
  refine q_field rfl rfl ?_
  refine q_load rfl (Blk.cell (hS.blk 0 rfl) rfl) rfl ?_
  refine q_makeFunc rfl rfl ?_
  obtain ⟨r35, hr35, h⟩ := Option.of_bind h
  refine q_call rfl (IndexUndone_w (Sep.all w32) (f27).old (Lent.of (hS.blk 0 rfl)) (f27).old (f28).old hr35) rfl ?_
  rintro _ w34 ⟨R34, rfl, hC34⟩
  have hB34 : Below (World.heap w32).size w32 w34 := hC34.stepBF
  refine ⟨fun _ => .of_below hB34, ?_⟩
  replace f27 := f27.ext hB34
  replace f28 := f28.ext hB34
  replace hS := hS.below hB34
  refine q_assign rfl rfl ?_
  refine eseq_nil ?_
  refine hK33 _ _ ?_
  refine e_seq fun K36 hK36 => ?_
  refine e_region_text rfl ?_
  refine q_move rfl rfl ?_
  refine q_geq rfl rfl rfl ?_
  refine eseq_nil ?_
  refine hK36 _ _ ?_
  refine e_cond rfl (fun hc37 => ?_) (fun hc37 => ?_)
  · replace h := (if_pos hc37).symm.trans h
    refine e_region_text rfl ?_
    refine q_move rfl rfl ?_
    refine q_move rfl rfl ?_
    refine q_move rfl rfl ?_
    obtain ⟨r39, hr39, h⟩ := Option.of_bind h
    replace hS := hS.pickB [1, 2, 3, 0] 4 rfl rfl; simp only [List.map_cons, List.map_nil, List.getD_cons_zero, List.getD_cons_succ] at hS
    refine q_call rfl (machine_goBack_w (Sep.enter (As := [_, _, _]) hS)  hr39) rfl ?_
    rintro _ w38 ⟨v40, v41, R38, rfl, hC38⟩
    refine ⟨(fun h => by cases h), ?_⟩
    have hk38 := hC38.keptR (Sep.offFeet (As := [_, _, _]) hS)
    replace hS := Sep.leave (As := [_, _, _]) hS hC38; simp only [List.cons_append, List.nil_append] at hS
    refine eseq_nil ?_
    obtain rfl := Option.some.inj h
    exact ⟨_, res0 rfl, v40, v41, _, rfl, (hS.pickB [0, 1, 2] 4 rfl rfl)⟩
  · replace h := (if_neg (not_true hc37)).symm.trans h
    refine e_skip ?_
    obtain rfl := Option.some.inj h
    exact ⟨_, res0 rfl, v2, v3, _, rfl, (hS.pickB [1, 2, 3] 4 rfl rfl)⟩
end Go.Proofs.Ytddohdppmejjoaa
