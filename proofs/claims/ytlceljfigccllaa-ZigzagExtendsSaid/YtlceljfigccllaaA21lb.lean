/- Printed walks: A21lb. -/
import Derived.Test.YtlceljfigccllaaA21k
import Derived.Test.YtlceljfigccllaaA21e
set_option linter.unusedVariables false
set_option linter.unusedSimpArgs false
namespace Go.Mine
open Go.RowKit
def ref03_SameInts_K1 (fuel : Nat) : Option (Bool) :=
  some true
def ref03_SameInts_B1 (fuel : Nat) (a0 : (List Int)) (a1 : (List Int)) (x99 : Int) : Option ((Int) ⊕ (Unit ⊕ (Bool))) :=
  (if (decide (x99 < (a0.length : Int))) = true then (ati a0 x99).bind fun x124 => (ati a1 x99).bind fun x126 => (if (x124 != x126) = true then some (Sum.inr (Sum.inr false)) else some (Sum.inl (w64 (x99 + 1)))) else some (Sum.inr (Sum.inl ())))
def ref03_SameInts (fuel : Nat) (a0 : (List Int)) (a1 : (List Int)) : Option (Bool) :=
  (if ((a0.length : Int) != (a1.length : Int)) = true then some false else (iter (fun s => ref03_SameInts_B1 fuel a0 a1 s) fuel 0).bind (fun t => Sum.elim (fun t => ref03_SameInts_K1 fuel) (fun t => some t) t))
def law21_ZigzagExtends_J1 (fuel : Nat) (r156 : (Pat × Int)) (x210 : (List Pt)) : Option (Bool) :=
  (zigzag_Extension fuel (⟨r156.1.lens, r156.1.ckpts, r156.1.arcs⟩ : Pat) x210).bind fun r213 => (ref21_Extension fuel (⟨r156.1.lens, r156.1.ckpts, r156.1.arcs⟩ : Pat) x210).bind fun r217 => (andM (r213.2 == r217.2) ((ref03_SameInts fuel r213.1 r217.1).bind fun r247 => some r247)).bind fun x245 => (andM x245 ((zigzag_Extendable fuel (⟨r156.1.lens, r156.1.ckpts, r156.1.arcs⟩ : Pat) x210).bind fun r257 => (ref21_Extendable fuel (⟨r156.1.lens, r156.1.ckpts, r156.1.arcs⟩ : Pat) x210).bind fun r259 => some (r257 == r259))).bind fun x255 => some x255
def law21_ZigzagExtends (fuel : Nat) (a0 : (List Int)) (a1 : (List Int)) (a2 : Int) : Option (Bool) :=
  (law21_awake fuel).bind fun r147 => (if (!r147) = true then some false else (make_New fuel a0 240).bind fun r152 => (make_Codes_Pattern fuel 20 r152.1 r152.2).bind fun r156 => (make_New fuel a1 20).bind fun r173 => (make_Codes_Ckpts fuel (⟨r156.1.lens, r156.1.ckpts, r156.1.arcs⟩ : Pat) r173.1 r173.2).bind fun r178 => (andM (decide (0 < (r178.1.length : Int))) ((remI a2 4).bind fun x266 => some (x266 == 3))).bind fun x265 => (if x265 = true then (ati r178.1 0).bind fun x268 => (ati r178.1 0).bind fun x271 => (ati r156.1.ckpts x271.proc).bind fun x274 => (remI (w64 a2) (w64 ((x274.length : Int) + 1))).bind fun x277 => (snoc r178.1 (⟨x268.proc, x277⟩ : Pt)).bind fun x281 => law21_ZigzagExtends_J1 fuel r156 x281 else law21_ZigzagExtends_J1 fuel r156 r178.1))
end Go.Mine
namespace Go.Proofs.Ytlceljfigccllaa
open Go.RowKit Go.Mine
attribute [local irreducible] eseq ewp iter
theorem ref03_SameInts_w {F R : Nat → Prop} {w : World} {fuel : Nat} {a0 : (List Int)} {a1 : (List Int)} {v1 : Value} {v2 : Value} {r : (Bool)} (hS : Sep F R R w w []) (f1 : IsSlice Ty.int w R v1 a0) (f2 : IsSlice Ty.int w R v2 a1) (h : ref03_SameInts fuel a0 a1 = some r) :
    Gives Try.prog 36 [v1, v2] w fun u w1 => ∃ (R1 : Nat → Prop), u = .bool r ∧ Sep F R R1 w w1 [] := by
  refine fn_of Try.func36 rfl Try.ntmps36 (Nat.le_of_ble_eq_true rfl) ?_
  unfold ref03_SameInts at h
  refine e_seq fun K67 hK67 => ?_
  refine e_region_text rfl ?_
  refine q_assign rfl rfl ?_
  refine eseq_nil ?_
  refine hK67 _ _ ?_
  refine e_seq fun K68 hK68 => ?_
  refine e_seq fun K69 hK69 => ?_
  refine e_region_text rfl ?_
  refine q_move rfl rfl ?_
  refine q_lenS rfl f1 rfl ?_
  refine q_move rfl rfl ?_
  refine q_lenS rfl f2 rfl ?_
  refine q_neq rfl rfl rfl ?_
  refine eseq_nil ?_
  refine hK69 _ _ ?_
  refine e_cond rfl (fun hc70 => ?_) (fun hc70 => ?_)
  · replace h := (if_pos hc70).symm.trans h
    refine e_seq fun K71 hK71 => ?_
    refine e_region_text rfl ?_
    refine q_assign rfl rfl ?_
    refine eseq_nil ?_
    refine hK71 _ _ ?_
    refine e_ret ?_
    obtain rfl := Option.some.inj h
    exact ⟨_, res1 rfl rfl, _, rfl, hS⟩
  · replace h := (if_neg (not_true hc70)).symm.trans h
    refine e_skip ?_
    refine hK68 _ _ ?_
    refine e_seq fun K72 hK72 => ?_
    refine e_seq fun K73 hK73 => ?_
    refine e_region_text rfl ?_
    refine q_assign rfl rfl ?_
    refine eseq_nil ?_
    refine hK73 _ _ ?_
    refine e_block ?_
    obtain ⟨tl74, ht74, h⟩ := Option.of_bind h
    have hX74_0 : ∀ (R116 : Nat → Prop) (w117 : World) (E_ : Env), ref03_SameInts_K1 fuel = some r → Sep F R R116 w w117 [] → Sub [] E_ → K72 E_ w117 := by
      intro R116 w117 E_ h hS  hsub
      refine hK72 _ _ (e_sub hsub ?_); clear hsub
      unfold ref03_SameInts_K1 at h
      refine e_seq fun K118 hK118 => ?_
      refine e_region_text rfl ?_
      refine q_assign rfl rfl ?_
      refine eseq_nil ?_
      refine hK118 _ _ ?_
      refine e_ret ?_
      obtain rfl := Option.some.inj h
      exact ⟨_, res1 rfl rfl, _, rfl, hS⟩
    refine e_loop (fun m_ E_ w96 => ∃ (x99 : Int), ∃ (R95 : Nat → Prop), iter (fun s => ref03_SameInts_B1 fuel a0 a1 s) m_ x99 = some tl74 ∧ Sep F R R95 w w96 [] ∧ IsSlice Ty.int w96 R95 v1 a0 ∧ IsSlice Ty.int w96 R95 v2 a1 ∧ E_ = [(0, v1), (1, v2), (5, .int .i64 x99)]) _ ⟨_, ⟨0, _, ht74, hS, f1, f2, rfl⟩, Sub.cons rfl (Sub.cons rfl (Sub.cons rfl (Sub.nil _)))⟩ ?_
    clear ht74 hS
    rintro m74 _ w96 ⟨x99, R95, ht74, hS, f97, f98, rfl⟩
    obtain ⟨m74, rfl, o74, ho74, ht74⟩ := iter_some ht74
    replace ho74 : ref03_SameInts_B1 fuel a0 a1 x99 = some o74 := ho74
    unfold ref03_SameInts_B1 at ho74
    refine e_seq fun K119 hK119 => ?_
    refine e_seq fun K120 hK120 => ?_
    refine e_region_text rfl ?_
    refine q_move rfl rfl ?_
    refine q_move rfl rfl ?_
    refine q_lenS rfl f97 rfl ?_
    refine q_lss rfl rfl rfl ?_
    refine eseq_nil ?_
    refine hK120 _ _ ?_
    refine e_cond rfl (fun hc121 => ?_) (fun hc121 => ?_)
    · replace ho74 := (if_pos hc121).symm.trans ho74
      refine e_skip ?_
      refine hK119 _ _ ?_
      refine e_seq fun K122 hK122 => ?_
      refine e_block ?_
      refine e_seq fun K123 hK123 => ?_
      refine e_region_draw mixed (fun _ => False) [0, 0, 3, 7, 0, 0, 48, 112, 255] [] [0, 1, 2, 3, 4, 5, 6, 7, 8] (by kernel_rfl) ?_
      refine q_move rfl rfl ?_
      refine q_move rfl rfl ?_
      obtain ⟨x124, hx124, ho74⟩ := Option.of_bind ho74
      refine q_atS (by infer_instance) rfl f97 rfl hx124 rfl fun b125 o125 hm125 f125 => ?_
      refine q_load rfl (Elt.intCell f125) rfl ?_
      refine q_move rfl rfl ?_
      refine q_move rfl rfl ?_
      obtain ⟨x126, hx126, ho74⟩ := Option.of_bind ho74
      refine q_atS (by infer_instance) rfl f98 rfl hx126 rfl fun b127 o127 hm127 f127 => ?_
      refine q_load rfl (Elt.intCell f127) rfl ?_
      refine q_neq rfl rfl rfl ?_
      refine eseq_nil ?_
      refine hK123 _ _ ?_
      refine e_cond rfl (fun hc128 => ?_) (fun hc128 => ?_)
      · replace ho74 := (if_pos hc128).symm.trans ho74
        refine e_seq fun K129 hK129 => ?_
        refine e_region_text rfl ?_
        refine q_assign rfl rfl ?_
        refine eseq_nil ?_
        refine hK129 _ _ ?_
        refine e_ret ?_
        obtain rfl := Option.some.inj ho74
        obtain rfl := Option.some.inj ht74
        obtain rfl := Option.some.inj h
        exact ⟨_, res1 rfl rfl, _, rfl, hS⟩
      · replace ho74 := (if_neg (not_true hc128)).symm.trans ho74
        refine e_skip ?_
        refine hK122 _ _ ?_
        refine e_region_text rfl ?_
        refine q_move rfl rfl ?_
        refine q_addW rfl rfl rfl ?_
        refine q_assign rfl rfl ?_
        refine eseq_nil ?_
        obtain rfl := Option.some.inj ho74
        exact ⟨m74, _, Nat.lt_succ_self _, ⟨(w64 (x99 + 1)), _, ht74, hS, f97, f98, rfl⟩, Sub.cons rfl (Sub.cons rfl (Sub.cons rfl (Sub.nil _)))⟩
    · replace ho74 := (if_neg (not_true hc121)).symm.trans ho74
      refine e_exit ?_
      obtain rfl := Option.some.inj ho74
      obtain rfl := Option.some.inj ht74
      exact hX74_0  _ _ _ h hS  (Sub.nil _)
theorem law21_ZigzagExtends_w {F R : Nat → Prop} {w : World} {fuel : Nat} {a0 : (List Int)} {a1 : (List Int)} {a2 : Int} {v1 : Value} {v2 : Value} {r : (Bool)} (hS : Sep F R R w w []) (f1 : IsSlice Ty.u8 w R v1 a0) (f2 : IsSlice Ty.u8 w R v2 a1) (h : law21_ZigzagExtends fuel a0 a1 a2 = some r) :
    Gives Try.prog 8 [v1, v2, .int .u8 a2] w fun u w1 => ∃ (R1 : Nat → Prop), u = .bool r ∧ Sep F R R1 w w1 [] := by
  refine fn_of Try.func8 rfl Try.ntmps8 (Nat.le_of_ble_eq_true rfl) ?_
  unfold law21_ZigzagExtends at h
  refine e_seq fun K143 hK143 => ?_
  refine e_region_text rfl ?_
  refine q_assign rfl rfl ?_
  refine eseq_nil ?_
  refine hK143 _ _ ?_
  refine e_seq fun K144 hK144 => ?_
  refine e_seq fun K145 hK145 => ?_
  refine e_region_text rfl ?_
  obtain ⟨r147, hr147, h⟩ := Option.of_bind h
  refine q_call rfl (law21_awake_w (Sep.enter (As := []) hS)  hr147) rfl ?_
  rintro _ w146 ⟨R146, rfl, hC146⟩
  have hB146 : Below (World.heap w).size w w146 := hC146.stepB0
  refine ⟨fun _ => .of_below hB146, ?_⟩
  replace f1 := (f1.ext hB146).mono fun k hk _ => hC146.ro0 k hk
  replace f2 := (f2.ext hB146).mono fun k hk _ => hC146.ro0 k hk
  replace hS := Sep.leave (As := []) hS hC146; simp only [List.cons_append, List.nil_append] at hS
  refine q_not rfl rfl ?_
  refine eseq_nil ?_
  refine hK145 _ _ ?_
  refine e_cond rfl (fun hc148 => ?_) (fun hc148 => ?_)
  · replace h := (if_pos hc148).symm.trans h
    refine e_seq fun K149 hK149 => ?_
    refine e_region_text rfl ?_
    refine q_assign rfl rfl ?_
    refine eseq_nil ?_
    refine hK149 _ _ ?_
    refine e_ret ?_
    obtain rfl := Option.some.inj h
    exact ⟨_, res1 rfl rfl, _, rfl, hS⟩
  · replace h := (if_neg (not_true hc148)).symm.trans h
    refine e_skip ?_
    refine hK144 _ _ ?_
    refine e_seq fun K150 hK150 => ?_
    refine e_region_text rfl ?_
    refine q_move rfl rfl ?_
    obtain ⟨r152, hr152, h⟩ := Option.of_bind h
    refine q_call rfl (make_New_w (Sep.enter (As := []) hS) f1 hr152) rfl ?_
    rintro _ w151 ⟨B153, v154, R151, rfl, hC151, f154⟩
    have hB151 : Below (World.heap w146).size w146 w151 := hC151.stepB0
    refine ⟨fun _ => .of_below hB151, ?_⟩
    replace f2 := (f2.ext hB151).mono fun k hk _ => hC151.ro0 k hk
    replace f1 := (f1.ext hB151).mono fun k hk _ => hC151.ro0 k hk
    replace hS := Sep.leave (As := []) hS hC151; simp only [List.cons_append, List.nil_append] at hS
    obtain ⟨r156, hr156, h⟩ := Option.of_bind h
    refine q_call rfl (make_Codes_Pattern_w (Sep.enter (As := [_]) hS) f154 hr156) rfl ?_
    rintro _ w155 ⟨v157, v158, v159, R155, rfl, hC155, f157, f158⟩
    refine ⟨(fun h => by cases h), ?_⟩
    have hk155 := hC155.keptR (Sep.offFeet (As := [_]) hS)
    replace f2 := (f2.kept hk155).mono fun k hk _ => hC155.ro0 k hk
    replace f154 := (f154.kept hk155).mono fun k hk _ => hC155.ro0 k hk
    replace hS := Sep.leave (As := [_]) hS hC155; simp only [List.cons_append, List.nil_append] at hS
    refine q_allocB rfl fun w160 bl160 hg160 hb160 hB160 => ?_
    replace f2 := f2.ext hB160
    replace f157 := f157.ext hB160
    replace f158 := f158.ext hB160
    replace hS := hS.newBlk hB160 hg160 hb160
    refine q_storeAgg rfl rfl (hS.blk 0 rfl) rfl (Nat.le_of_ble_eq_true rfl) (all_cons f157.one (all_cons f158.one (all_cons (hS.own 2 rfl).one (all_nil)))) rfl rfl fun w162 hb162 hO162 => ?_
    simp only [setN, List.set, List.take, List.drop] at hb162
    have hk162 := hS.keptBlk 0 rfl hO162
    replace f2 := f2.kept hk162
    replace f157 := f157.kept hk162
    replace f158 := f158.kept hk162
    replace hS := hS.setBlk 0 rfl hb162 hO162; simp only [List.set] at hS
    refine eseq_nil ?_
    refine hK150 _ _ ?_
    refine e_seq fun K163 hK163 => ?_
    refine e_region_draw mixed (fun _ => False) [0, 1, 0, 7, 15] [1] [0, 2, 1, 3, 4] (by kernel_rfl) ?_
    refine q_move rfl rfl ?_
    refine q_loadAgg rfl (Blk.cellsAt (hS.blk 0 rfl) 0 3 rfl) rfl rfl ?_
    obtain ⟨r173, hr173, h⟩ := Option.of_bind h
    refine q_call rfl (make_New_w (Sep.enter (As := []) hS) f2 hr173) rfl ?_
    rintro _ w172 ⟨B174, v175, R172, rfl, hC172, f175⟩
    have hB172 : Below (World.heap w162).size w162 w172 := hC172.stepB0
    refine ⟨fun _ => .of_below hB172, ?_⟩
    replace f157 := (f157.ext hB172).mono fun k hk _ => hC172.ro0 k hk
    replace f158 := (f158.ext hB172).mono fun k hk _ => hC172.ro0 k hk
    replace f2 := (f2.ext hB172).mono fun k hk _ => hC172.ro0 k hk
    replace hS := Sep.leave (As := []) hS hC172; simp only [List.cons_append, List.nil_append] at hS
    obtain ⟨R177, hS, hm177, f177⟩ := hS.freezeOwn 3 rfl; simp only [List.eraseIdx] at hS
    replace f157 := f157.mono fun k hk _ => hm177 k hk
    replace f158 := f158.mono fun k hk _ => hm177 k hk
    replace f175 := f175.mono fun k hk _ => hm177 k hk
    obtain ⟨r178, hr178, h⟩ := Option.of_bind h
    refine q_call rfl (make_Codes_Ckpts_w (a1 := (⟨r156.1.lens, r156.1.ckpts, r156.1.arcs⟩ : Pat)) (Sep.enter (As := [_]) hS) f157 f158 f177 f175 hr178) rfl ?_
    rintro v179 w176 ⟨_, R176, rfl, hC176⟩
    refine ⟨(fun h => by cases h), ?_⟩
    have hk176 := hC176.keptR (Sep.offFeet (As := [_]) hS)
    replace f157 := (f157.kept hk176).mono fun k hk _ => hC176.ro0 k hk
    replace f158 := (f158.kept hk176).mono fun k hk _ => hC176.ro0 k hk
    replace f177 := (f177.kept hk176).mono fun k hk _ => hC176.ro0 k hk
    replace f175 := (f175.kept hk176).mono fun k hk _ => hC176.ro0 k hk
    replace hS := Sep.leave (As := [_]) hS hC176; simp only [List.cons_append, List.nil_append] at hS
    refine q_assign rfl rfl ?_
    refine eseq_nil ?_
    refine hK163 _ _ ?_
    refine e_seq fun K180 hK180 => ?_
    have hJ180 : ∀ (x210 : (List Pt)) (v209 : Value) (R203 : Nat → Prop) (w204 : World) (E_ : Env), law21_ZigzagExtends_J1 fuel r156 x210 = some r → Sep F R R203 w w204 [HP.blk bl160 [v157, v158, v159] 28, HP.own ptTy (fun _ => False) 36 v209 x210] → IsSlice Ty.int w204 R203 v157 r156.1.lens → IsSlice (Ty.slice Ty.int) w204 R203 v158 r156.1.ckpts → IsSlice arcTy w204 R203 v159 r156.1.arcs → Sub [(7, .pointer (some ⟨bl160, 0, none⟩)), (8, v209)] E_ → K180 E_ w204 := by
      intro x210 v209 R203 w204 E_ h hS f205 f206 f207 hsub
      refine hK180 _ _ (e_sub hsub ?_); clear hsub
      unfold law21_ZigzagExtends_J1 at h
      refine e_seq fun K211 hK211 => ?_
      refine e_region_text rfl ?_
      refine q_loadAgg rfl (Blk.cellsAt (hS.blk 0 rfl) 0 3 rfl) rfl rfl ?_
      refine q_move rfl rfl ?_
      obtain ⟨r213, hr213, h⟩ := Option.of_bind h
      refine q_call rfl (zigzag_Extension_w (a0 := (⟨r156.1.lens, r156.1.ckpts, r156.1.arcs⟩ : Pat)) (Sep.all w204) (f205).old (f206).old (f207).old ((hS.isl 1 rfl)).old hr213) rfl ?_
      rintro _ w212 ⟨v214, R212, rfl, hC212⟩
      have hB212 : Below (World.heap w204).size w204 w212 := hC212.stepBF
      refine ⟨fun _ => .of_below hB212, ?_⟩
      replace f205 := f205.ext hB212
      replace f206 := f206.ext hB212
      replace f207 := f207.ext hB212
      replace hS := hS.newOwnS hB212 (hC212.own 0 rfl) (hC212.fresh 0 rfl) (fun _ h => h.elim)
      refine q_move rfl rfl ?_
      refine q_extract rfl rfl rfl ?_
      refine q_extract rfl rfl rfl ?_
      refine q_assign rfl rfl ?_
      refine q_assign rfl rfl ?_
      refine eseq_nil ?_
      refine hK211 _ _ ?_
      refine e_seq fun K215 hK215 => ?_
      refine e_region_text rfl ?_
      refine q_loadAgg rfl (Blk.cellsAt (hS.blk 1 rfl) 0 3 rfl) rfl rfl ?_
      refine q_move rfl rfl ?_
      obtain ⟨r217, hr217, h⟩ := Option.of_bind h
      refine q_call rfl (ref21_Extension_w (a0 := (⟨r156.1.lens, r156.1.ckpts, r156.1.arcs⟩ : Pat)) (Sep.all w212) (f205).old (f206).old (f207).old ((hS.isl 2 rfl)).old hr217) rfl ?_
      rintro _ w216 ⟨v218, R216, rfl, hC216⟩
      have hB216 : Below (World.heap w212).size w212 w216 := hC216.stepBF
      refine ⟨fun _ => .of_below hB216, ?_⟩
      replace f205 := f205.ext hB216
      replace f206 := f206.ext hB216
      replace f207 := f207.ext hB216
      replace hS := hS.newOwnS hB216 (hC216.own 0 rfl) (hC216.fresh 0 rfl) (fun _ h => h.elim)
      refine q_move rfl rfl ?_
      refine q_extract rfl rfl rfl ?_
      refine q_extract rfl rfl rfl ?_
      refine q_assign rfl rfl ?_
      refine q_assign rfl rfl ?_
      refine eseq_nil ?_
      refine hK215 _ _ ?_
      refine e_seq fun K219 hK219 => ?_
      refine e_region_draw mixed (fun _ => False) [0, 0, 3, 7, 15, 15, 63, 127, 255, 511, 511, 2047, 511, 511, 16383, 32767, 65535, 131071] [11] [0, 1, 2, 3, 4, 5, 6, 7, 8, 9, 10, 12, 13, 11, 14, 15, 16, 17] (by kernel_rfl) ?_
      refine q_move rfl rfl ?_
      refine q_move rfl rfl ?_
      refine q_eqlB rfl rfl rfl ?_
      refine q_move rfl rfl ?_
      obtain ⟨x245, hx244, h⟩ := Option.of_bind h
      refine g_andM 3 hx244 rfl trivial rfl rfl ?_ ?_ ?_
      · intro hg244 hx244
        clear h
        have hT244 := Below.refl (World.heap w216).size w216
        refine g_run rfl ?_; refine q_move rfl rfl ?_
        refine g_run rfl ?_; refine q_move rfl rfl ?_
        obtain ⟨r247, hr247, hx244⟩ := Option.of_bind hx244
        refine g_run rfl ?_; refine q_call rfl (ref03_SameInts_w (Sep.all w216) ((hS.isl 1 rfl)).old ((hS.isl 0 rfl)).old hr247) rfl ?_
        rintro _ w246 ⟨R246, rfl, hC246⟩
        have hB246 : Below (World.heap w216).size w216 w246 := hC246.stepBF
        refine ⟨fun _ => .of_below hB246, ?_⟩
        replace f205 := f205.ext hB246
        replace f206 := f206.ext hB246
        replace f207 := f207.ext hB246
        replace hT244 := hT244.trans (Below.mono hB246 hT244.size)
        replace hS := hS.below hB246
        cases hx244
        exact eseq_nil ⟨hT244, Sub.set rfl (Sub.set rfl (Sub.set rfl (Sub.bool true rfl hg244))), rfl⟩
      · intro hg244
        refine g_skip rfl rfl rfl ?_
        refine g_skip rfl rfl rfl ?_
        refine g_skip rfl rfl rfl ?_
        exact eseq_nil ⟨rfl, Sub.set rfl (Sub.set rfl (Sub.set rfl (Sub.bool false rfl hg244)))⟩
      intro wm244 hBm244; clear hx244
      replace hS := hS.below hBm244
      replace f205 := f205.ext hBm244
      replace f206 := f206.ext hBm244
      replace f207 := f207.ext hBm244
      refine q_move rfl rfl ?_
      obtain ⟨x255, hx254, h⟩ := Option.of_bind h
      refine g_andM 7 hx254 rfl trivial rfl rfl ?_ ?_ ?_
      · intro hg254 hx254
        clear h
        have hT254 := Below.refl (World.heap wm244).size wm244
        refine g_run rfl ?_; refine q_loadAgg rfl (Blk.cellsAt (hS.blk 2 rfl) 0 3 rfl) rfl rfl ?_
        refine g_run rfl ?_; refine q_move rfl rfl ?_
        refine g_run rfl ?_; refine q_loadAgg rfl (Blk.cellsAt (hS.blk 2 rfl) 0 3 rfl) rfl rfl ?_
        refine g_run rfl ?_; refine q_move rfl rfl ?_
        obtain ⟨r257, hr257, hx254⟩ := Option.of_bind hx254
        refine g_run rfl ?_; refine q_call rfl (zigzag_Extendable_w (a0 := (⟨r156.1.lens, r156.1.ckpts, r156.1.arcs⟩ : Pat)) (Sep.all wm244) (f205).old (f206).old (f207).old ((hS.isl 3 rfl)).old hr257) rfl ?_
        rintro _ w256 ⟨R256, rfl, hC256⟩
        have hB256 : Below (World.heap wm244).size wm244 w256 := hC256.stepBF
        refine ⟨fun _ => .of_below hB256, ?_⟩
        replace f205 := f205.ext hB256
        replace f206 := f206.ext hB256
        replace f207 := f207.ext hB256
        replace hT254 := hT254.trans (Below.mono hB256 hT254.size)
        replace hS := hS.below hB256
        obtain ⟨r259, hr259, hx254⟩ := Option.of_bind hx254
        refine g_run rfl ?_; refine q_call rfl (ref21_Extendable_w (a0 := (⟨r156.1.lens, r156.1.ckpts, r156.1.arcs⟩ : Pat)) (Sep.all w256) (f205).old (f206).old (f207).old ((hS.isl 3 rfl)).old hr259) rfl ?_
        rintro _ w258 ⟨R258, rfl, hC258⟩
        have hB258 : Below (World.heap w256).size w256 w258 := hC258.stepBF
        refine ⟨fun _ => .of_below hB258, ?_⟩
        replace f205 := f205.ext hB258
        replace f206 := f206.ext hB258
        replace f207 := f207.ext hB258
        replace hT254 := hT254.trans (Below.mono hB258 hT254.size)
        replace hS := hS.below hB258
        refine g_run rfl ?_; refine q_eqlB rfl rfl rfl ?_
        cases hx254
        exact eseq_nil ⟨hT254, Sub.set rfl (Sub.set rfl (Sub.set rfl (Sub.set rfl (Sub.set rfl (Sub.set rfl (Sub.set rfl (Sub.bool true rfl hg254))))))), rfl⟩
      · intro hg254
        refine g_skip rfl rfl rfl ?_
        refine g_skip rfl rfl rfl ?_
        refine g_skip rfl rfl rfl ?_
        refine g_skip rfl rfl rfl ?_
        refine g_skip rfl rfl rfl ?_
        refine g_skip rfl rfl rfl ?_
        refine g_skip rfl rfl rfl ?_
        exact eseq_nil ⟨rfl, Sub.set rfl (Sub.set rfl (Sub.set rfl (Sub.set rfl (Sub.set rfl (Sub.set rfl (Sub.set rfl (Sub.bool false rfl hg254)))))))⟩
      intro wm254 hBm254; clear hx254
      replace hS := hS.below hBm254
      refine q_assign rfl rfl ?_
      refine eseq_nil ?_
      refine hK219 _ _ ?_
      refine e_ret ?_
      obtain rfl := Option.some.inj h
      exact ⟨_, res1 rfl rfl, _, rfl, (hS.pickB [] 4 rfl rfl)⟩
    refine e_seq fun K260 hK260 => ?_
    refine e_region_text rfl ?_
    refine q_move rfl rfl ?_
    refine q_lenS rfl (hS.isl 1 rfl) rfl ?_
    refine q_gtr rfl rfl rfl ?_
    refine q_move rfl rfl ?_
    obtain ⟨x265, hx264, h⟩ := Option.of_bind h
    refine g_andM 3 hx264 rfl trivial rfl rfl ?_ ?_ ?_
    · intro hg264 hx264
      clear h
      have hT264 := Below.refl (World.heap w176).size w176
      refine g_run rfl ?_; refine q_move rfl rfl ?_
      obtain ⟨x266, hx266, hx264⟩ := Option.of_bind hx264
      refine g_run rfl ?_; refine q_remM rfl rfl hx266 rfl ?_
      refine g_run rfl ?_; refine q_eql rfl rfl rfl ?_
      cases hx264
      exact eseq_nil ⟨hT264, Sub.set rfl (Sub.set rfl (Sub.set rfl (Sub.bool true rfl hg264))), rfl⟩
    · intro hg264
      refine g_skip rfl rfl rfl ?_
      refine g_skip rfl rfl rfl ?_
      refine g_skip rfl rfl rfl ?_
      exact eseq_nil ⟨rfl, Sub.set rfl (Sub.set rfl (Sub.set rfl (Sub.bool false rfl hg264)))⟩
    intro wm264 hBm264; clear hx264
    replace hS := hS.below hBm264
    replace f157 := f157.ext hBm264
    replace f158 := f158.ext hBm264
    replace f177 := f177.ext hBm264
    refine eseq_nil ?_
    refine hK260 _ _ ?_
    refine e_cond rfl (fun hc267 => ?_) (fun hc267 => ?_)
    · replace h := (if_pos hc267).symm.trans h
      refine e_region_draw mixed (fun _ => False) [0, 0, 2, 6, 14, 0, 32, 0, 128, 0, 512, 1536, 3584, 8064, 16256, 32640, 65408, 131040, 262142, 524286, 1048575, 2097151] [] [0, 1, 2, 3, 4, 5, 6, 7, 8, 9, 10, 11, 12, 13, 14, 15, 16, 17, 18, 19, 20, 21] (by kernel_rfl) ?_
      refine q_move rfl rfl ?_
      refine q_move rfl rfl ?_
      obtain ⟨x268, hx268, h⟩ := Option.of_bind h
      refine q_indexO (by infer_instance) rfl (hS.own 1 rfl) rfl hx268 rfl ?_
      refine q_field rfl rfl ?_
      have f269 := (hS.ownR 1 rfl).elt hx268
      have f270 := Pt_F0 f269
      refine q_load rfl (Elt.intCell f270) rfl ?_
      refine q_move rfl rfl ?_
      refine q_conv64 rfl rfl ?_
      refine q_field rfl rfl ?_
      refine q_load rfl (Blk.cell (hS.blk 2 rfl) rfl) rfl ?_
      refine q_move rfl rfl ?_
      obtain ⟨x271, hx271, h⟩ := Option.of_bind h
      refine q_indexO (by infer_instance) rfl (hS.own 1 rfl) rfl hx271 rfl ?_
      refine q_field rfl rfl ?_
      have f272 := (hS.ownR 1 rfl).elt hx271
      have f273 := Pt_F0 f272
      refine q_load rfl (Elt.intCell f273) rfl ?_
      obtain ⟨x274, hx274, h⟩ := Option.of_bind h
      refine q_atS (by infer_instance) rfl f158 rfl hx274 rfl fun b275 o275 hm275 f275 => ?_
      refine q_loadE rfl f275 rfl (fun v276 f276 => ?_)
      refine q_lenS rfl f276 rfl ?_
      refine q_addW rfl rfl rfl ?_
      obtain ⟨x277, hx277, h⟩ := Option.of_bind h
      refine q_remM rfl rfl hx277 rfl ?_
      refine q_build (Parts.cons rfl rfl (Parts.cons rfl rfl Parts.nil)) rfl rfl ?_
      refine q_litO (T := ptTy) (S := (fun _ => False)) (cells := [[.int .i64 x268.proc, .int .i64 x277]]) (ys := [(⟨x268.proc, x277⟩ : Pt)]) ((Parts.cons rfl rfl Parts.nil)) rfl rfl rfl rfl rfl rfl rfl (fun w1 hB => ⟨⟨[_], _, rfl, rfl, rfl⟩, trivial⟩) (fun _ h => h.elim) rfl fun w278 v278 ho278 hv278 hB278 => ?_
      replace f157 := f157.ext hB278
      replace f158 := f158.ext hB278
      replace f177 := f177.ext hB278
      replace hS := hS.newOwnS hB278 ho278 hv278 (fun _ h => h.elim)
      obtain ⟨x281, hx281, h⟩ := Option.of_bind h
      refine q_catOwn (T := ptTy) rfl rfl rfl rfl (hS.own 2 rfl) rfl (hS.own 0 rfl) (fun _ h _ => h.elim) (snoc_cat hx281) (Nat.zero_le _) rfl (fun h => by cases h) fun v280 w280 hw280 hgr280 hnw280 => ?_
      have hk280 := hS.keptOwn 2 rfl hgr280
      replace f157 := f157.kept hk280
      replace f158 := f158.kept hk280
      replace f177 := f177.kept hk280
      replace hS := hS.setOwn 2 rfl hw280 hgr280 hnw280; simp only [List.set] at hS
      refine q_assign rfl rfl ?_
      refine eseq_nil ?_
      exact hJ180 x281 v280 _ _ _ h (hS.pickB [3, 2] 5 rfl rfl) f157 f158 f177 (Sub.cons rfl (Sub.cons rfl (Sub.nil _)))
    · replace h := (if_neg (not_true hc267)).symm.trans h
      refine e_skip ?_
      exact hJ180 r178.1 v179 _ _ _ h (hS.pickB [2, 1] 4 rfl rfl) f157 f158 f177 (Sub.cons rfl (Sub.cons rfl (Sub.nil _)))
end Go.Proofs.Ytlceljfigccllaa
