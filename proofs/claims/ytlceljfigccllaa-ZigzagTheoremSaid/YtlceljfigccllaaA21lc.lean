/- Printed walks: A21lc. -/
import Derived.Test.YtlceljfigccllaaA21k
set_option linter.unusedVariables false
set_option linter.unusedSimpArgs false
namespace Go.Mine
open Go.RowKit
def law21_ZigzagTheorem_K1 (fuel : Nat) : Option (Bool) :=
  some true
def law21_ZigzagTheorem_B1 (fuel : Nat) (r175 : ((List Pt) × Int)) (r179 : ((List Int) × Bool)) (x235 : Int) : Option ((Int) ⊕ (Unit ⊕ (Bool))) :=
  (if (decide (x235 < (r175.1.length : Int))) = true then (ati r175.1 x235).bind fun x265 => (ati r179.1 x265.proc).bind fun x272 => (if (x272 != x265.index) = true then some (Sum.inr (Sum.inr false)) else some (Sum.inl (w64 (x235 + 1)))) else some (Sum.inr (Sum.inl ())))
def law21_ZigzagTheorem (fuel : Nat) (a0 : (List Int)) (a1 : (List Int)) : Option (Bool) :=
  (law21_awake fuel).bind fun r144 => (if (!r144) = true then some false else (make_New fuel a0 240).bind fun r149 => (make_Codes_Pattern fuel 20 r149.1 r149.2).bind fun r153 => (make_New fuel a1 20).bind fun r170 => (make_Codes_Ckpts fuel (⟨r153.1.lens, r153.1.ckpts, r153.1.arcs⟩ : Pat) r170.1 r170.2).bind fun r175 => (zigzag_Extension fuel (⟨r153.1.lens, r153.1.ckpts, r153.1.arcs⟩ : Pat) r175.1).bind fun r179 => (zigzag_Extendable fuel (⟨r153.1.lens, r153.1.ckpts, r153.1.arcs⟩ : Pat) r175.1).bind fun r184 => (if (r179.2 != r184) = true then some false else (if (!r179.2) = true then some true else (orM ((r179.1.length : Int) != (r153.1.lens.length : Int)) ((depend_Global fuel (⟨r153.1.lens, r153.1.ckpts, r153.1.arcs⟩ : Pat) r179.1).bind fun r200 => some (!r200))).bind fun x198 => (if x198 = true then some false else (iter (fun s => law21_ZigzagTheorem_B1 fuel r175 r179 s) fuel 0).bind (fun t => Sum.elim (fun t => law21_ZigzagTheorem_K1 fuel) (fun t => some t) t)))))
end Go.Mine
namespace Go.Proofs.Ytlceljfigccllaa
open Go.RowKit Go.Mine
attribute [local irreducible] eseq ewp iter
theorem law21_ZigzagTheorem_w {F R : Nat → Prop} {w : World} {fuel : Nat} {a0 : (List Int)} {a1 : (List Int)} {v1 : Value} {v2 : Value} {r : (Bool)} (hS : Sep F R R w w []) (f1 : IsSlice Ty.u8 w R v1 a0) (f2 : IsSlice Ty.u8 w R v2 a1) (h : law21_ZigzagTheorem fuel a0 a1 = some r) :
    Gives Try.prog 9 [v1, v2] w fun u w1 => ∃ (R1 : Nat → Prop), u = .bool r ∧ Sep F R R1 w w1 [] := by
  refine fn_of Try.func9 rfl Try.ntmps9 (Nat.le_of_ble_eq_true rfl) ?_
  unfold law21_ZigzagTheorem at h
  refine e_seq fun K140 hK140 => ?_
  refine e_region_text rfl ?_
  refine q_assign rfl rfl ?_
  refine eseq_nil ?_
  refine hK140 _ _ ?_
  refine e_seq fun K141 hK141 => ?_
  refine e_seq fun K142 hK142 => ?_
  refine e_region_text rfl ?_
  obtain ⟨r144, hr144, h⟩ := Option.of_bind h
  refine q_call rfl (law21_awake_w (Sep.enter (As := []) hS)  hr144) rfl ?_
  rintro _ w143 ⟨R143, rfl, hC143⟩
  have hB143 : Below (World.heap w).size w w143 := hC143.stepB0
  refine ⟨fun _ => .of_below hB143, ?_⟩
  replace f1 := (f1.ext hB143).mono fun k hk _ => hC143.ro0 k hk
  replace f2 := (f2.ext hB143).mono fun k hk _ => hC143.ro0 k hk
  replace hS := Sep.leave (As := []) hS hC143; simp only [List.cons_append, List.nil_append] at hS
  refine q_not rfl rfl ?_
  refine eseq_nil ?_
  refine hK142 _ _ ?_
  refine e_cond rfl (fun hc145 => ?_) (fun hc145 => ?_)
  · replace h := (if_pos hc145).symm.trans h
    refine e_seq fun K146 hK146 => ?_
    refine e_region_text rfl ?_
    refine q_assign rfl rfl ?_
    refine eseq_nil ?_
    refine hK146 _ _ ?_
    refine e_ret ?_
    obtain rfl := Option.some.inj h
    exact ⟨_, res1 rfl rfl, _, rfl, hS⟩
  · replace h := (if_neg (not_true hc145)).symm.trans h
    refine e_skip ?_
    refine hK141 _ _ ?_
    refine e_seq fun K147 hK147 => ?_
    refine e_region_text rfl ?_
    refine q_move rfl rfl ?_
    obtain ⟨r149, hr149, h⟩ := Option.of_bind h
    refine q_call rfl (make_New_w (Sep.enter (As := []) hS) f1 hr149) rfl ?_
    rintro _ w148 ⟨B150, v151, R148, rfl, hC148, f151⟩
    have hB148 : Below (World.heap w143).size w143 w148 := hC148.stepB0
    refine ⟨fun _ => .of_below hB148, ?_⟩
    replace f2 := (f2.ext hB148).mono fun k hk _ => hC148.ro0 k hk
    replace f1 := (f1.ext hB148).mono fun k hk _ => hC148.ro0 k hk
    replace hS := Sep.leave (As := []) hS hC148; simp only [List.cons_append, List.nil_append] at hS
    obtain ⟨r153, hr153, h⟩ := Option.of_bind h
    refine q_call rfl (make_Codes_Pattern_w (Sep.enter (As := [_]) hS) f151 hr153) rfl ?_
    rintro _ w152 ⟨v154, v155, v156, R152, rfl, hC152, f154, f155⟩
    refine ⟨(fun h => by cases h), ?_⟩
    have hk152 := hC152.keptR (Sep.offFeet (As := [_]) hS)
    replace f2 := (f2.kept hk152).mono fun k hk _ => hC152.ro0 k hk
    replace f151 := (f151.kept hk152).mono fun k hk _ => hC152.ro0 k hk
    replace hS := Sep.leave (As := [_]) hS hC152; simp only [List.cons_append, List.nil_append] at hS
    refine q_allocB rfl fun w157 bl157 hg157 hb157 hB157 => ?_
    replace f2 := f2.ext hB157
    replace f154 := f154.ext hB157
    replace f155 := f155.ext hB157
    replace hS := hS.newBlk hB157 hg157 hb157
    refine q_storeAgg rfl rfl (hS.blk 0 rfl) rfl (Nat.le_of_ble_eq_true rfl) (all_cons f154.one (all_cons f155.one (all_cons (hS.own 2 rfl).one (all_nil)))) rfl rfl fun w159 hb159 hO159 => ?_
    simp only [setN, List.set, List.take, List.drop] at hb159
    have hk159 := hS.keptBlk 0 rfl hO159
    replace f2 := f2.kept hk159
    replace f154 := f154.kept hk159
    replace f155 := f155.kept hk159
    replace hS := hS.setBlk 0 rfl hb159 hO159; simp only [List.set] at hS
    refine eseq_nil ?_
    refine hK147 _ _ ?_
    refine e_seq fun K160 hK160 => ?_
    refine e_region_draw mixed (fun _ => False) [0, 1, 0, 7, 15] [1] [0, 2, 1, 3, 4] (by kernel_rfl) ?_
    refine q_move rfl rfl ?_
    refine q_loadAgg rfl (Blk.cellsAt (hS.blk 0 rfl) 0 3 rfl) rfl rfl ?_
    obtain ⟨r170, hr170, h⟩ := Option.of_bind h
    refine q_call rfl (make_New_w (Sep.enter (As := []) hS) f2 hr170) rfl ?_
    rintro _ w169 ⟨B171, v172, R169, rfl, hC169, f172⟩
    have hB169 : Below (World.heap w159).size w159 w169 := hC169.stepB0
    refine ⟨fun _ => .of_below hB169, ?_⟩
    replace f154 := (f154.ext hB169).mono fun k hk _ => hC169.ro0 k hk
    replace f155 := (f155.ext hB169).mono fun k hk _ => hC169.ro0 k hk
    replace f2 := (f2.ext hB169).mono fun k hk _ => hC169.ro0 k hk
    replace hS := Sep.leave (As := []) hS hC169; simp only [List.cons_append, List.nil_append] at hS
    obtain ⟨R174, hS, hm174, f174⟩ := hS.freezeOwn 3 rfl; simp only [List.eraseIdx] at hS
    replace f154 := f154.mono fun k hk _ => hm174 k hk
    replace f155 := f155.mono fun k hk _ => hm174 k hk
    replace f172 := f172.mono fun k hk _ => hm174 k hk
    obtain ⟨r175, hr175, h⟩ := Option.of_bind h
    refine q_call rfl (make_Codes_Ckpts_w (a1 := (⟨r153.1.lens, r153.1.ckpts, r153.1.arcs⟩ : Pat)) (Sep.enter (As := [_]) hS) f154 f155 f174 f172 hr175) rfl ?_
    rintro v176 w173 ⟨_, R173, rfl, hC173⟩
    refine ⟨(fun h => by cases h), ?_⟩
    have hk173 := hC173.keptR (Sep.offFeet (As := [_]) hS)
    replace f154 := (f154.kept hk173).mono fun k hk _ => hC173.ro0 k hk
    replace f155 := (f155.kept hk173).mono fun k hk _ => hC173.ro0 k hk
    replace f174 := (f174.kept hk173).mono fun k hk _ => hC173.ro0 k hk
    replace f172 := (f172.kept hk173).mono fun k hk _ => hC173.ro0 k hk
    replace hS := Sep.leave (As := [_]) hS hC173; simp only [List.cons_append, List.nil_append] at hS
    refine q_assign rfl rfl ?_
    refine eseq_nil ?_
    refine hK160 _ _ ?_
    refine e_seq fun K177 hK177 => ?_
    refine e_region_text rfl ?_
    refine q_loadAgg rfl (Blk.cellsAt (hS.blk 2 rfl) 0 3 rfl) rfl rfl ?_
    refine q_move rfl rfl ?_
    obtain ⟨r179, hr179, h⟩ := Option.of_bind h
    refine q_call rfl (zigzag_Extension_w (a0 := (⟨r153.1.lens, r153.1.ckpts, r153.1.arcs⟩ : Pat)) (Sep.all w173) (f154).old (f155).old (f174).old ((hS.isl 1 rfl)).old hr179) rfl ?_
    rintro _ w178 ⟨v180, R178, rfl, hC178⟩
    have hB178 : Below (World.heap w173).size w173 w178 := hC178.stepBF
    refine ⟨fun _ => .of_below hB178, ?_⟩
    replace f154 := f154.ext hB178
    replace f155 := f155.ext hB178
    replace f174 := f174.ext hB178
    replace hS := hS.newOwnS hB178 (hC178.own 0 rfl) (hC178.fresh 0 rfl) (fun _ h => h.elim)
    refine q_move rfl rfl ?_
    refine q_extract rfl rfl rfl ?_
    refine q_extract rfl rfl rfl ?_
    refine q_assign rfl rfl ?_
    refine q_assign rfl rfl ?_
    refine eseq_nil ?_
    refine hK177 _ _ ?_
    refine e_seq fun K181 hK181 => ?_
    refine e_seq fun K182 hK182 => ?_
    refine e_region_text rfl ?_
    refine q_move rfl rfl ?_
    refine q_loadAgg rfl (Blk.cellsAt (hS.blk 3 rfl) 0 3 rfl) rfl rfl ?_
    refine q_move rfl rfl ?_
    obtain ⟨r184, hr184, h⟩ := Option.of_bind h
    refine q_call rfl (zigzag_Extendable_w (a0 := (⟨r153.1.lens, r153.1.ckpts, r153.1.arcs⟩ : Pat)) (Sep.all w178) (f154).old (f155).old (f174).old ((hS.isl 2 rfl)).old hr184) rfl ?_
    rintro _ w183 ⟨R183, rfl, hC183⟩
    have hB183 : Below (World.heap w178).size w178 w183 := hC183.stepBF
    refine ⟨fun _ => .of_below hB183, ?_⟩
    replace f154 := f154.ext hB183
    replace f155 := f155.ext hB183
    replace f174 := f174.ext hB183
    replace hS := hS.below hB183
    refine q_neqB rfl rfl rfl ?_
    refine eseq_nil ?_
    refine hK182 _ _ ?_
    refine e_cond rfl (fun hc185 => ?_) (fun hc185 => ?_)
    · replace h := (if_pos hc185).symm.trans h
      refine e_seq fun K186 hK186 => ?_
      refine e_region_text rfl ?_
      refine q_assign rfl rfl ?_
      refine eseq_nil ?_
      refine hK186 _ _ ?_
      refine e_ret ?_
      obtain rfl := Option.some.inj h
      exact ⟨_, res1 rfl rfl, _, rfl, (hS.pickB [] 5 rfl rfl)⟩
    · replace h := (if_neg (not_true hc185)).symm.trans h
      refine e_skip ?_
      refine hK181 _ _ ?_
      refine e_seq fun K187 hK187 => ?_
      refine e_seq fun K188 hK188 => ?_
      refine e_region_text rfl ?_
      refine q_move rfl rfl ?_
      refine q_not rfl rfl ?_
      refine eseq_nil ?_
      refine hK188 _ _ ?_
      refine e_cond rfl (fun hc189 => ?_) (fun hc189 => ?_)
      · replace h := (if_pos hc189).symm.trans h
        refine e_seq fun K190 hK190 => ?_
        refine e_region_text rfl ?_
        refine q_assign rfl rfl ?_
        refine eseq_nil ?_
        refine hK190 _ _ ?_
        refine e_ret ?_
        obtain rfl := Option.some.inj h
        exact ⟨_, res1 rfl rfl, _, rfl, (hS.pickB [] 5 rfl rfl)⟩
      · replace h := (if_neg (not_true hc189)).symm.trans h
        refine e_skip ?_
        refine hK187 _ _ ?_
        refine e_seq fun K191 hK191 => ?_
        refine e_seq fun K192 hK192 => ?_
        refine e_region_text rfl ?_
        refine q_move rfl rfl ?_
        refine q_lenS rfl (hS.isl 0 rfl) rfl ?_
        refine q_field rfl rfl ?_
        refine q_load rfl (Blk.cell (hS.blk 3 rfl) rfl) rfl ?_
        refine q_lenS rfl f154 rfl ?_
        refine q_neq rfl rfl rfl ?_
        refine q_move rfl rfl ?_
        obtain ⟨x198, hx197, h⟩ := Option.of_bind h
        refine g_orM 4 hx197 rfl trivial rfl rfl ?_ ?_ ?_
        · intro hg197
          refine g_skip rfl rfl rfl ?_
          refine g_skip rfl rfl rfl ?_
          refine g_skip rfl rfl rfl ?_
          refine g_skip rfl rfl rfl ?_
          exact eseq_nil ⟨rfl, Sub.set rfl (Sub.set rfl (Sub.set rfl (Sub.set rfl (Sub.bool true rfl hg197))))⟩
        · intro hg197 hx197
          clear h
          have hT197 := Below.refl (World.heap w183).size w183
          refine g_run rfl ?_; refine q_loadAgg rfl (Blk.cellsAt (hS.blk 3 rfl) 0 3 rfl) rfl rfl ?_
          refine g_run rfl ?_; refine q_move rfl rfl ?_
          obtain ⟨r200, hr200, hx197⟩ := Option.of_bind hx197
          refine g_run rfl ?_; refine q_call rfl (depend_Global_w (a0 := (⟨r153.1.lens, r153.1.ckpts, r153.1.arcs⟩ : Pat)) (Sep.all w183) (f154).old (f155).old (f174).old ((hS.isl 0 rfl)).old hr200) rfl ?_
          rintro _ w199 ⟨R199, rfl, hC199⟩
          have hB199 : Below (World.heap w183).size w183 w199 := hC199.stepBF
          refine ⟨fun _ => .of_below hB199, ?_⟩
          replace f154 := f154.ext hB199
          replace f155 := f155.ext hB199
          replace f174 := f174.ext hB199
          replace hT197 := hT197.trans (Below.mono hB199 hT197.size)
          replace hS := hS.below hB199
          refine g_run rfl ?_; refine q_not rfl rfl ?_
          cases hx197
          exact eseq_nil ⟨hT197, Sub.set rfl (Sub.set rfl (Sub.set rfl (Sub.set rfl (Sub.bool false rfl hg197)))), rfl⟩
        intro wm197 hBm197; clear hx197
        replace hS := hS.below hBm197
        refine eseq_nil ?_
        refine hK192 _ _ ?_
        refine e_cond rfl (fun hc201 => ?_) (fun hc201 => ?_)
        · replace h := (if_pos hc201).symm.trans h
          refine e_seq fun K202 hK202 => ?_
          refine e_region_text rfl ?_
          refine q_assign rfl rfl ?_
          refine eseq_nil ?_
          refine hK202 _ _ ?_
          refine e_ret ?_
          obtain rfl := Option.some.inj h
          exact ⟨_, res1 rfl rfl, _, rfl, (hS.pickB [] 5 rfl rfl)⟩
        · replace h := (if_neg (not_true hc201)).symm.trans h
          refine e_skip ?_
          refine hK191 _ _ ?_
          refine e_seq fun K203 hK203 => ?_
          refine e_seq fun K204 hK204 => ?_
          refine e_region_text rfl ?_
          refine q_move rfl rfl ?_
          refine q_lenS rfl (hS.isl 2 rfl) rfl ?_
          refine q_move rfl rfl ?_
          refine eseq_nil ?_
          refine hK204 _ _ ?_
          refine e_block ?_
          obtain ⟨tl205, ht205, h⟩ := Option.of_bind h
          have hX205_0 : ∀ (R257 : Nat → Prop) (w258 : World) (E_ : Env), law21_ZigzagTheorem_K1 fuel = some r → Sep F R R257 w w258 [] → Sub [] E_ → K203 E_ w258 := by
            intro R257 w258 E_ h hS  hsub
            refine hK203 _ _ (e_sub hsub ?_); clear hsub
            unfold law21_ZigzagTheorem_K1 at h
            refine e_seq fun K259 hK259 => ?_
            refine e_region_text rfl ?_
            refine q_assign rfl rfl ?_
            refine eseq_nil ?_
            refine hK259 _ _ ?_
            refine e_ret ?_
            obtain rfl := Option.some.inj h
            exact ⟨_, res1 rfl rfl, _, rfl, hS⟩
          refine e_loop (fun m_ E_ w232 => ∃ (x235 : Int), ∃ (R231 : Nat → Prop), iter (fun s => law21_ZigzagTheorem_B1 fuel r175 r179 s) m_ x235 = some tl205 ∧ Sep F R R231 w w232 [HP.own Ty.int (fun _ => False) 3 v180 r179.1, HP.own ptTy (fun _ => False) 36 v176 r175.1] ∧ E_ = [(7, v180), (45, v176), (46, .int .i64 (r175.1.length : Int)), (47, .int .i64 x235)]) _ ⟨_, ⟨0, _, ht205, (hS.pickB [0, 2] 5 rfl rfl), rfl⟩, Sub.cons rfl (Sub.cons rfl (Sub.cons rfl (Sub.cons rfl (Sub.nil _))))⟩ ?_
          clear ht205 hS
          rintro m205 _ w232 ⟨x235, R231, ht205, hS, rfl⟩
          obtain ⟨m205, rfl, o205, ho205, ht205⟩ := iter_some ht205
          replace ho205 : law21_ZigzagTheorem_B1 fuel r175 r179 x235 = some o205 := ho205
          unfold law21_ZigzagTheorem_B1 at ho205
          refine e_seq fun K260 hK260 => ?_
          refine e_region_text rfl ?_
          refine q_lss rfl rfl rfl ?_
          refine eseq_nil ?_
          refine hK260 _ _ ?_
          refine e_seq fun K261 hK261 => ?_
          refine e_cond rfl (fun hc262 => ?_) (fun hc262 => ?_)
          · replace ho205 := (if_pos hc262).symm.trans ho205
            refine e_skip ?_
            refine hK261 _ _ ?_
            refine e_seq fun K263 hK263 => ?_
            refine e_block ?_
            refine e_seq fun K264 hK264 => ?_
            refine e_region_text rfl ?_
            obtain ⟨x265, hx265, ho205⟩ := Option.of_bind ho205
            refine q_indexO (by infer_instance) rfl (hS.own 1 rfl) rfl hx265 rfl ?_
            have f266 := (hS.ownR 1 rfl).elt hx265
            have hc267 := Pt_open f266
            refine q_loadAgg rfl hc267 rfl rfl ?_
            refine q_allocB rfl fun w268 bl268 hg268 hb268 hB268 => ?_
            replace hS := hS.newBlk hB268 hg268 hb268
            refine q_storeAgg rfl rfl (hS.blk 0 rfl) rfl (Nat.le_of_ble_eq_true rfl) (all_cons rfl (all_cons rfl (all_nil))) rfl rfl fun w270 hb270 hO270 => ?_
            simp only [setN, List.set, List.take, List.drop] at hb270
            have hk270 := hS.keptBlk 0 rfl hO270
            replace hS := hS.setBlk 0 rfl hb270 hO270; simp only [List.set] at hS
            refine eseq_nil ?_
            refine hK264 _ _ ?_
            refine e_seq fun K271 hK271 => ?_
            refine e_region_draw mixed (fun _ => False) [0, 0, 2, 7, 15, 0, 32, 127] [] [0, 1, 2, 3, 4, 5, 6, 7] (by kernel_rfl) ?_
            refine q_move rfl rfl ?_
            refine q_field rfl rfl ?_
            refine q_load rfl (Blk.cell (hS.blk 0 rfl) rfl) rfl ?_
            obtain ⟨x272, hx272, ho205⟩ := Option.of_bind ho205
            refine q_indexO (by infer_instance) rfl (hS.own 1 rfl) rfl hx272 rfl ?_
            have f273 := (hS.ownR 1 rfl).elt hx272
            refine q_load rfl (Elt.intCell f273) rfl ?_
            refine q_field rfl rfl ?_
            refine q_load rfl (Blk.cell (hS.blk 0 rfl) rfl) rfl ?_
            refine q_neq rfl rfl rfl ?_
            refine eseq_nil ?_
            refine hK271 _ _ ?_
            refine e_cond rfl (fun hc274 => ?_) (fun hc274 => ?_)
            · replace ho205 := (if_pos hc274).symm.trans ho205
              refine e_seq fun K275 hK275 => ?_
              refine e_region_text rfl ?_
              refine q_assign rfl rfl ?_
              refine eseq_nil ?_
              refine hK275 _ _ ?_
              refine e_ret ?_
              obtain rfl := Option.some.inj ho205
              obtain rfl := Option.some.inj ht205
              obtain rfl := Option.some.inj h
              exact ⟨_, res1 rfl rfl, _, rfl, (hS.pickB [] 3 rfl rfl)⟩
            · replace ho205 := (if_neg (not_true hc274)).symm.trans ho205
              refine e_skip ?_
              refine hK263 _ _ ?_
              refine e_region_text rfl ?_
              refine q_addW rfl rfl rfl ?_
              refine q_move rfl rfl ?_
              refine eseq_nil ?_
              obtain rfl := Option.some.inj ho205
              exact ⟨m205, _, Nat.lt_succ_self _, ⟨(w64 (x235 + 1)), _, ht205, (hS.pickB [1, 2] 3 rfl rfl), rfl⟩, Sub.cons rfl (Sub.cons rfl (Sub.cons rfl (Sub.cons rfl (Sub.nil _))))⟩
          · replace ho205 := (if_neg (not_true hc262)).symm.trans ho205
            refine e_exit ?_
            obtain rfl := Option.some.inj ho205
            obtain rfl := Option.some.inj ht205
            exact hX205_0  _ _ _ h (hS.pickB [] 2 rfl rfl)  (Sub.nil _)
end Go.Proofs.Ytlceljfigccllaa
