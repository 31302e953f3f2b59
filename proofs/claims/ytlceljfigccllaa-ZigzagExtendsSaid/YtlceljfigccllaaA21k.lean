/- Printed walks: A21k. -/
import Derived.Test.YtlceljfigccllaaA21m
set_option linter.unusedVariables false
set_option linter.unusedSimpArgs false
namespace Go.Mine
open Go.RowKit
def make_Codes_Ckpts_K1 (fuel : Nat) (x233 : Int) (x236 : (List Pt)) : Option ((List Pt) × Int) :=
  some (x236, x233)
def make_Codes_Ckpts_B1 (fuel : Nat) (a1 : Pat) (c0_0 : (List Int)) (x185 : Int) (x191 : (List Pt)) (x192 : Int) : Option ((Int × (List Pt) × Int) ⊕ (Int × (List Pt))) :=
  (if (decide (x192 < (a1.ckpts.length : Int))) = true then (make_Codes_Next fuel 2 c0_0 x185).bind fun r245 => (if (r245.1 == 1) = true then (ati a1.ckpts x192).bind fun x247 => (make_Codes_Next fuel (w64 ((x247.length : Int) + 1)) c0_0 r245.2).bind fun r251 => (snoc x191 (⟨x192, r251.1⟩ : Pt)).bind fun x255 => some (Sum.inl (r251.2, x255, (w64 (x192 + 1)))) else some (Sum.inl (r245.2, x191, (w64 (x192 + 1))))) else some (Sum.inr (x185, x191)))
def make_Codes_Ckpts (fuel : Nat) (a1 : Pat) (c0_0 : (List Int)) (c0_1 : Int) : Option ((List Pt) × Int) :=
  (iter (fun s => make_Codes_Ckpts_B1 fuel a1 c0_0 s.1 s.2.1 s.2.2) fuel (c0_1, ([] : List Pt), 0)).bind (fun t => make_Codes_Ckpts_K1 fuel t.1 t.2)
end Go.Mine
namespace Go.Proofs.Ytlceljfigccllaa
open Go.RowKit Go.Mine
attribute [local irreducible] eseq ewp iter
theorem make_Codes_Ckpts_w {F R : Nat → Prop} {w : World} {fuel : Nat} {a1 : Pat} {c0_0 : (List Int)} {c0_1 : Int} {v1 : Value} {v2 : Value} {v3 : Value} {B0 : Nat} {v5 : Value} {r : ((List Pt) × Int)} (hS : Sep F R R w w [HP.blk B0 [v5, .int .i64 c0_1] 81]) (f1 : IsSlice Ty.int w R v1 a1.lens) (f2 : IsSlice (Ty.slice Ty.int) w R v2 a1.ckpts) (f3 : IsSlice arcTy w R v3 a1.arcs) (f5 : IsSlice Ty.u8 w R v5 c0_0) (h : make_Codes_Ckpts fuel a1 c0_0 c0_1 = some r) :
    Gives Try.prog 29 [.pointer (some ⟨B0, 0, none⟩), .agg #[v1, v2, v3]] w fun u w1 => ∃ (v131 : Value), ∃ (R1 : Nat → Prop), u = v131 ∧ Sep F R R1 w w1 [HP.blk B0 [v5, .int .i64 r.2] 81, HP.own ptTy (fun _ => False) 36 v131 r.1] := by
  refine fn_of Try.func29 rfl Try.ntmps29 (Nat.le_of_ble_eq_true rfl) ?_
  unfold make_Codes_Ckpts at h
  refine e_seq fun K132 hK132 => ?_
  refine e_region_text rfl ?_
  refine q_boxB rfl rfl rfl fun w133 bl133 hg133 hb133 hB133 => ?_
  replace f5 := f5.ext hB133
  replace f1 := f1.ext hB133
  replace f2 := f2.ext hB133
  replace f3 := f3.ext hB133
  replace hS := hS.newBlk hB133 hg133 hb133
  refine q_assign rfl rfl ?_
  refine eseq_nil ?_
  refine hK132 _ _ ?_
  refine e_seq fun K135 hK135 => ?_
  refine e_region_text rfl ?_
  refine q_assign rfl rfl ?_
  refine eseq_nil ?_
  refine hK135 _ _ ?_
  refine e_seq fun K136 hK136 => ?_
  refine e_seq fun K137 hK137 => ?_
  refine e_region_text rfl ?_
  refine q_assign rfl rfl ?_
  refine eseq_nil ?_
  refine hK137 _ _ ?_
  refine e_block ?_
  obtain ⟨tl138, ht138, h⟩ := Option.of_bind h
  have hX138_0 : ∀ (x233 : Int) (x236 : (List Pt)) (v235 : Value) (R230 : Nat → Prop) (w231 : World) (E_ : Env), make_Codes_Ckpts_K1 fuel x233 x236 = some r → Sep F R R230 w w231 [HP.blk B0 [v5, .int .i64 x233] 81, HP.own ptTy (fun _ => False) 36 v235 x236] → IsSlice Ty.u8 w231 R230 v5 c0_0 → Sub [(5, v235)] E_ → K136 E_ w231 := by
    intro x233 x236 v235 R230 w231 E_ h hS f232 hsub
    refine hK136 _ _ (e_sub hsub ?_); clear hsub
    unfold make_Codes_Ckpts_K1 at h
    refine e_seq fun K237 hK237 => ?_
    refine e_region_text rfl ?_
    refine q_move rfl rfl ?_
    refine q_assign rfl rfl ?_
    refine eseq_nil ?_
    refine hK237 _ _ ?_
    refine e_ret ?_
    obtain rfl := Option.some.inj h
    exact ⟨_, res1 rfl rfl, v235, _, rfl, hS⟩
  replace hS := hS.nilOwn0 ptTy 36
  refine e_loop (fun m_ E_ w183 => ∃ (x185 : Int), ∃ (x191 : (List Pt)), ∃ (x192 : Int), ∃ (v190 : Value), ∃ (R182 : Nat → Prop), iter (fun s => make_Codes_Ckpts_B1 fuel a1 c0_0 s.1 s.2.1 s.2.2) m_ (x185, x191, x192) = some tl138 ∧ Sep F R R182 w w183 [HP.blk B0 [v5, .int .i64 x185] 81, HP.blk bl133 [v1, v2, v3] 28, HP.own ptTy (fun _ => False) 36 v190 x191] ∧ IsSlice Ty.u8 w183 R182 v5 c0_0 ∧ IsSlice Ty.int w183 R182 v1 a1.lens ∧ IsSlice (Ty.slice Ty.int) w183 R182 v2 a1.ckpts ∧ IsSlice arcTy w183 R182 v3 a1.arcs ∧ E_ = [(0, .pointer (some ⟨B0, 0, none⟩)), (3, .pointer (some ⟨bl133, 0, none⟩)), (5, v190), (6, .int .i64 x192)]) _ ⟨_, ⟨c0_1, ([] : List Pt), 0, (.slice none 0 0), _, ht138, (hS.pickB [2, 1, 0] 3 rfl rfl), f5, f1, f2, f3, rfl⟩, Sub.cons rfl (Sub.cons rfl (Sub.cons rfl (Sub.cons rfl (Sub.nil _))))⟩ ?_
  clear ht138 hS
  rintro m138 _ w183 ⟨x185, x191, x192, v190, R182, ht138, hS, f184, f186, f187, f188, rfl⟩
  obtain ⟨m138, rfl, o138, ho138, ht138⟩ := iter_some ht138
  replace ho138 : make_Codes_Ckpts_B1 fuel a1 c0_0 x185 x191 x192 = some o138 := ho138
  unfold make_Codes_Ckpts_B1 at ho138
  refine e_seq fun K239 hK239 => ?_
  refine e_seq fun K240 hK240 => ?_
  refine e_region_text rfl ?_
  refine q_move rfl rfl ?_
  refine q_field rfl rfl ?_
  refine q_load rfl (Blk.cell (hS.blk 1 rfl) rfl) rfl ?_
  refine q_lenS rfl f187 rfl ?_
  refine q_lss rfl rfl rfl ?_
  refine eseq_nil ?_
  refine hK240 _ _ ?_
  refine e_cond rfl (fun hc241 => ?_) (fun hc241 => ?_)
  · replace ho138 := (if_pos hc241).symm.trans ho138
    refine e_skip ?_
    refine hK239 _ _ ?_
    refine e_seq fun K242 hK242 => ?_
    refine e_block ?_
    refine e_seq fun K243 hK243 => ?_
    refine e_region_text rfl ?_
    refine q_move rfl rfl ?_
    obtain ⟨r245, hr245, ho138⟩ := Option.of_bind ho138
    refine q_call rfl (make_Codes_Next_w (Sep.enter (As := [_]) hS) f184 hr245) rfl ?_
    rintro _ w244 ⟨R244, rfl, hC244⟩
    refine ⟨(fun h => by cases h), ?_⟩
    have hk244 := hC244.keptR (Sep.offFeet (As := [_]) hS)
    replace f184 := (f184.kept hk244).mono fun k hk _ => hC244.ro0 k hk
    replace f186 := (f186.kept hk244).mono fun k hk _ => hC244.ro0 k hk
    replace f187 := (f187.kept hk244).mono fun k hk _ => hC244.ro0 k hk
    replace f188 := (f188.kept hk244).mono fun k hk _ => hC244.ro0 k hk
    replace hS := Sep.leave (As := [_]) hS hC244; simp only [List.cons_append, List.nil_append] at hS
    refine q_eql rfl rfl rfl ?_
    refine eseq_nil ?_
    refine hK243 _ _ ?_
    refine e_cond rfl (fun hc246 => ?_) (fun hc246 => ?_)
    · replace ho138 := (if_pos hc246).symm.trans ho138
      refine e_region_text rfl ?_
      refine q_move rfl rfl ?_
      refine q_move rfl rfl ?_
      refine q_move rfl rfl ?_
      refine q_field rfl rfl ?_
      refine q_load rfl (Blk.cell (hS.blk 1 rfl) rfl) rfl ?_
      refine q_move rfl rfl ?_
      obtain ⟨x247, hx247, ho138⟩ := Option.of_bind ho138
      refine q_atS (by infer_instance) rfl f187 rfl hx247 rfl fun b248 o248 hm248 f248 => ?_
      refine q_loadE rfl f248 rfl (fun v249 f249 => ?_)
      refine q_lenS rfl f249 rfl ?_
      refine q_addW rfl rfl rfl ?_
      obtain ⟨r251, hr251, ho138⟩ := Option.of_bind ho138
      refine q_call rfl (make_Codes_Next_w (Sep.enter (As := [_]) hS) f184 hr251) rfl ?_
      rintro _ w250 ⟨R250, rfl, hC250⟩
      refine ⟨(fun h => by cases h), ?_⟩
      have hk250 := hC250.keptR (Sep.offFeet (As := [_]) hS)
      replace f184 := (f184.kept hk250).mono fun k hk _ => hC250.ro0 k hk
      replace f186 := (f186.kept hk250).mono fun k hk _ => hC250.ro0 k hk
      replace f187 := (f187.kept hk250).mono fun k hk _ => hC250.ro0 k hk
      replace f188 := (f188.kept hk250).mono fun k hk _ => hC250.ro0 k hk
      replace hS := Sep.leave (As := [_]) hS hC250; simp only [List.cons_append, List.nil_append] at hS
      refine q_build (Parts.cons rfl rfl (Parts.cons rfl rfl Parts.nil)) rfl rfl ?_
      refine q_litO (T := ptTy) (S := (fun _ => False)) (cells := [[.int .i64 x192, .int .i64 r251.1]]) (ys := [(⟨x192, r251.1⟩ : Pt)]) ((Parts.cons rfl rfl Parts.nil)) rfl rfl rfl rfl rfl rfl rfl (fun w1 hB => ⟨⟨[_], _, rfl, rfl, rfl⟩, trivial⟩) (fun _ h => h.elim) rfl fun w252 v252 ho252 hv252 hB252 => ?_
      replace f184 := f184.ext hB252
      replace f186 := f186.ext hB252
      replace f187 := f187.ext hB252
      replace f188 := f188.ext hB252
      replace hS := hS.newOwnS hB252 ho252 hv252 (fun _ h => h.elim)
      obtain ⟨x255, hx255, ho138⟩ := Option.of_bind ho138
      refine q_catOwn (T := ptTy) rfl rfl rfl rfl (hS.own 3 rfl) rfl (hS.own 0 rfl) (fun _ h _ => h.elim) (snoc_cat hx255) (Nat.zero_le _) rfl (fun h => by cases h) fun v254 w254 hw254 hgr254 hnw254 => ?_
      have hk254 := hS.keptOwn 3 rfl hgr254
      replace f184 := f184.kept hk254
      replace f186 := f186.kept hk254
      replace f187 := f187.kept hk254
      replace f188 := f188.kept hk254
      replace hS := hS.setOwn 3 rfl hw254 hgr254 hnw254; simp only [List.set] at hS
      refine q_assign rfl rfl ?_
      refine eseq_nil ?_
      refine hK242 _ _ ?_
      refine e_region_text rfl ?_
      refine q_move rfl rfl ?_
      refine q_addW rfl rfl rfl ?_
      refine q_assign rfl rfl ?_
      refine eseq_nil ?_
      obtain rfl := Option.some.inj ho138
      exact ⟨m138, _, Nat.lt_succ_self _, ⟨r251.2, x255, (w64 (x192 + 1)), v254, _, ht138, (hS.pickB [1, 2, 3] 4 rfl rfl), f184, f186, f187, f188, rfl⟩, Sub.cons rfl (Sub.cons rfl (Sub.cons rfl (Sub.cons rfl (Sub.nil _))))⟩
    · replace ho138 := (if_neg (not_true hc246)).symm.trans ho138
      refine e_skip ?_
      refine hK242 _ _ ?_
      refine e_region_text rfl ?_
      refine q_move rfl rfl ?_
      refine q_addW rfl rfl rfl ?_
      refine q_assign rfl rfl ?_
      refine eseq_nil ?_
      obtain rfl := Option.some.inj ho138
      exact ⟨m138, _, Nat.lt_succ_self _, ⟨r245.2, x191, (w64 (x192 + 1)), v190, _, ht138, hS, f184, f186, f187, f188, rfl⟩, Sub.cons rfl (Sub.cons rfl (Sub.cons rfl (Sub.cons rfl (Sub.nil _))))⟩
  · replace ho138 := (if_neg (not_true hc241)).symm.trans ho138
    refine e_exit ?_
    obtain rfl := Option.some.inj ho138
    obtain rfl := Option.some.inj ht138
    exact hX138_0 x185 x191 v190 _ _ _ h (hS.pickB [0, 2] 3 rfl rfl) f184 (Sub.cons rfl (Sub.nil _))
end Go.Proofs.Ytlceljfigccllaa
