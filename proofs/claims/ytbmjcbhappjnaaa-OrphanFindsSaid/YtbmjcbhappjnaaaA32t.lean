/- Printed walks: A32t. -/
import Derived.Test.YtbmjcbhappjnaaaA32l
set_option linter.unusedVariables false
set_option linter.unusedSimpArgs false
namespace Go.Mine
open Go.RowKit
def ref16_sameInts_K1 (fuel : Nat) : Option (Bool) :=
  some true
def ref16_sameInts_B1 (fuel : Nat) (a0 : (List Int)) (a1 : (List Int)) (x99 : Int) : Option ((Int) ⊕ (Unit ⊕ (Bool))) :=
  (if (decide (x99 < (a0.length : Int))) = true then (ati a0 x99).bind fun x124 => (ati a1 x99).bind fun x126 => (if (x124 != x126) = true then some (Sum.inr (Sum.inr false)) else some (Sum.inl (w64 (x99 + 1)))) else some (Sum.inr (Sum.inl ())))
def ref16_sameInts (fuel : Nat) (a0 : (List Int)) (a1 : (List Int)) : Option (Bool) :=
  (if ((a0.length : Int) != (a1.length : Int)) = true then some false else (iter (fun s => ref16_sameInts_B1 fuel a0 a1 s) fuel 0).bind (fun t => Sum.elim (fun t => ref16_sameInts_K1 fuel) (fun t => some t) t))
def ref16_Same_K2 (fuel : Nat) : Option (Bool) :=
  some true
def ref16_Same_B1 (fuel : Nat) (a0 : Pat) (a1 : Pat) (x334 : Int) : Option ((Int) ⊕ (Unit ⊕ (Bool))) :=
  (if (decide (x334 < (a0.arcs.length : Int))) = true then (ati a0.arcs x334).bind fun x365 => (ati a1.arcs x334).bind fun x368 => (if (!((x365.fr == x368.fr) && ((x365.ix == x368.ix) && ((x365.to == x368.to) && ((x365.rcv == x368.rcv) && true))))) = true then some (Sum.inr (Sum.inr false)) else some (Sum.inl (w64 (x334 + 1)))) else some (Sum.inr (Sum.inl ())))
def ref16_Same_K1 (fuel : Nat) (a0 : Pat) (a1 : Pat) : Option (Bool) :=
  (iter (fun s => ref16_Same_B1 fuel a0 a1 s) fuel 0).bind (fun t => Sum.elim (fun t => ref16_Same_K2 fuel) (fun t => some t) t)
def ref16_Same_B2 (fuel : Nat) (a0 : Pat) (a1 : Pat) (x260 : Int) : Option ((Int) ⊕ (Unit ⊕ (Bool))) :=
  (if (decide (x260 < (a0.ckpts.length : Int))) = true then (ati a0.ckpts x260).bind fun x378 => (ati a1.ckpts x260).bind fun x381 => (ref16_sameInts fuel x378 x381).bind fun r385 => (if (!r385) = true then some (Sum.inr (Sum.inr false)) else some (Sum.inl (w64 (x260 + 1)))) else some (Sum.inr (Sum.inl ())))
def ref16_Same (fuel : Nat) (a0 : Pat) (a1 : Pat) : Option (Bool) :=
  (ref16_sameInts fuel a0.lens a1.lens).bind fun r206 => (orM (!r206) (some ((a0.ckpts.length : Int) != (a1.ckpts.length : Int)))).bind fun x210 => (orM x210 (some ((a0.arcs.length : Int) != (a1.arcs.length : Int)))).bind fun x214 => (if x214 = true then some false else (iter (fun s => ref16_Same_B2 fuel a0 a1 s) fuel 0).bind (fun t => Sum.elim (fun t => ref16_Same_K1 fuel a0 a1) (fun t => some t) t))
end Go.Mine
namespace Go.Proofs.Ytbmjcbhappjnaaa
open Go.RowKit Go.Mine
attribute [local irreducible] eseq ewp iter
theorem ref16_sameInts_w {F R : Nat → Prop} {w : World} {fuel : Nat} {a0 : (List Int)} {a1 : (List Int)} {v1 : Value} {v2 : Value} {r : (Bool)} (hS : Sep F R R w w []) (f1 : IsSlice Ty.int w R v1 a0) (f2 : IsSlice Ty.int w R v2 a1) (h : ref16_sameInts fuel a0 a1 = some r) :
    Gives Try.prog 52 [v1, v2] w fun u w1 => ∃ (R1 : Nat → Prop), u = .bool r ∧ Sep F R R1 w w1 [] := by
  refine fn_of Try.func52 rfl Try.ntmps52 (Nat.le_of_ble_eq_true rfl) ?_
  unfold ref16_sameInts at h
  refine e_seq fun K67 hK67 => ?_
  refine e_region_text rfl ?_
  refine q_assign rfl rfl ?_
  refine eseq_nil ?_
  refine hK67 _ _ ?_
  refine e_seq fun K68 hK68 => ?_
  refine e_seq fun K69 hK69 => ?_
  refine e_region_text rfl ?_
  refine q_move rfl rfl ?_
  refine q_lenS rfl f1 rfl ?_
  refine q_move rfl rfl ?_
  refine q_lenS rfl f2 rfl ?_
  refine q_neq rfl rfl rfl ?_
  refine eseq_nil ?_
  refine hK69 _ _ ?_
  refine e_cond rfl (fun hc70 => ?_) (fun hc70 => ?_)
  · replace h := (if_pos hc70).symm.trans h
    refine e_seq fun K71 hK71 => ?_
    refine e_region_text rfl ?_
    refine q_assign rfl rfl ?_
    refine eseq_nil ?_
    refine hK71 _ _ ?_
    refine e_ret ?_
    obtain rfl := Option.some.inj h
    exact ⟨_, res1 rfl rfl, _, rfl, hS⟩
  · replace h := (if_neg (not_true hc70)).symm.trans h
    refine e_skip ?_
    refine hK68 _ _ ?_
    refine e_seq fun K72 hK72 => ?_
    refine e_seq fun K73 hK73 => ?_
    refine e_region_text rfl ?_
    refine q_assign rfl rfl ?_
    refine eseq_nil ?_
    refine hK73 _ _ ?_
    refine e_block ?_
    obtain ⟨tl74, ht74, h⟩ := Option.of_bind h
    have hX74_0 : ∀ (R116 : Nat → Prop) (w117 : World) (E_ : Env), ref16_sameInts_K1 fuel = some r → Sep F R R116 w w117 [] → Sub [] E_ → K72 E_ w117 := by
      intro R116 w117 E_ h hS  hsub
      refine hK72 _ _ (e_sub hsub ?_); clear hsub
      unfold ref16_sameInts_K1 at h
      refine e_seq fun K118 hK118 => ?_
      refine e_region_text rfl ?_
      refine q_assign rfl rfl ?_
      refine eseq_nil ?_
      refine hK118 _ _ ?_
      refine e_ret ?_
      obtain rfl := Option.some.inj h
      exact ⟨_, res1 rfl rfl, _, rfl, hS⟩
    refine e_loop (fun m_ E_ w96 => ∃ (x99 : Int), ∃ (R95 : Nat → Prop), iter (fun s => ref16_sameInts_B1 fuel a0 a1 s) m_ x99 = some tl74 ∧ Sep F R R95 w w96 [] ∧ IsSlice Ty.int w96 R95 v1 a0 ∧ IsSlice Ty.int w96 R95 v2 a1 ∧ E_ = [(0, v1), (1, v2), (5, .int .i64 x99)]) _ ⟨_, ⟨0, _, ht74, hS, f1, f2, rfl⟩, Sub.cons rfl (Sub.cons rfl (Sub.cons rfl (Sub.nil _)))⟩ ?_
    clear ht74 hS
    rintro m74 _ w96 ⟨x99, R95, ht74, hS, f97, f98, rfl⟩
    obtain ⟨m74, rfl, o74, ho74, ht74⟩ := iter_some ht74
    replace ho74 : ref16_sameInts_B1 fuel a0 a1 x99 = some o74 := ho74
    unfold ref16_sameInts_B1 at ho74
    refine e_seq fun K119 hK119 => ?_
    refine e_seq fun K120 hK120 => ?_
    refine e_region_text rfl ?_
    refine q_move rfl rfl ?_
    refine q_move rfl rfl ?_
    refine q_lenS rfl f97 rfl ?_
    refine q_lss rfl rfl rfl ?_
    refine eseq_nil ?_
    refine hK120 _ _ ?_
    refine e_cond rfl (fun hc121 => ?_) (fun hc121 => ?_)
    · replace ho74 := (if_pos hc121).symm.trans ho74
      refine e_skip ?_
      refine hK119 _ _ ?_
      refine e_seq fun K122 hK122 => ?_
      refine e_block ?_
      refine e_seq fun K123 hK123 => ?_
      refine e_region_draw mixed (fun _ => False) [0, 0, 3, 7, 0, 0, 48, 112, 255] [] [0, 1, 2, 3, 4, 5, 6, 7, 8] (by kernel_rfl) ?_
      refine q_move rfl rfl ?_
      refine q_move rfl rfl ?_
      obtain ⟨x124, hx124, ho74⟩ := Option.of_bind ho74
      refine q_atS (by infer_instance) rfl f97 rfl hx124 rfl fun b125 o125 hm125 f125 => ?_
      refine q_load rfl (Elt.intCell f125) rfl ?_
      refine q_move rfl rfl ?_
      refine q_move rfl rfl ?_
      obtain ⟨x126, hx126, ho74⟩ := Option.of_bind ho74
      refine q_atS (by infer_instance) rfl f98 rfl hx126 rfl fun b127 o127 hm127 f127 => ?_
      refine q_load rfl (Elt.intCell f127) rfl ?_
      refine q_neq rfl rfl rfl ?_
      refine eseq_nil ?_
      refine hK123 _ _ ?_
      refine e_cond rfl (fun hc128 => ?_) (fun hc128 => ?_)
      · replace ho74 := (if_pos hc128).symm.trans ho74
        refine e_seq fun K129 hK129 => ?_
        refine e_region_text rfl ?_
        refine q_assign rfl rfl ?_
        refine eseq_nil ?_
        refine hK129 _ _ ?_
        refine e_ret ?_
        obtain rfl := Option.some.inj ho74
        obtain rfl := Option.some.inj ht74
        obtain rfl := Option.some.inj h
        exact ⟨_, res1 rfl rfl, _, rfl, hS⟩
      · replace ho74 := (if_neg (not_true hc128)).symm.trans ho74
        refine e_skip ?_
        refine hK122 _ _ ?_
        refine e_region_text rfl ?_
        refine q_move rfl rfl ?_
        refine q_addW rfl rfl rfl ?_
        refine q_assign rfl rfl ?_
        refine eseq_nil ?_
        obtain rfl := Option.some.inj ho74
        exact ⟨m74, _, Nat.lt_succ_self _, ⟨(w64 (x99 + 1)), _, ht74, hS, f97, f98, rfl⟩, Sub.cons rfl (Sub.cons rfl (Sub.cons rfl (Sub.nil _)))⟩
    · replace ho74 := (if_neg (not_true hc121)).symm.trans ho74
      refine e_exit ?_
      obtain rfl := Option.some.inj ho74
      obtain rfl := Option.some.inj ht74
      exact hX74_0  _ _ _ h hS  (Sub.nil _)
theorem ref16_Same_w {F R : Nat → Prop} {w : World} {fuel : Nat} {a0 : Pat} {a1 : Pat} {v1 : Value} {v2 : Value} {v3 : Value} {v4 : Value} {v5 : Value} {v6 : Value} {r : (Bool)} (hS : Sep F R R w w []) (f1 : IsSlice Ty.int w R v1 a0.lens) (f2 : IsSlice (Ty.slice Ty.int) w R v2 a0.ckpts) (f3 : IsSlice arcTy w R v3 a0.arcs) (f4 : IsSlice Ty.int w R v4 a1.lens) (f5 : IsSlice (Ty.slice Ty.int) w R v5 a1.ckpts) (f6 : IsSlice arcTy w R v6 a1.arcs) (h : ref16_Same fuel a0 a1 = some r) :
    Gives Try.prog 18 [.agg #[v1, v2, v3], .agg #[v4, v5, v6]] w fun u w1 => ∃ (R1 : Nat → Prop), u = .bool r ∧ Sep F R R1 w w1 [] := by
  refine fn_of Try.func18 rfl Try.ntmps18 (Nat.le_of_ble_eq_true rfl) ?_
  unfold ref16_Same at h
  refine e_seq fun K198 hK198 => ?_
  refine e_region_text rfl ?_
  refine q_boxB rfl rfl rfl fun w199 bl199 hg199 hb199 hB199 => ?_
  replace f1 := f1.ext hB199
  replace f2 := f2.ext hB199
  replace f3 := f3.ext hB199
  replace f4 := f4.ext hB199
  replace f5 := f5.ext hB199
  replace f6 := f6.ext hB199
  replace hS := hS.newBlk hB199 hg199 hb199
  refine q_boxB rfl rfl rfl fun w201 bl201 hg201 hb201 hB201 => ?_
  replace f4 := f4.ext hB201
  replace f5 := f5.ext hB201
  replace f6 := f6.ext hB201
  replace f1 := f1.ext hB201
  replace f2 := f2.ext hB201
  replace f3 := f3.ext hB201
  replace hS := hS.newBlk hB201 hg201 hb201
  refine q_assign rfl rfl ?_
  refine eseq_nil ?_
  refine hK198 _ _ ?_
  refine e_seq fun K203 hK203 => ?_
  refine e_seq fun K204 hK204 => ?_
  refine e_region_text rfl ?_
  refine q_field rfl rfl ?_
  refine q_load rfl (Blk.cell (hS.blk 1 rfl) rfl) rfl ?_
  refine q_field rfl rfl ?_
  refine q_load rfl (Blk.cell (hS.blk 0 rfl) rfl) rfl ?_
  obtain ⟨r206, hr206, h⟩ := Option.of_bind h
  refine q_call rfl (ref16_sameInts_w (Sep.enter (As := []) hS) f1 f4 hr206) rfl ?_
  rintro _ w205 ⟨R205, rfl, hC205⟩
  have hB205 : Below (World.heap w201).size w201 w205 := hC205.stepB0
  refine ⟨fun _ => .of_below hB205, ?_⟩
  replace f1 := (f1.ext hB205).mono fun k hk _ => hC205.ro0 k hk
  replace f2 := (f2.ext hB205).mono fun k hk _ => hC205.ro0 k hk
  replace f3 := (f3.ext hB205).mono fun k hk _ => hC205.ro0 k hk
  replace f4 := (f4.ext hB205).mono fun k hk _ => hC205.ro0 k hk
  replace f5 := (f5.ext hB205).mono fun k hk _ => hC205.ro0 k hk
  replace f6 := (f6.ext hB205).mono fun k hk _ => hC205.ro0 k hk
  replace hS := Sep.leave (As := []) hS hC205; simp only [List.cons_append, List.nil_append] at hS
  refine q_not rfl rfl ?_
  refine q_move rfl rfl ?_
  obtain ⟨x210, hx209, h⟩ := Option.of_bind h
  refine g_orM 7 hx209 rfl trivial rfl rfl ?_ ?_ ?_
  · intro hg209
    refine g_skip rfl rfl rfl ?_
    refine g_skip rfl rfl rfl ?_
    refine g_skip rfl rfl rfl ?_
    refine g_skip rfl rfl rfl ?_
    refine g_skip rfl rfl rfl ?_
    refine g_skip rfl rfl rfl ?_
    refine g_skip rfl rfl rfl ?_
    exact eseq_nil ⟨rfl, Sub.set rfl (Sub.set rfl (Sub.set rfl (Sub.set rfl (Sub.set rfl (Sub.set rfl (Sub.set rfl (Sub.bool true rfl hg209)))))))⟩
  · intro hg209 hx209
    clear h
    have hT209 := Below.refl (World.heap w205).size w205
    refine g_run rfl ?_; refine q_field rfl rfl ?_
    refine g_run rfl ?_; refine q_load rfl (Blk.cell (hS.blk 1 rfl) rfl) rfl ?_
    refine g_run rfl ?_; refine q_lenS rfl f2 rfl ?_
    refine g_run rfl ?_; refine q_field rfl rfl ?_
    refine g_run rfl ?_; refine q_load rfl (Blk.cell (hS.blk 0 rfl) rfl) rfl ?_
    refine g_run rfl ?_; refine q_lenS rfl f5 rfl ?_
    refine g_run rfl ?_; refine q_neq rfl rfl rfl ?_
    cases hx209
    exact eseq_nil ⟨hT209, Sub.set rfl (Sub.set rfl (Sub.set rfl (Sub.set rfl (Sub.set rfl (Sub.set rfl (Sub.set rfl (Sub.bool false rfl hg209))))))), rfl⟩
  intro wm209 hBm209; clear hx209
  replace hS := hS.below hBm209
  replace f1 := f1.ext hBm209
  replace f2 := f2.ext hBm209
  replace f3 := f3.ext hBm209
  replace f4 := f4.ext hBm209
  replace f5 := f5.ext hBm209
  replace f6 := f6.ext hBm209
  refine q_move rfl rfl ?_
  obtain ⟨x214, hx213, h⟩ := Option.of_bind h
  refine g_orM 7 hx213 rfl trivial rfl rfl ?_ ?_ ?_
  · intro hg213
    refine g_skip rfl rfl rfl ?_
    refine g_skip rfl rfl rfl ?_
    refine g_skip rfl rfl rfl ?_
    refine g_skip rfl rfl rfl ?_
    refine g_skip rfl rfl rfl ?_
    refine g_skip rfl rfl rfl ?_
    refine g_skip rfl rfl rfl ?_
    exact eseq_nil ⟨rfl, Sub.set rfl (Sub.set rfl (Sub.set rfl (Sub.set rfl (Sub.set rfl (Sub.set rfl (Sub.set rfl (Sub.bool true rfl hg213)))))))⟩
  · intro hg213 hx213
    clear h
    have hT213 := Below.refl (World.heap wm209).size wm209
    refine g_run rfl ?_; refine q_field rfl rfl ?_
    refine g_run rfl ?_; refine q_load rfl (Blk.cell (hS.blk 1 rfl) rfl) rfl ?_
    refine g_run rfl ?_; refine q_lenS rfl f3 rfl ?_
    refine g_run rfl ?_; refine q_field rfl rfl ?_
    refine g_run rfl ?_; refine q_load rfl (Blk.cell (hS.blk 0 rfl) rfl) rfl ?_
    refine g_run rfl ?_; refine q_lenS rfl f6 rfl ?_
    refine g_run rfl ?_; refine q_neq rfl rfl rfl ?_
    cases hx213
    exact eseq_nil ⟨hT213, Sub.set rfl (Sub.set rfl (Sub.set rfl (Sub.set rfl (Sub.set rfl (Sub.set rfl (Sub.set rfl (Sub.bool false rfl hg213))))))), rfl⟩
  intro wm213 hBm213; clear hx213
  replace hS := hS.below hBm213
  replace f1 := f1.ext hBm213
  replace f2 := f2.ext hBm213
  replace f3 := f3.ext hBm213
  replace f4 := f4.ext hBm213
  replace f5 := f5.ext hBm213
  replace f6 := f6.ext hBm213
  refine eseq_nil ?_
  refine hK204 _ _ ?_
  refine e_cond rfl (fun hc215 => ?_) (fun hc215 => ?_)
  · replace h := (if_pos hc215).symm.trans h
    refine e_seq fun K216 hK216 => ?_
    refine e_region_text rfl ?_
    refine q_assign rfl rfl ?_
    refine eseq_nil ?_
    refine hK216 _ _ ?_
    refine e_ret ?_
    obtain rfl := Option.some.inj h
    exact ⟨_, res1 rfl rfl, _, rfl, (hS.pickB [] 2 rfl rfl)⟩
  · replace h := (if_neg (not_true hc215)).symm.trans h
    refine e_skip ?_
    refine hK203 _ _ ?_
    refine e_seq fun K217 hK217 => ?_
    refine e_seq fun K218 hK218 => ?_
    refine e_region_text rfl ?_
    refine q_assign rfl rfl ?_
    refine eseq_nil ?_
    refine hK218 _ _ ?_
    refine e_block ?_
    obtain ⟨tl219, ht219, h⟩ := Option.of_bind h
    have hX219_0 : ∀ (R285 : Nat → Prop) (w286 : World) (E_ : Env), ref16_Same_K1 fuel a0 a1 = some r → Sep F R R285 w w286 [HP.blk bl199 [v1, v2, v3] 31, HP.blk bl201 [v4, v5, v6] 31] → IsSlice Ty.int w286 R285 v1 a0.lens → IsSlice (Ty.slice Ty.int) w286 R285 v2 a0.ckpts → IsSlice arcTy w286 R285 v3 a0.arcs → IsSlice Ty.int w286 R285 v4 a1.lens → IsSlice (Ty.slice Ty.int) w286 R285 v5 a1.ckpts → IsSlice arcTy w286 R285 v6 a1.arcs → Sub [(2, .pointer (some ⟨bl199, 0, none⟩)), (3, .pointer (some ⟨bl201, 0, none⟩))] E_ → K217 E_ w286 := by
      intro R285 w286 E_ h hS f287 f288 f289 f290 f291 f292 hsub
      refine hK217 _ _ (e_sub hsub ?_); clear hsub
      unfold ref16_Same_K1 at h
      refine e_seq fun K293 hK293 => ?_
      refine e_seq fun K294 hK294 => ?_
      refine e_region_text rfl ?_
      refine q_assign rfl rfl ?_
      refine eseq_nil ?_
      refine hK294 _ _ ?_
      refine e_block ?_
      obtain ⟨tl295, ht295, h⟩ := Option.of_bind h
      have hX295_2 : ∀ (R357 : Nat → Prop) (w358 : World) (E_ : Env), ref16_Same_K2 fuel = some r → Sep F R R357 w w358 [] → Sub [] E_ → K293 E_ w358 := by
        intro R357 w358 E_ h hS  hsub
        refine hK293 _ _ (e_sub hsub ?_); clear hsub
        unfold ref16_Same_K2 at h
        refine e_seq fun K359 hK359 => ?_
        refine e_region_text rfl ?_
        refine q_assign rfl rfl ?_
        refine eseq_nil ?_
        refine hK359 _ _ ?_
        refine e_ret ?_
        obtain rfl := Option.some.inj h
        exact ⟨_, res1 rfl rfl, _, rfl, hS⟩
      refine e_loop (fun m_ E_ w327 => ∃ (x334 : Int), ∃ (R326 : Nat → Prop), iter (fun s => ref16_Same_B1 fuel a0 a1 s) m_ x334 = some tl295 ∧ Sep F R R326 w w327 [HP.blk bl199 [v1, v2, v3] 31, HP.blk bl201 [v4, v5, v6] 31] ∧ IsSlice Ty.int w327 R326 v1 a0.lens ∧ IsSlice (Ty.slice Ty.int) w327 R326 v2 a0.ckpts ∧ IsSlice arcTy w327 R326 v3 a0.arcs ∧ IsSlice Ty.int w327 R326 v4 a1.lens ∧ IsSlice (Ty.slice Ty.int) w327 R326 v5 a1.ckpts ∧ IsSlice arcTy w327 R326 v6 a1.arcs ∧ E_ = [(2, .pointer (some ⟨bl199, 0, none⟩)), (3, .pointer (some ⟨bl201, 0, none⟩)), (6, .int .i64 x334)]) _ ⟨_, ⟨0, _, ht295, hS, f287, f288, f289, f290, f291, f292, rfl⟩, Sub.cons rfl (Sub.cons rfl (Sub.cons rfl (Sub.nil _)))⟩ ?_
      clear ht295 hS
      rintro m295 _ w327 ⟨x334, R326, ht295, hS, f328, f329, f330, f331, f332, f333, rfl⟩
      obtain ⟨m295, rfl, o295, ho295, ht295⟩ := iter_some ht295
      replace ho295 : ref16_Same_B1 fuel a0 a1 x334 = some o295 := ho295
      unfold ref16_Same_B1 at ho295
      refine e_seq fun K360 hK360 => ?_
      refine e_seq fun K361 hK361 => ?_
      refine e_region_text rfl ?_
      refine q_move rfl rfl ?_
      refine q_field rfl rfl ?_
      refine q_load rfl (Blk.cell (hS.blk 0 rfl) rfl) rfl ?_
      refine q_lenS rfl f330 rfl ?_
      refine q_lss rfl rfl rfl ?_
      refine eseq_nil ?_
      refine hK361 _ _ ?_
      refine e_cond rfl (fun hc362 => ?_) (fun hc362 => ?_)
      · replace ho295 := (if_pos hc362).symm.trans ho295
        refine e_skip ?_
        refine hK360 _ _ ?_
        refine e_seq fun K363 hK363 => ?_
        refine e_block ?_
        refine e_seq fun K364 hK364 => ?_
        refine e_region_draw mixed (fun _ => False) [0, 1, 0, 7, 15, 0, 32, 0, 224, 480, 1023] [] [0, 1, 2, 3, 4, 5, 6, 7, 8, 9, 10] (by kernel_rfl) ?_
        refine q_field rfl rfl ?_
        refine q_load rfl (Blk.cell (hS.blk 0 rfl) rfl) rfl ?_
        refine q_move rfl rfl ?_
        obtain ⟨x365, hx365, ho295⟩ := Option.of_bind ho295
        refine q_atS (by infer_instance) rfl f330 rfl hx365 rfl fun b366 o366 hm366 f366 => ?_
        have hc367 := Arc_open f366
        refine q_loadAgg rfl hc367 rfl rfl ?_
        refine q_field rfl rfl ?_
        refine q_load rfl (Blk.cell (hS.blk 1 rfl) rfl) rfl ?_
        refine q_move rfl rfl ?_
        obtain ⟨x368, hx368, ho295⟩ := Option.of_bind ho295
        refine q_atS (by infer_instance) rfl f333 rfl hx368 rfl fun b369 o369 hm369 f369 => ?_
        have hc370 := Arc_open f369
        refine q_loadAgg rfl hc370 rfl rfl ?_
        refine q_neqA eqT107 (by kernel_rfl) rfl rfl rfl ?_
        refine eseq_nil ?_
        refine hK364 _ _ ?_
        refine e_cond rfl (fun hc371 => ?_) (fun hc371 => ?_)
        · replace ho295 := (if_pos hc371).symm.trans ho295
          refine e_seq fun K372 hK372 => ?_
          refine e_region_text rfl ?_
          refine q_assign rfl rfl ?_
          refine eseq_nil ?_
          refine hK372 _ _ ?_
          refine e_ret ?_
          obtain rfl := Option.some.inj ho295
          obtain rfl := Option.some.inj ht295
          obtain rfl := Option.some.inj h
          exact ⟨_, res1 rfl rfl, _, rfl, (hS.pickB [] 2 rfl rfl)⟩
        · replace ho295 := (if_neg (not_true hc371)).symm.trans ho295
          refine e_skip ?_
          refine hK363 _ _ ?_
          refine e_region_text rfl ?_
          refine q_move rfl rfl ?_
          refine q_addW rfl rfl rfl ?_
          refine q_assign rfl rfl ?_
          refine eseq_nil ?_
          obtain rfl := Option.some.inj ho295
          exact ⟨m295, _, Nat.lt_succ_self _, ⟨(w64 (x334 + 1)), _, ht295, hS, f328, f329, f330, f331, f332, f333, rfl⟩, Sub.cons rfl (Sub.cons rfl (Sub.cons rfl (Sub.nil _)))⟩
      · replace ho295 := (if_neg (not_true hc362)).symm.trans ho295
        refine e_exit ?_
        obtain rfl := Option.some.inj ho295
        obtain rfl := Option.some.inj ht295
        exact hX295_2  _ _ _ h (hS.pickB [] 2 rfl rfl)  (Sub.nil _)
    refine e_loop (fun m_ E_ w253 => ∃ (x260 : Int), ∃ (R252 : Nat → Prop), iter (fun s => ref16_Same_B2 fuel a0 a1 s) m_ x260 = some tl219 ∧ Sep F R R252 w w253 [HP.blk bl199 [v1, v2, v3] 31, HP.blk bl201 [v4, v5, v6] 31] ∧ IsSlice Ty.int w253 R252 v1 a0.lens ∧ IsSlice (Ty.slice Ty.int) w253 R252 v2 a0.ckpts ∧ IsSlice arcTy w253 R252 v3 a0.arcs ∧ IsSlice Ty.int w253 R252 v4 a1.lens ∧ IsSlice (Ty.slice Ty.int) w253 R252 v5 a1.ckpts ∧ IsSlice arcTy w253 R252 v6 a1.arcs ∧ E_ = [(2, .pointer (some ⟨bl199, 0, none⟩)), (3, .pointer (some ⟨bl201, 0, none⟩)), (5, .int .i64 x260)]) _ ⟨_, ⟨0, _, ht219, (hS.pickB [1, 0] 2 rfl rfl), f1, f2, f3, f4, f5, f6, rfl⟩, Sub.cons rfl (Sub.cons rfl (Sub.cons rfl (Sub.nil _)))⟩ ?_
    clear ht219 hS
    rintro m219 _ w253 ⟨x260, R252, ht219, hS, f254, f255, f256, f257, f258, f259, rfl⟩
    obtain ⟨m219, rfl, o219, ho219, ht219⟩ := iter_some ht219
    replace ho219 : ref16_Same_B2 fuel a0 a1 x260 = some o219 := ho219
    unfold ref16_Same_B2 at ho219
    refine e_seq fun K373 hK373 => ?_
    refine e_seq fun K374 hK374 => ?_
    refine e_region_text rfl ?_
    refine q_move rfl rfl ?_
    refine q_field rfl rfl ?_
    refine q_load rfl (Blk.cell (hS.blk 0 rfl) rfl) rfl ?_
    refine q_lenS rfl f255 rfl ?_
    refine q_lss rfl rfl rfl ?_
    refine eseq_nil ?_
    refine hK374 _ _ ?_
    refine e_cond rfl (fun hc375 => ?_) (fun hc375 => ?_)
    · replace ho219 := (if_pos hc375).symm.trans ho219
      refine e_skip ?_
      refine hK373 _ _ ?_
      refine e_seq fun K376 hK376 => ?_
      refine e_block ?_
      refine e_seq fun K377 hK377 => ?_
      refine e_region_draw mixed (fun _ => False) [0, 1, 0, 7, 15, 0, 32, 0, 224, 480, 1023, 2047] [] [0, 1, 2, 3, 4, 5, 6, 7, 8, 9, 10, 11] (by kernel_rfl) ?_
      refine q_field rfl rfl ?_
      refine q_load rfl (Blk.cell (hS.blk 0 rfl) rfl) rfl ?_
      refine q_move rfl rfl ?_
      obtain ⟨x378, hx378, ho219⟩ := Option.of_bind ho219
      refine q_atS (by infer_instance) rfl f255 rfl hx378 rfl fun b379 o379 hm379 f379 => ?_
      refine q_loadE rfl f379 rfl (fun v380 f380 => ?_)
      refine q_field rfl rfl ?_
      refine q_load rfl (Blk.cell (hS.blk 1 rfl) rfl) rfl ?_
      refine q_move rfl rfl ?_
      obtain ⟨x381, hx381, ho219⟩ := Option.of_bind ho219
      refine q_atS (by infer_instance) rfl f258 rfl hx381 rfl fun b382 o382 hm382 f382 => ?_
      refine q_loadE rfl f382 rfl (fun v383 f383 => ?_)
      obtain ⟨r385, hr385, ho219⟩ := Option.of_bind ho219
      refine q_call rfl (ref16_sameInts_w (Sep.enter (As := []) hS) f380 f383 hr385) rfl ?_
      rintro _ w384 ⟨R384, rfl, hC384⟩
      have hB384 : Below (World.heap w253).size w253 w384 := hC384.stepB0
      refine ⟨fun _ => .of_below hB384, ?_⟩
      replace f254 := (f254.ext hB384).mono fun k hk _ => hC384.ro0 k hk
      replace f255 := (f255.ext hB384).mono fun k hk _ => hC384.ro0 k hk
      replace f256 := (f256.ext hB384).mono fun k hk _ => hC384.ro0 k hk
      replace f257 := (f257.ext hB384).mono fun k hk _ => hC384.ro0 k hk
      replace f258 := (f258.ext hB384).mono fun k hk _ => hC384.ro0 k hk
      replace f259 := (f259.ext hB384).mono fun k hk _ => hC384.ro0 k hk
      replace f380 := (f380.ext hB384).mono fun k hk _ => hC384.ro0 k hk
      replace f383 := (f383.ext hB384).mono fun k hk _ => hC384.ro0 k hk
      replace hS := Sep.leave (As := []) hS hC384; simp only [List.cons_append, List.nil_append] at hS
      refine q_not rfl rfl ?_
      refine eseq_nil ?_
      refine hK377 _ _ ?_
      refine e_cond rfl (fun hc386 => ?_) (fun hc386 => ?_)
      · replace ho219 := (if_pos hc386).symm.trans ho219
        refine e_seq fun K387 hK387 => ?_
        refine e_region_text rfl ?_
        refine q_assign rfl rfl ?_
        refine eseq_nil ?_
        refine hK387 _ _ ?_
        refine e_ret ?_
        obtain rfl := Option.some.inj ho219
        obtain rfl := Option.some.inj ht219
        obtain rfl := Option.some.inj h
        exact ⟨_, res1 rfl rfl, _, rfl, (hS.pickB [] 2 rfl rfl)⟩
      · replace ho219 := (if_neg (not_true hc386)).symm.trans ho219
        refine e_skip ?_
        refine hK376 _ _ ?_
        refine e_region_text rfl ?_
        refine q_move rfl rfl ?_
        refine q_addW rfl rfl rfl ?_
        refine q_assign rfl rfl ?_
        refine eseq_nil ?_
        obtain rfl := Option.some.inj ho219
        exact ⟨m219, _, Nat.lt_succ_self _, ⟨(w64 (x260 + 1)), _, ht219, hS, f254, f255, f256, f257, f258, f259, rfl⟩, Sub.cons rfl (Sub.cons rfl (Sub.cons rfl (Sub.nil _)))⟩
    · replace ho219 := (if_neg (not_true hc375)).symm.trans ho219
      refine e_exit ?_
      obtain rfl := Option.some.inj ho219
      obtain rfl := Option.some.inj ht219
      exact hX219_0  _ _ _ h hS f254 f255 f256 f257 f258 f259 (Sub.cons rfl (Sub.cons rfl (Sub.nil _)))
end Go.Proofs.Ytbmjcbhappjnaaa
