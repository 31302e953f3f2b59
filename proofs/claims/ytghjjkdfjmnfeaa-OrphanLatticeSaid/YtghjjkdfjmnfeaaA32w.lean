/- Printed walks: A32w. -/
import Derived.Test.YtghjjkdfjmnfeaaA32m
import Derived.Test.YtghjjkdfjmnfeaaA32p
import Derived.Test.YtghjjkdfjmnfeaaA18a
set_option linter.unusedVariables false
set_option linter.unusedSimpArgs false
namespace Go.Mine
open Go.RowKit
def cut_Join_K1 (fuel : Nat) (x158 : (List Int)) : Option ((List Int)) :=
  some x158
def cut_Join_B1 (fuel : Nat) (x95 : (List Int)) (a0 : (List Int)) (a1 : (List Int)) (x132 : (List Int)) (x133 : Int) : Option (((List Int) × Int) ⊕ ((List Int))) :=
  (if (decide (x133 < (x95.length : Int))) = true then (ati a0 x133).bind fun x165 => (ati a1 x133).bind fun x167 => (ati x132 x133).bind fun x169 => (seti x132 x133 (max x165 x167)).bind fun x171 => some (Sum.inl (x171, (w64 (x133 + 1)))) else some (Sum.inr x132))
def cut_Join (fuel : Nat) (a0 : (List Int)) (a1 : (List Int)) : Option ((List Int)) :=
  (if ((a0.length : Int) != (a1.length : Int)) = true then some ([] : List Int) else (mkL (a0.length : Int) (0 : Int)).bind fun x95 => (iter (fun s => cut_Join_B1 fuel x95 a0 a1 s.1 s.2) fuel (x95, 0)).bind (fun t => cut_Join_K1 fuel t))
def cut_Lower_K1 (fuel : Nat) (x724 : (List Int)) : Option (((List Int)) ⊕ ((List Int))) :=
  some (Sum.inl x724)
def cut_Lower_K2 (fuel : Nat) (x525 : (List Int)) : Option (((List Int)) ⊕ ((List Int))) :=
  some (Sum.inr x525)
def cut_Lower_B2 (fuel : Nat) (a0 : Pat) (x525 : (List Int)) (x689 : Int) : Option ((Int) ⊕ (((List Int)) ⊕ Unit)) :=
  (if (decide (x689 < (a0.arcs.length : Int))) = true then (ati a0.arcs x689).bind fun x734 => (cut_orphan fuel (⟨x734.fr, x734.ix, x734.to, x734.rcv⟩ : Arc) x525).bind fun r742 => (if r742 = true then (ati x525 x734.to).bind fun x745 => (seti x525 x734.to (w64 (x734.rcv - 1))).bind fun x747 => some (Sum.inr (Sum.inl x747)) else some (Sum.inl (w64 (x689 + 1)))) else some (Sum.inr (Sum.inr ())))
def cut_Lower_B1 (fuel : Nat) (a0 : Pat) (x525 : (List Int)) : Option (((List Int)) ⊕ ((List Int))) :=
  (iter (fun s => cut_Lower_B2 fuel a0 x525 s) fuel 0).bind (fun t => Sum.elim (fun t => cut_Lower_K1 fuel t) (fun t => cut_Lower_K2 fuel x525) t)
def cut_Lower (fuel : Nat) (a0 : Pat) (a1 : (List Int)) : Option ((List Int)) :=
  (cut_fits fuel (⟨a0.lens, a0.ckpts, a0.arcs⟩ : Pat) a1).bind fun r383 => (if (!r383) = true then some ([] : List Int) else (Clone_Int fuel a1).bind fun r389 => (iter (fun s => cut_Lower_B1 fuel a0 s) fuel r389).bind (fun t => some t))
def law32_OrphanLattice (fuel : Nat) (a0 : (List Int)) : Option (Bool) :=
  (law32_awake fuel).bind fun r152 => (if (!r152) = true then some false else (make_New fuel a0 200).bind fun r157 => (make_Codes_Lineages fuel 30 r157.1 r157.2).bind fun r162 => (make_Codes_Cut fuel (⟨r162.2.1.lens, r162.2.1.ckpts, r162.2.1.arcs⟩ : Pat) r157.1 r162.2.2).bind fun r187 => (orphan_Lower fuel r162.1 r187.1).bind fun r190 => (make_Codes_Cut fuel (⟨r162.2.1.lens, r162.2.1.ckpts, r162.2.1.arcs⟩ : Pat) r157.1 r187.2).bind fun r193 => (orphan_Lower fuel r162.1 r193.1).bind fun r196 => (make_Codes_Cut fuel (⟨r162.2.1.lens, r162.2.1.ckpts, r162.2.1.arcs⟩ : Pat) r157.1 r193.2).bind fun r200 => (orphan_Pattern fuel r162.1 r162.2.1.ckpts).bind fun r207 => (orM (!r207.2) ((pattern_Check fuel (⟨r207.1.lens, r207.1.ckpts, r207.1.arcs⟩ : Pat)).bind fun r223 => some (r223 != 0))).bind fun x221 => (orM x221 ((cut_Meet fuel r190 r196).bind fun r234 => (orphan_Consistent fuel r162.1 r234).bind fun r237 => some (!r237))).bind fun x232 => (orM x232 ((cut_Join fuel r190 r196).bind fun r248 => (orphan_Consistent fuel r162.1 r248).bind fun r251 => some (!r251))).bind fun x246 => (if x246 = true then some false else (orphan_Consistent fuel r162.1 r200.1).bind fun r270 => (cut_Consistent fuel (⟨r207.1.lens, r207.1.ckpts, r207.1.arcs⟩ : Pat) r200.1).bind fun r272 => (andM (r270 == r272) ((orphan_Lower fuel r162.1 r200.1).bind fun r286 => (cut_Lower fuel (⟨r207.1.lens, r207.1.ckpts, r207.1.arcs⟩ : Pat) r200.1).bind fun r289 => (ref23_SameInts fuel r286 r289).bind fun r292 => some r292)).bind fun x284 => some x284))
end Go.Mine
namespace Go.Proofs.Ytghjjkdfjmnfeaa
open Go.RowKit Go.Mine
attribute [local irreducible] eseq ewp iter
theorem cut_Join_w {F R : Nat → Prop} {w : World} {fuel : Nat} {a0 : (List Int)} {a1 : (List Int)} {v1 : Value} {v2 : Value} {r : ((List Int))} (hS : Sep F R R w w []) (f1 : IsSlice Ty.int w R v1 a0) (f2 : IsSlice Ty.int w R v2 a1) (h : cut_Join fuel a0 a1 = some r) :
    Gives Try.prog 43 [v1, v2] w fun u w1 => ∃ (v87 : Value), ∃ (R1 : Nat → Prop), u = v87 ∧ Sep F R R1 w w1 [HP.own Ty.int (fun _ => False) 3 v87 r] := by
  refine fn_of Try.func43 rfl Try.ntmps43 (Nat.le_of_ble_eq_true rfl) ?_
  unfold cut_Join at h
  refine e_seq fun K88 hK88 => ?_
  refine e_region_text rfl ?_
  refine q_assign rfl rfl ?_
  refine eseq_nil ?_
  refine hK88 _ _ ?_
  refine e_seq fun K89 hK89 => ?_
  refine e_seq fun K90 hK90 => ?_
  refine e_region_text rfl ?_
  refine q_move rfl rfl ?_
  refine q_lenS rfl f1 rfl ?_
  refine q_move rfl rfl ?_
  refine q_lenS rfl f2 rfl ?_
  refine q_neq rfl rfl rfl ?_
  refine eseq_nil ?_
  refine hK90 _ _ ?_
  refine e_cond rfl (fun hc91 => ?_) (fun hc91 => ?_)
  · replace h := (if_pos hc91).symm.trans h
    refine e_seq fun K92 hK92 => ?_
    refine e_region_text rfl ?_
    refine q_assign rfl rfl ?_
    refine eseq_nil ?_
    refine hK92 _ _ ?_
    refine e_ret ?_
    replace hS := hS.nilOwn0 Ty.int 3
    obtain rfl := Option.some.inj h
    exact ⟨_, res1 rfl rfl, (.slice none 0 0), _, rfl, hS⟩
  · replace h := (if_neg (not_true hc91)).symm.trans h
    refine e_skip ?_
    refine hK89 _ _ ?_
    refine e_seq fun K94 hK94 => ?_
    refine e_region_text rfl ?_
    refine q_move rfl rfl ?_
    refine q_lenS rfl f1 rfl ?_
    obtain ⟨x95, hx95, h⟩ := Option.of_bind h
    refine q_makeO (T := Ty.int) (S := (fun _ => False)) rfl rfl rfl hx95 (fun _ h => h.elim) rfl fun w96 v96 ho96 hv96 hB96 => ?_
    replace f1 := f1.ext hB96
    replace f2 := f2.ext hB96
    replace hS := hS.newOwnS hB96 ho96 hv96 (fun _ h => h.elim)
    refine q_assign rfl rfl ?_
    refine eseq_nil ?_
    refine hK94 _ _ ?_
    refine e_seq fun K98 hK98 => ?_
    refine e_seq fun K99 hK99 => ?_
    refine e_region_text rfl ?_
    refine q_move rfl rfl ?_
    refine q_lenS rfl (hS.isl 0 rfl) rfl ?_
    refine q_move rfl rfl ?_
    refine eseq_nil ?_
    refine hK99 _ _ ?_
    refine e_block ?_
    obtain ⟨tl100, ht100, h⟩ := Option.of_bind h
    have hX100_0 : ∀ (x158 : (List Int)) (v157 : Value) (R154 : Nat → Prop) (w155 : World) (E_ : Env), cut_Join_K1 fuel x158 = some r → Sep F R R154 w w155 [HP.own Ty.int (fun _ => False) 3 v157 x158] → Sub [(5, v157)] E_ → K98 E_ w155 := by
      intro x158 v157 R154 w155 E_ h hS  hsub
      refine hK98 _ _ (e_sub hsub ?_); clear hsub
      unfold cut_Join_K1 at h
      refine e_seq fun K159 hK159 => ?_
      refine e_region_text rfl ?_
      refine q_move rfl rfl ?_
      refine q_assign rfl rfl ?_
      refine eseq_nil ?_
      refine hK159 _ _ ?_
      refine e_ret ?_
      obtain rfl := Option.some.inj h
      exact ⟨_, res1 rfl rfl, v157, _, rfl, hS⟩
    refine e_loop (fun m_ E_ w127 => ∃ (x132 : (List Int)), ∃ (x133 : Int), ∃ (v131 : Value), ∃ (R126 : Nat → Prop), iter (fun s => cut_Join_B1 fuel x95 a0 a1 s.1 s.2) m_ (x132, x133) = some tl100 ∧ Sep F R R126 w w127 [HP.own Ty.int (fun _ => False) 3 v131 x132] ∧ IsSlice Ty.int w127 R126 v1 a0 ∧ IsSlice Ty.int w127 R126 v2 a1 ∧ E_ = [(0, v1), (1, v2), (5, v131), (16, .int .i64 (x95.length : Int)), (17, .int .i64 x133)]) _ ⟨_, ⟨x95, 0, v96, _, ht100, hS, f1, f2, rfl⟩, Sub.cons rfl (Sub.cons rfl (Sub.cons rfl (Sub.cons rfl (Sub.cons rfl (Sub.nil _)))))⟩ ?_
    clear ht100 hS
    rintro m100 _ w127 ⟨x132, x133, v131, R126, ht100, hS, f128, f129, rfl⟩
    obtain ⟨m100, rfl, o100, ho100, ht100⟩ := iter_some ht100
    replace ho100 : cut_Join_B1 fuel x95 a0 a1 x132 x133 = some o100 := ho100
    unfold cut_Join_B1 at ho100
    refine e_seq fun K160 hK160 => ?_
    refine e_region_text rfl ?_
    refine q_lss rfl rfl rfl ?_
    refine eseq_nil ?_
    refine hK160 _ _ ?_
    refine e_seq fun K161 hK161 => ?_
    refine e_cond rfl (fun hc162 => ?_) (fun hc162 => ?_)
    · replace ho100 := (if_pos hc162).symm.trans ho100
      refine e_skip ?_
      refine hK161 _ _ ?_
      refine e_seq fun K163 hK163 => ?_
      refine e_block ?_
      refine e_seq fun K164 hK164 => ?_
      refine e_region_text rfl ?_
      refine q_move rfl rfl ?_
      refine q_assign rfl rfl ?_
      refine eseq_nil ?_
      refine hK164 _ _ ?_
      refine e_region_draw mixed (fun _ => False) [0, 0, 0, 0, 12, 28, 0, 0, 192, 448, 1020, 2047, 4095] [] [0, 1, 2, 3, 4, 5, 6, 7, 8, 9, 10, 11, 12] (by kernel_rfl) ?_
      refine q_move rfl rfl ?_
      refine q_move rfl rfl ?_
      refine q_move rfl rfl ?_
      refine q_move rfl rfl ?_
      obtain ⟨x165, hx165, ho100⟩ := Option.of_bind ho100
      refine q_atS (by infer_instance) rfl f128 rfl hx165 rfl fun b166 o166 hm166 f166 => ?_
      refine q_load rfl (Elt.intCell f166) rfl ?_
      refine q_move rfl rfl ?_
      refine q_move rfl rfl ?_
      obtain ⟨x167, hx167, ho100⟩ := Option.of_bind ho100
      refine q_atS (by infer_instance) rfl f129 rfl hx167 rfl fun b168 o168 hm168 f168 => ?_
      refine q_load rfl (Elt.intCell f168) rfl ?_
      refine q_max rfl rfl rfl ?_
      obtain ⟨x169, hx169, ho100⟩ := Option.of_bind ho100
      refine q_indexO (by infer_instance) rfl (hS.own 0 rfl) rfl hx169 rfl ?_
      obtain ⟨x171, hx171, ho100⟩ := Option.of_bind ho100
      refine q_storeO (T := Ty.int) (j := 0) rfl rfl (hS.own 0 rfl) hx169 hx171 rfl rfl rfl (Enc.setL rfl) fun w170 ho170 hO170 => ?_
      have hk170 := hS.keptO 0 rfl hx169 hO170
      replace f128 := f128.kept hk170
      replace f129 := f129.kept hk170
      replace hS := hS.putO 0 rfl hx169 ho170 hO170; simp only [List.set] at hS
      refine eseq_nil ?_
      refine hK163 _ _ ?_
      refine e_region_text rfl ?_
      refine q_addW rfl rfl rfl ?_
      refine q_move rfl rfl ?_
      refine eseq_nil ?_
      obtain rfl := Option.some.inj ho100
      exact ⟨m100, _, Nat.lt_succ_self _, ⟨x171, (w64 (x133 + 1)), v131, _, ht100, hS, f128, f129, rfl⟩, Sub.cons rfl (Sub.cons rfl (Sub.cons rfl (Sub.cons rfl (Sub.cons rfl (Sub.nil _)))))⟩
    · replace ho100 := (if_neg (not_true hc162)).symm.trans ho100
      refine e_exit ?_
      obtain rfl := Option.some.inj ho100
      obtain rfl := Option.some.inj ht100
      exact hX100_0 x132 v131 _ _ _ h hS  (Sub.cons rfl (Sub.nil _))
theorem cut_Lower_w {F R : Nat → Prop} {w : World} {fuel : Nat} {a0 : Pat} {a1 : (List Int)} {v1 : Value} {v2 : Value} {v3 : Value} {v4 : Value} {r : ((List Int))} (hS : Sep F R R w w []) (f1 : IsSlice Ty.int w R v1 a0.lens) (f2 : IsSlice (Ty.slice Ty.int) w R v2 a0.ckpts) (f3 : IsSlice arcTy w R v3 a0.arcs) (f4 : IsSlice Ty.int w R v4 a1) (h : cut_Lower fuel a0 a1 = some r) :
    Gives Try.prog 45 [.agg #[v1, v2, v3], v4] w fun u w1 => ∃ (v376 : Value), ∃ (R1 : Nat → Prop), u = v376 ∧ Sep F R R1 w w1 [HP.own Ty.int (fun _ => False) 3 v376 r] := by
  refine fn_of Try.func45 rfl Try.ntmps45 (Nat.le_of_ble_eq_true rfl) ?_
  unfold cut_Lower at h
  refine e_seq fun K377 hK377 => ?_
  refine e_region_text rfl ?_
  refine q_boxB rfl rfl rfl fun w378 bl378 hg378 hb378 hB378 => ?_
  replace f1 := f1.ext hB378
  replace f2 := f2.ext hB378
  replace f3 := f3.ext hB378
  replace f4 := f4.ext hB378
  replace hS := hS.newBlk hB378 hg378 hb378
  refine q_assign rfl rfl ?_
  refine eseq_nil ?_
  refine hK377 _ _ ?_
  refine e_scope ?_
  refine e_seq fun K380 hK380 => ?_
  refine e_seq fun K381 hK381 => ?_
  refine e_region_text rfl ?_
  refine q_loadAgg rfl (Blk.cellsAt (hS.blk 0 rfl) 0 3 rfl) rfl rfl ?_
  refine q_move rfl rfl ?_
  obtain ⟨r383, hr383, h⟩ := Option.of_bind h
  refine q_call rfl (cut_fits_w (a0 := (⟨a0.lens, a0.ckpts, a0.arcs⟩ : Pat)) (Sep.enter (As := []) hS) f1 f2 f3 f4 hr383) rfl ?_
  rintro _ w382 ⟨R382, rfl, hC382⟩
  have hB382 : Below (World.heap w378).size w378 w382 := hC382.stepB0
  refine ⟨fun _ => .of_below hB382, ?_⟩
  replace f4 := (f4.ext hB382).mono fun k hk _ => hC382.ro0 k hk
  replace f1 := (f1.ext hB382).mono fun k hk _ => hC382.ro0 k hk
  replace f2 := (f2.ext hB382).mono fun k hk _ => hC382.ro0 k hk
  replace f3 := (f3.ext hB382).mono fun k hk _ => hC382.ro0 k hk
  replace hS := Sep.leave (As := []) hS hC382; simp only [List.cons_append, List.nil_append] at hS
  refine q_not rfl rfl ?_
  refine eseq_nil ?_
  refine hK381 _ _ ?_
  refine e_cond rfl (fun hc384 => ?_) (fun hc384 => ?_)
  · replace h := (if_pos hc384).symm.trans h
    refine e_seq fun K385 hK385 => ?_
    refine e_region_text rfl ?_
    refine q_assign rfl rfl ?_
    refine eseq_nil ?_
    refine hK385 _ _ ?_
    refine e_ret ?_
    replace hS := hS.nilOwn0 Ty.int 3
    obtain rfl := Option.some.inj h
    exact ⟨_, res1 rfl rfl, (.slice none 0 0), _, rfl, (hS.pickB [0] 2 rfl rfl)⟩
  · replace h := (if_neg (not_true hc384)).symm.trans h
    refine e_skip ?_
    refine hK380 _ _ ?_
    refine e_seq fun K387 hK387 => ?_
    refine e_region_text rfl ?_
    refine q_move rfl rfl ?_
    obtain ⟨r389, hr389, h⟩ := Option.of_bind h
    refine q_call rfl (Clone_Int_w (Sep.enter (As := []) hS) f4 hr389) rfl ?_
    rintro v390 w388 ⟨_, R388, rfl, hC388⟩
    have hB388 : Below (World.heap w382).size w382 w388 := hC388.stepB0
    refine ⟨fun _ => .of_below hB388, ?_⟩
    replace f1 := (f1.ext hB388).mono fun k hk _ => hC388.ro0 k hk
    replace f2 := (f2.ext hB388).mono fun k hk _ => hC388.ro0 k hk
    replace f3 := (f3.ext hB388).mono fun k hk _ => hC388.ro0 k hk
    replace f4 := (f4.ext hB388).mono fun k hk _ => hC388.ro0 k hk
    replace hS := Sep.leave (As := []) hS hC388; simp only [List.cons_append, List.nil_append] at hS
    refine q_assign rfl rfl ?_
    refine eseq_nil ?_
    refine hK387 _ _ ?_
    refine e_seq fun K391 hK391 => ?_
    refine e_label ?_
    refine hK391 _ _ ?_
    refine e_block ?_
    obtain ⟨tl392, ht392, h⟩ := Option.of_bind h
    refine e_loop (fun m_ E_ w519 => ∃ (x525 : (List Int)), ∃ (v524 : Value), ∃ (R518 : Nat → Prop), iter (fun s => cut_Lower_B1 fuel a0 s) m_ x525 = some tl392 ∧ Sep F R R518 w w519 [HP.blk bl378 [v1, v2, v3] 46, HP.own Ty.int (fun _ => False) 3 v524 x525] ∧ IsSlice Ty.int w519 R518 v1 a0.lens ∧ IsSlice (Ty.slice Ty.int) w519 R518 v2 a0.ckpts ∧ IsSlice arcTy w519 R518 v3 a0.arcs ∧ E_ = [(2, .pointer (some ⟨bl378, 0, none⟩)), (5, v524)]) _ ⟨_, ⟨r389, v390, _, ht392, (hS.pickB [1, 0] 2 rfl rfl), f1, f2, f3, rfl⟩, Sub.cons rfl (Sub.cons rfl (Sub.nil _))⟩ ?_
    clear ht392 hS
    rintro m392 _ w519 ⟨x525, v524, R518, ht392, hS, f520, f521, f522, rfl⟩
    obtain ⟨m392, rfl, o392, ho392, ht392⟩ := iter_some ht392
    replace ho392 : cut_Lower_B1 fuel a0 x525 = some o392 := ho392
    unfold cut_Lower_B1 at ho392
    refine e_block ?_
    refine e_seq fun K645 hK645 => ?_
    refine e_seq fun K646 hK646 => ?_
    refine e_region_text rfl ?_
    refine q_field rfl rfl ?_
    refine q_load rfl (Blk.cell (hS.blk 0 rfl) rfl) rfl ?_
    refine q_lenS rfl f522 rfl ?_
    refine q_move rfl rfl ?_
    refine eseq_nil ?_
    refine hK646 _ _ ?_
    refine e_block ?_
    obtain ⟨tl647, ht647, ho392⟩ := Option.of_bind ho392
    have hX647_2 : ∀ (R725 : Nat → Prop) (w726 : World) (E_ : Env), cut_Lower_K2 fuel x525 = some o392 → Sep F R R725 w w726 [HP.own Ty.int (fun _ => False) 3 v524 x525] → Sub [(5, v524)] E_ → K645 E_ w726 := by
      intro R725 w726 E_ ho392 hS  hsub
      refine hK645 _ _ (e_sub hsub ?_); clear hsub
      unfold cut_Lower_K2 at ho392
      refine e_seq fun K728 hK728 => ?_
      refine e_region_text rfl ?_
      refine q_move rfl rfl ?_
      refine q_assign rfl rfl ?_
      refine eseq_nil ?_
      refine hK728 _ _ ?_
      refine e_ret ?_
      obtain rfl := Option.some.inj ho392
      obtain rfl := Option.some.inj ht392
      obtain rfl := Option.some.inj h
      exact ⟨_, res1 rfl rfl, v524, _, rfl, hS⟩
    refine e_loop (fun m_ E_ w683 => ∃ (x689 : Int), ∃ (R682 : Nat → Prop), iter (fun s => cut_Lower_B2 fuel a0 x525 s) m_ x689 = some tl647 ∧ Sep F R R682 w w683 [HP.blk bl378 [v1, v2, v3] 46, HP.own Ty.int (fun _ => False) 3 v524 x525] ∧ IsSlice Ty.int w683 R682 v1 a0.lens ∧ IsSlice (Ty.slice Ty.int) w683 R682 v2 a0.ckpts ∧ IsSlice arcTy w683 R682 v3 a0.arcs ∧ IsSlice arcTy w683 R682 v3 a0.arcs ∧ E_ = [(2, .pointer (some ⟨bl378, 0, none⟩)), (5, v524), (15, v3), (16, .int .i64 (a0.arcs.length : Int)), (17, .int .i64 x689)]) _ ⟨_, ⟨0, _, ht647, hS, f520, f521, f522, f522, rfl⟩, Sub.cons rfl (Sub.cons rfl (Sub.cons rfl (Sub.cons rfl (Sub.cons rfl (Sub.nil _)))))⟩ ?_
    clear ht647 hS
    rintro m647 _ w683 ⟨x689, R682, ht647, hS, f684, f685, f686, f688, rfl⟩
    obtain ⟨m647, rfl, o647, ho647, ht647⟩ := iter_some ht647
    replace ho647 : cut_Lower_B2 fuel a0 x525 x689 = some o647 := ho647
    unfold cut_Lower_B2 at ho647
    refine e_seq fun K729 hK729 => ?_
    refine e_region_text rfl ?_
    refine q_lss rfl rfl rfl ?_
    refine eseq_nil ?_
    refine hK729 _ _ ?_
    refine e_seq fun K730 hK730 => ?_
    refine e_cond rfl (fun hc731 => ?_) (fun hc731 => ?_)
    · replace ho647 := (if_pos hc731).symm.trans ho647
      refine e_skip ?_
      refine hK730 _ _ ?_
      refine e_seq fun K732 hK732 => ?_
      refine e_block ?_
      refine e_seq fun K733 hK733 => ?_
      refine e_region_text rfl ?_
      obtain ⟨x734, hx734, ho647⟩ := Option.of_bind ho647
      refine q_atS (by infer_instance) rfl f688 rfl hx734 rfl fun b735 o735 hm735 f735 => ?_
      have hc736 := Arc_open f735
      refine q_loadAgg rfl hc736 rfl rfl ?_
      refine q_allocB rfl fun w737 bl737 hg737 hb737 hB737 => ?_
      replace f684 := f684.ext hB737
      replace f685 := f685.ext hB737
      replace f686 := f686.ext hB737
      replace f688 := f688.ext hB737
      replace hS := hS.newBlk hB737 hg737 hb737
      refine q_storeAgg rfl rfl (hS.blk 0 rfl) rfl (Nat.le_of_ble_eq_true rfl) (all_cons rfl (all_cons rfl (all_cons rfl (all_cons rfl (all_nil))))) rfl rfl fun w739 hb739 hO739 => ?_
      simp only [setN, List.set, List.take, List.drop] at hb739
      have hk739 := hS.keptBlk 0 rfl hO739
      replace f684 := f684.kept hk739
      replace f685 := f685.kept hk739
      replace f686 := f686.kept hk739
      replace f688 := f688.kept hk739
      replace hS := hS.setBlk 0 rfl hb739 hO739; simp only [List.set] at hS
      refine eseq_nil ?_
      refine hK733 _ _ ?_
      refine e_seq fun K740 hK740 => ?_
      refine e_region_text rfl ?_
      refine q_loadAgg rfl (Blk.cellsAt (hS.blk 0 rfl) 0 4 rfl) rfl rfl ?_
      refine q_move rfl rfl ?_
      obtain ⟨r742, hr742, ho647⟩ := Option.of_bind ho647
      refine q_call rfl (cut_orphan_w (a0 := (⟨x734.fr, x734.ix, x734.to, x734.rcv⟩ : Arc)) (Sep.all w739) ((hS.isl 2 rfl)).old hr742) rfl ?_
      rintro _ w741 ⟨R741, rfl, hC741⟩
      have hB741 : Below (World.heap w739).size w739 w741 := hC741.stepBF
      refine ⟨fun _ => .of_below hB741, ?_⟩
      replace f684 := f684.ext hB741
      replace f685 := f685.ext hB741
      replace f686 := f686.ext hB741
      replace f688 := f688.ext hB741
      replace hS := hS.below hB741
      refine eseq_nil ?_
      refine hK740 _ _ ?_
      refine e_cond rfl (fun hc743 => ?_) (fun hc743 => ?_)
      · replace ho647 := (if_pos hc743).symm.trans ho647
        refine e_seq fun K744 hK744 => ?_
        refine e_region_text rfl ?_
        refine q_move rfl rfl ?_
        refine q_field rfl rfl ?_
        refine q_load rfl (Blk.cell (hS.blk 0 rfl) rfl) rfl ?_
        refine q_field rfl rfl ?_
        refine q_load rfl (Blk.cell (hS.blk 0 rfl) rfl) rfl ?_
        refine q_subW rfl rfl rfl ?_
        obtain ⟨x745, hx745, ho647⟩ := Option.of_bind ho647
        refine q_indexO (by infer_instance) rfl (hS.own 2 rfl) rfl hx745 rfl ?_
        obtain ⟨x747, hx747, ho647⟩ := Option.of_bind ho647
        refine q_storeO (T := Ty.int) (j := 0) rfl rfl (hS.own 2 rfl) hx745 hx747 rfl rfl rfl (Enc.setL rfl) fun w746 ho746 hO746 => ?_
        have hk746 := hS.keptO 2 rfl hx745 hO746
        replace f684 := f684.kept hk746
        replace f685 := f685.kept hk746
        replace f686 := f686.kept hk746
        replace hS := hS.putO 2 rfl hx745 ho746 hO746; simp only [List.set] at hS
        refine eseq_nil ?_
        refine hK744 _ _ ?_
        refine e_exit ?_
        obtain rfl := Option.some.inj ho647
        obtain rfl := Option.some.inj ht647
        replace ho392 : cut_Lower_K1 fuel x747 = some o392 := ho392
        unfold cut_Lower_K1 at ho392
        obtain rfl := Option.some.inj ho392
        exact ⟨m392, _, Nat.lt_succ_self _, ⟨x747, v524, _, ht392, (hS.pickB [1, 2] 3 rfl rfl), f684, f685, f686, rfl⟩, Sub.cons rfl (Sub.cons rfl (Sub.nil _))⟩
      · replace ho647 := (if_neg (not_true hc743)).symm.trans ho647
        refine e_skip ?_
        refine hK732 _ _ ?_
        refine e_region_text rfl ?_
        refine q_addW rfl rfl rfl ?_
        refine q_move rfl rfl ?_
        refine eseq_nil ?_
        obtain rfl := Option.some.inj ho647
        exact ⟨m647, _, Nat.lt_succ_self _, ⟨(w64 (x689 + 1)), _, ht647, (hS.pickB [1, 2] 3 rfl rfl), f684, f685, f686, f688, rfl⟩, Sub.cons rfl (Sub.cons rfl (Sub.cons rfl (Sub.cons rfl (Sub.cons rfl (Sub.nil _)))))⟩
    · replace ho647 := (if_neg (not_true hc731)).symm.trans ho647
      refine e_exit ?_
      obtain rfl := Option.some.inj ho647
      obtain rfl := Option.some.inj ht647
      exact hX647_2  _ _ _ ho392 (hS.pickB [1] 2 rfl rfl)  (Sub.cons rfl (Sub.nil _))
theorem law32_OrphanLattice_w {F R : Nat → Prop} {w : World} {fuel : Nat} {a0 : (List Int)} {v1 : Value} {r : (Bool)} (hS : Sep F R R w w []) (f1 : IsSlice Ty.u8 w R v1 a0) (h : law32_OrphanLattice fuel a0 = some r) :
    Gives Try.prog 9 [v1] w fun u w1 => ∃ (R1 : Nat → Prop), u = .bool r ∧ Sep F R R1 w w1 [] := by
  refine fn_of Try.func9 rfl Try.ntmps9 (Nat.le_of_ble_eq_true rfl) ?_
  unfold law32_OrphanLattice at h
  refine e_seq fun K148 hK148 => ?_
  refine e_region_text rfl ?_
  refine q_assign rfl rfl ?_
  refine eseq_nil ?_
  refine hK148 _ _ ?_
  refine e_seq fun K149 hK149 => ?_
  refine e_seq fun K150 hK150 => ?_
  refine e_region_text rfl ?_
  obtain ⟨r152, hr152, h⟩ := Option.of_bind h
  refine q_call rfl (law32_awake_w (Sep.enter (As := []) hS)  hr152) rfl ?_
  rintro _ w151 ⟨R151, rfl, hC151⟩
  have hB151 : Below (World.heap w).size w w151 := hC151.stepB0
  refine ⟨fun _ => .of_below hB151, ?_⟩
  replace f1 := (f1.ext hB151).mono fun k hk _ => hC151.ro0 k hk
  replace hS := Sep.leave (As := []) hS hC151; simp only [List.cons_append, List.nil_append] at hS
  refine q_not rfl rfl ?_
  refine eseq_nil ?_
  refine hK150 _ _ ?_
  refine e_cond rfl (fun hc153 => ?_) (fun hc153 => ?_)
  · replace h := (if_pos hc153).symm.trans h
    refine e_seq fun K154 hK154 => ?_
    refine e_region_text rfl ?_
    refine q_assign rfl rfl ?_
    refine eseq_nil ?_
    refine hK154 _ _ ?_
    refine e_ret ?_
    obtain rfl := Option.some.inj h
    exact ⟨_, res1 rfl rfl, _, rfl, hS⟩
  · replace h := (if_neg (not_true hc153)).symm.trans h
    refine e_skip ?_
    refine hK149 _ _ ?_
    refine e_seq fun K155 hK155 => ?_
    refine e_region_text rfl ?_
    refine q_move rfl rfl ?_
    obtain ⟨r157, hr157, h⟩ := Option.of_bind h
    refine q_call rfl (make_New_w (Sep.enter (As := []) hS) f1 hr157) rfl ?_
    rintro _ w156 ⟨B158, v159, R156, rfl, hC156, f159⟩
    have hB156 : Below (World.heap w151).size w151 w156 := hC156.stepB0
    refine ⟨fun _ => .of_below hB156, ?_⟩
    replace f1 := (f1.ext hB156).mono fun k hk _ => hC156.ro0 k hk
    replace hS := Sep.leave (As := []) hS hC156; simp only [List.cons_append, List.nil_append] at hS
    refine q_assign rfl rfl ?_
    refine eseq_nil ?_
    refine hK155 _ _ ?_
    refine e_seq fun K160 hK160 => ?_
    refine e_region_text rfl ?_
    refine q_move rfl rfl ?_
    obtain ⟨r162, hr162, h⟩ := Option.of_bind h
    refine q_call rfl (make_Codes_Lineages_w (Sep.enter (As := [_]) hS) f159 hr162) rfl ?_
    rintro _ w161 ⟨v163, v164, v165, v166, v167, R161, rfl, hC161, f165, f166⟩
    refine ⟨(fun h => by cases h), ?_⟩
    have hk161 := hC161.keptR (Sep.offFeet (As := [_]) hS)
    replace f159 := (f159.kept hk161).mono fun k hk _ => hC161.ro0 k hk
    replace hS := Sep.leave (As := [_]) hS hC161; simp only [List.cons_append, List.nil_append] at hS
    refine q_move rfl rfl ?_
    refine q_extract rfl rfl rfl ?_
    refine q_extract rfl rfl rfl ?_
    refine q_allocB rfl fun w168 bl168 hg168 hb168 hB168 => ?_
    replace f159 := f159.ext hB168
    replace f165 := f165.ext hB168
    replace f166 := f166.ext hB168
    replace hS := hS.newBlk hB168 hg168 hb168
    refine q_assign rfl rfl ?_
    refine q_storeAgg rfl rfl (hS.blk 0 rfl) rfl (Nat.le_of_ble_eq_true rfl) (all_cons f165.one (all_cons f166.one (all_cons (hS.own 4 rfl).one (all_nil)))) rfl rfl fun w170 hb170 hO170 => ?_
    simp only [setN, List.set, List.take, List.drop] at hb170
    have hk170 := hS.keptBlk 0 rfl hO170
    replace f159 := f159.kept hk170
    replace f165 := f165.kept hk170
    replace f166 := f166.kept hk170
    replace hS := hS.setBlk 0 rfl hb170 hO170; simp only [List.set] at hS
    refine eseq_nil ?_
    refine hK160 _ _ ?_
    refine e_seq fun K171 hK171 => ?_
    refine e_region_draw mixed (fun k => k = B158) [0, 0, 0, 6, 15, 0, 0, 0, 223, 511, 1023, 2047] [3, 4] [0, 1, 2, 5, 6, 7, 3, 4, 8, 9, 10, 11] (by kernel_rfl) ?_
    refine q_move rfl rfl ?_
    refine q_move rfl rfl ?_
    refine q_loadAgg rfl (Blk.cellsAt (hS.blk 0 rfl) 0 3 rfl) rfl rfl ?_ (hX := fun hx_ => hS.apart 0 1 rfl rfl (by decide) _ rfl hx_)
    refine q_move rfl rfl ?_
    refine q_move rfl rfl ?_
    refine q_loadAgg rfl (Blk.cellsAt (hS.blk 0 rfl) 0 3 rfl) rfl rfl ?_ (hX := fun hx_ => hS.apart 0 1 rfl rfl (by decide) _ rfl hx_)
    obtain ⟨R186, hS, hm186, f186⟩ := hS.freezeOwn 4 rfl; simp only [List.eraseIdx] at hS
    replace f159 := f159.mono fun k hk _ => hm186 k hk
    replace f165 := f165.mono fun k hk _ => hm186 k hk
    replace f166 := f166.mono fun k hk _ => hm186 k hk
    obtain ⟨r187, hr187, h⟩ := Option.of_bind h
    replace hS := hS.pickB [1, 0, 2, 3] 4 rfl rfl; simp only [List.map_cons, List.map_nil, List.getD_cons_zero, List.getD_cons_succ] at hS
    refine q_call rfl (make_Codes_Cut_w (a1 := (⟨r162.2.1.lens, r162.2.1.ckpts, r162.2.1.arcs⟩ : Pat)) (Sep.enter (As := [_]) hS) f165 f166 f186 f159 hr187) rfl ?_
    rintro v188 w185 ⟨_, R185, rfl, hC185⟩
    refine ⟨fun _ => hC185.relX1, ?_⟩
    have hk185 := hC185.keptR (Sep.offFeet (As := [_]) hS)
    replace f159 := (f159.kept hk185).mono fun k hk _ => hC185.ro0 k hk
    replace f165 := (f165.kept hk185).mono fun k hk _ => hC185.ro0 k hk
    replace f166 := (f166.kept hk185).mono fun k hk _ => hC185.ro0 k hk
    replace f186 := (f186.kept hk185).mono fun k hk _ => hC185.ro0 k hk
    replace hS := Sep.leave (As := [_]) hS hC185; simp only [List.cons_append, List.nil_append] at hS
    obtain ⟨r190, hr190, h⟩ := Option.of_bind h
    refine q_call rfl (orphan_Lower_w (Sep.all w185) ((hS.rowsI 3 4 rfl rfl (by decide))).old ((hS.isl 1 rfl)).old hr190) rfl ?_
    rintro v191 w189 ⟨_, R189, rfl, hC189⟩
    have hB189 : Below (World.heap w185).size w185 w189 := hC189.stepBF
    refine ⟨fun _ => .of_below hB189, ?_⟩
    replace f159 := f159.ext hB189
    replace f165 := f165.ext hB189
    replace f166 := f166.ext hB189
    replace f186 := f186.ext hB189
    replace hS := hS.newOwnS hB189 (hC189.own 0 rfl) (hC189.fresh 0 rfl) (fun _ h => h.elim)
    obtain ⟨r193, hr193, h⟩ := Option.of_bind h
    replace hS := hS.pickB [1, 0, 2, 3, 4, 5] 6 rfl rfl; simp only [List.map_cons, List.map_nil, List.getD_cons_zero, List.getD_cons_succ] at hS
    refine q_call rfl (make_Codes_Cut_w (a1 := (⟨r162.2.1.lens, r162.2.1.ckpts, r162.2.1.arcs⟩ : Pat)) (Sep.enter (As := [_]) hS) f165 f166 f186 f159 hr193) rfl ?_
    rintro v194 w192 ⟨_, R192, rfl, hC192⟩
    refine ⟨(fun h => by cases h), ?_⟩
    have hk192 := hC192.keptR (Sep.offFeet (As := [_]) hS)
    replace f159 := (f159.kept hk192).mono fun k hk _ => hC192.ro0 k hk
    replace f165 := (f165.kept hk192).mono fun k hk _ => hC192.ro0 k hk
    replace f166 := (f166.kept hk192).mono fun k hk _ => hC192.ro0 k hk
    replace f186 := (f186.kept hk192).mono fun k hk _ => hC192.ro0 k hk
    replace hS := Sep.leave (As := [_]) hS hC192; simp only [List.cons_append, List.nil_append] at hS
    obtain ⟨r196, hr196, h⟩ := Option.of_bind h
    refine q_call rfl (orphan_Lower_w (Sep.all w192) ((hS.rowsI 5 6 rfl rfl (by decide))).old ((hS.isl 1 rfl)).old hr196) rfl ?_
    rintro v197 w195 ⟨_, R195, rfl, hC195⟩
    have hB195 : Below (World.heap w192).size w192 w195 := hC195.stepBF
    refine ⟨fun _ => .of_below hB195, ?_⟩
    replace f159 := f159.ext hB195
    replace f165 := f165.ext hB195
    replace f166 := f166.ext hB195
    replace f186 := f186.ext hB195
    replace hS := hS.newOwnS hB195 (hC195.own 0 rfl) (hC195.fresh 0 rfl) (fun _ h => h.elim)
    refine q_assign rfl rfl ?_
    refine q_assign rfl rfl ?_
    refine eseq_nil ?_
    refine hK171 _ _ ?_
    refine e_seq fun K198 hK198 => ?_
    refine e_region_text rfl ?_
    refine q_move rfl rfl ?_
    refine q_loadAgg rfl (Blk.cellsAt (hS.blk 5 rfl) 0 3 rfl) rfl rfl ?_
    obtain ⟨r200, hr200, h⟩ := Option.of_bind h
    replace hS := hS.pickB [1, 0, 2, 3, 4, 5, 6, 7] 8 rfl rfl; simp only [List.map_cons, List.map_nil, List.getD_cons_zero, List.getD_cons_succ] at hS
    refine q_call rfl (make_Codes_Cut_w (a1 := (⟨r162.2.1.lens, r162.2.1.ckpts, r162.2.1.arcs⟩ : Pat)) (Sep.enter (As := [_]) hS) f165 f166 f186 f159 hr200) rfl ?_
    rintro v201 w199 ⟨_, R199, rfl, hC199⟩
    refine ⟨(fun h => by cases h), ?_⟩
    have hk199 := hC199.keptR (Sep.offFeet (As := [_]) hS)
    replace f165 := (f165.kept hk199).mono fun k hk _ => hC199.ro0 k hk
    replace f166 := (f166.kept hk199).mono fun k hk _ => hC199.ro0 k hk
    replace f186 := (f186.kept hk199).mono fun k hk _ => hC199.ro0 k hk
    replace f159 := (f159.kept hk199).mono fun k hk _ => hC199.ro0 k hk
    replace hS := Sep.leave (As := [_]) hS hC199; simp only [List.cons_append, List.nil_append] at hS
    refine q_assign rfl rfl ?_
    refine eseq_nil ?_
    refine hK198 _ _ ?_
    refine e_seq fun K202 hK202 => ?_
    refine e_region_text rfl ?_
    refine q_move rfl rfl ?_
    refine q_field rfl rfl ?_
    refine q_load rfl (Blk.cell (hS.blk 6 rfl) rfl) rfl ?_
    replace hS := hS.pickB [7, 8, 0, 1, 2, 3, 4, 5, 6] 9 rfl rfl; simp only [List.map_cons, List.map_nil, List.getD_cons_zero, List.getD_cons_succ] at hS
    obtain ⟨R204, hS, hm204⟩ := hS.rowsFreeze
    replace f166 := f166.mono fun k hk _ => hm204 k hk
    obtain ⟨R206, hS, hm206, f206⟩ := hS.freezeOwn 0 rfl; simp only [List.eraseIdx] at hS
    replace f166 := f166.mono fun k hk _ => hm206 k hk
    obtain ⟨r207, hr207, h⟩ := Option.of_bind h
    refine q_call rfl (orphan_Pattern_w (Sep.enter (As := []) hS) f206 f166 hr207) rfl ?_
    rintro _ w203 ⟨v208, v209, v210, R203, rfl, hC203, f209⟩
    have hB203 : Below (World.heap w199).size w199 w203 := hC203.stepB0
    refine ⟨fun _ => .of_below hB203, ?_⟩
    replace f206 := (f206.ext hB203).mono fun k hk _ => hC203.ro0 k hk
    replace f166 := (f166.ext hB203).mono fun k hk _ => hC203.ro0 k hk
    replace hS := Sep.leave (As := []) hS hC203; simp only [List.cons_append, List.nil_append] at hS
    refine q_move rfl rfl ?_
    refine q_extract rfl rfl rfl ?_
    refine q_extract rfl rfl rfl ?_
    refine q_allocB rfl fun w211 bl211 hg211 hb211 hB211 => ?_
    replace f206 := f206.ext hB211
    replace f209 := f209.ext hB211
    replace hS := hS.newBlk hB211 hg211 hb211
    refine q_storeAgg rfl rfl (hS.blk 0 rfl) rfl (Nat.le_of_ble_eq_true rfl) (all_cons (hS.own 1 rfl).one (all_cons f209.one (all_cons (hS.own 2 rfl).one (all_nil)))) rfl rfl fun w213 hb213 hO213 => ?_
    simp only [setN, List.set, List.take, List.drop] at hb213
    have hk213 := hS.keptBlk 0 rfl hO213
    replace f206 := f206.kept hk213
    replace f209 := f209.kept hk213
    replace hS := hS.setBlk 0 rfl hb213 hO213; simp only [List.set] at hS
    refine q_assign rfl rfl ?_
    refine eseq_nil ?_
    refine hK202 _ _ ?_
    refine e_seq fun K214 hK214 => ?_
    refine e_seq fun K215 hK215 => ?_
    refine e_region_text rfl ?_
    refine q_move rfl rfl ?_
    refine q_not rfl rfl ?_
    refine q_move rfl rfl ?_
    obtain ⟨x221, hx220, h⟩ := Option.of_bind h
    refine g_orM 3 hx220 rfl trivial rfl rfl ?_ ?_ ?_
    · intro hg220
      refine g_skip rfl rfl rfl ?_
      refine g_skip rfl rfl rfl ?_
      refine g_skip rfl rfl rfl ?_
      exact eseq_nil ⟨rfl, Sub.set rfl (Sub.set rfl (Sub.set rfl (Sub.bool true rfl hg220)))⟩
    · intro hg220 hx220
      clear h
      have hT220 := Below.refl (World.heap w213).size w213
      refine g_run rfl ?_; refine q_loadAgg rfl (Blk.cellsAt (hS.blk 0 rfl) 0 3 rfl) rfl rfl ?_
      obtain ⟨r223, hr223, hx220⟩ := Option.of_bind hx220
      refine g_run rfl ?_; refine q_call rfl (pattern_Check_w (a0 := (⟨r207.1.lens, r207.1.ckpts, r207.1.arcs⟩ : Pat)) (Sep.all w213) ((hS.isl 1 rfl)).old (f209).old ((hS.isl 2 rfl)).old hr223) rfl ?_
      rintro _ w222 ⟨R222, rfl, hC222⟩
      have hB222 : Below (World.heap w213).size w213 w222 := hC222.stepBF
      refine ⟨fun _ => .of_below hB222, ?_⟩
      replace f206 := f206.ext hB222
      replace f209 := f209.ext hB222
      replace hT220 := hT220.trans (Below.mono hB222 hT220.size)
      replace hS := hS.below hB222
      refine g_run rfl ?_; refine q_neq rfl rfl rfl ?_
      cases hx220
      exact eseq_nil ⟨hT220, Sub.set rfl (Sub.set rfl (Sub.set rfl (Sub.bool false rfl hg220))), rfl⟩
    intro wm220 hBm220; clear hx220
    replace hS := hS.below hBm220
    replace f206 := f206.ext hBm220
    replace f209 := f209.ext hBm220
    refine q_move rfl rfl ?_
    obtain ⟨x232, hx231, h⟩ := Option.of_bind h
    refine g_orM 6 hx231 rfl trivial rfl rfl ?_ ?_ ?_
    · intro hg231
      refine g_skip rfl rfl rfl ?_
      refine g_skip rfl rfl rfl ?_
      refine g_skip rfl rfl rfl ?_
      refine g_skip rfl rfl rfl ?_
      refine g_skip rfl rfl rfl ?_
      refine g_skip rfl rfl rfl ?_
      exact eseq_nil ⟨rfl, Sub.set rfl (Sub.set rfl (Sub.set rfl (Sub.set rfl (Sub.set rfl (Sub.set rfl (Sub.bool true rfl hg231))))))⟩
    · intro hg231 hx231
      clear h
      have hT231 := Below.refl (World.heap wm220).size wm220
      refine g_run rfl ?_; refine q_move rfl rfl ?_
      refine g_run rfl ?_; refine q_move rfl rfl ?_
      refine g_run rfl ?_; refine q_move rfl rfl ?_
      obtain ⟨r234, hr234, hx231⟩ := Option.of_bind hx231
      refine g_run rfl ?_; refine q_call rfl (cut_Meet_w (Sep.all wm220) ((hS.isl 7 rfl)).old ((hS.isl 5 rfl)).old hr234) rfl ?_
      rintro v235 w233 ⟨_, R233, rfl, hC233⟩
      have hB233 : Below (World.heap wm220).size wm220 w233 := hC233.stepBF
      refine ⟨fun _ => .of_below hB233, ?_⟩
      replace f206 := f206.ext hB233
      replace f209 := f209.ext hB233
      replace hT231 := hT231.trans (Below.mono hB233 hT231.size)
      replace hS := hS.newOwnS hB233 (hC233.own 0 rfl) (hC233.fresh 0 rfl) (fun _ h => h.elim)
      obtain ⟨r237, hr237, hx231⟩ := Option.of_bind hx231
      refine g_run rfl ?_; refine q_call rfl (orphan_Consistent_w (Sep.all w233) (f206).old ((hS.isl 0 rfl)).old hr237) rfl ?_
      rintro _ w236 ⟨R236, rfl, hC236⟩
      have hB236 : Below (World.heap w233).size w233 w236 := hC236.stepBF
      refine ⟨fun _ => .of_below hB236, ?_⟩
      replace f206 := f206.ext hB236
      replace f209 := f209.ext hB236
      replace hT231 := hT231.trans (Below.mono hB236 hT231.size)
      replace hS := hS.below hB236
      refine g_run rfl ?_; refine q_not rfl rfl ?_
      cases hx231
      exact eseq_nil ⟨hT231, Sub.set rfl (Sub.set rfl (Sub.set rfl (Sub.set rfl (Sub.set rfl (Sub.set rfl (Sub.bool false rfl hg231)))))), rfl⟩
    intro wm231 hBm231; clear hx231
    replace hS := hS.below hBm231
    replace f206 := f206.ext hBm231
    replace f209 := f209.ext hBm231
    refine q_move rfl rfl ?_
    obtain ⟨x246, hx245, h⟩ := Option.of_bind h
    refine g_orM 6 hx245 rfl trivial rfl rfl ?_ ?_ ?_
    · intro hg245
      refine g_skip rfl rfl rfl ?_
      refine g_skip rfl rfl rfl ?_
      refine g_skip rfl rfl rfl ?_
      refine g_skip rfl rfl rfl ?_
      refine g_skip rfl rfl rfl ?_
      refine g_skip rfl rfl rfl ?_
      exact eseq_nil ⟨rfl, Sub.set rfl (Sub.set rfl (Sub.set rfl (Sub.set rfl (Sub.set rfl (Sub.set rfl (Sub.bool true rfl hg245))))))⟩
    · intro hg245 hx245
      clear h
      have hT245 := Below.refl (World.heap wm231).size wm231
      refine g_run rfl ?_; refine q_move rfl rfl ?_
      refine g_run rfl ?_; refine q_move rfl rfl ?_
      refine g_run rfl ?_; refine q_move rfl rfl ?_
      obtain ⟨r248, hr248, hx245⟩ := Option.of_bind hx245
      refine g_run rfl ?_; refine q_call rfl (cut_Join_w (Sep.all wm231) ((hS.isl 7 rfl)).old ((hS.isl 5 rfl)).old hr248) rfl ?_
      rintro v249 w247 ⟨_, R247, rfl, hC247⟩
      have hB247 : Below (World.heap wm231).size wm231 w247 := hC247.stepBF
      refine ⟨fun _ => .of_below hB247, ?_⟩
      replace f206 := f206.ext hB247
      replace f209 := f209.ext hB247
      replace hT245 := hT245.trans (Below.mono hB247 hT245.size)
      replace hS := hS.newOwnS hB247 (hC247.own 0 rfl) (hC247.fresh 0 rfl) (fun _ h => h.elim)
      obtain ⟨r251, hr251, hx245⟩ := Option.of_bind hx245
      refine g_run rfl ?_; refine q_call rfl (orphan_Consistent_w (Sep.all w247) (f206).old ((hS.isl 0 rfl)).old hr251) rfl ?_
      rintro _ w250 ⟨R250, rfl, hC250⟩
      have hB250 : Below (World.heap w247).size w247 w250 := hC250.stepBF
      refine ⟨fun _ => .of_below hB250, ?_⟩
      replace f206 := f206.ext hB250
      replace f209 := f209.ext hB250
      replace hT245 := hT245.trans (Below.mono hB250 hT245.size)
      replace hS := hS.below hB250
      refine g_run rfl ?_; refine q_not rfl rfl ?_
      cases hx245
      exact eseq_nil ⟨hT245, Sub.set rfl (Sub.set rfl (Sub.set rfl (Sub.set rfl (Sub.set rfl (Sub.set rfl (Sub.bool false rfl hg245)))))), rfl⟩
    intro wm245 hBm245; clear hx245
    replace hS := hS.below hBm245
    replace f206 := f206.ext hBm245
    replace f209 := f209.ext hBm245
    refine eseq_nil ?_
    refine hK215 _ _ ?_
    refine e_cond rfl (fun hc252 => ?_) (fun hc252 => ?_)
    · replace h := (if_pos hc252).symm.trans h
      refine e_seq fun K253 hK253 => ?_
      refine e_region_text rfl ?_
      refine q_assign rfl rfl ?_
      refine eseq_nil ?_
      refine hK253 _ _ ?_
      refine e_ret ?_
      obtain rfl := Option.some.inj h
      exact ⟨_, res1 rfl rfl, _, rfl, (hS.pickB [] 10 rfl rfl)⟩
    · replace h := (if_neg (not_true hc252)).symm.trans h
      refine e_skip ?_
      refine hK214 _ _ ?_
      refine e_seq fun K254 hK254 => ?_
      refine e_region_draw mixed (fun _ => False) [0, 0, 3, 0, 0, 31, 63, 127, 255, 255, 1023, 255, 255, 8191, 16383, 32767, 65535] [2, 10] [0, 1, 3, 4, 2, 5, 6, 7, 8, 9, 11, 12, 10, 13, 14, 15, 16] (by kernel_rfl) ?_
      refine q_move rfl rfl ?_
      refine q_move rfl rfl ?_
      refine q_loadAgg rfl (Blk.cellsAt (hS.blk 0 rfl) 0 3 rfl) rfl rfl ?_
      refine q_move rfl rfl ?_
      obtain ⟨r270, hr270, h⟩ := Option.of_bind h
      refine q_call rfl (orphan_Consistent_w (Sep.all wm245) (f206).old ((hS.isl 4 rfl)).old hr270) rfl ?_
      rintro _ w269 ⟨R269, rfl, hC269⟩
      have hB269 : Below (World.heap wm245).size wm245 w269 := hC269.stepBF
      refine ⟨fun _ => .of_below hB269, ?_⟩
      replace f206 := f206.ext hB269
      replace f209 := f209.ext hB269
      replace hS := hS.below hB269
      obtain ⟨r272, hr272, h⟩ := Option.of_bind h
      refine q_call rfl (cut_Consistent_w (a0 := (⟨r207.1.lens, r207.1.ckpts, r207.1.arcs⟩ : Pat)) (Sep.all w269) ((hS.isl 1 rfl)).old (f209).old ((hS.isl 2 rfl)).old ((hS.isl 4 rfl)).old hr272) rfl ?_
      rintro _ w271 ⟨R271, rfl, hC271⟩
      have hB271 : Below (World.heap w269).size w269 w271 := hC271.stepBF
      refine ⟨fun _ => .of_below hB271, ?_⟩
      replace f206 := f206.ext hB271
      replace f209 := f209.ext hB271
      replace hS := hS.below hB271
      refine q_eqlB rfl rfl rfl ?_
      refine q_move rfl rfl ?_
      obtain ⟨x284, hx283, h⟩ := Option.of_bind h
      refine g_andM 7 hx283 rfl trivial rfl rfl ?_ ?_ ?_
      · intro hg283 hx283
        clear h
        have hT283 := Below.refl (World.heap w271).size w271
        refine g_run rfl ?_; refine q_move rfl rfl ?_
        refine g_run rfl ?_; refine q_move rfl rfl ?_
        refine g_run rfl ?_; refine q_loadAgg rfl (Blk.cellsAt (hS.blk 0 rfl) 0 3 rfl) rfl rfl ?_
        refine g_run rfl ?_; refine q_move rfl rfl ?_
        obtain ⟨r286, hr286, hx283⟩ := Option.of_bind hx283
        refine g_run rfl ?_; refine q_call rfl (orphan_Lower_w (Sep.all w271) (f206).old ((hS.isl 4 rfl)).old hr286) rfl ?_
        rintro v287 w285 ⟨_, R285, rfl, hC285⟩
        have hB285 : Below (World.heap w271).size w271 w285 := hC285.stepBF
        refine ⟨fun _ => .of_below hB285, ?_⟩
        replace f206 := f206.ext hB285
        replace f209 := f209.ext hB285
        replace hT283 := hT283.trans (Below.mono hB285 hT283.size)
        replace hS := hS.newOwnS hB285 (hC285.own 0 rfl) (hC285.fresh 0 rfl) (fun _ h => h.elim)
        obtain ⟨r289, hr289, hx283⟩ := Option.of_bind hx283
        refine g_run rfl ?_; refine q_call rfl (cut_Lower_w (a0 := (⟨r207.1.lens, r207.1.ckpts, r207.1.arcs⟩ : Pat)) (Sep.all w285) ((hS.isl 2 rfl)).old (f209).old ((hS.isl 3 rfl)).old ((hS.isl 5 rfl)).old hr289) rfl ?_
        rintro v290 w288 ⟨_, R288, rfl, hC288⟩
        have hB288 : Below (World.heap w285).size w285 w288 := hC288.stepBF
        refine ⟨fun _ => .of_below hB288, ?_⟩
        replace f209 := f209.ext hB288
        replace hT283 := hT283.trans (Below.mono hB288 hT283.size)
        replace hS := hS.newOwnS hB288 (hC288.own 0 rfl) (hC288.fresh 0 rfl) (fun _ h => h.elim)
        obtain ⟨r292, hr292, hx283⟩ := Option.of_bind hx283
        refine g_run rfl ?_; refine q_call rfl (ref23_SameInts_w (Sep.all w288) ((hS.isl 1 rfl)).old ((hS.isl 0 rfl)).old hr292) rfl ?_
        rintro _ w291 ⟨R291, rfl, hC291⟩
        have hB291 : Below (World.heap w288).size w288 w291 := hC291.stepBF
        refine ⟨fun _ => .of_below hB291, ?_⟩
        replace hT283 := hT283.trans (Below.mono hB291 hT283.size)
        replace hS := hS.below hB291
        cases hx283
        exact eseq_nil ⟨hT283, Sub.set rfl (Sub.set rfl (Sub.set rfl (Sub.set rfl (Sub.set rfl (Sub.set rfl (Sub.set rfl (Sub.bool true rfl hg283))))))), rfl⟩
      · intro hg283
        refine g_skip rfl rfl rfl ?_
        refine g_skip rfl rfl rfl ?_
        refine g_skip rfl rfl rfl ?_
        refine g_skip rfl rfl rfl ?_
        refine g_skip rfl rfl rfl ?_
        refine g_skip rfl rfl rfl ?_
        refine g_skip rfl rfl rfl ?_
        exact eseq_nil ⟨rfl, Sub.set rfl (Sub.set rfl (Sub.set rfl (Sub.set rfl (Sub.set rfl (Sub.set rfl (Sub.set rfl (Sub.bool false rfl hg283)))))))⟩
      intro wm283 hBm283; clear hx283
      replace hS := hS.below hBm283
      refine q_assign rfl rfl ?_
      refine eseq_nil ?_
      refine hK254 _ _ ?_
      refine e_ret ?_
      obtain rfl := Option.some.inj h
      exact ⟨_, res1 rfl rfl, _, rfl, (hS.pickB [] 10 rfl rfl)⟩
end Go.Proofs.Ytghjjkdfjmnfeaa
