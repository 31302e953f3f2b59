/- Printed walks: A31u. -/
import Derived.Test.YtddohdppmejjoaaAmk
set_option linter.unusedVariables false
set_option linter.unusedSimpArgs false
namespace Go.Mine
open Go.RowKit
def make_Codes_Int (fuel : Nat) (c0_0 : (List Int)) (c0_1 : Int) : Option (Int × Int) :=
  (make_Codes_Next fuel 6 c0_0 c0_1).bind fun r27 => (if (r27.1 == 5) = true then (make_Codes_Next fuel (([9223372036854775807, (-9223372036854775808), 2147483648, (-1), 63, 64, (-65), 127, 128, 1099511627776]).length : Int) c0_0 r27.2).bind fun r31 => (ati ([9223372036854775807, (-9223372036854775808), 2147483648, (-1), 63, 64, (-65), 127, 128, 1099511627776]) r31.1).bind fun x32 => some (x32, r31.2) else (make_Codes_Next fuel 12 c0_0 r27.2).bind fun r36 => some (w64 (r36.1 - 2), r36.2))
def incarnation_Undone_K1 (fuel : Nat) : Option (Bool) :=
  some false
def incarnation_Undone_B1 (fuel : Nat) (a0 : (List EndI)) (a1 : Int) (a2 : Lab) (x131 : Int) : Option ((Int) ⊕ (Unit ⊕ (Bool))) :=
  (if (decide (x131 < (a0.length : Int))) = true then (ati a0 x131).bind fun x166 => (andM (x166.proc == a1) (some (decide (a2.inc ≤ x166.inc)))).bind fun x176 => (andM x176 (some (decide (x166.index < a2.index)))).bind fun x180 => (if x180 = true then some (Sum.inr (Sum.inr true)) else some (Sum.inl (w64 (x131 + 1)))) else some (Sum.inr (Sum.inl ())))
def incarnation_Undone (fuel : Nat) (a0 : (List EndI)) (a1 : Int) (a2 : Lab) : Option (Bool) :=
  (iter (fun s => incarnation_Undone_B1 fuel a0 a1 a2 s) fuel 0).bind (fun t => Sum.elim (fun t => incarnation_Undone_K1 fuel) (fun t => some t) t)
def ref31_Undone_K1 (fuel : Nat) : Option (Bool) :=
  some false
def ref31_Undone_B1 (fuel : Nat) (a0 : (List EndI)) (a1 : Int) (a2 : Lab) (x163 : Int) : Option ((Int) ⊕ (Unit ⊕ (Bool))) :=
  (if (decide (x163 < (a0.length : Int))) = true then (ati a0 x163).bind fun x206 => (andM (x206.proc == a1) ((ati a0 x163).bind fun x216 => some (decide (a2.inc ≤ x216.inc)))).bind fun x215 => (andM x215 ((ati a0 x163).bind fun x226 => some (decide (x226.index < a2.index)))).bind fun x225 => (if x225 = true then some (Sum.inr (Sum.inr true)) else some (Sum.inl (w64 (x163 + 1)))) else some (Sum.inr (Sum.inl ())))
def ref31_Undone (fuel : Nat) (a0 : (List EndI)) (a1 : Int) (a2 : Lab) : Option (Bool) :=
  (iter (fun s => ref31_Undone_B1 fuel a0 a1 a2 s) fuel 0).bind (fun t => Sum.elim (fun t => ref31_Undone_K1 fuel) (fun t => some t) t)
end Go.Mine
namespace Go.Proofs.Ytddohdppmejjoaa
open Go.RowKit Go.Mine
attribute [local irreducible] eseq ewp iter
theorem make_Codes_Int_w {F R : Nat → Prop} {w : World} {fuel : Nat} {c0_0 : (List Int)} {c0_1 : Int} {B0 : Nat} {v2 : Value} {r : (Int × Int)} (hS : Sep F R R w w [HP.blk B0 [v2, .int .i64 c0_1] 80]) (f2 : IsSlice Ty.u8 w R v2 c0_0) (h : make_Codes_Int fuel c0_0 c0_1 = some r) :
    Gives Try.prog 44 [.pointer (some ⟨B0, 0, none⟩)] w fun u w1 => ∃ (R1 : Nat → Prop), u = .int .i64 r.1 ∧ Sep F R R1 w w1 [HP.blk B0 [v2, .int .i64 r.2] 80] := by
  refine fn_of Try.func44 rfl Try.ntmps44 (Nat.le_of_ble_eq_true rfl) ?_
  unfold make_Codes_Int at h
  refine e_seq fun K20 hK20 => ?_
  refine e_region_text rfl ?_
  refine q_assign rfl rfl ?_
  refine eseq_nil ?_
  refine hK20 _ _ ?_
  refine e_seq fun K21 hK21 => ?_
  refine e_region_text rfl ?_
  refine q_litO (T := Ty.int) (S := (fun _ => False)) (cells := [[.int .i64 9223372036854775807], [.int .i64 (-9223372036854775808)], [.int .i64 2147483648], [.int .i64 (-1)], [.int .i64 63], [.int .i64 64], [.int .i64 (-65)], [.int .i64 127], [.int .i64 128], [.int .i64 1099511627776]]) (ys := [9223372036854775807, (-9223372036854775808), 2147483648, (-1), 63, 64, (-65), 127, 128, 1099511627776]) ((Parts.cons rfl rfl (Parts.cons rfl rfl (Parts.cons rfl rfl (Parts.cons rfl rfl (Parts.cons rfl rfl (Parts.cons rfl rfl (Parts.cons rfl rfl (Parts.cons rfl rfl (Parts.cons rfl rfl (Parts.cons rfl rfl Parts.nil))))))))))) rfl rfl rfl rfl rfl rfl rfl (fun w1 hB => ⟨rfl, rfl, rfl, rfl, rfl, rfl, rfl, rfl, rfl, rfl, trivial⟩) (fun _ h => h.elim) rfl fun w22 v22 ho22 hv22 hB22 => ?_
  replace f2 := f2.ext hB22
  replace hS := hS.newOwnS hB22 ho22 hv22 (fun _ h => h.elim)
  refine q_assign rfl rfl ?_
  refine eseq_nil ?_
  refine hK21 _ _ ?_
  refine e_seq fun K24 hK24 => ?_
  refine e_seq fun K25 hK25 => ?_
  refine e_region_text rfl ?_
  refine q_move rfl rfl ?_
  obtain ⟨r27, hr27, h⟩ := Option.of_bind h
  replace hS := hS.pickB [1, 0] 2 rfl rfl; simp only [List.map_cons, List.map_nil, List.getD_cons_zero, List.getD_cons_succ] at hS
  refine q_call rfl (make_Codes_Next_w (Sep.enter (As := [_]) hS) f2 hr27) rfl ?_
  rintro _ w26 ⟨R26, rfl, hC26⟩
  refine ⟨(fun h => by cases h), ?_⟩
  have hk26 := hC26.keptR (Sep.offFeet (As := [_]) hS)
  replace f2 := (f2.kept hk26).mono fun k hk _ => hC26.ro0 k hk
  replace hS := Sep.leave (As := [_]) hS hC26; simp only [List.cons_append, List.nil_append] at hS
  refine q_eql rfl rfl rfl ?_
  refine eseq_nil ?_
  refine hK25 _ _ ?_
  refine e_cond rfl (fun hc28 => ?_) (fun hc28 => ?_)
  · replace h := (if_pos hc28).symm.trans h
    refine e_seq fun K29 hK29 => ?_
    refine e_region_text rfl ?_
    refine q_move rfl rfl ?_
    refine q_move rfl rfl ?_
    refine q_move rfl rfl ?_
    refine q_lenS rfl (hS.isl 1 rfl) rfl ?_
    obtain ⟨r31, hr31, h⟩ := Option.of_bind h
    refine q_call rfl (make_Codes_Next_w (Sep.enter (As := [_]) hS) f2 hr31) rfl ?_
    rintro _ w30 ⟨R30, rfl, hC30⟩
    refine ⟨(fun h => by cases h), ?_⟩
    have hk30 := hC30.keptR (Sep.offFeet (As := [_]) hS)
    replace f2 := (f2.kept hk30).mono fun k hk _ => hC30.ro0 k hk
    replace hS := Sep.leave (As := [_]) hS hC30; simp only [List.cons_append, List.nil_append] at hS
    obtain ⟨x32, hx32, h⟩ := Option.of_bind h
    refine q_indexO (by infer_instance) rfl (hS.own 1 rfl) rfl hx32 rfl ?_
    have f33 := (hS.ownR 1 rfl).elt hx32
    refine q_load rfl (Elt.intCell f33) rfl ?_
    refine q_assign rfl rfl ?_
    refine eseq_nil ?_
    refine hK29 _ _ ?_
    refine e_ret ?_
    obtain rfl := Option.some.inj h
    exact ⟨_, res1 rfl rfl, _, rfl, (hS.pickB [0] 2 rfl rfl)⟩
  · replace h := (if_neg (not_true hc28)).symm.trans h
    refine e_skip ?_
    refine hK24 _ _ ?_
    refine e_seq fun K34 hK34 => ?_
    refine e_region_text rfl ?_
    refine q_move rfl rfl ?_
    obtain ⟨r36, hr36, h⟩ := Option.of_bind h
    refine q_call rfl (make_Codes_Next_w (Sep.enter (As := [_]) hS) f2 hr36) rfl ?_
    rintro _ w35 ⟨R35, rfl, hC35⟩
    refine ⟨(fun h => by cases h), ?_⟩
    have hk35 := hC35.keptR (Sep.offFeet (As := [_]) hS)
    replace f2 := (f2.kept hk35).mono fun k hk _ => hC35.ro0 k hk
    replace hS := Sep.leave (As := [_]) hS hC35; simp only [List.cons_append, List.nil_append] at hS
    refine q_subW rfl rfl rfl ?_
    refine q_assign rfl rfl ?_
    refine eseq_nil ?_
    refine hK34 _ _ ?_
    refine e_ret ?_
    obtain rfl := Option.some.inj h
    exact ⟨_, res1 rfl rfl, _, rfl, (hS.pickB [0] 2 rfl rfl)⟩
theorem incarnation_Undone_w {F R : Nat → Prop} {w : World} {fuel : Nat} {a0 : (List EndI)} {a1 : Int} {a2 : Lab} {v1 : Value} {r : (Bool)} (hS : Sep F R R w w []) (f1 : IsSlice endITy w R v1 a0) (h : incarnation_Undone fuel a0 a1 a2 = some r) :
    Gives Try.prog 16 [v1, .int .i64 a1, .agg #[.int .i64 a2.inc, .int .i64 a2.index]] w fun u w1 => ∃ (R1 : Nat → Prop), u = .bool r ∧ Sep F R R1 w w1 [] := by
  refine fn_of Try.func16 rfl Try.ntmps16 (Nat.le_of_ble_eq_true rfl) ?_
  unfold incarnation_Undone at h
  refine e_seq fun K93 hK93 => ?_
  refine e_region_text rfl ?_
  refine q_boxB rfl rfl rfl fun w94 bl94 hg94 hb94 hB94 => ?_
  replace f1 := f1.ext hB94
  replace hS := hS.newBlk hB94 hg94 hb94
  refine q_assign rfl rfl ?_
  refine eseq_nil ?_
  refine hK93 _ _ ?_
  refine e_seq fun K96 hK96 => ?_
  refine e_seq fun K97 hK97 => ?_
  refine e_region_text rfl ?_
  refine q_move rfl rfl ?_
  refine q_lenS rfl f1 rfl ?_
  refine q_move rfl rfl ?_
  refine eseq_nil ?_
  refine hK97 _ _ ?_
  refine e_block ?_
  obtain ⟨tl98, ht98, h⟩ := Option.of_bind h
  have hX98_0 : ∀ (R158 : Nat → Prop) (w159 : World) (E_ : Env), incarnation_Undone_K1 fuel = some r → Sep F R R158 w w159 [] → Sub [] E_ → K96 E_ w159 := by
    intro R158 w159 E_ h hS  hsub
    refine hK96 _ _ (e_sub hsub ?_); clear hsub
    unfold incarnation_Undone_K1 at h
    refine e_seq fun K160 hK160 => ?_
    refine e_region_text rfl ?_
    refine q_assign rfl rfl ?_
    refine eseq_nil ?_
    refine hK160 _ _ ?_
    refine e_ret ?_
    obtain rfl := Option.some.inj h
    exact ⟨_, res1 rfl rfl, _, rfl, hS⟩
  refine e_loop (fun m_ E_ w129 => ∃ (x131 : Int), ∃ (R128 : Nat → Prop), iter (fun s => incarnation_Undone_B1 fuel a0 a1 a2 s) m_ x131 = some tl98 ∧ Sep F R R128 w w129 [HP.blk bl94 [.int .i64 a2.inc, .int .i64 a2.index] 39] ∧ IsSlice endITy w129 R128 v1 a0 ∧ E_ = [(1, .int .i64 a1), (5, .pointer (some ⟨bl94, 0, none⟩)), (9, v1), (10, .int .i64 (a0.length : Int)), (11, .int .i64 x131)]) _ ⟨_, ⟨0, _, ht98, hS, f1, rfl⟩, Sub.cons rfl (Sub.cons rfl (Sub.cons rfl (Sub.cons rfl (Sub.cons rfl (Sub.nil _)))))⟩ ?_
  clear ht98 hS
  rintro m98 _ w129 ⟨x131, R128, ht98, hS, f130, rfl⟩
  obtain ⟨m98, rfl, o98, ho98, ht98⟩ := iter_some ht98
  replace ho98 : incarnation_Undone_B1 fuel a0 a1 a2 x131 = some o98 := ho98
  unfold incarnation_Undone_B1 at ho98
  refine e_seq fun K161 hK161 => ?_
  refine e_region_text rfl ?_
  refine q_lss rfl rfl rfl ?_
  refine eseq_nil ?_
  refine hK161 _ _ ?_
  refine e_seq fun K162 hK162 => ?_
  refine e_cond rfl (fun hc163 => ?_) (fun hc163 => ?_)
  · replace ho98 := (if_pos hc163).symm.trans ho98
    refine e_skip ?_
    refine hK162 _ _ ?_
    refine e_seq fun K164 hK164 => ?_
    refine e_block ?_
    refine e_seq fun K165 hK165 => ?_
    refine e_region_text rfl ?_
    obtain ⟨x166, hx166, ho98⟩ := Option.of_bind ho98
    refine q_atS (by infer_instance) rfl f130 rfl hx166 rfl fun b167 o167 hm167 f167 => ?_
    have hc168 := EndI_open f167
    refine q_loadAgg rfl hc168 rfl rfl ?_
    refine q_allocB rfl fun w169 bl169 hg169 hb169 hB169 => ?_
    replace f130 := f130.ext hB169
    replace hS := hS.newBlk hB169 hg169 hb169
    refine q_storeAgg rfl rfl (hS.blk 0 rfl) rfl (Nat.le_of_ble_eq_true rfl) (all_cons rfl (all_cons rfl (all_cons rfl (all_nil)))) rfl rfl fun w171 hb171 hO171 => ?_
    simp only [setN, List.set, List.take, List.drop] at hb171
    have hk171 := hS.keptBlk 0 rfl hO171
    replace f130 := f130.kept hk171
    replace hS := hS.setBlk 0 rfl hb171 hO171; simp only [List.set] at hS
    refine eseq_nil ?_
    refine hK165 _ _ ?_
    refine e_seq fun K172 hK172 => ?_
    refine e_region_text rfl ?_
    refine q_field rfl rfl ?_
    refine q_load rfl (Blk.cell (hS.blk 0 rfl) rfl) rfl ?_
    refine q_move rfl rfl ?_
    refine q_eql rfl rfl rfl ?_
    refine q_move rfl rfl ?_
    obtain ⟨x176, hx175, ho98⟩ := Option.of_bind ho98
    refine g_andM 5 hx175 rfl trivial rfl rfl ?_ ?_ ?_
    · intro hg175 hx175
      clear ho98
      have hT175 := Below.refl (World.heap w171).size w171
      refine g_run rfl ?_; refine q_field rfl rfl ?_
      refine g_run rfl ?_; refine q_load rfl (Blk.cell (hS.blk 0 rfl) rfl) rfl ?_
      refine g_run rfl ?_; refine q_field rfl rfl ?_
      refine g_run rfl ?_; refine q_load rfl (Blk.cell (hS.blk 1 rfl) rfl) rfl ?_
      refine g_run rfl ?_; refine q_geq rfl rfl rfl ?_
      cases hx175
      exact eseq_nil ⟨hT175, Sub.set rfl (Sub.set rfl (Sub.set rfl (Sub.set rfl (Sub.set rfl (Sub.bool true rfl hg175))))), rfl⟩
    · intro hg175
      refine g_skip rfl rfl rfl ?_
      refine g_skip rfl rfl rfl ?_
      refine g_skip rfl rfl rfl ?_
      refine g_skip rfl rfl rfl ?_
      refine g_skip rfl rfl rfl ?_
      exact eseq_nil ⟨rfl, Sub.set rfl (Sub.set rfl (Sub.set rfl (Sub.set rfl (Sub.set rfl (Sub.bool false rfl hg175)))))⟩
    intro wm175 hBm175; clear hx175
    replace hS := hS.below hBm175
    replace f130 := f130.ext hBm175
    refine q_move rfl rfl ?_
    obtain ⟨x180, hx179, ho98⟩ := Option.of_bind ho98
    refine g_andM 5 hx179 rfl trivial rfl rfl ?_ ?_ ?_
    · intro hg179 hx179
      clear ho98
      have hT179 := Below.refl (World.heap wm175).size wm175
      refine g_run rfl ?_; refine q_field rfl rfl ?_
      refine g_run rfl ?_; refine q_load rfl (Blk.cell (hS.blk 0 rfl) rfl) rfl ?_
      refine g_run rfl ?_; refine q_field rfl rfl ?_
      refine g_run rfl ?_; refine q_load rfl (Blk.cell (hS.blk 1 rfl) rfl) rfl ?_
      refine g_run rfl ?_; refine q_lss rfl rfl rfl ?_
      cases hx179
      exact eseq_nil ⟨hT179, Sub.set rfl (Sub.set rfl (Sub.set rfl (Sub.set rfl (Sub.set rfl (Sub.bool true rfl hg179))))), rfl⟩
    · intro hg179
      refine g_skip rfl rfl rfl ?_
      refine g_skip rfl rfl rfl ?_
      refine g_skip rfl rfl rfl ?_
      refine g_skip rfl rfl rfl ?_
      refine g_skip rfl rfl rfl ?_
      exact eseq_nil ⟨rfl, Sub.set rfl (Sub.set rfl (Sub.set rfl (Sub.set rfl (Sub.set rfl (Sub.bool false rfl hg179)))))⟩
    intro wm179 hBm179; clear hx179
    replace hS := hS.below hBm179
    replace f130 := f130.ext hBm179
    refine eseq_nil ?_
    refine hK172 _ _ ?_
    refine e_cond rfl (fun hc181 => ?_) (fun hc181 => ?_)
    · replace ho98 := (if_pos hc181).symm.trans ho98
      refine e_seq fun K182 hK182 => ?_
      refine e_region_text rfl ?_
      refine q_assign rfl rfl ?_
      refine eseq_nil ?_
      refine hK182 _ _ ?_
      refine e_ret ?_
      obtain rfl := Option.some.inj ho98
      obtain rfl := Option.some.inj ht98
      obtain rfl := Option.some.inj h
      exact ⟨_, res1 rfl rfl, _, rfl, (hS.pickB [] 2 rfl rfl)⟩
    · replace ho98 := (if_neg (not_true hc181)).symm.trans ho98
      refine e_skip ?_
      refine hK164 _ _ ?_
      refine e_region_text rfl ?_
      refine q_addW rfl rfl rfl ?_
      refine q_move rfl rfl ?_
      refine eseq_nil ?_
      obtain rfl := Option.some.inj ho98
      exact ⟨m98, _, Nat.lt_succ_self _, ⟨(w64 (x131 + 1)), _, ht98, (hS.pickB [1] 2 rfl rfl), f130, rfl⟩, Sub.cons rfl (Sub.cons rfl (Sub.cons rfl (Sub.cons rfl (Sub.cons rfl (Sub.nil _)))))⟩
  · replace ho98 := (if_neg (not_true hc163)).symm.trans ho98
    refine e_exit ?_
    obtain rfl := Option.some.inj ho98
    obtain rfl := Option.some.inj ht98
    exact hX98_0  _ _ _ h (hS.pickB [] 1 rfl rfl)  (Sub.nil _)
theorem ref31_Undone_w {F R : Nat → Prop} {w : World} {fuel : Nat} {a0 : (List EndI)} {a1 : Int} {a2 : Lab} {v1 : Value} {r : (Bool)} (hS : Sep F R R w w []) (f1 : IsSlice endITy w R v1 a0) (h : ref31_Undone fuel a0 a1 a2 = some r) :
    Gives Try.prog 49 [v1, .int .i64 a1, .agg #[.int .i64 a2.inc, .int .i64 a2.index]] w fun u w1 => ∃ (R1 : Nat → Prop), u = .bool r ∧ Sep F R R1 w w1 [] := by
  refine fn_of Try.func49 rfl Try.ntmps49 (Nat.le_of_ble_eq_true rfl) ?_
  unfold ref31_Undone at h
  refine e_seq fun K117 hK117 => ?_
  refine e_region_text rfl ?_
  refine q_boxB rfl rfl rfl fun w118 bl118 hg118 hb118 hB118 => ?_
  replace f1 := f1.ext hB118
  replace hS := hS.newBlk hB118 hg118 hb118
  refine q_assign rfl rfl ?_
  refine eseq_nil ?_
  refine hK117 _ _ ?_
  refine e_seq fun K120 hK120 => ?_
  refine e_seq fun K121 hK121 => ?_
  refine e_region_text rfl ?_
  refine q_assign rfl rfl ?_
  refine eseq_nil ?_
  refine hK121 _ _ ?_
  refine e_block ?_
  obtain ⟨tl122, ht122, h⟩ := Option.of_bind h
  have hX122_0 : ∀ (R198 : Nat → Prop) (w199 : World) (E_ : Env), ref31_Undone_K1 fuel = some r → Sep F R R198 w w199 [] → Sub [] E_ → K120 E_ w199 := by
    intro R198 w199 E_ h hS  hsub
    refine hK120 _ _ (e_sub hsub ?_); clear hsub
    unfold ref31_Undone_K1 at h
    refine e_seq fun K200 hK200 => ?_
    refine e_region_text rfl ?_
    refine q_assign rfl rfl ?_
    refine eseq_nil ?_
    refine hK200 _ _ ?_
    refine e_ret ?_
    obtain rfl := Option.some.inj h
    exact ⟨_, res1 rfl rfl, _, rfl, hS⟩
  refine e_loop (fun m_ E_ w161 => ∃ (x163 : Int), ∃ (R160 : Nat → Prop), iter (fun s => ref31_Undone_B1 fuel a0 a1 a2 s) m_ x163 = some tl122 ∧ Sep F R R160 w w161 [HP.blk bl118 [.int .i64 a2.inc, .int .i64 a2.index] 39] ∧ IsSlice endITy w161 R160 v1 a0 ∧ E_ = [(0, v1), (1, .int .i64 a1), (5, .pointer (some ⟨bl118, 0, none⟩)), (7, .int .i64 x163)]) _ ⟨_, ⟨0, _, ht122, hS, f1, rfl⟩, Sub.cons rfl (Sub.cons rfl (Sub.cons rfl (Sub.cons rfl (Sub.nil _))))⟩ ?_
  clear ht122 hS
  rintro m122 _ w161 ⟨x163, R160, ht122, hS, f162, rfl⟩
  obtain ⟨m122, rfl, o122, ho122, ht122⟩ := iter_some ht122
  replace ho122 : ref31_Undone_B1 fuel a0 a1 a2 x163 = some o122 := ho122
  unfold ref31_Undone_B1 at ho122
  refine e_seq fun K201 hK201 => ?_
  refine e_seq fun K202 hK202 => ?_
  refine e_region_text rfl ?_
  refine q_move rfl rfl ?_
  refine q_move rfl rfl ?_
  refine q_lenS rfl f162 rfl ?_
  refine q_lss rfl rfl rfl ?_
  refine eseq_nil ?_
  refine hK202 _ _ ?_
  refine e_cond rfl (fun hc203 => ?_) (fun hc203 => ?_)
  · replace ho122 := (if_pos hc203).symm.trans ho122
    refine e_skip ?_
    refine hK201 _ _ ?_
    refine e_seq fun K204 hK204 => ?_
    refine e_block ?_
    refine e_seq fun K205 hK205 => ?_
    refine e_region_draw mixed (fun _ => False) [0, 0, 3, 7, 15, 0, 63, 127, 255, 255, 1023, 2047, 4095, 255, 8447, 32767, 65535, 131071, 262143, 262143, 1048575, 2097151, 4194303, 262143, 8650751, 33554431, 67108863] [] [0, 1, 2, 3, 4, 5, 6, 7, 8, 9, 10, 11, 12, 13, 14, 15, 16, 17, 18, 19, 20, 21, 22, 23, 24, 25, 26] (by kernel_rfl) ?_
    refine q_move rfl rfl ?_
    refine q_move rfl rfl ?_
    obtain ⟨x206, hx206, ho122⟩ := Option.of_bind ho122
    refine q_atS (by infer_instance) rfl f162 rfl hx206 rfl fun b207 o207 hm207 f207 => ?_
    refine q_field rfl rfl ?_
    have f208 := EndI_F0 f207
    refine q_load rfl (Elt.intCell f208) rfl ?_
    refine q_move rfl rfl ?_
    refine q_eql rfl rfl rfl ?_
    refine q_move rfl rfl ?_
    obtain ⟨x215, hx214, ho122⟩ := Option.of_bind ho122
    refine g_andM 8 hx214 rfl trivial rfl rfl ?_ ?_ ?_
    · intro hg214 hx214
      clear ho122
      have hT214 := Below.refl (World.heap w161).size w161
      refine g_run rfl ?_; refine q_move rfl rfl ?_
      refine g_run rfl ?_; refine q_move rfl rfl ?_
      obtain ⟨x216, hx216, hx214⟩ := Option.of_bind hx214
      refine g_run rfl ?_; refine q_atS (by infer_instance) rfl f162 rfl hx216 rfl fun b217 o217 hm217 f217 => ?_
      refine g_run rfl ?_; refine q_field rfl rfl ?_
      have f218 := EndI_F1 f217
      refine g_run rfl ?_; refine q_load rfl (Elt.intCell f218) rfl ?_
      refine g_run rfl ?_; refine q_field rfl rfl ?_
      refine g_run rfl ?_; refine q_load rfl (Blk.cell (hS.blk 0 rfl) rfl) rfl ?_
      refine g_run rfl ?_; refine q_geq rfl rfl rfl ?_
      cases hx214
      exact eseq_nil ⟨hT214, Sub.set rfl (Sub.set rfl (Sub.set rfl (Sub.set rfl (Sub.set rfl (Sub.set rfl (Sub.set rfl (Sub.set rfl (Sub.bool true rfl hg214)))))))), rfl⟩
    · intro hg214
      refine g_skip rfl rfl rfl ?_
      refine g_skip rfl rfl rfl ?_
      refine g_skip rfl rfl rfl ?_
      refine g_skip rfl rfl rfl ?_
      refine g_skip rfl rfl rfl ?_
      refine g_skip rfl rfl rfl ?_
      refine g_skip rfl rfl rfl ?_
      refine g_skip rfl rfl rfl ?_
      exact eseq_nil ⟨rfl, Sub.set rfl (Sub.set rfl (Sub.set rfl (Sub.set rfl (Sub.set rfl (Sub.set rfl (Sub.set rfl (Sub.set rfl (Sub.bool false rfl hg214))))))))⟩
    intro wm214 hBm214; clear hx214
    replace hS := hS.below hBm214
    replace f162 := f162.ext hBm214
    refine q_move rfl rfl ?_
    obtain ⟨x225, hx224, ho122⟩ := Option.of_bind ho122
    refine g_andM 8 hx224 rfl trivial rfl rfl ?_ ?_ ?_
    · intro hg224 hx224
      clear ho122
      have hT224 := Below.refl (World.heap wm214).size wm214
      refine g_run rfl ?_; refine q_move rfl rfl ?_
      refine g_run rfl ?_; refine q_move rfl rfl ?_
      obtain ⟨x226, hx226, hx224⟩ := Option.of_bind hx224
      refine g_run rfl ?_; refine q_atS (by infer_instance) rfl f162 rfl hx226 rfl fun b227 o227 hm227 f227 => ?_
      refine g_run rfl ?_; refine q_field rfl rfl ?_
      have f228 := EndI_F2 f227
      refine g_run rfl ?_; refine q_load rfl (Elt.intCell f228) rfl ?_
      refine g_run rfl ?_; refine q_field rfl rfl ?_
      refine g_run rfl ?_; refine q_load rfl (Blk.cell (hS.blk 0 rfl) rfl) rfl ?_
      refine g_run rfl ?_; refine q_lss rfl rfl rfl ?_
      cases hx224
      exact eseq_nil ⟨hT224, Sub.set rfl (Sub.set rfl (Sub.set rfl (Sub.set rfl (Sub.set rfl (Sub.set rfl (Sub.set rfl (Sub.set rfl (Sub.bool true rfl hg224)))))))), rfl⟩
    · intro hg224
      refine g_skip rfl rfl rfl ?_
      refine g_skip rfl rfl rfl ?_
      refine g_skip rfl rfl rfl ?_
      refine g_skip rfl rfl rfl ?_
      refine g_skip rfl rfl rfl ?_
      refine g_skip rfl rfl rfl ?_
      refine g_skip rfl rfl rfl ?_
      refine g_skip rfl rfl rfl ?_
      exact eseq_nil ⟨rfl, Sub.set rfl (Sub.set rfl (Sub.set rfl (Sub.set rfl (Sub.set rfl (Sub.set rfl (Sub.set rfl (Sub.set rfl (Sub.bool false rfl hg224))))))))⟩
    intro wm224 hBm224; clear hx224
    replace hS := hS.below hBm224
    replace f162 := f162.ext hBm224
    refine eseq_nil ?_
    refine hK205 _ _ ?_
    refine e_cond rfl (fun hc229 => ?_) (fun hc229 => ?_)
    · replace ho122 := (if_pos hc229).symm.trans ho122
      refine e_seq fun K230 hK230 => ?_
      refine e_region_text rfl ?_
      refine q_assign rfl rfl ?_
      refine eseq_nil ?_
      refine hK230 _ _ ?_
      refine e_ret ?_
      obtain rfl := Option.some.inj ho122
      obtain rfl := Option.some.inj ht122
      obtain rfl := Option.some.inj h
      exact ⟨_, res1 rfl rfl, _, rfl, (hS.pickB [] 1 rfl rfl)⟩
    · replace ho122 := (if_neg (not_true hc229)).symm.trans ho122
      refine e_skip ?_
      refine hK204 _ _ ?_
      refine e_region_text rfl ?_
      refine q_move rfl rfl ?_
      refine q_addW rfl rfl rfl ?_
      refine q_assign rfl rfl ?_
      refine eseq_nil ?_
      obtain rfl := Option.some.inj ho122
      exact ⟨m122, _, Nat.lt_succ_self _, ⟨(w64 (x163 + 1)), _, ht122, hS, f162, rfl⟩, Sub.cons rfl (Sub.cons rfl (Sub.cons rfl (Sub.cons rfl (Sub.nil _))))⟩
  · replace ho122 := (if_neg (not_true hc203)).symm.trans ho122
    refine e_exit ?_
    obtain rfl := Option.some.inj ho122
    obtain rfl := Option.some.inj ht122
    exact hX122_0  _ _ _ h (hS.pickB [] 1 rfl rfl)  (Sub.nil _)
end Go.Proofs.Ytddohdppmejjoaa
