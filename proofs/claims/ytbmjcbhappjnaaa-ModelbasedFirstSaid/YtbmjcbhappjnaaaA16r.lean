/- Printed walks: A16r. -/
import Derived.Test.YtbmjcbhappjnaaaTypes
import Derived.Test.YtbmjcbhappjnaaaAcdat
set_option linter.unusedVariables false
set_option linter.unusedSimpArgs false
namespace Go.Mine
open Go.RowKit
def ref16_Received_K1 (fuel : Nat) : Option (Int) :=
  some (-1)
def ref16_Received_B1 (fuel : Nat) (a0 : Pat) (a2 : Int) (a1 : Int) (x167 : Int) : Option ((Int) ⊕ (Unit ⊕ (Int))) :=
  (if (decide (x167 < (a0.arcs.length : Int))) = true then (andM (decide (0 < a2)) ((ati a0.arcs x167).bind fun x216 => some (x216.to == a1))).bind fun x215 => (andM x215 ((ati a0.arcs x167).bind fun x226 => some (x226.rcv == a2))).bind fun x225 => (if x225 = true then some (Sum.inr (Sum.inr x167)) else some (Sum.inl (w64 (x167 + 1)))) else some (Sum.inr (Sum.inl ())))
def ref16_Received (fuel : Nat) (a0 : Pat) (a1 : Int) (a2 : Int) : Option (Int) :=
  (iter (fun s => ref16_Received_B1 fuel a0 a2 a1 s) fuel 0).bind (fun t => Sum.elim (fun t => ref16_Received_K1 fuel) (fun t => some t) t)
def ref16_Can (fuel : Nat) (a0 : Pat) (a1 : (List Int)) (a2 : Int) : Option (Bool) :=
  (ati a1 a2).bind fun x47 => (ati a0.lens a2).bind fun x49 => (if (decide (x49 ≤ x47)) = true then some false else (ati a1 a2).bind fun x54 => (ref16_Received fuel (⟨a0.lens, a0.ckpts, a0.arcs⟩ : Pat) a2 (w64 (x54 + 1))).bind fun r57 => (orM (decide (r57 < 0)) ((ati a0.arcs r57).bind fun x72 => (ati a0.arcs r57).bind fun x75 => (ati a1 x75.fr).bind fun x78 => some (decide (x72.ix ≤ x78)))).bind fun x71 => some x71)
end Go.Mine
namespace Go.Proofs.Ytbmjcbhappjnaaa
open Go.RowKit Go.Mine
attribute [local irreducible] eseq ewp iter
theorem ref16_Received_w {F R : Nat → Prop} {w : World} {fuel : Nat} {a0 : Pat} {a1 : Int} {a2 : Int} {v1 : Value} {v2 : Value} {v3 : Value} {r : (Int)} (hS : Sep F R R w w []) (f1 : IsSlice Ty.int w R v1 a0.lens) (f2 : IsSlice (Ty.slice Ty.int) w R v2 a0.ckpts) (f3 : IsSlice arcTy w R v3 a0.arcs) (h : ref16_Received fuel a0 a1 a2 = some r) :
    Gives Try.prog 144 [.agg #[v1, v2, v3], .int .i64 a1, .int .i64 a2] w fun u w1 => ∃ (R1 : Nat → Prop), u = .int .i64 r ∧ Sep F R R1 w w1 [] := by
  refine fn_of Try.func144 rfl Try.ntmps144 (Nat.le_of_ble_eq_true rfl) ?_
  unfold ref16_Received at h
  refine e_seq fun K118 hK118 => ?_
  refine e_region_text rfl ?_
  refine q_boxB rfl rfl rfl fun w119 bl119 hg119 hb119 hB119 => ?_
  replace f1 := f1.ext hB119
  replace f2 := f2.ext hB119
  replace f3 := f3.ext hB119
  replace hS := hS.newBlk hB119 hg119 hb119
  refine q_assign rfl rfl ?_
  refine eseq_nil ?_
  refine hK118 _ _ ?_
  refine e_seq fun K121 hK121 => ?_
  refine e_seq fun K122 hK122 => ?_
  refine e_region_text rfl ?_
  refine q_assign rfl rfl ?_
  refine eseq_nil ?_
  refine hK122 _ _ ?_
  refine e_block ?_
  obtain ⟨tl123, ht123, h⟩ := Option.of_bind h
  have hX123_0 : ∀ (R201 : Nat → Prop) (w202 : World) (E_ : Env), ref16_Received_K1 fuel = some r → Sep F R R201 w w202 [] → Sub [] E_ → K121 E_ w202 := by
    intro R201 w202 E_ h hS  hsub
    refine hK121 _ _ (e_sub hsub ?_); clear hsub
    unfold ref16_Received_K1 at h
    refine e_seq fun K203 hK203 => ?_
    refine e_region_text rfl ?_
    refine q_assign rfl rfl ?_
    refine eseq_nil ?_
    refine hK203 _ _ ?_
    refine e_ret ?_
    obtain rfl := Option.some.inj h
    exact ⟨_, res1 rfl rfl, _, rfl, hS⟩
  refine e_loop (fun m_ E_ w163 => ∃ (x167 : Int), ∃ (R162 : Nat → Prop), iter (fun s => ref16_Received_B1 fuel a0 a2 a1 s) m_ x167 = some tl123 ∧ Sep F R R162 w w163 [HP.blk bl119 [v1, v2, v3] 31] ∧ IsSlice Ty.int w163 R162 v1 a0.lens ∧ IsSlice (Ty.slice Ty.int) w163 R162 v2 a0.ckpts ∧ IsSlice arcTy w163 R162 v3 a0.arcs ∧ E_ = [(1, .int .i64 a1), (2, .int .i64 a2), (3, .pointer (some ⟨bl119, 0, none⟩)), (7, .int .i64 x167)]) _ ⟨_, ⟨0, _, ht123, hS, f1, f2, f3, rfl⟩, Sub.cons rfl (Sub.cons rfl (Sub.cons rfl (Sub.cons rfl (Sub.nil _))))⟩ ?_
  clear ht123 hS
  rintro m123 _ w163 ⟨x167, R162, ht123, hS, f164, f165, f166, rfl⟩
  obtain ⟨m123, rfl, o123, ho123, ht123⟩ := iter_some ht123
  replace ho123 : ref16_Received_B1 fuel a0 a2 a1 x167 = some o123 := ho123
  unfold ref16_Received_B1 at ho123
  refine e_seq fun K204 hK204 => ?_
  refine e_seq fun K205 hK205 => ?_
  refine e_region_text rfl ?_
  refine q_move rfl rfl ?_
  refine q_field rfl rfl ?_
  refine q_load rfl (Blk.cell (hS.blk 0 rfl) rfl) rfl ?_
  refine q_lenS rfl f166 rfl ?_
  refine q_lss rfl rfl rfl ?_
  refine eseq_nil ?_
  refine hK205 _ _ ?_
  refine e_cond rfl (fun hc206 => ?_) (fun hc206 => ?_)
  · replace ho123 := (if_pos hc206).symm.trans ho123
    refine e_skip ?_
    refine hK204 _ _ ?_
    refine e_seq fun K207 hK207 => ?_
    refine e_block ?_
    refine e_seq fun K208 hK208 => ?_
    refine e_region_text rfl ?_
    refine q_move rfl rfl ?_
    refine q_gtr rfl rfl rfl ?_
    refine q_move rfl rfl ?_
    obtain ⟨x215, hx214, ho123⟩ := Option.of_bind ho123
    refine g_andM 8 hx214 rfl trivial rfl rfl ?_ ?_ ?_
    · intro hg214 hx214
      clear ho123
      have hT214 := Below.refl (World.heap w163).size w163
      refine g_run rfl ?_; refine q_field rfl rfl ?_
      refine g_run rfl ?_; refine q_load rfl (Blk.cell (hS.blk 0 rfl) rfl) rfl ?_
      refine g_run rfl ?_; refine q_move rfl rfl ?_
      obtain ⟨x216, hx216, hx214⟩ := Option.of_bind hx214
      refine g_run rfl ?_; refine q_atS (by infer_instance) rfl f166 rfl hx216 rfl fun b217 o217 hm217 f217 => ?_
      refine g_run rfl ?_; refine q_field rfl rfl ?_
      have f218 := Arc_F2 f217
      refine g_run rfl ?_; refine q_load rfl (Elt.intCell f218) rfl ?_
      refine g_run rfl ?_; refine q_move rfl rfl ?_
      refine g_run rfl ?_; refine q_eql rfl rfl rfl ?_
      cases hx214
      exact eseq_nil ⟨hT214, Sub.set rfl (Sub.set rfl (Sub.set rfl (Sub.set rfl (Sub.set rfl (Sub.set rfl (Sub.set rfl (Sub.set rfl (Sub.bool true rfl hg214)))))))), rfl⟩
    · intro hg214
      refine g_skip rfl rfl rfl ?_
      refine g_skip rfl rfl rfl ?_
      refine g_skip rfl rfl rfl ?_
      refine g_skip rfl rfl rfl ?_
      refine g_skip rfl rfl rfl ?_
      refine g_skip rfl rfl rfl ?_
      refine g_skip rfl rfl rfl ?_
      refine g_skip rfl rfl rfl ?_
      exact eseq_nil ⟨rfl, Sub.set rfl (Sub.set rfl (Sub.set rfl (Sub.set rfl (Sub.set rfl (Sub.set rfl (Sub.set rfl (Sub.set rfl (Sub.bool false rfl hg214))))))))⟩
    intro wm214 hBm214; clear hx214
    replace hS := hS.below hBm214
    replace f164 := f164.ext hBm214
    replace f165 := f165.ext hBm214
    replace f166 := f166.ext hBm214
    refine q_move rfl rfl ?_
    obtain ⟨x225, hx224, ho123⟩ := Option.of_bind ho123
    refine g_andM 8 hx224 rfl trivial rfl rfl ?_ ?_ ?_
    · intro hg224 hx224
      clear ho123
      have hT224 := Below.refl (World.heap wm214).size wm214
      refine g_run rfl ?_; refine q_field rfl rfl ?_
      refine g_run rfl ?_; refine q_load rfl (Blk.cell (hS.blk 0 rfl) rfl) rfl ?_
      refine g_run rfl ?_; refine q_move rfl rfl ?_
      obtain ⟨x226, hx226, hx224⟩ := Option.of_bind hx224
      refine g_run rfl ?_; refine q_atS (by infer_instance) rfl f166 rfl hx226 rfl fun b227 o227 hm227 f227 => ?_
      refine g_run rfl ?_; refine q_field rfl rfl ?_
      have f228 := Arc_F3 f227
      refine g_run rfl ?_; refine q_load rfl (Elt.intCell f228) rfl ?_
      refine g_run rfl ?_; refine q_move rfl rfl ?_
      refine g_run rfl ?_; refine q_eql rfl rfl rfl ?_
      cases hx224
      exact eseq_nil ⟨hT224, Sub.set rfl (Sub.set rfl (Sub.set rfl (Sub.set rfl (Sub.set rfl (Sub.set rfl (Sub.set rfl (Sub.set rfl (Sub.bool true rfl hg224)))))))), rfl⟩
    · intro hg224
      refine g_skip rfl rfl rfl ?_
      refine g_skip rfl rfl rfl ?_
      refine g_skip rfl rfl rfl ?_
      refine g_skip rfl rfl rfl ?_
      refine g_skip rfl rfl rfl ?_
      refine g_skip rfl rfl rfl ?_
      refine g_skip rfl rfl rfl ?_
      refine g_skip rfl rfl rfl ?_
      exact eseq_nil ⟨rfl, Sub.set rfl (Sub.set rfl (Sub.set rfl (Sub.set rfl (Sub.set rfl (Sub.set rfl (Sub.set rfl (Sub.set rfl (Sub.bool false rfl hg224))))))))⟩
    intro wm224 hBm224; clear hx224
    replace hS := hS.below hBm224
    replace f164 := f164.ext hBm224
    replace f165 := f165.ext hBm224
    replace f166 := f166.ext hBm224
    refine eseq_nil ?_
    refine hK208 _ _ ?_
    refine e_cond rfl (fun hc229 => ?_) (fun hc229 => ?_)
    · replace ho123 := (if_pos hc229).symm.trans ho123
      refine e_seq fun K230 hK230 => ?_
      refine e_region_text rfl ?_
      refine q_move rfl rfl ?_
      refine q_assign rfl rfl ?_
      refine eseq_nil ?_
      refine hK230 _ _ ?_
      refine e_ret ?_
      obtain rfl := Option.some.inj ho123
      obtain rfl := Option.some.inj ht123
      obtain rfl := Option.some.inj h
      exact ⟨_, res1 rfl rfl, _, rfl, (hS.pickB [] 1 rfl rfl)⟩
    · replace ho123 := (if_neg (not_true hc229)).symm.trans ho123
      refine e_skip ?_
      refine hK207 _ _ ?_
      refine e_region_text rfl ?_
      refine q_move rfl rfl ?_
      refine q_addW rfl rfl rfl ?_
      refine q_assign rfl rfl ?_
      refine eseq_nil ?_
      obtain rfl := Option.some.inj ho123
      exact ⟨m123, _, Nat.lt_succ_self _, ⟨(w64 (x167 + 1)), _, ht123, hS, f164, f165, f166, rfl⟩, Sub.cons rfl (Sub.cons rfl (Sub.cons rfl (Sub.cons rfl (Sub.nil _))))⟩
  · replace ho123 := (if_neg (not_true hc206)).symm.trans ho123
    refine e_exit ?_
    obtain rfl := Option.some.inj ho123
    obtain rfl := Option.some.inj ht123
    exact hX123_0  _ _ _ h (hS.pickB [] 1 rfl rfl)  (Sub.nil _)
theorem ref16_Can_w {F R : Nat → Prop} {w : World} {fuel : Nat} {a0 : Pat} {a1 : (List Int)} {a2 : Int} {v1 : Value} {v2 : Value} {v3 : Value} {v4 : Value} {r : (Bool)} (hS : Sep F R R w w []) (f1 : IsSlice Ty.int w R v1 a0.lens) (f2 : IsSlice (Ty.slice Ty.int) w R v2 a0.ckpts) (f3 : IsSlice arcTy w R v3 a0.arcs) (f4 : IsSlice Ty.int w R v4 a1) (h : ref16_Can fuel a0 a1 a2 = some r) :
    Gives Try.prog 129 [.agg #[v1, v2, v3], v4, .int .i64 a2] w fun u w1 => ∃ (R1 : Nat → Prop), u = .bool r ∧ Sep F R R1 w w1 [] := by
  refine fn_of Try.func129 rfl Try.ntmps129 (Nat.le_of_ble_eq_true rfl) ?_
  unfold ref16_Can at h
  refine e_seq fun K42 hK42 => ?_
  refine e_region_text rfl ?_
  refine q_boxB rfl rfl rfl fun w43 bl43 hg43 hb43 hB43 => ?_
  replace f1 := f1.ext hB43
  replace f2 := f2.ext hB43
  replace f3 := f3.ext hB43
  replace f4 := f4.ext hB43
  replace hS := hS.newBlk hB43 hg43 hb43
  refine q_assign rfl rfl ?_
  refine eseq_nil ?_
  refine hK42 _ _ ?_
  refine e_seq fun K45 hK45 => ?_
  refine e_seq fun K46 hK46 => ?_
  refine e_region_draw mixed (fun _ => False) [0, 0, 3, 7, 0, 16, 0, 112, 240, 511] [] [0, 1, 2, 3, 4, 5, 6, 7, 8, 9] (by kernel_rfl) ?_
  refine q_move rfl rfl ?_
  refine q_move rfl rfl ?_
  obtain ⟨x47, hx47, h⟩ := Option.of_bind h
  refine q_atS (by infer_instance) rfl f4 rfl hx47 rfl fun b48 o48 hm48 f48 => ?_
  refine q_load rfl (Elt.intCell f48) rfl ?_
  refine q_field rfl rfl ?_
  refine q_load rfl (Blk.cell (hS.blk 0 rfl) rfl) rfl ?_
  refine q_move rfl rfl ?_
  obtain ⟨x49, hx49, h⟩ := Option.of_bind h
  refine q_atS (by infer_instance) rfl f1 rfl hx49 rfl fun b50 o50 hm50 f50 => ?_
  refine q_load rfl (Elt.intCell f50) rfl ?_
  refine q_geq rfl rfl rfl ?_
  refine eseq_nil ?_
  refine hK46 _ _ ?_
  refine e_cond rfl (fun hc51 => ?_) (fun hc51 => ?_)
  · replace h := (if_pos hc51).symm.trans h
    refine e_seq fun K52 hK52 => ?_
    refine e_region_text rfl ?_
    refine q_assign rfl rfl ?_
    refine eseq_nil ?_
    refine hK52 _ _ ?_
    refine e_ret ?_
    obtain rfl := Option.some.inj h
    exact ⟨_, res1 rfl rfl, _, rfl, (hS.pickB [] 1 rfl rfl)⟩
  · replace h := (if_neg (not_true hc51)).symm.trans h
    refine e_skip ?_
    refine hK45 _ _ ?_
    refine e_seq fun K53 hK53 => ?_
    refine e_region_draw mixed (fun _ => False) [0, 0, 0, 0, 12, 28, 60, 127, 255] [] [0, 1, 2, 3, 4, 5, 6, 7, 8] (by kernel_rfl) ?_
    refine q_loadAgg rfl (Blk.cellsAt (hS.blk 0 rfl) 0 3 rfl) rfl rfl ?_
    refine q_move rfl rfl ?_
    refine q_move rfl rfl ?_
    refine q_move rfl rfl ?_
    obtain ⟨x54, hx54, h⟩ := Option.of_bind h
    refine q_atS (by infer_instance) rfl f4 rfl hx54 rfl fun b55 o55 hm55 f55 => ?_
    refine q_load rfl (Elt.intCell f55) rfl ?_
    refine q_addW rfl rfl rfl ?_
    obtain ⟨r57, hr57, h⟩ := Option.of_bind h
    refine q_call rfl (ref16_Received_w (a0 := (⟨a0.lens, a0.ckpts, a0.arcs⟩ : Pat)) (Sep.enter (As := []) hS) f1 f2 f3 hr57) rfl ?_
    rintro _ w56 ⟨R56, rfl, hC56⟩
    have hB56 : Below (World.heap w43).size w43 w56 := hC56.stepB0
    refine ⟨fun _ => .of_below hB56, ?_⟩
    replace f4 := (f4.ext hB56).mono fun k hk _ => hC56.ro0 k hk
    replace f1 := (f1.ext hB56).mono fun k hk _ => hC56.ro0 k hk
    replace f2 := (f2.ext hB56).mono fun k hk _ => hC56.ro0 k hk
    replace f3 := (f3.ext hB56).mono fun k hk _ => hC56.ro0 k hk
    replace hS := Sep.leave (As := []) hS hC56; simp only [List.cons_append, List.nil_append] at hS
    refine q_assign rfl rfl ?_
    refine eseq_nil ?_
    refine hK53 _ _ ?_
    refine e_seq fun K58 hK58 => ?_
    refine e_region_draw mixed (fun _ => False) [0, 1, 3, 7, 15, 7, 63, 127, 255, 7, 7, 1031, 7, 7175, 15367, 31751, 65031, 130567, 262143, 524287, 1048575] [] [0, 1, 2, 3, 4, 5, 6, 7, 8, 9, 10, 11, 12, 13, 14, 15, 16, 17, 18, 19, 20] (by kernel_rfl) ?_
    refine q_move rfl rfl ?_
    refine q_lss rfl rfl rfl ?_
    refine q_move rfl rfl ?_
    obtain ⟨x71, hx70, h⟩ := Option.of_bind h
    refine g_orM 16 hx70 rfl trivial rfl rfl ?_ ?_ ?_
    · intro hg70
      refine g_skip rfl rfl rfl ?_
      refine g_skip rfl rfl rfl ?_
      refine g_skip rfl rfl rfl ?_
      refine g_skip rfl rfl rfl ?_
      refine g_skip rfl rfl rfl ?_
      refine g_skip rfl rfl rfl ?_
      refine g_skip rfl rfl rfl ?_
      refine g_skip rfl rfl rfl ?_
      refine g_skip rfl rfl rfl ?_
      refine g_skip rfl rfl rfl ?_
      refine g_skip rfl rfl rfl ?_
      refine g_skip rfl rfl rfl ?_
      refine g_skip rfl rfl rfl ?_
      refine g_skip rfl rfl rfl ?_
      refine g_skip rfl rfl rfl ?_
      refine g_skip rfl rfl rfl ?_
      exact eseq_nil ⟨rfl, Sub.set rfl (Sub.set rfl (Sub.set rfl (Sub.set rfl (Sub.set rfl (Sub.set rfl (Sub.set rfl (Sub.set rfl (Sub.set rfl (Sub.set rfl (Sub.set rfl (Sub.set rfl (Sub.set rfl (Sub.set rfl (Sub.set rfl (Sub.set rfl (Sub.bool true rfl hg70))))))))))))))))⟩
    · intro hg70 hx70
      clear h
      have hT70 := Below.refl (World.heap w56).size w56
      refine g_run rfl ?_; refine q_field rfl rfl ?_
      refine g_run rfl ?_; refine q_load rfl (Blk.cell (hS.blk 0 rfl) rfl) rfl ?_
      refine g_run rfl ?_; refine q_move rfl rfl ?_
      obtain ⟨x72, hx72, hx70⟩ := Option.of_bind hx70
      refine g_run rfl ?_; refine q_atS (by infer_instance) rfl f3 rfl hx72 rfl fun b73 o73 hm73 f73 => ?_
      refine g_run rfl ?_; refine q_field rfl rfl ?_
      have f74 := Arc_F1 f73
      refine g_run rfl ?_; refine q_load rfl (Elt.intCell f74) rfl ?_
      refine g_run rfl ?_; refine q_move rfl rfl ?_
      refine g_run rfl ?_; refine q_field rfl rfl ?_
      refine g_run rfl ?_; refine q_load rfl (Blk.cell (hS.blk 0 rfl) rfl) rfl ?_
      refine g_run rfl ?_; refine q_move rfl rfl ?_
      obtain ⟨x75, hx75, hx70⟩ := Option.of_bind hx70
      refine g_run rfl ?_; refine q_atS (by infer_instance) rfl f3 rfl hx75 rfl fun b76 o76 hm76 f76 => ?_
      refine g_run rfl ?_; refine q_field rfl rfl ?_
      have f77 := Arc_F0 f76
      refine g_run rfl ?_; refine q_load rfl (Elt.intCell f77) rfl ?_
      obtain ⟨x78, hx78, hx70⟩ := Option.of_bind hx70
      refine g_run rfl ?_; refine q_atS (by infer_instance) rfl f4 rfl hx78 rfl fun b79 o79 hm79 f79 => ?_
      refine g_run rfl ?_; refine q_load rfl (Elt.intCell f79) rfl ?_
      refine g_run rfl ?_; refine q_leq rfl rfl rfl ?_
      cases hx70
      exact eseq_nil ⟨hT70, Sub.set rfl (Sub.set rfl (Sub.set rfl (Sub.set rfl (Sub.set rfl (Sub.set rfl (Sub.set rfl (Sub.set rfl (Sub.set rfl (Sub.set rfl (Sub.set rfl (Sub.set rfl (Sub.set rfl (Sub.set rfl (Sub.set rfl (Sub.set rfl (Sub.bool false rfl hg70)))))))))))))))), rfl⟩
    intro wm70 hBm70; clear hx70
    replace hS := hS.below hBm70
    refine q_assign rfl rfl ?_
    refine eseq_nil ?_
    refine hK58 _ _ ?_
    refine e_ret ?_
    obtain rfl := Option.some.inj h
    exact ⟨_, res1 rfl rfl, _, rfl, (hS.pickB [] 1 rfl rfl)⟩
end Go.Proofs.Ytbmjcbhappjnaaa
