/- Printed walks: A32a. -/
import Derived.Test.YtddohdppmejjoaaAmk
import Derived.Test.YtddohdppmejjoaaA31u
import Derived.Test.YtddohdppmejjoaaA23
set_option linter.unusedVariables false
set_option linter.unusedSimpArgs false
namespace Go.Mine
open Go.RowKit
def orphan_label (fuel : Nat) (a0 : (List Evt)) (a1 : Int) : Option (Lab × Bool) :=
  (orM (decide (a1 < 0)) (some (decide ((a0.length : Int) < a1)))).bind fun x31 => (if x31 = true then some ((⟨0, 0⟩ : Lab), false) else (if (a1 == 0) = true then some ((⟨0, 0⟩ : Lab), true) else (ati a0 (w64 (a1 - 1))).bind fun x40 => some ((⟨x40.inc, a1⟩ : Lab), true)))
def orphan_fits_J1 (fuel : Nat) (r102 : (Lab × Bool)) (a3 : Evt) : Option (Bool) :=
  (andM r102.2 (some ((r102.1.inc == a3.sent.inc) && ((r102.1.index == a3.sent.index) && true)))).bind fun x125 => some x125
def orphan_fits (fuel : Nat) (a0 : (List (List Evt))) (a1 : (List Int)) (a2 : Int) (a3 : Evt) : Option (Bool) :=
  (if (a3.kind != 1) = true then some true else (orM (decide (a3.frm < 0)) (some (decide ((a0.length : Int) ≤ a3.frm)))).bind fun x82 => (orM x82 (some (a3.frm == a2))).bind fun x86 => (orM x86 ((ati a1 a3.frm).bind fun x93 => some (decide (x93 < a3.sent.index)))).bind fun x92 => (if x92 = true then some false else (ati a0 a3.frm).bind fun x98 => (orphan_label fuel x98 a3.sent.index).bind fun r102 => orphan_fits_J1 fuel r102 a3))
def orphan_Consistent_K2 (fuel : Nat) : Option (Bool) :=
  some true
def orphan_Consistent_K3 (fuel : Nat) (x603 : Int) : Option ((Int) ⊕ (Unit ⊕ (Bool))) :=
  some (Sum.inl (w64 (x603 + 1)))
def orphan_Consistent_B2 (fuel : Nat) (x719 : (List Evt)) (a0 : (List (List Evt))) (a1 : (List Int)) (x603 : Int) (x756 : Int) : Option ((Int) ⊕ (Unit ⊕ (Bool))) :=
  (if (decide (x756 < (x719.length : Int))) = true then (ati x719 x756).bind fun x790 => (orphan_fits fuel a0 a1 x603 (⟨x790.kind, x790.inc, x790.frm, (⟨x790.sent.inc, x790.sent.index⟩ : Lab), x790.ord, x790.value⟩ : Evt)).bind fun r798 => (if (!r798) = true then some (Sum.inr (Sum.inr false)) else some (Sum.inl (w64 (x756 + 1)))) else some (Sum.inr (Sum.inl ())))
def orphan_Consistent_B1 (fuel : Nat) (a0 : (List (List Evt))) (a1 : (List Int)) (x603 : Int) : Option ((Int) ⊕ (Unit ⊕ (Bool))) :=
  (if (decide (x603 < (a0.length : Int))) = true then (ati a0 x603).bind fun x712 => (ati a1 x603).bind fun x716 => (takeL x712 x716).bind fun x719 => (iter (fun s => orphan_Consistent_B2 fuel x719 a0 a1 x603 s) fuel 0).bind (fun t => Sum.elim (fun t => orphan_Consistent_K3 fuel x603) (fun t => some (Sum.inr (Sum.inr t))) t) else some (Sum.inr (Sum.inl ())))
def orphan_Consistent_K1 (fuel : Nat) (a0 : (List (List Evt))) (a1 : (List Int)) : Option (Bool) :=
  (iter (fun s => orphan_Consistent_B1 fuel a0 a1 s) fuel 0).bind (fun t => Sum.elim (fun t => orphan_Consistent_K2 fuel) (fun t => some t) t)
def orphan_Consistent_B3 (fuel : Nat) (a0 : (List (List Evt))) (a1 : (List Int)) (x458 : Int) : Option ((Int) ⊕ (Unit ⊕ (Bool))) :=
  (if (decide (x458 < (a0.length : Int))) = true then (ati a0 x458).bind fun x806 => (ati a1 x458).bind fun x810 => (orM (decide (x810 < 0)) ((ati a1 x458).bind fun x818 => some (decide ((x806.length : Int) < x818)))).bind fun x817 => (if x817 = true then some (Sum.inr (Sum.inr false)) else some (Sum.inl (w64 (x458 + 1)))) else some (Sum.inr (Sum.inl ())))
def orphan_Consistent (fuel : Nat) (a0 : (List (List Evt))) (a1 : (List Int)) : Option (Bool) :=
  (if ((a1.length : Int) != (a0.length : Int)) = true then some false else (iter (fun s => orphan_Consistent_B3 fuel a0 a1 s) fuel 0).bind (fun t => Sum.elim (fun t => orphan_Consistent_K1 fuel a0 a1) (fun t => some t) t))
def orphan_Lower_1 (fuel : Nat) (a0 : Evt) (c1_0 : (List (List Evt))) (c2_0 : (List Int)) (c3_0 : Int) : Option (Bool) :=
  (orphan_fits fuel c1_0 c2_0 c3_0 (⟨a0.kind, a0.inc, a0.frm, (⟨a0.sent.inc, a0.sent.index⟩ : Lab), a0.ord, a0.value⟩ : Evt)).bind fun r17 => some (!r17)
def slices_IndexFunc_K1 (fuel : Nat) : Option (Int) :=
  some (-1)
def slices_IndexFunc_B1 (fuel : Nat) (a0 : (List Evt)) (c1a_0 : (List (List Evt))) (c1b_0 : (List Int)) (c1c_0 : Int) (x131 : Int) : Option ((Int) ⊕ (Unit ⊕ (Int))) :=
  (if (decide (x131 < (a0.length : Int))) = true then (ati a0 x131).bind fun x163 => (orphan_Lower_1 fuel x163 c1a_0 c1b_0 c1c_0).bind fun r167 => (if r167 = true then some (Sum.inr (Sum.inr x131)) else some (Sum.inl (w64 (x131 + 1)))) else some (Sum.inr (Sum.inl ())))
def slices_IndexFunc (fuel : Nat) (a0 : (List Evt)) (c1a_0 : (List (List Evt))) (c1b_0 : (List Int)) (c1c_0 : Int) : Option (Int) :=
  (iter (fun s => slices_IndexFunc_B1 fuel a0 c1a_0 c1b_0 c1c_0 s) fuel 0).bind (fun t => Sum.elim (fun t => slices_IndexFunc_K1 fuel) (fun t => some t) t)
def orphan_Lower_K2 (fuel : Nat) (x857 : (List Int)) : Option (((List Int)) ⊕ ((List Int))) :=
  some (Sum.inl x857)
def orphan_Lower_K3 (fuel : Nat) (x657 : (List Int)) : Option (((List Int)) ⊕ ((List Int))) :=
  some (Sum.inr x657)
def orphan_Lower_B2 (fuel : Nat) (a0 : (List (List Evt))) (x657 : (List Int)) (x821 : Int) : Option ((Int) ⊕ (((List Int)) ⊕ Unit)) :=
  (if (decide (x821 < (a0.length : Int))) = true then (ati a0 x821).bind fun x867 => (ati x657 x821).bind fun x874 => (takeL x867 x874).bind fun x877 => (slices_IndexFunc fuel x877 a0 x657 x821).bind fun r879 => (if (decide (0 ≤ r879)) = true then (ati x657 x821).bind fun x883 => (seti x657 x821 r879).bind fun x885 => some (Sum.inr (Sum.inl x885)) else some (Sum.inl (w64 (x821 + 1)))) else some (Sum.inr (Sum.inr ())))
def orphan_Lower_B1 (fuel : Nat) (a0 : (List (List Evt))) (x657 : (List Int)) : Option (((List Int)) ⊕ ((List Int))) :=
  (iter (fun s => orphan_Lower_B2 fuel a0 x657 s) fuel 0).bind (fun t => Sum.elim (fun t => orphan_Lower_K2 fuel t) (fun t => orphan_Lower_K3 fuel x657) t)
def orphan_Lower_K1 (fuel : Nat) (a0 : (List (List Evt))) (x525 : (List Int)) : Option ((List Int)) :=
  (iter (fun s => orphan_Lower_B1 fuel a0 s) fuel x525).bind (fun t => some t)
def orphan_Lower_B3 (fuel : Nat) (a0 : (List (List Evt))) (a1 : (List Int)) (x497 : (List Int)) (x498 : Int) : Option (((List Int) × Int) ⊕ ((List Int))) :=
  (if (decide (x498 < (min (a0.length : Int) (a1.length : Int)))) = true then (ati a1 x498).bind fun x891 => (ati a0 x498).bind fun x893 => (ati x497 x498).bind fun x896 => (seti x497 x498 (min (max x891 0) (x893.length : Int))).bind fun x898 => some (Sum.inl (x898, (w64 (x498 + 1)))) else some (Sum.inr x497))
def orphan_Lower (fuel : Nat) (a0 : (List (List Evt))) (a1 : (List Int)) : Option ((List Int)) :=
  (mkL (a0.length : Int) (0 : Int)).bind fun x456 => (iter (fun s => orphan_Lower_B3 fuel a0 a1 s.1 s.2) fuel (x456, 0)).bind (fun t => orphan_Lower_K1 fuel a0 t)
end Go.Mine
namespace Go.Proofs.Ytddohdppmejjoaa
open Go.RowKit Go.Mine
attribute [local irreducible] eseq ewp iter
theorem orphan_label_w {F R : Nat → Prop} {w : World} {fuel : Nat} {a0 : (List Evt)} {a1 : Int} {v1 : Value} {r : (Lab × Bool)} (hS : Sep F R R w w []) (f1 : IsSlice evtTy w R v1 a0) (h : orphan_label fuel a0 a1 = some r) :
    Gives Try.prog 65 [v1, .int .i64 a1] w fun u w1 => ∃ (R1 : Nat → Prop), u = .tuple #[.agg #[.int .i64 r.1.inc, .int .i64 r.1.index], .bool r.2] ∧ Sep F R R1 w w1 [] := by
  refine fn_of Try.func65 rfl Try.ntmps65 (Nat.le_of_ble_eq_true rfl) ?_
  unfold orphan_label at h
  refine e_seq fun K23 hK23 => ?_
  refine e_region_text rfl ?_
  refine q_allocB rfl fun w24 bl24 hg24 hb24 hB24 => ?_
  replace f1 := f1.ext hB24
  replace hS := hS.newBlk hB24 hg24 hb24
  refine q_assign rfl rfl ?_
  refine eseq_nil ?_
  refine hK23 _ _ ?_
  refine e_seq fun K26 hK26 => ?_
  refine e_block ?_
  refine e_seq fun K27 hK27 => ?_
  refine e_region_text rfl ?_
  refine q_move rfl rfl ?_
  refine q_lss rfl rfl rfl ?_
  refine q_move rfl rfl ?_
  obtain ⟨x31, hx30, h⟩ := Option.of_bind h
  refine g_orM 4 hx30 rfl trivial rfl rfl ?_ ?_ ?_
  · intro hg30
    refine g_skip rfl rfl rfl ?_
    refine g_skip rfl rfl rfl ?_
    refine g_skip rfl rfl rfl ?_
    refine g_skip rfl rfl rfl ?_
    exact eseq_nil ⟨rfl, Sub.set rfl (Sub.set rfl (Sub.set rfl (Sub.set rfl (Sub.bool true rfl hg30))))⟩
  · intro hg30 hx30
    clear h
    have hT30 := Below.refl (World.heap w24).size w24
    refine g_run rfl ?_; refine q_move rfl rfl ?_
    refine g_run rfl ?_; refine q_move rfl rfl ?_
    refine g_run rfl ?_; refine q_lenS rfl f1 rfl ?_
    refine g_run rfl ?_; refine q_gtr rfl rfl rfl ?_
    cases hx30
    exact eseq_nil ⟨hT30, Sub.set rfl (Sub.set rfl (Sub.set rfl (Sub.set rfl (Sub.bool false rfl hg30)))), rfl⟩
  intro wm30 hBm30; clear hx30
  replace hS := hS.below hBm30
  replace f1 := f1.ext hBm30
  refine q_assign rfl rfl ?_
  refine eseq_nil ?_
  refine hK27 _ _ ?_
  refine e_cond rfl (fun hc32 => ?_) (fun hc32 => ?_)
  · replace h := (if_pos hc32).symm.trans h
    refine e_seq fun K33 hK33 => ?_
    refine e_region_text rfl ?_
    refine q_build Parts.nil rfl rfl ?_
    refine q_storeAgg rfl rfl (hS.blk 0 rfl) rfl (Nat.le_of_ble_eq_true rfl) (all_cons rfl (all_cons rfl (all_nil))) rfl rfl fun w34 hb34 hO34 => ?_
    simp only [setN, List.set, List.take, List.drop] at hb34
    have hk34 := hS.keptBlk 0 rfl hO34
    replace hS := hS.setBlk 0 rfl hb34 hO34; simp only [List.set] at hS
    refine q_assign rfl rfl ?_
    refine eseq_nil ?_
    refine hK33 _ _ ?_
    refine e_ret ?_
    obtain rfl := Option.some.inj h
    exact ⟨_, resCT rfl rfl ((hS.blk 0 rfl).cellsAt 0 2 rfl) rfl rfl, _, rfl, (hS.pickB [] 1 rfl rfl)⟩
  · replace h := (if_neg (not_true hc32)).symm.trans h
    refine e_seq fun K35 hK35 => ?_
    refine e_region_text rfl ?_
    refine q_move rfl rfl ?_
    refine q_eql rfl rfl rfl ?_
    refine q_assign rfl rfl ?_
    refine eseq_nil ?_
    refine hK35 _ _ ?_
    refine e_cond rfl (fun hc36 => ?_) (fun hc36 => ?_)
    · replace h := (if_pos hc36).symm.trans h
      refine e_seq fun K37 hK37 => ?_
      refine e_region_text rfl ?_
      refine q_build Parts.nil rfl rfl ?_
      refine q_storeAgg rfl rfl (hS.blk 0 rfl) rfl (Nat.le_of_ble_eq_true rfl) (all_cons rfl (all_cons rfl (all_nil))) rfl rfl fun w38 hb38 hO38 => ?_
      simp only [setN, List.set, List.take, List.drop] at hb38
      have hk38 := hS.keptBlk 0 rfl hO38
      replace hS := hS.setBlk 0 rfl hb38 hO38; simp only [List.set] at hS
      refine q_assign rfl rfl ?_
      refine eseq_nil ?_
      refine hK37 _ _ ?_
      refine e_ret ?_
      obtain rfl := Option.some.inj h
      exact ⟨_, resCT rfl rfl ((hS.blk 0 rfl).cellsAt 0 2 rfl) rfl rfl, _, rfl, (hS.pickB [] 1 rfl rfl)⟩
    · replace h := (if_neg (not_true hc36)).symm.trans h
      refine e_skip ?_
      refine hK26 _ _ ?_
      refine e_seq fun K39 hK39 => ?_
      refine e_region_text rfl ?_
      refine q_move rfl rfl ?_
      refine q_move rfl rfl ?_
      refine q_subW rfl rfl rfl ?_
      obtain ⟨x40, hx40, h⟩ := Option.of_bind h
      refine q_atS (by infer_instance) rfl f1 rfl hx40 rfl fun b41 o41 hm41 f41 => ?_
      refine q_field rfl rfl ?_
      have f42 := Evt_F1 f41
      refine q_load rfl (Elt.intCell f42) rfl ?_
      refine q_move rfl rfl ?_
      refine q_build (Parts.cons rfl rfl (Parts.cons rfl rfl Parts.nil)) rfl rfl ?_
      refine q_storeAgg rfl rfl (hS.blk 0 rfl) rfl (Nat.le_of_ble_eq_true rfl) (all_cons rfl (all_cons rfl (all_nil))) rfl rfl fun w43 hb43 hO43 => ?_
      simp only [setN, List.set, List.take, List.drop] at hb43
      have hk43 := hS.keptBlk 0 rfl hO43
      replace hS := hS.setBlk 0 rfl hb43 hO43; simp only [List.set] at hS
      refine q_assign rfl rfl ?_
      refine eseq_nil ?_
      refine hK39 _ _ ?_
      refine e_ret ?_
      obtain rfl := Option.some.inj h
      exact ⟨_, resCT rfl rfl ((hS.blk 0 rfl).cellsAt 0 2 rfl) rfl rfl, _, rfl, (hS.pickB [] 1 rfl rfl)⟩
theorem orphan_fits_w {F R : Nat → Prop} {w : World} {fuel : Nat} {a0 : (List (List Evt))} {a1 : (List Int)} {a2 : Int} {a3 : Evt} {v1 : Value} {v2 : Value} {r : (Bool)} (hS : Sep F R R w w []) (f1 : IsSlice (Ty.slice evtTy) w R v1 a0) (f2 : IsSlice Ty.int w R v2 a1) (h : orphan_fits fuel a0 a1 a2 a3 = some r) :
    Gives Try.prog 56 [v1, v2, .int .i64 a2, .agg #[.int .i64 a3.kind, .int .i64 a3.inc, .int .i64 a3.frm, .int .i64 a3.sent.inc, .int .i64 a3.sent.index, .int .i64 a3.ord, .int .i64 a3.value]] w fun u w1 => ∃ (R1 : Nat → Prop), u = .bool r ∧ Sep F R R1 w w1 [] := by
  refine fn_of Try.func56 rfl Try.ntmps56 (Nat.le_of_ble_eq_true rfl) ?_
  unfold orphan_fits at h
  refine e_seq fun K70 hK70 => ?_
  refine e_region_text rfl ?_
  refine q_boxB rfl rfl rfl fun w71 bl71 hg71 hb71 hB71 => ?_
  replace f1 := f1.ext hB71
  replace f2 := f2.ext hB71
  replace hS := hS.newBlk hB71 hg71 hb71
  refine q_assign rfl rfl ?_
  refine eseq_nil ?_
  refine hK70 _ _ ?_
  refine e_seq fun K73 hK73 => ?_
  refine e_seq fun K74 hK74 => ?_
  refine e_region_text rfl ?_
  refine q_field rfl rfl ?_
  refine q_load rfl (Blk.cell (hS.blk 0 rfl) rfl) rfl ?_
  refine q_neq rfl rfl rfl ?_
  refine eseq_nil ?_
  refine hK74 _ _ ?_
  refine e_cond rfl (fun hc75 => ?_) (fun hc75 => ?_)
  · replace h := (if_pos hc75).symm.trans h
    refine e_seq fun K76 hK76 => ?_
    refine e_region_text rfl ?_
    refine q_assign rfl rfl ?_
    refine eseq_nil ?_
    refine hK76 _ _ ?_
    refine e_ret ?_
    obtain rfl := Option.some.inj h
    exact ⟨_, res1 rfl rfl, _, rfl, (hS.pickB [] 1 rfl rfl)⟩
  · replace h := (if_neg (not_true hc75)).symm.trans h
    refine e_skip ?_
    refine hK73 _ _ ?_
    refine e_seq fun K77 hK77 => ?_
    refine e_seq fun K78 hK78 => ?_
    refine e_region_draw mixed (fun _ => False) [0, 1, 3, 7, 15, 31, 15, 79, 255, 511, 1023, 2047, 4095, 2047, 16383, 32767, 65535, 131071, 262143, 524287, 131071, 131071, 2228223, 7471103, 15859711, 33554431, 67108863] [] [0, 1, 2, 3, 4, 5, 6, 7, 8, 9, 10, 11, 12, 13, 14, 15, 16, 17, 18, 19, 20, 21, 22, 23, 24, 25, 26] (by kernel_rfl) ?_
    refine q_field rfl rfl ?_
    refine q_load rfl (Blk.cell (hS.blk 0 rfl) rfl) rfl ?_
    refine q_lss rfl rfl rfl ?_
    refine q_move rfl rfl ?_
    obtain ⟨x82, hx81, h⟩ := Option.of_bind h
    refine g_orM 5 hx81 rfl trivial rfl rfl ?_ ?_ ?_
    · intro hg81
      refine g_skip rfl rfl rfl ?_
      refine g_skip rfl rfl rfl ?_
      refine g_skip rfl rfl rfl ?_
      refine g_skip rfl rfl rfl ?_
      refine g_skip rfl rfl rfl ?_
      exact eseq_nil ⟨rfl, Sub.set rfl (Sub.set rfl (Sub.set rfl (Sub.set rfl (Sub.set rfl (Sub.bool true rfl hg81)))))⟩
    · intro hg81 hx81
      clear h
      have hT81 := Below.refl (World.heap w71).size w71
      refine g_run rfl ?_; refine q_field rfl rfl ?_
      refine g_run rfl ?_; refine q_load rfl (Blk.cell (hS.blk 0 rfl) rfl) rfl ?_
      refine g_run rfl ?_; refine q_move rfl rfl ?_
      refine g_run rfl ?_; refine q_lenS rfl f1 rfl ?_
      refine g_run rfl ?_; refine q_geq rfl rfl rfl ?_
      cases hx81
      exact eseq_nil ⟨hT81, Sub.set rfl (Sub.set rfl (Sub.set rfl (Sub.set rfl (Sub.set rfl (Sub.bool false rfl hg81))))), rfl⟩
    intro wm81 hBm81; clear hx81
    replace hS := hS.below hBm81
    replace f1 := f1.ext hBm81
    replace f2 := f2.ext hBm81
    refine q_move rfl rfl ?_
    obtain ⟨x86, hx85, h⟩ := Option.of_bind h
    refine g_orM 4 hx85 rfl trivial rfl rfl ?_ ?_ ?_
    · intro hg85
      refine g_skip rfl rfl rfl ?_
      refine g_skip rfl rfl rfl ?_
      refine g_skip rfl rfl rfl ?_
      refine g_skip rfl rfl rfl ?_
      exact eseq_nil ⟨rfl, Sub.set rfl (Sub.set rfl (Sub.set rfl (Sub.set rfl (Sub.bool true rfl hg85))))⟩
    · intro hg85 hx85
      clear h
      have hT85 := Below.refl (World.heap wm81).size wm81
      refine g_run rfl ?_; refine q_field rfl rfl ?_
      refine g_run rfl ?_; refine q_load rfl (Blk.cell (hS.blk 0 rfl) rfl) rfl ?_
      refine g_run rfl ?_; refine q_move rfl rfl ?_
      refine g_run rfl ?_; refine q_eql rfl rfl rfl ?_
      cases hx85
      exact eseq_nil ⟨hT85, Sub.set rfl (Sub.set rfl (Sub.set rfl (Sub.set rfl (Sub.bool false rfl hg85)))), rfl⟩
    intro wm85 hBm85; clear hx85
    replace hS := hS.below hBm85
    replace f1 := f1.ext hBm85
    replace f2 := f2.ext hBm85
    refine q_move rfl rfl ?_
    obtain ⟨x92, hx91, h⟩ := Option.of_bind h
    refine g_orM 9 hx91 rfl trivial rfl rfl ?_ ?_ ?_
    · intro hg91
      refine g_skip rfl rfl rfl ?_
      refine g_skip rfl rfl rfl ?_
      refine g_skip rfl rfl rfl ?_
      refine g_skip rfl rfl rfl ?_
      refine g_skip rfl rfl rfl ?_
      refine g_skip rfl rfl rfl ?_
      refine g_skip rfl rfl rfl ?_
      refine g_skip rfl rfl rfl ?_
      refine g_skip rfl rfl rfl ?_
      exact eseq_nil ⟨rfl, Sub.set rfl (Sub.set rfl (Sub.set rfl (Sub.set rfl (Sub.set rfl (Sub.set rfl (Sub.set rfl (Sub.set rfl (Sub.set rfl (Sub.bool true rfl hg91)))))))))⟩
    · intro hg91 hx91
      clear h
      have hT91 := Below.refl (World.heap wm85).size wm85
      refine g_run rfl ?_; refine q_field rfl rfl ?_
      refine g_run rfl ?_; refine q_field rfl rfl ?_
      refine g_run rfl ?_; refine q_load rfl (Blk.cell (hS.blk 0 rfl) rfl) rfl ?_
      refine g_run rfl ?_; refine q_move rfl rfl ?_
      refine g_run rfl ?_; refine q_field rfl rfl ?_
      refine g_run rfl ?_; refine q_load rfl (Blk.cell (hS.blk 0 rfl) rfl) rfl ?_
      obtain ⟨x93, hx93, hx91⟩ := Option.of_bind hx91
      refine g_run rfl ?_; refine q_atS (by infer_instance) rfl f2 rfl hx93 rfl fun b94 o94 hm94 f94 => ?_
      refine g_run rfl ?_; refine q_load rfl (Elt.intCell f94) rfl ?_
      refine g_run rfl ?_; refine q_gtr rfl rfl rfl ?_
      cases hx91
      exact eseq_nil ⟨hT91, Sub.set rfl (Sub.set rfl (Sub.set rfl (Sub.set rfl (Sub.set rfl (Sub.set rfl (Sub.set rfl (Sub.set rfl (Sub.set rfl (Sub.bool false rfl hg91))))))))), rfl⟩
    intro wm91 hBm91; clear hx91
    replace hS := hS.below hBm91
    replace f1 := f1.ext hBm91
    refine eseq_nil ?_
    refine hK78 _ _ ?_
    refine e_cond rfl (fun hc95 => ?_) (fun hc95 => ?_)
    · replace h := (if_pos hc95).symm.trans h
      refine e_seq fun K96 hK96 => ?_
      refine e_region_text rfl ?_
      refine q_assign rfl rfl ?_
      refine eseq_nil ?_
      refine hK96 _ _ ?_
      refine e_ret ?_
      obtain rfl := Option.some.inj h
      exact ⟨_, res1 rfl rfl, _, rfl, (hS.pickB [] 1 rfl rfl)⟩
    · replace h := (if_neg (not_true hc95)).symm.trans h
      refine e_skip ?_
      refine hK77 _ _ ?_
      refine e_seq fun K97 hK97 => ?_
      have hJt120 : ∀ (r102 : (Lab × Bool)) (B119 : Nat) (R116 : Nat → Prop) (w117 : World) (E_ : Env), orphan_fits_J1 fuel r102 a3 = some r → Sep F R R116 w w117 [HP.blk bl71 [.int .i64 a3.kind, .int .i64 a3.inc, .int .i64 a3.frm, .int .i64 a3.sent.inc, .int .i64 a3.sent.index, .int .i64 a3.ord, .int .i64 a3.value] 83, HP.blk B119 [.int .i64 r102.1.inc, .int .i64 r102.1.index] 39] → Sub [(7, .pointer (some ⟨bl71, 0, none⟩)), (9, .pointer (some ⟨B119, 0, none⟩)), (10, .bool r102.2)] E_ → K97 E_ w117 := by
        intro r102 B119 R116 w117 E_ h hS  hsub
        refine hK97 _ _ (e_sub hsub ?_); clear hsub
        unfold orphan_fits_J1 at h
        refine e_seq fun K121 hK121 => ?_
        refine e_region_text rfl ?_
        refine q_move rfl rfl ?_
        refine q_move rfl rfl ?_
        obtain ⟨x125, hx124, h⟩ := Option.of_bind h
        refine g_andM 4 hx124 rfl trivial rfl rfl ?_ ?_ ?_
        · intro hg124 hx124
          clear h
          have hT124 := Below.refl (World.heap w117).size w117
          refine g_run rfl ?_; refine q_loadAgg rfl (Blk.cellsAt (hS.blk 1 rfl) 0 2 rfl) rfl rfl ?_
          refine g_run rfl ?_; refine q_field rfl rfl ?_
          refine g_run rfl ?_; refine q_loadAgg rfl (Blk.cellsAt (hS.blk 0 rfl) 3 2 rfl) rfl rfl ?_
          refine g_run rfl ?_; refine q_eqlA eqT39 (by kernel_rfl) rfl rfl rfl ?_
          cases hx124
          exact eseq_nil ⟨hT124, Sub.set rfl (Sub.set rfl (Sub.set rfl (Sub.set rfl (Sub.bool true rfl hg124)))), rfl⟩
        · intro hg124
          refine g_skip rfl rfl rfl ?_
          refine g_skip rfl rfl rfl ?_
          refine g_skip rfl rfl rfl ?_
          refine g_skip rfl rfl rfl ?_
          exact eseq_nil ⟨rfl, Sub.set rfl (Sub.set rfl (Sub.set rfl (Sub.set rfl (Sub.bool false rfl hg124))))⟩
        intro wm124 hBm124; clear hx124
        replace hS := hS.below hBm124
        refine q_assign rfl rfl ?_
        refine eseq_nil ?_
        refine hK121 _ _ ?_
        refine e_ret ?_
        obtain rfl := Option.some.inj h
        exact ⟨_, res1 rfl rfl, _, rfl, (hS.pickB [] 2 rfl rfl)⟩
      obtain ⟨x98, hx98, h⟩ := Option.of_bind h
      obtain ⟨r102, hr102, h⟩ := Option.of_bind h
      refine e_region_T mixed (fun _ => False) [0, 0, 2, 7, 15, 0, 32, 96, 255, 511, 1023, 1023, 0, 6143, 16383] [12] (QT.op 0 (QT.op 1 (QT.op 2 (QT.op 3 (QT.op 4 (QT.op 5 (QT.op 6 (QT.op 7 (QT.alt (QT.op 8 (QT.op 9 (QT.op 10 (QT.op 11 (QT.op 12 (QT.op 13 (QT.op 14 QT.fin))))))) (QT.op 12 (QT.op 8 (QT.op 9 (QT.op 10 (QT.op 11 (QT.op 13 (QT.op 14 QT.fin)))))))))))))))) (by kernel_rfl) ?_
      refine t_op ?_
      refine q_move rfl rfl ?_
      refine eseq_nil ?_
      refine t_op ?_
      refine q_field rfl rfl ?_
      refine eseq_nil ?_
      refine t_op ?_
      refine q_load rfl (Blk.cell (hS.blk 0 rfl) rfl) rfl ?_
      refine eseq_nil ?_
      refine t_op ?_
      refine q_atS (by infer_instance) rfl f1 rfl hx98 rfl fun b126 o126 hm126 f126 => ?_
      refine eseq_nil ?_
      refine t_op ?_
      refine q_loadE rfl f126 rfl (fun v127 f127 => ?_)
      refine eseq_nil ?_
      refine t_op ?_
      refine q_field rfl rfl ?_
      refine eseq_nil ?_
      refine t_op ?_
      refine q_field rfl rfl ?_
      refine eseq_nil ?_
      refine t_op ?_
      refine q_load rfl (Blk.cell (hS.blk 0 rfl) rfl) rfl ?_
      refine eseq_nil ?_
      refine t_alt ?_ ?_
      · skip
        refine t_op ?_
        refine q_call rfl (orphan_label_w (Sep.enter (As := []) hS) f127 hr102) rfl ?_
        rintro _ w128 ⟨R128, rfl, hC128⟩
        have hB128 : Below (World.heap wm91).size wm91 w128 := hC128.stepB0
        refine ⟨fun _ => .of_below hB128, ?_⟩
        replace f1 := (f1.ext hB128).mono fun k hk _ => hC128.ro0 k hk
        replace f127 := (f127.ext hB128).mono fun k hk _ => hC128.ro0 k hk
        replace f126 := (f126.ext hB128).mono fun k hk _ => hC128.ro0 k hk
        replace hS := Sep.leave (As := []) hS hC128; simp only [List.cons_append, List.nil_append] at hS
        refine eseq_nil ?_
        refine t_op ?_
        refine q_move rfl rfl ?_
        refine eseq_nil ?_
        refine t_op ?_
        refine q_extract rfl rfl rfl ?_
        refine eseq_nil ?_
        refine t_op ?_
        refine q_extract rfl rfl rfl ?_
        refine eseq_nil ?_
        refine t_op ?_
        refine q_allocB rfl fun w129 bl129 hg129 hb129 hB129 => ?_
        replace f1 := f1.ext hB129
        replace f127 := f127.ext hB129
        replace f126 := f126.ext hB129
        replace hS := hS.newBlk hB129 hg129 hb129
        refine eseq_nil ?_
        refine t_op ?_
        refine q_storeAgg rfl rfl (hS.blk 0 rfl) rfl (Nat.le_of_ble_eq_true rfl) (all_cons rfl (all_cons rfl (all_nil))) rfl rfl fun w131 hb131 hO131 => ?_
        simp only [setN, List.set, List.take, List.drop] at hb131
        have hk131 := hS.keptBlk 0 rfl hO131
        replace f1 := f1.kept hk131
        replace f127 := f127.kept hk131
        replace hS := hS.setBlk 0 rfl hb131 hO131; simp only [List.set] at hS
        refine eseq_nil ?_
        refine t_op ?_
        refine q_assign rfl rfl ?_
        refine eseq_nil ?_
        refine t_fin ?_
        exact hJt120 r102 bl129 _ _ _ h (hS.pickB [1, 0] 2 rfl rfl)  (Sub.cons rfl (Sub.cons rfl (Sub.cons rfl (Sub.nil _))))
      · skip
        refine t_op ?_
        refine q_allocB rfl fun w132 bl132 hg132 hb132 hB132 => ?_
        replace f1 := f1.ext hB132
        replace f127 := f127.ext hB132
        replace f126 := f126.ext hB132
        replace hS := hS.newBlk hB132 hg132 hb132
        refine eseq_nil ?_
        refine t_op ?_
        refine q_call rfl (orphan_label_w (Sep.enter (As := []) hS) f127 hr102) rfl ?_
        rintro _ w134 ⟨R134, rfl, hC134⟩
        have hB134 : Below (World.heap w132).size w132 w134 := hC134.stepB0
        refine ⟨fun _ => .of_below hB134, ?_⟩
        replace f1 := (f1.ext hB134).mono fun k hk _ => hC134.ro0 k hk
        replace f127 := (f127.ext hB134).mono fun k hk _ => hC134.ro0 k hk
        replace f126 := (f126.ext hB134).mono fun k hk _ => hC134.ro0 k hk
        replace hS := Sep.leave (As := []) hS hC134; simp only [List.cons_append, List.nil_append] at hS
        refine eseq_nil ?_
        refine t_op ?_
        refine q_move rfl rfl ?_
        refine eseq_nil ?_
        refine t_op ?_
        refine q_extract rfl rfl rfl ?_
        refine eseq_nil ?_
        refine t_op ?_
        refine q_extract rfl rfl rfl ?_
        refine eseq_nil ?_
        refine t_op ?_
        refine q_storeAgg rfl rfl (hS.blk 0 rfl) rfl (Nat.le_of_ble_eq_true rfl) (all_cons rfl (all_cons rfl (all_nil))) rfl rfl fun w135 hb135 hO135 => ?_
        simp only [setN, List.set, List.take, List.drop] at hb135
        have hk135 := hS.keptBlk 0 rfl hO135
        replace f1 := f1.kept hk135
        replace f127 := f127.kept hk135
        replace hS := hS.setBlk 0 rfl hb135 hO135; simp only [List.set] at hS
        refine eseq_nil ?_
        refine t_op ?_
        refine q_assign rfl rfl ?_
        refine eseq_nil ?_
        refine t_fin ?_
        exact hJt120 r102 bl132 _ _ _ h (hS.pickB [1, 0] 2 rfl rfl)  (Sub.cons rfl (Sub.cons rfl (Sub.cons rfl (Sub.nil _))))
theorem orphan_Consistent_w {F R : Nat → Prop} {w : World} {fuel : Nat} {a0 : (List (List Evt))} {a1 : (List Int)} {v1 : Value} {v2 : Value} {r : (Bool)} (hS : Sep F R R w w []) (f1 : IsSlice (Ty.slice evtTy) w R v1 a0) (f2 : IsSlice Ty.int w R v2 a1) (h : orphan_Consistent fuel a0 a1 = some r) :
    Gives Try.prog 34 [v1, v2] w fun u w1 => ∃ (R1 : Nat → Prop), u = .bool r ∧ Sep F R R1 w w1 [] := by
  refine fn_of Try.func34 rfl Try.ntmps34 (Nat.le_of_ble_eq_true rfl) ?_
  unfold orphan_Consistent at h
  refine e_seq fun K413 hK413 => ?_
  refine e_region_text rfl ?_
  refine q_assign rfl rfl ?_
  refine eseq_nil ?_
  refine hK413 _ _ ?_
  refine e_seq fun K414 hK414 => ?_
  refine e_seq fun K415 hK415 => ?_
  refine e_region_text rfl ?_
  refine q_move rfl rfl ?_
  refine q_lenS rfl f2 rfl ?_
  refine q_move rfl rfl ?_
  refine q_lenS rfl f1 rfl ?_
  refine q_neq rfl rfl rfl ?_
  refine eseq_nil ?_
  refine hK415 _ _ ?_
  refine e_cond rfl (fun hc416 => ?_) (fun hc416 => ?_)
  · replace h := (if_pos hc416).symm.trans h
    refine e_seq fun K417 hK417 => ?_
    refine e_region_text rfl ?_
    refine q_assign rfl rfl ?_
    refine eseq_nil ?_
    refine hK417 _ _ ?_
    refine e_ret ?_
    obtain rfl := Option.some.inj h
    exact ⟨_, res1 rfl rfl, _, rfl, hS⟩
  · replace h := (if_neg (not_true hc416)).symm.trans h
    refine e_skip ?_
    refine hK414 _ _ ?_
    refine e_seq fun K418 hK418 => ?_
    refine e_seq fun K419 hK419 => ?_
    refine e_region_text rfl ?_
    refine q_move rfl rfl ?_
    refine q_lenS rfl f1 rfl ?_
    refine q_move rfl rfl ?_
    refine eseq_nil ?_
    refine hK419 _ _ ?_
    refine e_block ?_
    obtain ⟨tl420, ht420, h⟩ := Option.of_bind h
    have hX420_0 : ∀ (R486 : Nat → Prop) (w487 : World) (E_ : Env), orphan_Consistent_K1 fuel a0 a1 = some r → Sep F R R486 w w487 [] → IsSlice (Ty.slice evtTy) w487 R486 v1 a0 → IsSlice Ty.int w487 R486 v2 a1 → Sub [(0, v1), (1, v2)] E_ → K418 E_ w487 := by
      intro R486 w487 E_ h hS f488 f489 hsub
      refine hK418 _ _ (e_sub hsub ?_); clear hsub
      unfold orphan_Consistent_K1 at h
      refine e_seq fun K490 hK490 => ?_
      refine e_seq fun K491 hK491 => ?_
      refine e_region_text rfl ?_
      refine q_move rfl rfl ?_
      refine q_lenS rfl f488 rfl ?_
      refine q_move rfl rfl ?_
      refine eseq_nil ?_
      refine hK491 _ _ ?_
      refine e_block ?_
      obtain ⟨tl492, ht492, h⟩ := Option.of_bind h
      have hX492_2 : ∀ (R704 : Nat → Prop) (w705 : World) (E_ : Env), orphan_Consistent_K2 fuel = some r → Sep F R R704 w w705 [] → Sub [] E_ → K490 E_ w705 := by
        intro R704 w705 E_ h hS  hsub
        refine hK490 _ _ (e_sub hsub ?_); clear hsub
        unfold orphan_Consistent_K2 at h
        refine e_seq fun K706 hK706 => ?_
        refine e_region_text rfl ?_
        refine q_assign rfl rfl ?_
        refine eseq_nil ?_
        refine hK706 _ _ ?_
        refine e_ret ?_
        obtain rfl := Option.some.inj h
        exact ⟨_, res1 rfl rfl, _, rfl, hS⟩
      refine e_loop (fun m_ E_ w599 => ∃ (x603 : Int), ∃ (R598 : Nat → Prop), iter (fun s => orphan_Consistent_B1 fuel a0 a1 s) m_ x603 = some tl492 ∧ Sep F R R598 w w599 [] ∧ IsSlice (Ty.slice evtTy) w599 R598 v1 a0 ∧ IsSlice Ty.int w599 R598 v2 a1 ∧ IsSlice (Ty.slice evtTy) w599 R598 v1 a0 ∧ E_ = [(0, v1), (1, v2), (38, v1), (39, .int .i64 (a0.length : Int)), (40, .int .i64 x603)]) _ ⟨_, ⟨0, _, ht492, hS, f488, f489, f488, rfl⟩, Sub.cons rfl (Sub.cons rfl (Sub.cons rfl (Sub.cons rfl (Sub.cons rfl (Sub.nil _)))))⟩ ?_
      clear ht492 hS
      rintro m492 _ w599 ⟨x603, R598, ht492, hS, f600, f601, f602, rfl⟩
      obtain ⟨m492, rfl, o492, ho492, ht492⟩ := iter_some ht492
      replace ho492 : orphan_Consistent_B1 fuel a0 a1 x603 = some o492 := ho492
      unfold orphan_Consistent_B1 at ho492
      refine e_seq fun K707 hK707 => ?_
      refine e_region_text rfl ?_
      refine q_lss rfl rfl rfl ?_
      refine eseq_nil ?_
      refine hK707 _ _ ?_
      refine e_seq fun K708 hK708 => ?_
      refine e_cond rfl (fun hc709 => ?_) (fun hc709 => ?_)
      · replace ho492 := (if_pos hc709).symm.trans ho492
        refine e_skip ?_
        refine hK708 _ _ ?_
        refine e_seq fun K710 hK710 => ?_
        refine e_block ?_
        refine e_seq fun K711 hK711 => ?_
        refine e_region_text rfl ?_
        refine q_move rfl rfl ?_
        obtain ⟨x712, hx712, ho492⟩ := Option.of_bind ho492
        refine q_atS (by infer_instance) rfl f602 rfl hx712 rfl fun b713 o713 hm713 f713 => ?_
        refine q_loadE rfl f713 rfl (fun v714 f714 => ?_)
        refine q_assign rfl rfl ?_
        refine q_assign rfl rfl ?_
        refine eseq_nil ?_
        refine hK711 _ _ ?_
        refine e_seq fun K715 hK715 => ?_
        refine e_region_text rfl ?_
        refine q_move rfl rfl ?_
        refine q_move rfl rfl ?_
        refine q_move rfl rfl ?_
        obtain ⟨x716, hx716, ho492⟩ := Option.of_bind ho492
        refine q_atS (by infer_instance) rfl f601 rfl hx716 rfl fun b717 o717 hm717 f717 => ?_
        refine q_load rfl (Elt.intCell f717) rfl ?_
        obtain ⟨x719, hx719, ho492⟩ := Option.of_bind ho492
        refine q_takeS (by infer_instance) rfl f714 rfl hx719 rfl fun v718 f718 => ?_
        refine q_lenS rfl f718 rfl ?_
        refine q_move rfl rfl ?_
        refine eseq_nil ?_
        refine hK715 _ _ ?_
        refine e_block ?_
        obtain ⟨tl720, ht720, ho492⟩ := Option.of_bind ho492
        have hX720_4 : ∀ (R780 : Nat → Prop) (w781 : World) (E_ : Env), orphan_Consistent_K3 fuel x603 = some o492 → Sep F R R780 w w781 [] → IsSlice (Ty.slice evtTy) w781 R780 v1 a0 → IsSlice Ty.int w781 R780 v2 a1 → IsSlice (Ty.slice evtTy) w781 R780 v1 a0 → Sub [(0, v1), (1, v2), (38, v1), (39, .int .i64 (a0.length : Int)), (40, .int .i64 x603)] E_ → K710 E_ w781 := by
          intro R780 w781 E_ ho492 hS f782 f783 f784 hsub
          refine hK710 _ _ (e_sub hsub ?_); clear hsub
          unfold orphan_Consistent_K3 at ho492
          refine e_region_text rfl ?_
          refine q_addW rfl rfl rfl ?_
          refine q_move rfl rfl ?_
          refine eseq_nil ?_
          obtain rfl := Option.some.inj ho492
          exact ⟨m492, _, Nat.lt_succ_self _, ⟨(w64 (x603 + 1)), _, ht492, hS, f782, f783, f784, rfl⟩, Sub.cons rfl (Sub.cons rfl (Sub.cons rfl (Sub.cons rfl (Sub.cons rfl (Sub.nil _)))))⟩
        refine e_loop (fun m_ E_ w751 => ∃ (x756 : Int), ∃ (R750 : Nat → Prop), iter (fun s => orphan_Consistent_B2 fuel x719 a0 a1 x603 s) m_ x756 = some tl720 ∧ Sep F R R750 w w751 [] ∧ IsSlice (Ty.slice evtTy) w751 R750 v1 a0 ∧ IsSlice Ty.int w751 R750 v2 a1 ∧ IsSlice (Ty.slice evtTy) w751 R750 v1 a0 ∧ IsSlice evtTy w751 R750 v718 x719 ∧ E_ = [(0, v1), (1, v2), (7, .int .i64 x603), (38, v1), (39, .int .i64 (a0.length : Int)), (40, .int .i64 x603), (50, v718), (51, .int .i64 (x719.length : Int)), (52, .int .i64 x756)]) _ ⟨_, ⟨0, _, ht720, hS, f600, f601, f602, f718, rfl⟩, Sub.cons rfl (Sub.cons rfl (Sub.cons rfl (Sub.cons rfl (Sub.cons rfl (Sub.cons rfl (Sub.cons rfl (Sub.cons rfl (Sub.cons rfl (Sub.nil _)))))))))⟩ ?_
        clear ht720 hS
        rintro m720 _ w751 ⟨x756, R750, ht720, hS, f752, f753, f754, f755, rfl⟩
        obtain ⟨m720, rfl, o720, ho720, ht720⟩ := iter_some ht720
        replace ho720 : orphan_Consistent_B2 fuel x719 a0 a1 x603 x756 = some o720 := ho720
        unfold orphan_Consistent_B2 at ho720
        refine e_seq fun K785 hK785 => ?_
        refine e_region_text rfl ?_
        refine q_lss rfl rfl rfl ?_
        refine eseq_nil ?_
        refine hK785 _ _ ?_
        refine e_seq fun K786 hK786 => ?_
        refine e_cond rfl (fun hc787 => ?_) (fun hc787 => ?_)
        · replace ho720 := (if_pos hc787).symm.trans ho720
          refine e_skip ?_
          refine hK786 _ _ ?_
          refine e_seq fun K788 hK788 => ?_
          refine e_block ?_
          refine e_seq fun K789 hK789 => ?_
          refine e_region_text rfl ?_
          obtain ⟨x790, hx790, ho720⟩ := Option.of_bind ho720
          refine q_atS (by infer_instance) rfl f755 rfl hx790 rfl fun b791 o791 hm791 f791 => ?_
          have hc792 := Evt_open f791
          refine q_loadAgg rfl hc792 rfl rfl ?_
          refine q_allocB rfl fun w793 bl793 hg793 hb793 hB793 => ?_
          replace f752 := f752.ext hB793
          replace f753 := f753.ext hB793
          replace f754 := f754.ext hB793
          replace f755 := f755.ext hB793
          replace hS := hS.newBlk hB793 hg793 hb793
          refine q_storeAgg rfl rfl (hS.blk 0 rfl) rfl (Nat.le_of_ble_eq_true rfl) (all_cons rfl (all_cons rfl (all_cons rfl (all_cons rfl (all_cons rfl (all_cons rfl (all_cons rfl (all_nil)))))))) rfl rfl fun w795 hb795 hO795 => ?_
          simp only [setN, List.set, List.take, List.drop] at hb795
          have hk795 := hS.keptBlk 0 rfl hO795
          replace f752 := f752.kept hk795
          replace f753 := f753.kept hk795
          replace f754 := f754.kept hk795
          replace f755 := f755.kept hk795
          replace hS := hS.setBlk 0 rfl hb795 hO795; simp only [List.set] at hS
          refine eseq_nil ?_
          refine hK789 _ _ ?_
          refine e_seq fun K796 hK796 => ?_
          refine e_region_text rfl ?_
          refine q_move rfl rfl ?_
          refine q_move rfl rfl ?_
          refine q_move rfl rfl ?_
          refine q_loadAgg rfl (Blk.cellsAt (hS.blk 0 rfl) 0 7 rfl) rfl rfl ?_
          obtain ⟨r798, hr798, ho720⟩ := Option.of_bind ho720
          refine q_call rfl (orphan_fits_w (a3 := (⟨x790.kind, x790.inc, x790.frm, (⟨x790.sent.inc, x790.sent.index⟩ : Lab), x790.ord, x790.value⟩ : Evt)) (Sep.enter (As := []) hS) f752 f753 hr798) rfl ?_
          rintro _ w797 ⟨R797, rfl, hC797⟩
          have hB797 : Below (World.heap w795).size w795 w797 := hC797.stepB0
          refine ⟨fun _ => .of_below hB797, ?_⟩
          replace f752 := (f752.ext hB797).mono fun k hk _ => hC797.ro0 k hk
          replace f753 := (f753.ext hB797).mono fun k hk _ => hC797.ro0 k hk
          replace f754 := (f754.ext hB797).mono fun k hk _ => hC797.ro0 k hk
          replace f755 := (f755.ext hB797).mono fun k hk _ => hC797.ro0 k hk
          replace hS := Sep.leave (As := []) hS hC797; simp only [List.cons_append, List.nil_append] at hS
          refine q_not rfl rfl ?_
          refine eseq_nil ?_
          refine hK796 _ _ ?_
          refine e_cond rfl (fun hc799 => ?_) (fun hc799 => ?_)
          · replace ho720 := (if_pos hc799).symm.trans ho720
            refine e_seq fun K800 hK800 => ?_
            refine e_region_text rfl ?_
            refine q_assign rfl rfl ?_
            refine eseq_nil ?_
            refine hK800 _ _ ?_
            refine e_ret ?_
            obtain rfl := Option.some.inj ho720
            obtain rfl := Option.some.inj ht720
            obtain rfl := Option.some.inj ho492
            obtain rfl := Option.some.inj ht492
            obtain rfl := Option.some.inj h
            exact ⟨_, res1 rfl rfl, _, rfl, (hS.pickB [] 1 rfl rfl)⟩
          · replace ho720 := (if_neg (not_true hc799)).symm.trans ho720
            refine e_skip ?_
            refine hK788 _ _ ?_
            refine e_region_text rfl ?_
            refine q_addW rfl rfl rfl ?_
            refine q_move rfl rfl ?_
            refine eseq_nil ?_
            obtain rfl := Option.some.inj ho720
            exact ⟨m720, _, Nat.lt_succ_self _, ⟨(w64 (x756 + 1)), _, ht720, (hS.pickB [] 1 rfl rfl), f752, f753, f754, f755, rfl⟩, Sub.cons rfl (Sub.cons rfl (Sub.cons rfl (Sub.cons rfl (Sub.cons rfl (Sub.cons rfl (Sub.cons rfl (Sub.cons rfl (Sub.cons rfl (Sub.nil _)))))))))⟩
        · replace ho720 := (if_neg (not_true hc787)).symm.trans ho720
          refine e_exit ?_
          obtain rfl := Option.some.inj ho720
          obtain rfl := Option.some.inj ht720
          exact hX720_4  _ _ _ ho492 hS f752 f753 f754 (Sub.cons rfl (Sub.cons rfl (Sub.cons rfl (Sub.cons rfl (Sub.cons rfl (Sub.nil _))))))
      · replace ho492 := (if_neg (not_true hc709)).symm.trans ho492
        refine e_exit ?_
        obtain rfl := Option.some.inj ho492
        obtain rfl := Option.some.inj ht492
        exact hX492_2  _ _ _ h hS  (Sub.nil _)
    refine e_loop (fun m_ E_ w454 => ∃ (x458 : Int), ∃ (R453 : Nat → Prop), iter (fun s => orphan_Consistent_B3 fuel a0 a1 s) m_ x458 = some tl420 ∧ Sep F R R453 w w454 [] ∧ IsSlice (Ty.slice evtTy) w454 R453 v1 a0 ∧ IsSlice Ty.int w454 R453 v2 a1 ∧ IsSlice (Ty.slice evtTy) w454 R453 v1 a0 ∧ E_ = [(0, v1), (1, v2), (16, v1), (17, .int .i64 (a0.length : Int)), (18, .int .i64 x458)]) _ ⟨_, ⟨0, _, ht420, hS, f1, f2, f1, rfl⟩, Sub.cons rfl (Sub.cons rfl (Sub.cons rfl (Sub.cons rfl (Sub.cons rfl (Sub.nil _)))))⟩ ?_
    clear ht420 hS
    rintro m420 _ w454 ⟨x458, R453, ht420, hS, f455, f456, f457, rfl⟩
    obtain ⟨m420, rfl, o420, ho420, ht420⟩ := iter_some ht420
    replace ho420 : orphan_Consistent_B3 fuel a0 a1 x458 = some o420 := ho420
    unfold orphan_Consistent_B3 at ho420
    refine e_seq fun K801 hK801 => ?_
    refine e_region_text rfl ?_
    refine q_lss rfl rfl rfl ?_
    refine eseq_nil ?_
    refine hK801 _ _ ?_
    refine e_seq fun K802 hK802 => ?_
    refine e_cond rfl (fun hc803 => ?_) (fun hc803 => ?_)
    · replace ho420 := (if_pos hc803).symm.trans ho420
      refine e_skip ?_
      refine hK802 _ _ ?_
      refine e_seq fun K804 hK804 => ?_
      refine e_block ?_
      refine e_seq fun K805 hK805 => ?_
      refine e_region_text rfl ?_
      refine q_move rfl rfl ?_
      obtain ⟨x806, hx806, ho420⟩ := Option.of_bind ho420
      refine q_atS (by infer_instance) rfl f457 rfl hx806 rfl fun b807 o807 hm807 f807 => ?_
      refine q_loadE rfl f807 rfl (fun v808 f808 => ?_)
      refine q_assign rfl rfl ?_
      refine q_assign rfl rfl ?_
      refine eseq_nil ?_
      refine hK805 _ _ ?_
      refine e_seq fun K809 hK809 => ?_
      refine e_region_text rfl ?_
      refine q_move rfl rfl ?_
      refine q_move rfl rfl ?_
      obtain ⟨x810, hx810, ho420⟩ := Option.of_bind ho420
      refine q_atS (by infer_instance) rfl f456 rfl hx810 rfl fun b811 o811 hm811 f811 => ?_
      refine q_load rfl (Elt.intCell f811) rfl ?_
      refine q_lss rfl rfl rfl ?_
      refine q_move rfl rfl ?_
      obtain ⟨x817, hx816, ho420⟩ := Option.of_bind ho420
      refine g_orM 7 hx816 rfl trivial rfl rfl ?_ ?_ ?_
      · intro hg816
        refine g_skip rfl rfl rfl ?_
        refine g_skip rfl rfl rfl ?_
        refine g_skip rfl rfl rfl ?_
        refine g_skip rfl rfl rfl ?_
        refine g_skip rfl rfl rfl ?_
        refine g_skip rfl rfl rfl ?_
        refine g_skip rfl rfl rfl ?_
        exact eseq_nil ⟨rfl, Sub.set rfl (Sub.set rfl (Sub.set rfl (Sub.set rfl (Sub.set rfl (Sub.set rfl (Sub.set rfl (Sub.bool true rfl hg816)))))))⟩
      · intro hg816 hx816
        clear ho420
        have hT816 := Below.refl (World.heap w454).size w454
        refine g_run rfl ?_; refine q_move rfl rfl ?_
        refine g_run rfl ?_; refine q_move rfl rfl ?_
        obtain ⟨x818, hx818, hx816⟩ := Option.of_bind hx816
        refine g_run rfl ?_; refine q_atS (by infer_instance) rfl f456 rfl hx818 rfl fun b819 o819 hm819 f819 => ?_
        refine g_run rfl ?_; refine q_load rfl (Elt.intCell f819) rfl ?_
        refine g_run rfl ?_; refine q_move rfl rfl ?_
        refine g_run rfl ?_; refine q_lenS rfl f808 rfl ?_
        refine g_run rfl ?_; refine q_gtr rfl rfl rfl ?_
        cases hx816
        exact eseq_nil ⟨hT816, Sub.set rfl (Sub.set rfl (Sub.set rfl (Sub.set rfl (Sub.set rfl (Sub.set rfl (Sub.set rfl (Sub.bool false rfl hg816))))))), rfl⟩
      intro wm816 hBm816; clear hx816
      replace hS := hS.below hBm816
      replace f455 := f455.ext hBm816
      replace f456 := f456.ext hBm816
      replace f457 := f457.ext hBm816
      refine eseq_nil ?_
      refine hK809 _ _ ?_
      refine e_cond rfl (fun hc820 => ?_) (fun hc820 => ?_)
      · replace ho420 := (if_pos hc820).symm.trans ho420
        refine e_seq fun K821 hK821 => ?_
        refine e_region_text rfl ?_
        refine q_assign rfl rfl ?_
        refine eseq_nil ?_
        refine hK821 _ _ ?_
        refine e_ret ?_
        obtain rfl := Option.some.inj ho420
        obtain rfl := Option.some.inj ht420
        obtain rfl := Option.some.inj h
        exact ⟨_, res1 rfl rfl, _, rfl, hS⟩
      · replace ho420 := (if_neg (not_true hc820)).symm.trans ho420
        refine e_skip ?_
        refine hK804 _ _ ?_
        refine e_region_text rfl ?_
        refine q_addW rfl rfl rfl ?_
        refine q_move rfl rfl ?_
        refine eseq_nil ?_
        obtain rfl := Option.some.inj ho420
        exact ⟨m420, _, Nat.lt_succ_self _, ⟨(w64 (x458 + 1)), _, ht420, hS, f455, f456, f457, rfl⟩, Sub.cons rfl (Sub.cons rfl (Sub.cons rfl (Sub.cons rfl (Sub.cons rfl (Sub.nil _)))))⟩
    · replace ho420 := (if_neg (not_true hc803)).symm.trans ho420
      refine e_exit ?_
      obtain rfl := Option.some.inj ho420
      obtain rfl := Option.some.inj ht420
      exact hX420_0  _ _ _ h hS f455 f456 (Sub.cons rfl (Sub.cons rfl (Sub.nil _)))
theorem orphan_Lower_1_w {F R : Nat → Prop} {w : World} {fuel : Nat} {a0 : Evt} {c1_0 : (List (List Evt))} {c2_0 : (List Int)} {c3_0 : Int} {B1 : Nat} {v2 : Value} {B2 : Nat} {v4 : Value} {B3 : Nat} {r : (Bool)} (hS : Sep F R R w w []) (f1 : Lent w R B1 [v2] 59) (f2 : IsSlice (Ty.slice evtTy) w R v2 c1_0) (f3 : Lent w R B2 [v4] 24) (f4 : IsSlice Ty.int w R v4 c2_0) (f5 : Lent w R B3 [.int .i64 c3_0] 3) (h : orphan_Lower_1 fuel a0 c1_0 c2_0 c3_0 = some r) :
    Gives Try.prog 55 [.agg #[.int .i64 a0.kind, .int .i64 a0.inc, .int .i64 a0.frm, .int .i64 a0.sent.inc, .int .i64 a0.sent.index, .int .i64 a0.ord, .int .i64 a0.value], .pointer (some ⟨B1, 0, none⟩), .pointer (some ⟨B2, 0, none⟩), .pointer (some ⟨B3, 0, none⟩)] w fun u w1 => ∃ (R1 : Nat → Prop), u = .bool r ∧ Sep F R R1 w w1 [] := by
  refine fn_of Try.func55 rfl Try.ntmps55 (Nat.le_of_ble_eq_true rfl) ?_
  unfold orphan_Lower_1 at h
  refine e_seq fun K12 hK12 => ?_
  refine e_region_text rfl ?_
  refine q_boxB rfl rfl rfl fun w13 bl13 hg13 hb13 hB13 => ?_
  replace f1 := f1.ext hB13
  replace f2 := f2.ext hB13
  replace f3 := f3.ext hB13
  replace f4 := f4.ext hB13
  replace f5 := f5.ext hB13
  replace hS := hS.newBlk hB13 hg13 hb13
  refine q_assign rfl rfl ?_
  refine eseq_nil ?_
  refine hK12 _ _ ?_
  refine e_seq fun K15 hK15 => ?_
  refine e_region_text rfl ?_
  refine q_load rfl (Blk.cell f1.blk rfl) rfl ?_
  refine q_load rfl (Blk.cell f3.blk rfl) rfl ?_
  refine q_load rfl (Blk.cell f5.blk rfl) rfl ?_
  refine q_loadAgg rfl (Blk.cellsAt (hS.blk 0 rfl) 0 7 rfl) rfl rfl ?_
  obtain ⟨r17, hr17, h⟩ := Option.of_bind h
  refine q_call rfl (orphan_fits_w (a3 := (⟨a0.kind, a0.inc, a0.frm, (⟨a0.sent.inc, a0.sent.index⟩ : Lab), a0.ord, a0.value⟩ : Evt)) (Sep.enter (As := []) hS) f2 f4 hr17) rfl ?_
  rintro _ w16 ⟨R16, rfl, hC16⟩
  have hB16 : Below (World.heap w13).size w13 w16 := hC16.stepB0
  refine ⟨fun _ => .of_below hB16, ?_⟩
  replace f2 := (f2.ext hB16).mono fun k hk _ => hC16.ro0 k hk
  replace f4 := (f4.ext hB16).mono fun k hk _ => hC16.ro0 k hk
  replace hS := Sep.leave (As := []) hS hC16; simp only [List.cons_append, List.nil_append] at hS
  refine q_not rfl rfl ?_
  refine q_assign rfl rfl ?_
  refine eseq_nil ?_
  refine hK15 _ _ ?_
  refine e_ret ?_
  obtain rfl := Option.some.inj h
  exact ⟨_, res1 rfl rfl, _, rfl, (hS.pickB [] 1 rfl rfl)⟩
theorem slices_IndexFunc_w {F R : Nat → Prop} {w : World} {fuel : Nat} {a0 : (List Evt)} {c1a_0 : (List (List Evt))} {c1b_0 : (List Int)} {c1c_0 : Int} {v1 : Value} {B1_0 : Nat} {v3 : Value} {B1_1 : Nat} {v5 : Value} {B1_2 : Nat} {r : (Int)} (hS : Sep F R R w w []) (f1 : IsSlice evtTy w R v1 a0) (f2 : Lent w R B1_0 [v3] 59) (f3 : IsSlice (Ty.slice evtTy) w R v3 c1a_0) (f4 : Lent w R B1_1 [v5] 24) (f5 : IsSlice Ty.int w R v5 c1b_0) (f6 : Lent w R B1_2 [.int .i64 c1c_0] 3) (h : slices_IndexFunc fuel a0 c1a_0 c1b_0 c1c_0 = some r) :
    Gives Try.prog 54 [v1, .func (.func 55) #[] #[.pointer (some ⟨B1_0, 0, none⟩), .pointer (some ⟨B1_1, 0, none⟩), .pointer (some ⟨B1_2, 0, none⟩)]] w fun u w1 => ∃ (R1 : Nat → Prop), u = .int .i64 r ∧ Sep F R R1 w w1 [] := by
  refine fn_of Try.func54 rfl Try.ntmps54 (Nat.le_of_ble_eq_true rfl) ?_
  unfold slices_IndexFunc at h
  refine e_seq fun K89 hK89 => ?_
  refine e_region_text rfl ?_
  refine q_assign rfl rfl ?_
  refine eseq_nil ?_
  refine hK89 _ _ ?_
  refine e_seq fun K90 hK90 => ?_
  refine e_seq fun K91 hK91 => ?_
  refine e_region_text rfl ?_
  refine q_move rfl rfl ?_
  refine q_lenS rfl f1 rfl ?_
  refine q_move rfl rfl ?_
  refine eseq_nil ?_
  refine hK91 _ _ ?_
  refine e_block ?_
  obtain ⟨tl92, ht92, h⟩ := Option.of_bind h
  have hX92_0 : ∀ (R154 : Nat → Prop) (w155 : World) (E_ : Env), slices_IndexFunc_K1 fuel = some r → Sep F R R154 w w155 [] → Sub [] E_ → K90 E_ w155 := by
    intro R154 w155 E_ h hS  hsub
    refine hK90 _ _ (e_sub hsub ?_); clear hsub
    unfold slices_IndexFunc_K1 at h
    refine e_seq fun K156 hK156 => ?_
    refine e_region_text rfl ?_
    refine q_assign rfl rfl ?_
    refine eseq_nil ?_
    refine hK156 _ _ ?_
    refine e_ret ?_
    obtain rfl := Option.some.inj h
    exact ⟨_, res1 rfl rfl, _, rfl, hS⟩
  refine e_loop (fun m_ E_ w124 => ∃ (x131 : Int), ∃ (R123 : Nat → Prop), iter (fun s => slices_IndexFunc_B1 fuel a0 c1a_0 c1b_0 c1c_0 s) m_ x131 = some tl92 ∧ Sep F R R123 w w124 [] ∧ IsSlice evtTy w124 R123 v1 a0 ∧ Lent w124 R123 B1_0 [v3] 59 ∧ IsSlice (Ty.slice evtTy) w124 R123 v3 c1a_0 ∧ Lent w124 R123 B1_1 [v5] 24 ∧ IsSlice Ty.int w124 R123 v5 c1b_0 ∧ Lent w124 R123 B1_2 [.int .i64 c1c_0] 3 ∧ E_ = [(0, v1), (1, .func (.func 55) #[] #[.pointer (some ⟨B1_0, 0, none⟩), .pointer (some ⟨B1_1, 0, none⟩), .pointer (some ⟨B1_2, 0, none⟩)]), (7, .int .i64 (a0.length : Int)), (8, .int .i64 x131)]) _ ⟨_, ⟨0, _, ht92, hS, f1, f2, f3, f4, f5, f6, rfl⟩, Sub.cons rfl (Sub.cons rfl (Sub.cons rfl (Sub.cons rfl (Sub.nil _))))⟩ ?_
  clear ht92 hS
  rintro m92 _ w124 ⟨x131, R123, ht92, hS, f125, f126, f127, f128, f129, f130, rfl⟩
  obtain ⟨m92, rfl, o92, ho92, ht92⟩ := iter_some ht92
  replace ho92 : slices_IndexFunc_B1 fuel a0 c1a_0 c1b_0 c1c_0 x131 = some o92 := ho92
  unfold slices_IndexFunc_B1 at ho92
  refine e_seq fun K157 hK157 => ?_
  refine e_region_text rfl ?_
  refine q_lss rfl rfl rfl ?_
  refine eseq_nil ?_
  refine hK157 _ _ ?_
  refine e_seq fun K158 hK158 => ?_
  refine e_cond rfl (fun hc159 => ?_) (fun hc159 => ?_)
  · replace ho92 := (if_pos hc159).symm.trans ho92
    refine e_skip ?_
    refine hK158 _ _ ?_
    refine e_seq fun K160 hK160 => ?_
    refine e_block ?_
    refine e_seq fun K161 hK161 => ?_
    refine e_region_text rfl ?_
    refine q_move rfl rfl ?_
    refine q_assign rfl rfl ?_
    refine eseq_nil ?_
    refine hK161 _ _ ?_
    refine e_seq fun K162 hK162 => ?_
    refine e_region_text rfl ?_
    refine q_move rfl rfl ?_
    refine q_move rfl rfl ?_
    refine q_move rfl rfl ?_
    obtain ⟨x163, hx163, ho92⟩ := Option.of_bind ho92
    refine q_atS (by infer_instance) rfl f125 rfl hx163 rfl fun b164 o164 hm164 f164 => ?_
    have hc165 := Evt_open f164
    refine q_loadAgg rfl hc165 rfl rfl ?_
    obtain ⟨r167, hr167, ho92⟩ := Option.of_bind ho92
    refine q_callC rfl rfl (orphan_Lower_1_w (a0 := x163) (Sep.enter (As := []) hS) f126 f127 f128 f129 f130 hr167) rfl ?_
    rintro _ w166 ⟨R166, rfl, hC166⟩
    have hB166 : Below (World.heap w124).size w124 w166 := hC166.stepB0
    refine ⟨fun _ => .of_below hB166, ?_⟩
    replace f125 := (f125.ext hB166).mono fun k hk _ => hC166.ro0 k hk
    replace f126 := (f126.ext hB166).mono fun k hk _ => hC166.ro0 k hk
    replace f127 := (f127.ext hB166).mono fun k hk _ => hC166.ro0 k hk
    replace f128 := (f128.ext hB166).mono fun k hk _ => hC166.ro0 k hk
    replace f129 := (f129.ext hB166).mono fun k hk _ => hC166.ro0 k hk
    replace f130 := (f130.ext hB166).mono fun k hk _ => hC166.ro0 k hk
    replace hS := Sep.leave (As := []) hS hC166; simp only [List.cons_append, List.nil_append] at hS
    refine eseq_nil ?_
    refine hK162 _ _ ?_
    refine e_cond rfl (fun hc168 => ?_) (fun hc168 => ?_)
    · replace ho92 := (if_pos hc168).symm.trans ho92
      refine e_seq fun K169 hK169 => ?_
      refine e_region_text rfl ?_
      refine q_move rfl rfl ?_
      refine q_assign rfl rfl ?_
      refine eseq_nil ?_
      refine hK169 _ _ ?_
      refine e_ret ?_
      obtain rfl := Option.some.inj ho92
      obtain rfl := Option.some.inj ht92
      obtain rfl := Option.some.inj h
      exact ⟨_, res1 rfl rfl, _, rfl, hS⟩
    · replace ho92 := (if_neg (not_true hc168)).symm.trans ho92
      refine e_skip ?_
      refine hK160 _ _ ?_
      refine e_region_text rfl ?_
      refine q_addW rfl rfl rfl ?_
      refine q_move rfl rfl ?_
      refine eseq_nil ?_
      obtain rfl := Option.some.inj ho92
      exact ⟨m92, _, Nat.lt_succ_self _, ⟨(w64 (x131 + 1)), _, ht92, hS, f125, f126, f127, f128, f129, f130, rfl⟩, Sub.cons rfl (Sub.cons rfl (Sub.cons rfl (Sub.cons rfl (Sub.nil _))))⟩
  · replace ho92 := (if_neg (not_true hc159)).symm.trans ho92
    refine e_exit ?_
    obtain rfl := Option.some.inj ho92
    obtain rfl := Option.some.inj ht92
    exact hX92_0  _ _ _ h hS  (Sub.nil _)
theorem orphan_Lower_w {F R : Nat → Prop} {w : World} {fuel : Nat} {a0 : (List (List Evt))} {a1 : (List Int)} {v1 : Value} {v2 : Value} {r : ((List Int))} (hS : Sep F R R w w []) (f1 : IsSlice (Ty.slice evtTy) w R v1 a0) (f2 : IsSlice Ty.int w R v2 a1) (h : orphan_Lower fuel a0 a1 = some r) :
    Gives Try.prog 30 [v1, v2] w fun u w1 => ∃ (v451 : Value), ∃ (R1 : Nat → Prop), u = v451 ∧ Sep F R R1 w w1 [HP.own Ty.int (fun _ => False) 3 v451 r] := by
  refine fn_of Try.func30 rfl Try.ntmps30 (Nat.le_of_ble_eq_true rfl) ?_
  unfold orphan_Lower at h
  refine e_seq fun K452 hK452 => ?_
  refine e_region_text rfl ?_
  refine q_boxB rfl (cells_one f1.one) rfl fun w453 bl453 hg453 hb453 hB453 => ?_
  replace f1 := f1.ext hB453
  replace f2 := f2.ext hB453
  replace hS := hS.newBlk hB453 hg453 hb453
  refine q_assign rfl rfl ?_
  refine eseq_nil ?_
  refine hK452 _ _ ?_
  refine e_scope ?_
  refine e_seq fun K455 hK455 => ?_
  refine e_region_text rfl ?_
  refine q_load rfl (Blk.cell (hS.blk 0 rfl) rfl) rfl ?_
  refine q_lenS rfl f1 rfl ?_
  obtain ⟨x456, hx456, h⟩ := Option.of_bind h
  refine q_makeO (T := Ty.int) (S := (fun _ => False)) rfl rfl rfl hx456 (fun _ h => h.elim) rfl fun w457 v457 ho457 hv457 hB457 => ?_
  replace f2 := f2.ext hB457
  replace f1 := f1.ext hB457
  replace hS := hS.newOwnS hB457 ho457 hv457 (fun _ h => h.elim)
  refine q_allocB rfl fun w459 bl459 hg459 hb459 hB459 => ?_
  replace f2 := f2.ext hB459
  replace f1 := f1.ext hB459
  replace hS := hS.newBlk hB459 hg459 hb459
  refine q_store rfl rfl (hS.blk 0 rfl) (Nat.le_of_ble_eq_true rfl) (hS.own 1 rfl).one rfl rfl fun w461 hb461 hO461 => ?_
  have hk461 := hS.keptBlk 0 rfl hO461
  replace f2 := f2.kept hk461
  replace f1 := f1.kept hk461
  replace hS := hS.setBlk 0 rfl hb461 hO461; simp only [List.set] at hS
  refine eseq_nil ?_
  refine hK455 _ _ ?_
  refine e_seq fun K462 hK462 => ?_
  refine e_seq fun K463 hK463 => ?_
  refine e_region_text rfl ?_
  refine q_load rfl (Blk.cell (hS.blk 2 rfl) rfl) rfl ?_
  refine q_lenS rfl f1 rfl ?_
  refine q_move rfl rfl ?_
  refine q_lenS rfl f2 rfl ?_
  refine q_min rfl rfl rfl ?_
  refine q_move rfl rfl ?_
  refine eseq_nil ?_
  refine hK463 _ _ ?_
  refine e_block ?_
  obtain ⟨tl464, ht464, h⟩ := Option.of_bind h
  have hX464_0 : ∀ (x525 : (List Int)) (v524 : Value) (R520 : Nat → Prop) (w521 : World) (E_ : Env), orphan_Lower_K1 fuel a0 x525 = some r → Sep F R R520 w w521 [HP.blk bl453 [v1] 59, HP.blk bl459 [v524] 24, HP.own Ty.int (fun _ => False) 3 v524 x525] → IsSlice (Ty.slice evtTy) w521 R520 v1 a0 → Sub [(2, .pointer (some ⟨bl453, 0, none⟩)), (5, .pointer (some ⟨bl459, 0, none⟩))] E_ → K462 E_ w521 := by
    intro x525 v524 R520 w521 E_ h hS f522 hsub
    refine hK462 _ _ (e_sub hsub ?_); clear hsub
    unfold orphan_Lower_K1 at h
    refine e_seq fun K526 hK526 => ?_
    refine e_label ?_
    refine hK526 _ _ ?_
    refine e_block ?_
    obtain ⟨tl527, ht527, h⟩ := Option.of_bind h
    refine e_loop (fun m_ E_ w653 => ∃ (x657 : (List Int)), ∃ (v656 : Value), ∃ (R652 : Nat → Prop), iter (fun s => orphan_Lower_B1 fuel a0 s) m_ x657 = some tl527 ∧ Sep F R R652 w w653 [HP.blk bl453 [v1] 59, HP.blk bl459 [v656] 24, HP.own Ty.int (fun _ => False) 3 v656 x657] ∧ IsSlice (Ty.slice evtTy) w653 R652 v1 a0 ∧ E_ = [(2, .pointer (some ⟨bl453, 0, none⟩)), (5, .pointer (some ⟨bl459, 0, none⟩))]) _ ⟨_, ⟨x525, v524, _, ht527, hS, f522, rfl⟩, Sub.cons rfl (Sub.cons rfl (Sub.nil _))⟩ ?_
    clear ht527 hS
    rintro m527 _ w653 ⟨x657, v656, R652, ht527, hS, f654, rfl⟩
    obtain ⟨m527, rfl, o527, ho527, ht527⟩ := iter_some ht527
    replace ho527 : orphan_Lower_B1 fuel a0 x657 = some o527 := ho527
    unfold orphan_Lower_B1 at ho527
    refine e_block ?_
    refine e_seq fun K778 hK778 => ?_
    refine e_seq fun K779 hK779 => ?_
    refine e_region_text rfl ?_
    refine q_load rfl (Blk.cell (hS.blk 0 rfl) rfl) rfl ?_
    refine q_lenS rfl f654 rfl ?_
    refine q_move rfl rfl ?_
    refine eseq_nil ?_
    refine hK779 _ _ ?_
    refine e_block ?_
    obtain ⟨tl780, ht780, ho527⟩ := Option.of_bind ho527
    have hX780_4 : ∀ (R858 : Nat → Prop) (w859 : World) (E_ : Env), orphan_Lower_K3 fuel x657 = some o527 → Sep F R R858 w w859 [HP.blk bl459 [v656] 24, HP.own Ty.int (fun _ => False) 3 v656 x657] → Sub [(5, .pointer (some ⟨bl459, 0, none⟩))] E_ → K778 E_ w859 := by
      intro R858 w859 E_ ho527 hS  hsub
      refine hK778 _ _ (e_sub hsub ?_); clear hsub
      unfold orphan_Lower_K3 at ho527
      refine e_seq fun K861 hK861 => ?_
      refine e_region_text rfl ?_
      refine q_load rfl (Blk.cell (hS.blk 0 rfl) rfl) rfl ?_
      refine q_assign rfl rfl ?_
      refine eseq_nil ?_
      refine hK861 _ _ ?_
      refine e_ret ?_
      obtain rfl := Option.some.inj ho527
      obtain rfl := Option.some.inj ht527
      obtain rfl := Option.some.inj h
      exact ⟨_, res1 rfl rfl, v656, _, rfl, (hS.pickB [1] 2 rfl rfl)⟩
    refine e_loop (fun m_ E_ w817 => ∃ (x821 : Int), ∃ (R816 : Nat → Prop), iter (fun s => orphan_Lower_B2 fuel a0 x657 s) m_ x821 = some tl780 ∧ Sep F R R816 w w817 [HP.blk bl453 [v1] 59, HP.blk bl459 [v656] 24, HP.own Ty.int (fun _ => False) 3 v656 x657] ∧ IsSlice (Ty.slice evtTy) w817 R816 v1 a0 ∧ IsSlice (Ty.slice evtTy) w817 R816 v1 a0 ∧ E_ = [(2, .pointer (some ⟨bl453, 0, none⟩)), (5, .pointer (some ⟨bl459, 0, none⟩)), (36, v1), (37, .int .i64 (a0.length : Int)), (38, .int .i64 x821)]) _ ⟨_, ⟨0, _, ht780, hS, f654, f654, rfl⟩, Sub.cons rfl (Sub.cons rfl (Sub.cons rfl (Sub.cons rfl (Sub.cons rfl (Sub.nil _)))))⟩ ?_
    clear ht780 hS
    rintro m780 _ w817 ⟨x821, R816, ht780, hS, f818, f820, rfl⟩
    obtain ⟨m780, rfl, o780, ho780, ht780⟩ := iter_some ht780
    replace ho780 : orphan_Lower_B2 fuel a0 x657 x821 = some o780 := ho780
    unfold orphan_Lower_B2 at ho780
    refine e_seq fun K862 hK862 => ?_
    refine e_region_text rfl ?_
    refine q_lss rfl rfl rfl ?_
    refine eseq_nil ?_
    refine hK862 _ _ ?_
    refine e_seq fun K863 hK863 => ?_
    refine e_cond rfl (fun hc864 => ?_) (fun hc864 => ?_)
    · replace ho780 := (if_pos hc864).symm.trans ho780
      refine e_skip ?_
      refine hK863 _ _ ?_
      refine e_seq fun K865 hK865 => ?_
      refine e_block ?_
      refine e_seq fun K866 hK866 => ?_
      refine e_region_text rfl ?_
      refine q_move rfl rfl ?_
      obtain ⟨x867, hx867, ho780⟩ := Option.of_bind ho780
      refine q_atS (by infer_instance) rfl f820 rfl hx867 rfl fun b868 o868 hm868 f868 => ?_
      refine q_loadE rfl f868 rfl (fun v869 f869 => ?_)
      refine q_allocB rfl fun w870 bl870 hg870 hb870 hB870 => ?_
      replace f818 := f818.ext hB870
      replace f820 := f820.ext hB870
      replace f869 := f869.ext hB870
      replace hS := hS.newBlk hB870 hg870 hb870
      refine q_store rfl rfl (hS.blk 0 rfl) (Nat.le_of_ble_eq_true rfl) rfl rfl rfl fun w872 hb872 hO872 => ?_
      have hk872 := hS.keptBlk 0 rfl hO872
      replace f818 := f818.kept hk872
      replace f820 := f820.kept hk872
      replace f869 := f869.kept hk872
      replace hS := hS.setBlk 0 rfl hb872 hO872; simp only [List.set] at hS
      refine q_assign rfl rfl ?_
      refine eseq_nil ?_
      refine hK866 _ _ ?_
      refine e_seq fun K873 hK873 => ?_
      refine e_region_text rfl ?_
      refine q_move rfl rfl ?_
      refine q_load rfl (Blk.cell (hS.blk 2 rfl) rfl) rfl ?_
      refine q_load rfl (Blk.cell (hS.blk 0 rfl) rfl) rfl ?_
      obtain ⟨x874, hx874, ho780⟩ := Option.of_bind ho780
      refine q_indexO (by infer_instance) rfl (hS.own 3 rfl) rfl hx874 rfl ?_
      have f875 := (hS.ownR 3 rfl).elt hx874
      refine q_load rfl (Elt.intCell f875) rfl ?_
      obtain ⟨x877, hx877, ho780⟩ := Option.of_bind ho780
      refine q_takeS (by infer_instance) rfl f869 rfl hx877 rfl fun v876 f876 => ?_
      refine q_makeFunc rfl rfl ?_
      obtain ⟨r879, hr879, ho780⟩ := Option.of_bind ho780
      refine q_call rfl (slices_IndexFunc_w (Sep.all w872) (f876).old (Lent.of (hS.blk 1 rfl)) (f818).old (Lent.of (hS.blk 2 rfl)) ((hS.isl 3 rfl)).old (Lent.of (hS.blk 0 rfl)) hr879) rfl ?_
      rintro _ w878 ⟨R878, rfl, hC878⟩
      have hB878 : Below (World.heap w872).size w872 w878 := hC878.stepBF
      refine ⟨fun _ => .of_below hB878, ?_⟩
      replace f818 := f818.ext hB878
      replace f820 := f820.ext hB878
      replace f876 := f876.ext hB878
      replace hS := hS.below hB878
      refine q_assign rfl rfl ?_
      refine eseq_nil ?_
      refine hK873 _ _ ?_
      refine e_seq fun K880 hK880 => ?_
      refine e_region_text rfl ?_
      refine q_move rfl rfl ?_
      refine q_geq rfl rfl rfl ?_
      refine eseq_nil ?_
      refine hK880 _ _ ?_
      refine e_cond rfl (fun hc881 => ?_) (fun hc881 => ?_)
      · replace ho780 := (if_pos hc881).symm.trans ho780
        refine e_seq fun K882 hK882 => ?_
        refine e_region_text rfl ?_
        refine q_load rfl (Blk.cell (hS.blk 2 rfl) rfl) rfl ?_
        refine q_load rfl (Blk.cell (hS.blk 0 rfl) rfl) rfl ?_
        refine q_move rfl rfl ?_
        obtain ⟨x883, hx883, ho780⟩ := Option.of_bind ho780
        refine q_indexO (by infer_instance) rfl (hS.own 3 rfl) rfl hx883 rfl ?_
        obtain ⟨x885, hx885, ho780⟩ := Option.of_bind ho780
        refine q_storeO (T := Ty.int) (j := 0) rfl rfl (hS.own 3 rfl) hx883 hx885 rfl rfl rfl (Enc.setL rfl) fun w884 ho884 hO884 => ?_
        have hk884 := hS.keptO 3 rfl hx883 hO884
        replace f818 := f818.kept hk884
        replace hS := hS.putO 3 rfl hx883 ho884 hO884; simp only [List.set] at hS
        refine eseq_nil ?_
        refine hK882 _ _ ?_
        refine e_exit ?_
        obtain rfl := Option.some.inj ho780
        obtain rfl := Option.some.inj ht780
        replace ho527 : orphan_Lower_K2 fuel x885 = some o527 := ho527
        unfold orphan_Lower_K2 at ho527
        obtain rfl := Option.some.inj ho527
        exact ⟨m527, _, Nat.lt_succ_self _, ⟨x885, v656, _, ht527, (hS.pickB [1, 2, 3] 4 rfl rfl), f818, rfl⟩, Sub.cons rfl (Sub.cons rfl (Sub.nil _))⟩
      · replace ho780 := (if_neg (not_true hc881)).symm.trans ho780
        refine e_skip ?_
        refine hK865 _ _ ?_
        refine e_region_text rfl ?_
        refine q_addW rfl rfl rfl ?_
        refine q_move rfl rfl ?_
        refine eseq_nil ?_
        obtain rfl := Option.some.inj ho780
        exact ⟨m780, _, Nat.lt_succ_self _, ⟨(w64 (x821 + 1)), _, ht780, (hS.pickB [1, 2, 3] 4 rfl rfl), f818, f820, rfl⟩, Sub.cons rfl (Sub.cons rfl (Sub.cons rfl (Sub.cons rfl (Sub.cons rfl (Sub.nil _)))))⟩
    · replace ho780 := (if_neg (not_true hc864)).symm.trans ho780
      refine e_exit ?_
      obtain rfl := Option.some.inj ho780
      obtain rfl := Option.some.inj ht780
      exact hX780_4  _ _ _ ho527 (hS.pickB [1, 2] 3 rfl rfl)  (Sub.cons rfl (Sub.nil _))
  refine e_loop (fun m_ E_ w492 => ∃ (x497 : (List Int)), ∃ (x498 : Int), ∃ (v496 : Value), ∃ (R491 : Nat → Prop), iter (fun s => orphan_Lower_B3 fuel a0 a1 s.1 s.2) m_ (x497, x498) = some tl464 ∧ Sep F R R491 w w492 [HP.blk bl453 [v1] 59, HP.blk bl459 [v496] 24, HP.own Ty.int (fun _ => False) 3 v496 x497] ∧ IsSlice Ty.int w492 R491 v2 a1 ∧ IsSlice (Ty.slice evtTy) w492 R491 v1 a0 ∧ E_ = [(1, v2), (2, .pointer (some ⟨bl453, 0, none⟩)), (5, .pointer (some ⟨bl459, 0, none⟩)), (17, .int .i64 (min (a0.length : Int) (a1.length : Int))), (18, .int .i64 x498)]) _ ⟨_, ⟨x456, 0, v457, _, ht464, (hS.pickB [2, 0, 1] 3 rfl rfl), f2, f1, rfl⟩, Sub.cons rfl (Sub.cons rfl (Sub.cons rfl (Sub.cons rfl (Sub.cons rfl (Sub.nil _)))))⟩ ?_
  clear ht464 hS
  rintro m464 _ w492 ⟨x497, x498, v496, R491, ht464, hS, f493, f494, rfl⟩
  obtain ⟨m464, rfl, o464, ho464, ht464⟩ := iter_some ht464
  replace ho464 : orphan_Lower_B3 fuel a0 a1 x497 x498 = some o464 := ho464
  unfold orphan_Lower_B3 at ho464
  refine e_seq fun K886 hK886 => ?_
  refine e_region_text rfl ?_
  refine q_lss rfl rfl rfl ?_
  refine eseq_nil ?_
  refine hK886 _ _ ?_
  refine e_seq fun K887 hK887 => ?_
  refine e_cond rfl (fun hc888 => ?_) (fun hc888 => ?_)
  · replace ho464 := (if_pos hc888).symm.trans ho464
    refine e_skip ?_
    refine hK887 _ _ ?_
    refine e_seq fun K889 hK889 => ?_
    refine e_block ?_
    refine e_seq fun K890 hK890 => ?_
    refine e_region_text rfl ?_
    refine q_move rfl rfl ?_
    refine q_assign rfl rfl ?_
    refine eseq_nil ?_
    refine hK890 _ _ ?_
    refine e_region_draw mixed (fun _ => False) [0, 0, 0, 0, 12, 28, 60, 0, 0, 384, 896, 1920, 4092, 8191, 16383] [] [0, 1, 2, 3, 4, 5, 6, 7, 8, 9, 10, 11, 12, 13, 14] (by kernel_rfl) ?_
    refine q_load rfl (Blk.cell (hS.blk 1 rfl) rfl) rfl ?_
    refine q_move rfl rfl ?_
    refine q_move rfl rfl ?_
    refine q_move rfl rfl ?_
    obtain ⟨x891, hx891, ho464⟩ := Option.of_bind ho464
    refine q_atS (by infer_instance) rfl f493 rfl hx891 rfl fun b892 o892 hm892 f892 => ?_
    refine q_load rfl (Elt.intCell f892) rfl ?_
    refine q_max rfl rfl rfl ?_
    refine q_load rfl (Blk.cell (hS.blk 0 rfl) rfl) rfl ?_
    refine q_move rfl rfl ?_
    obtain ⟨x893, hx893, ho464⟩ := Option.of_bind ho464
    refine q_atS (by infer_instance) rfl f494 rfl hx893 rfl fun b894 o894 hm894 f894 => ?_
    refine q_loadE rfl f894 rfl (fun v895 f895 => ?_)
    refine q_lenS rfl f895 rfl ?_
    refine q_min rfl rfl rfl ?_
    obtain ⟨x896, hx896, ho464⟩ := Option.of_bind ho464
    refine q_indexO (by infer_instance) rfl (hS.own 2 rfl) rfl hx896 rfl ?_
    obtain ⟨x898, hx898, ho464⟩ := Option.of_bind ho464
    refine q_storeO (T := Ty.int) (j := 0) rfl rfl (hS.own 2 rfl) hx896 hx898 rfl rfl rfl (Enc.setL rfl) fun w897 ho897 hO897 => ?_
    have hk897 := hS.keptO 2 rfl hx896 hO897
    replace f493 := f493.kept hk897
    replace f494 := f494.kept hk897
    replace hS := hS.putO 2 rfl hx896 ho897 hO897; simp only [List.set] at hS
    refine eseq_nil ?_
    refine hK889 _ _ ?_
    refine e_region_text rfl ?_
    refine q_addW rfl rfl rfl ?_
    refine q_move rfl rfl ?_
    refine eseq_nil ?_
    obtain rfl := Option.some.inj ho464
    exact ⟨m464, _, Nat.lt_succ_self _, ⟨x898, (w64 (x498 + 1)), v496, _, ht464, hS, f493, f494, rfl⟩, Sub.cons rfl (Sub.cons rfl (Sub.cons rfl (Sub.cons rfl (Sub.cons rfl (Sub.nil _)))))⟩
  · replace ho464 := (if_neg (not_true hc888)).symm.trans ho464
    refine e_exit ?_
    obtain rfl := Option.some.inj ho464
    obtain rfl := Option.some.inj ht464
    exact hX464_0 x497 v496 _ _ _ h hS f494 (Sub.cons rfl (Sub.cons rfl (Sub.nil _)))
end Go.Proofs.Ytddohdppmejjoaa
