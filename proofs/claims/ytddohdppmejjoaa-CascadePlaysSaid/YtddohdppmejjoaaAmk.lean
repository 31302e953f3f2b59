/- Printed walks: Amk. -/
import Derived.Test.YtddohdppmejjoaaTypes
import Derived.Test.YtddohdppmejjoaaAcdat
set_option linter.unusedVariables false
set_option linter.unusedSimpArgs false
namespace Go.Mine
open Go.RowKit
def make_New_J1 (fuel : Nat) (x31 : (List Int)) : Option ((List Int) × Int) :=
  some (x31, 0)
def make_New (fuel : Nat) (a0 : (List Int)) (a1 : Int) : Option ((List Int) × Int) :=
  (if (decide (a1 < (a0.length : Int))) = true then (takeL a0 a1).bind fun x39 => make_New_J1 fuel x39 else make_New_J1 fuel a0)
def make_Codes_Left (fuel : Nat) (c0_0 : (List Int)) (c0_1 : Int) : Option (Bool) :=
  some (decide (c0_1 < (c0_0.length : Int)))
def make_Codes_Next (fuel : Nat) (a1 : Int) (c0_0 : (List Int)) (c0_1 : Int) : Option (Int × Int) :=
  (make_Codes_Left fuel c0_0 c0_1).bind fun r20 => (if (!r20) = true then some (0, c0_1) else (ati c0_0 (w64 ((w64 (c0_1 + 1)) - 1))).bind fun x26 => (remI (w64 x26) a1).bind fun x28 => some (x28, w64 (c0_1 + 1)))
end Go.Mine
namespace Go.Proofs.Ytddohdppmejjoaa
open Go.RowKit Go.Mine
attribute [local irreducible] eseq ewp iter
theorem make_New_w {F R : Nat → Prop} {w : World} {fuel : Nat} {a0 : (List Int)} {a1 : Int} {v1 : Value} {r : ((List Int) × Int)} (hS : Sep F R R w w []) (f1 : IsSlice Ty.u8 w R v1 a0) (h : make_New fuel a0 a1 = some r) :
    Gives Try.prog 18 [v1, .int .i64 a1] w fun u w1 => ∃ (B20 : Nat), ∃ (v21 : Value), ∃ (R1 : Nat → Prop), u = .pointer (some ⟨B20, 0, none⟩) ∧ Sep F R R1 w w1 [HP.blk B20 [v21, .int .i64 r.2] 80] ∧ IsSlice Ty.u8 w1 R1 v21 r.1 := by
  refine fn_of Try.func18 rfl Try.ntmps18 (Nat.le_of_ble_eq_true rfl) ?_
  unfold make_New at h
  refine e_seq fun K22 hK22 => ?_
  refine e_region_text rfl ?_
  refine q_assign rfl rfl ?_
  refine eseq_nil ?_
  refine hK22 _ _ ?_
  refine e_seq fun K23 hK23 => ?_
  have hJ23 : ∀ (x31 : (List Int)) (v30 : Value) (R28 : Nat → Prop) (w29 : World) (E_ : Env), make_New_J1 fuel x31 = some r → Sep F R R28 w w29 [] → IsSlice Ty.u8 w29 R28 v30 x31 → Sub [(0, v30)] E_ → K23 E_ w29 := by
    intro x31 v30 R28 w29 E_ h hS f32 hsub
    refine hK23 _ _ (e_sub hsub ?_); clear hsub
    unfold make_New_J1 at h
    refine e_seq fun K33 hK33 => ?_
    refine e_region_text rfl ?_
    refine q_move rfl rfl ?_
    refine q_build (Parts.cons rfl (cells_one f32.one) Parts.nil) rfl rfl ?_
    refine q_boxB rfl rfl rfl fun w34 bl34 hg34 hb34 hB34 => ?_
    replace f32 := f32.ext hB34
    replace hS := hS.newBlk hB34 hg34 hb34
    refine q_assign rfl rfl ?_
    refine eseq_nil ?_
    refine hK33 _ _ ?_
    refine e_ret ?_
    obtain rfl := Option.some.inj h
    exact ⟨_, res1 rfl rfl, bl34, v30, _, rfl, hS, f32⟩
  refine e_seq fun K36 hK36 => ?_
  refine e_region_text rfl ?_
  refine q_move rfl rfl ?_
  refine q_lenS rfl f1 rfl ?_
  refine q_move rfl rfl ?_
  refine q_gtr rfl rfl rfl ?_
  refine eseq_nil ?_
  refine hK36 _ _ ?_
  refine e_cond rfl (fun hc37 => ?_) (fun hc37 => ?_)
  · replace h := (if_pos hc37).symm.trans h
    refine e_region_text rfl ?_
    refine q_move rfl rfl ?_
    refine q_move rfl rfl ?_
    obtain ⟨x39, hx39, h⟩ := Option.of_bind h
    refine q_takeS (by infer_instance) rfl f1 rfl hx39 rfl fun v38 f38 => ?_
    refine q_assign rfl rfl ?_
    refine eseq_nil ?_
    exact hJ23 x39 v38 _ _ _ h hS f38 (Sub.cons rfl (Sub.nil _))
  · replace h := (if_neg (not_true hc37)).symm.trans h
    refine e_skip ?_
    exact hJ23 a0 v1 _ _ _ h hS f1 (Sub.cons rfl (Sub.nil _))
theorem make_Codes_Left_w {F R : Nat → Prop} {w : World} {fuel : Nat} {c0_0 : (List Int)} {c0_1 : Int} {B0 : Nat} {v2 : Value} {r : (Bool)} (hS : Sep F R R w w []) (f1 : Lent w R B0 [v2, .int .i64 c0_1] 80) (f2 : IsSlice Ty.u8 w R v2 c0_0) (h : make_Codes_Left fuel c0_0 c0_1 = some r) :
    Gives Try.prog 43 [.pointer (some ⟨B0, 0, none⟩)] w fun u w1 => ∃ (R1 : Nat → Prop), u = .bool r ∧ Sep F R R1 w w1 [] := by
  refine fn_of Try.func43 rfl Try.ntmps43 (Nat.le_of_ble_eq_true rfl) ?_
  unfold make_Codes_Left at h
  refine e_seq fun K5 hK5 => ?_
  refine e_region_text rfl ?_
  refine q_assign rfl rfl ?_
  refine eseq_nil ?_
  refine hK5 _ _ ?_
  refine e_seq fun K6 hK6 => ?_
  refine e_region_draw mixed (fun _ => False) [0, 1, 3, 7, 0, 16, 48, 112, 240, 511, 1023] [] [0, 1, 2, 3, 4, 5, 6, 7, 8, 9, 10] (by kernel_rfl) ?_
  refine q_move rfl rfl ?_
  refine q_nilCheck rfl rfl ?_
  refine q_field rfl rfl ?_
  refine q_load rfl (Blk.cell f1.blk rfl) rfl ?_
  refine q_move rfl rfl ?_
  refine q_nilCheck rfl rfl ?_
  refine q_field rfl rfl ?_
  refine q_load rfl (Blk.cell f1.blk rfl) rfl ?_
  refine q_lenS rfl f2 rfl ?_
  refine q_lss rfl rfl rfl ?_
  refine q_assign rfl rfl ?_
  refine eseq_nil ?_
  refine hK6 _ _ ?_
  refine e_ret ?_
  obtain rfl := Option.some.inj h
  exact ⟨_, res1 rfl rfl, _, rfl, hS⟩
theorem make_Codes_Next_w {F R : Nat → Prop} {w : World} {fuel : Nat} {a1 : Int} {c0_0 : (List Int)} {c0_1 : Int} {B0 : Nat} {v2 : Value} {r : (Int × Int)} (hS : Sep F R R w w [HP.blk B0 [v2, .int .i64 c0_1] 80]) (f2 : IsSlice Ty.u8 w R v2 c0_0) (h : make_Codes_Next fuel a1 c0_0 c0_1 = some r) :
    Gives Try.prog 19 [.pointer (some ⟨B0, 0, none⟩), .int .i64 a1] w fun u w1 => ∃ (R1 : Nat → Prop), u = .int .i64 r.1 ∧ Sep F R R1 w w1 [HP.blk B0 [v2, .int .i64 r.2] 80] := by
  refine fn_of Try.func19 rfl Try.ntmps19 (Nat.le_of_ble_eq_true rfl) ?_
  unfold make_Codes_Next at h
  refine e_seq fun K16 hK16 => ?_
  refine e_region_text rfl ?_
  refine q_assign rfl rfl ?_
  refine eseq_nil ?_
  refine hK16 _ _ ?_
  refine e_seq fun K17 hK17 => ?_
  refine e_seq fun K18 hK18 => ?_
  refine e_region_text rfl ?_
  refine q_move rfl rfl ?_
  obtain ⟨r20, hr20, h⟩ := Option.of_bind h
  refine q_call rfl (make_Codes_Left_w (Sep.all w) (Lent.of (hS.blk 0 rfl)) (f2).old hr20) rfl ?_
  rintro _ w19 ⟨R19, rfl, hC19⟩
  have hB19 : Below (World.heap w).size w w19 := hC19.stepBF
  refine ⟨fun _ => .of_below hB19, ?_⟩
  replace f2 := f2.ext hB19
  replace hS := hS.below hB19
  refine q_not rfl rfl ?_
  refine eseq_nil ?_
  refine hK18 _ _ ?_
  refine e_cond rfl (fun hc21 => ?_) (fun hc21 => ?_)
  · replace h := (if_pos hc21).symm.trans h
    refine e_seq fun K22 hK22 => ?_
    refine e_region_text rfl ?_
    refine q_assign rfl rfl ?_
    refine eseq_nil ?_
    refine hK22 _ _ ?_
    refine e_ret ?_
    obtain rfl := Option.some.inj h
    exact ⟨_, res1 rfl rfl, _, rfl, hS⟩
  · replace h := (if_neg (not_true hc21)).symm.trans h
    refine e_skip ?_
    refine hK17 _ _ ?_
    refine e_seq fun K23 hK23 => ?_
    refine e_region_text rfl ?_
    refine q_move rfl rfl ?_
    refine q_nilCheck rfl rfl ?_
    refine q_field rfl rfl ?_
    refine q_load rfl (Blk.cell (hS.blk 0 rfl) rfl) rfl ?_
    refine q_addW rfl rfl rfl ?_
    refine q_nilCheck rfl rfl ?_
    refine q_field rfl rfl ?_
    refine q_store rfl rfl (hS.blk 0 rfl) (Nat.le_of_ble_eq_true rfl) rfl rfl rfl fun w24 hb24 hO24 => ?_
    have hk24 := hS.keptBlk 0 rfl hO24
    replace f2 := f2.kept hk24
    replace hS := hS.setBlk 0 rfl hb24 hO24; simp only [List.set] at hS
    refine eseq_nil ?_
    refine hK23 _ _ ?_
    refine e_seq fun K25 hK25 => ?_
    refine e_region_draw mixed (fun _ => False) [0, 1, 3, 7, 0, 16, 48, 112, 240, 511, 1023, 2047, 0, 8191, 16383] [] [0, 1, 2, 3, 4, 5, 6, 7, 8, 9, 10, 11, 12, 13, 14] (by kernel_rfl) ?_
    refine q_move rfl rfl ?_
    refine q_nilCheck rfl rfl ?_
    refine q_field rfl rfl ?_
    refine q_load rfl (Blk.cell (hS.blk 0 rfl) rfl) rfl ?_
    refine q_move rfl rfl ?_
    refine q_nilCheck rfl rfl ?_
    refine q_field rfl rfl ?_
    refine q_load rfl (Blk.cell (hS.blk 0 rfl) rfl) rfl ?_
    refine q_subW rfl rfl rfl ?_
    obtain ⟨x26, hx26, h⟩ := Option.of_bind h
    refine q_atS (by infer_instance) rfl f2 rfl hx26 rfl fun b27 o27 hm27 f27 => ?_
    refine q_load rfl (Elt.u8Cell f27) rfl ?_
    refine q_conv64 rfl rfl ?_
    refine q_move rfl rfl ?_
    obtain ⟨x28, hx28, h⟩ := Option.of_bind h
    refine q_remM rfl rfl hx28 rfl ?_
    refine q_assign rfl rfl ?_
    refine eseq_nil ?_
    refine hK25 _ _ ?_
    refine e_ret ?_
    obtain rfl := Option.some.inj h
    exact ⟨_, res1 rfl rfl, _, rfl, hS⟩
end Go.Proofs.Ytddohdppmejjoaa
