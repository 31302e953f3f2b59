/- Printed walks: A31u. -/
import Derived.Test.YtbmjcbhappjnaaaAmk
set_option linter.unusedVariables false
set_option linter.unusedSimpArgs false
namespace Go.Mine
open Go.RowKit
def make_Codes_Int (fuel : Nat) (c0_0 : (List Int)) (c0_1 : Int) : Option (Int × Int) :=
  (make_Codes_Next fuel 6 c0_0 c0_1).bind fun r27 => (if (r27.1 == 5) = true then (make_Codes_Next fuel (([9223372036854775807, (-9223372036854775808), 2147483648, (-1), 63, 64, (-65), 127, 128, 1099511627776]).length : Int) c0_0 r27.2).bind fun r31 => (ati ([9223372036854775807, (-9223372036854775808), 2147483648, (-1), 63, 64, (-65), 127, 128, 1099511627776]) r31.1).bind fun x32 => some (x32, r31.2) else (make_Codes_Next fuel 12 c0_0 r27.2).bind fun r36 => some (w64 (r36.1 - 2), r36.2))
end Go.Mine
namespace Go.Proofs.Ytbmjcbhappjnaaa
open Go.RowKit Go.Mine
attribute [local irreducible] eseq ewp iter
theorem make_Codes_Int_w {F R : Nat → Prop} {w : World} {fuel : Nat} {c0_0 : (List Int)} {c0_1 : Int} {B0 : Nat} {v2 : Value} {r : (Int × Int)} (hS : Sep F R R w w [HP.blk B0 [v2, .int .i64 c0_1] 117]) (f2 : IsSlice Ty.u8 w R v2 c0_0) (h : make_Codes_Int fuel c0_0 c0_1 = some r) :
    Gives Try.prog 86 [.pointer (some ⟨B0, 0, none⟩)] w fun u w1 => ∃ (R1 : Nat → Prop), u = .int .i64 r.1 ∧ Sep F R R1 w w1 [HP.blk B0 [v2, .int .i64 r.2] 117] := by
  refine fn_of Try.func86 rfl Try.ntmps86 (Nat.le_of_ble_eq_true rfl) ?_
  unfold make_Codes_Int at h
  refine e_seq fun K20 hK20 => ?_
  refine e_region_text rfl ?_
  refine q_assign rfl rfl ?_
  refine eseq_nil ?_
  refine hK20 _ _ ?_
  refine e_seq fun K21 hK21 => ?_
  refine e_region_text rfl ?_
  refine q_litO (T := Ty.int) (S := (fun _ => False)) (cells := [[.int .i64 9223372036854775807], [.int .i64 (-9223372036854775808)], [.int .i64 2147483648], [.int .i64 (-1)], [.int .i64 63], [.int .i64 64], [.int .i64 (-65)], [.int .i64 127], [.int .i64 128], [.int .i64 1099511627776]]) (ys := [9223372036854775807, (-9223372036854775808), 2147483648, (-1), 63, 64, (-65), 127, 128, 1099511627776]) ((Parts.cons rfl rfl (Parts.cons rfl rfl (Parts.cons rfl rfl (Parts.cons rfl rfl (Parts.cons rfl rfl (Parts.cons rfl rfl (Parts.cons rfl rfl (Parts.cons rfl rfl (Parts.cons rfl rfl (Parts.cons rfl rfl Parts.nil))))))))))) rfl rfl rfl rfl rfl rfl rfl (fun w1 hB => ⟨rfl, rfl, rfl, rfl, rfl, rfl, rfl, rfl, rfl, rfl, trivial⟩) (fun _ h => h.elim) rfl fun w22 v22 ho22 hv22 hB22 => ?_
  replace f2 := f2.ext hB22
  replace hS := hS.newOwnS hB22 ho22 hv22 (fun _ h => h.elim)
  refine q_assign rfl rfl ?_
  refine eseq_nil ?_
  refine hK21 _ _ ?_
  refine e_seq fun K24 hK24 => ?_
  refine e_seq fun K25 hK25 => ?_
  refine e_region_text rfl ?_
  refine q_move rfl rfl ?_
  obtain ⟨r27, hr27, h⟩ := Option.of_bind h
  replace hS := hS.pickB [1, 0] 2 rfl rfl; simp only [List.map_cons, List.map_nil, List.getD_cons_zero, List.getD_cons_succ] at hS
  refine q_call rfl (make_Codes_Next_w (Sep.enter (As := [_]) hS) f2 hr27) rfl ?_
  rintro _ w26 ⟨R26, rfl, hC26⟩
  refine ⟨(fun h => by cases h), ?_⟩
  have hk26 := hC26.keptR (Sep.offFeet (As := [_]) hS)
  replace f2 := (f2.kept hk26).mono fun k hk _ => hC26.ro0 k hk
  replace hS := Sep.leave (As := [_]) hS hC26; simp only [List.cons_append, List.nil_append] at hS
  refine q_eql rfl rfl rfl ?_
  refine eseq_nil ?_
  refine hK25 _ _ ?_
  refine e_cond rfl (fun hc28 => ?_) (fun hc28 => ?_)
  · replace h := (if_pos hc28).symm.trans h
    refine e_seq fun K29 hK29 => ?_
    refine e_region_text rfl ?_
    refine q_move rfl rfl ?_
    refine q_move rfl rfl ?_
    refine q_move rfl rfl ?_
    refine q_lenS rfl (hS.isl 1 rfl) rfl ?_
    obtain ⟨r31, hr31, h⟩ := Option.of_bind h
    refine q_call rfl (make_Codes_Next_w (Sep.enter (As := [_]) hS) f2 hr31) rfl ?_
    rintro _ w30 ⟨R30, rfl, hC30⟩
    refine ⟨(fun h => by cases h), ?_⟩
    have hk30 := hC30.keptR (Sep.offFeet (As := [_]) hS)
    replace f2 := (f2.kept hk30).mono fun k hk _ => hC30.ro0 k hk
    replace hS := Sep.leave (As := [_]) hS hC30; simp only [List.cons_append, List.nil_append] at hS
    obtain ⟨x32, hx32, h⟩ := Option.of_bind h
    refine q_indexO (by infer_instance) rfl (hS.own 1 rfl) rfl hx32 rfl ?_
    have f33 := (hS.ownR 1 rfl).elt hx32
    refine q_load rfl (Elt.intCell f33) rfl ?_
    refine q_assign rfl rfl ?_
    refine eseq_nil ?_
    refine hK29 _ _ ?_
    refine e_ret ?_
    obtain rfl := Option.some.inj h
    exact ⟨_, res1 rfl rfl, _, rfl, (hS.pickB [0] 2 rfl rfl)⟩
  · replace h := (if_neg (not_true hc28)).symm.trans h
    refine e_skip ?_
    refine hK24 _ _ ?_
    refine e_seq fun K34 hK34 => ?_
    refine e_region_text rfl ?_
    refine q_move rfl rfl ?_
    obtain ⟨r36, hr36, h⟩ := Option.of_bind h
    refine q_call rfl (make_Codes_Next_w (Sep.enter (As := [_]) hS) f2 hr36) rfl ?_
    rintro _ w35 ⟨R35, rfl, hC35⟩
    refine ⟨(fun h => by cases h), ?_⟩
    have hk35 := hC35.keptR (Sep.offFeet (As := [_]) hS)
    replace f2 := (f2.kept hk35).mono fun k hk _ => hC35.ro0 k hk
    replace hS := Sep.leave (As := [_]) hS hC35; simp only [List.cons_append, List.nil_append] at hS
    refine q_subW rfl rfl rfl ?_
    refine q_assign rfl rfl ?_
    refine eseq_nil ?_
    refine hK34 _ _ ?_
    refine e_ret ?_
    obtain rfl := Option.some.inj h
    exact ⟨_, res1 rfl rfl, _, rfl, (hS.pickB [0] 2 rfl rfl)⟩
end Go.Proofs.Ytbmjcbhappjnaaa
