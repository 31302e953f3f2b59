/- Printed walks: A31a. -/
import Derived.Test.YtfgmboklpjanlaaAmk
set_option linter.unusedVariables false
set_option linter.unusedSimpArgs false
namespace Go.Mine
open Go.RowKit
def make_Codes_Int (fuel : Nat) (c0_0 : (List Int)) (c0_1 : Int) : Option (Int × Int) :=
  (make_Codes_Next fuel 6 c0_0 c0_1).bind fun r27 => (if (r27.1 == 5) = true then (make_Codes_Next fuel (([9223372036854775807, (-9223372036854775808), 2147483648, (-1), 63, 64, (-65), 127, 128, 1099511627776]).length : Int) c0_0 r27.2).bind fun r31 => (ati ([9223372036854775807, (-9223372036854775808), 2147483648, (-1), 63, 64, (-65), 127, 128, 1099511627776]) r31.1).bind fun x32 => some (x32, r31.2) else (make_Codes_Next fuel 12 c0_0 r27.2).bind fun r36 => some (w64 (r36.1 - 2), r36.2))
def make_Codes_Ends_K1 (fuel : Nat) (x157 : Int) (x160 : (List EndI)) : Option ((List EndI) × Int) :=
  some (x160, x157)
def make_Codes_Ends_B1 (fuel : Nat) (c0_0 : (List Int)) (x127 : Int) (x130 : (List EndI)) (x131 : Int) : Option ((Int × (List EndI) × Int) ⊕ (Int × (List EndI))) :=
  (if (decide (0 < x131)) = true then (make_Codes_Next fuel 3 c0_0 x127).bind fun r168 => (make_Codes_Next fuel 4 c0_0 r168.2).bind fun r170 => (make_Codes_Next fuel 6 c0_0 r170.2).bind fun r172 => (snoc x130 (⟨r168.1, r170.1, r172.1⟩ : EndI)).bind fun x176 => some (Sum.inl (r172.2, x176, (w64 (x131 - 1)))) else some (Sum.inr (x127, x130)))
def make_Codes_Ends (fuel : Nat) (a1 : Int) (c0_0 : (List Int)) (c0_1 : Int) : Option ((List EndI) × Int) :=
  (make_Codes_Next fuel (w64 (a1 + 1)) c0_0 c0_1).bind fun r96 => (iter (fun s => make_Codes_Ends_B1 fuel c0_0 s.1 s.2.1 s.2.2) fuel (r96.2, ([] : List EndI), r96.1)).bind (fun t => make_Codes_Ends_K1 fuel t.1 t.2)
def make_Codes_Event_J1 (fuel : Nat) (r58 : (Int × Int)) (r60 : (Int × Int)) (r62 : (Int × Int)) (x84 : Int) (x85 : Int) (x86 : Int) (x87 : Int) (x88 : Int) : Option (Evt × Int) :=
  some ((⟨w64 (1 + r58.1), r60.1, x85, (⟨x86, x87⟩ : Lab), x88, r62.1⟩ : Evt), x84)
def make_Codes_Event (fuel : Nat) (c0_0 : (List Int)) (c0_1 : Int) : Option (Evt × Int) :=
  (make_Codes_Next fuel 3 c0_0 c0_1).bind fun r58 => (make_Codes_Next fuel 3 c0_0 r58.2).bind fun r60 => (make_Codes_Int fuel c0_0 r60.2).bind fun r62 => (if ((w64 (1 + r58.1)) == 1) = true then (make_Codes_Next fuel 3 c0_0 r62.2).bind fun r94 => (make_Codes_Next fuel 2 c0_0 r94.2).bind fun r96 => (make_Codes_Next fuel 5 c0_0 r96.2).bind fun r98 => (make_Codes_Next fuel 3 c0_0 r98.2).bind fun r100 => make_Codes_Event_J1 fuel r58 r60 r62 r100.2 r94.1 r96.1 r98.1 r100.1 else make_Codes_Event_J1 fuel r58 r60 r62 r62.2 0 0 0 0)
def make_Codes_Events_K1 (fuel : Nat) (x137 : Int) (x140 : (List Evt)) : Option ((List Evt) × Int) :=
  some (x140, x137)
def make_Codes_Events_B1 (fuel : Nat) (c0_0 : (List Int)) (x111 : Int) (x114 : (List Evt)) (x115 : Int) : Option ((Int × (List Evt) × Int) ⊕ (Int × (List Evt))) :=
  (if (decide (0 < x115)) = true then (make_Codes_Event fuel c0_0 x111).bind fun r148 => (snoc x114 r148.1).bind fun x152 => some (Sum.inl (r148.2, x152, (w64 (x115 - 1)))) else some (Sum.inr (x111, x114)))
def make_Codes_Events (fuel : Nat) (a1 : Int) (c0_0 : (List Int)) (c0_1 : Int) : Option ((List Evt) × Int) :=
  (make_Codes_Next fuel (w64 (a1 + 1)) c0_0 c0_1).bind fun r84 => (iter (fun s => make_Codes_Events_B1 fuel c0_0 s.1 s.2.1 s.2.2) fuel (r84.2, ([] : List Evt), r84.1)).bind (fun t => make_Codes_Events_K1 fuel t.1 t.2)
def incarnation_Undone_K1 (fuel : Nat) : Option (Bool) :=
  some false
def incarnation_Undone_B1 (fuel : Nat) (a0 : (List EndI)) (a1 : Int) (a2 : Lab) (x115 : Int) : Option ((Int) ⊕ (Unit ⊕ (Bool))) :=
  (if (decide (x115 < (a0.length : Int))) = true then (ati a0 x115).bind fun x146 => (andM (x146.proc == a1) (some (decide (a2.inc ≤ x146.inc)))).bind fun x154 => (andM x154 (some (decide (x146.index < a2.index)))).bind fun x156 => (if x156 = true then some (Sum.inr (Sum.inr true)) else some (Sum.inl (w64 (x115 + 1)))) else some (Sum.inr (Sum.inl ())))
def incarnation_Undone (fuel : Nat) (a0 : (List EndI)) (a1 : Int) (a2 : Lab) : Option (Bool) :=
  (iter (fun s => incarnation_Undone_B1 fuel a0 a1 a2 s) fuel 0).bind (fun t => Sum.elim (fun t => incarnation_Undone_K1 fuel) (fun t => some t) t)
def ref31_Undone_K1 (fuel : Nat) : Option (Bool) :=
  some false
def ref31_Undone_B1 (fuel : Nat) (a0 : (List EndI)) (a1 : Int) (a2 : Lab) (x123 : Int) : Option ((Int) ⊕ (Unit ⊕ (Bool))) :=
  (if (decide (x123 < (a0.length : Int))) = true then (ati a0 x123).bind fun x156 => (andM (x156.proc == a1) ((ati a0 x123).bind fun x161 => some (decide (a2.inc ≤ x161.inc)))).bind fun x160 => (andM x160 ((ati a0 x123).bind fun x166 => some (decide (x166.index < a2.index)))).bind fun x165 => (if x165 = true then some (Sum.inr (Sum.inr true)) else some (Sum.inl (w64 (x123 + 1)))) else some (Sum.inr (Sum.inl ())))
def ref31_Undone (fuel : Nat) (a0 : (List EndI)) (a1 : Int) (a2 : Lab) : Option (Bool) :=
  (iter (fun s => ref31_Undone_B1 fuel a0 a1 a2 s) fuel 0).bind (fun t => Sum.elim (fun t => ref31_Undone_K1 fuel) (fun t => some t) t)
def incarnation_Kept_K1 (fuel : Nat) (a2 : (List Evt)) : Option (Int) :=
  some (a2.length : Int)
def incarnation_Kept_B1 (fuel : Nat) (a2 : (List Evt)) (a0 : (List EndI)) (a1 : Int) (x119 : Int) : Option ((Int) ⊕ (Unit ⊕ (Int))) :=
  (if (decide (x119 < (a2.length : Int))) = true then (ati a2 x119).bind fun x151 => (incarnation_Undone fuel a0 a1 (⟨x151.inc, w64 (x119 + 1)⟩ : Lab)).bind fun r159 => (if r159 = true then some (Sum.inr (Sum.inr x119)) else some (Sum.inl (w64 (x119 + 1)))) else some (Sum.inr (Sum.inl ())))
def incarnation_Kept (fuel : Nat) (a0 : (List EndI)) (a1 : Int) (a2 : (List Evt)) : Option (Int) :=
  (iter (fun s => incarnation_Kept_B1 fuel a2 a0 a1 s) fuel 0).bind (fun t => Sum.elim (fun t => incarnation_Kept_K1 fuel a2) (fun t => some t) t)
def ref31_Kept_K1 (fuel : Nat) (a2 : (List Evt)) : Option (Int) :=
  some (a2.length : Int)
def ref31_Kept_B1 (fuel : Nat) (a2 : (List Evt)) (a0 : (List EndI)) (a1 : Int) (x96 : Int) : Option ((Int) ⊕ (Unit ⊕ (Int))) :=
  (if (decide (x96 < (a2.length : Int))) = true then (ati a2 x96).bind fun x123 => (ref31_Undone fuel a0 a1 (⟨x123.inc, w64 (x96 + 1)⟩ : Lab)).bind fun r127 => (if r127 = true then some (Sum.inr (Sum.inr x96)) else some (Sum.inl (w64 (x96 + 1)))) else some (Sum.inr (Sum.inl ())))
def ref31_Kept (fuel : Nat) (a0 : (List EndI)) (a1 : Int) (a2 : (List Evt)) : Option (Int) :=
  (iter (fun s => ref31_Kept_B1 fuel a2 a0 a1 s) fuel 0).bind (fun t => Sum.elim (fun t => ref31_Kept_K1 fuel a2) (fun t => some t) t)
def incarnation_Obsolete (fuel : Nat) (a0 : (List EndI)) (a1 : Msg) : Option (Bool) :=
  (incarnation_Undone fuel a0 a1.frm (⟨a1.sent.inc, a1.sent.index⟩ : Lab)).bind fun r15 => some r15
def ref31_Obsolete (fuel : Nat) (a0 : (List EndI)) (a1 : Msg) : Option (Bool) :=
  (ref31_Undone fuel a0 a1.frm (⟨a1.sent.inc, a1.sent.index⟩ : Lab)).bind fun r15 => some r15
def incarnation_Next_K1 (fuel : Nat) (x167 : Int) (x168 : Bool) : Option (Int) :=
  (if (!x168) = true then some 0 else some (w64 (x167 + 1)))
def incarnation_Next_B1 (fuel : Nat) (a0 : (List EndI)) (a1 : Int) (x134 : Int) (x135 : Bool) (x137 : Int) : Option ((Int × Bool × Int) ⊕ (Int × Bool)) :=
  (if (decide (x137 < (a0.length : Int))) = true then (ati a0 x137).bind fun x179 => (andM (x179.proc == a1) ((orM (!x135) (some (decide (x134 < x179.inc)))).bind fun x189 => some x189)).bind fun x187 => (if x187 = true then some (Sum.inl (x179.inc, true, (w64 (x137 + 1)))) else some (Sum.inl (x134, x135, (w64 (x137 + 1))))) else some (Sum.inr (x134, x135)))
def incarnation_Next (fuel : Nat) (a0 : (List EndI)) (a1 : Int) : Option (Int) :=
  (iter (fun s => incarnation_Next_B1 fuel a0 a1 s.1 s.2.1 s.2.2) fuel (0, false, 0)).bind (fun t => incarnation_Next_K1 fuel t.1 t.2)
def ref31_Next_K1 (fuel : Nat) (x177 : Bool) (x178 : Int) : Option (Int) :=
  (if (!x177) = true then some 0 else some (w64 (x178 + 1)))
def ref31_Next_B1 (fuel : Nat) (a0 : (List EndI)) (a1 : Int) (x143 : Bool) (x144 : Int) (x145 : Int) : Option ((Bool × Int × Int) ⊕ (Bool × Int)) :=
  (if (decide (x145 < (a0.length : Int))) = true then (ati a0 x145).bind fun x189 => (andM (x189.proc == a1) ((orM (!x143) ((ati a0 x145).bind fun x196 => some (decide (x144 < x196.inc)))).bind fun x195 => some x195)).bind fun x193 => (if x193 = true then (ati a0 x145).bind fun x200 => some (Sum.inl (true, x200.inc, (w64 (x145 + 1)))) else some (Sum.inl (x143, x144, (w64 (x145 + 1))))) else some (Sum.inr (x143, x144)))
def ref31_Next (fuel : Nat) (a0 : (List EndI)) (a1 : Int) : Option (Int) :=
  (iter (fun s => ref31_Next_B1 fuel a0 a1 s.1 s.2.1 s.2.2) fuel (false, 0, 0)).bind (fun t => ref31_Next_K1 fuel t.1 t.2)
def ref31_Same_K1 (fuel : Nat) : Option (Bool) :=
  some true
def ref31_Same_B1 (fuel : Nat) (a0 : (List EndI)) (a1 : (List EndI)) (x107 : Int) : Option ((Int) ⊕ (Unit ⊕ (Bool))) :=
  (if (decide (x107 < (a0.length : Int))) = true then (ati a0 x107).bind fun x134 => (ati a1 x107).bind fun x137 => (if (!((x134.proc == x137.proc) && ((x134.inc == x137.inc) && ((x134.index == x137.index) && true)))) = true then some (Sum.inr (Sum.inr false)) else some (Sum.inl (w64 (x107 + 1)))) else some (Sum.inr (Sum.inl ())))
def ref31_Same (fuel : Nat) (a0 : (List EndI)) (a1 : (List EndI)) : Option (Bool) :=
  (if ((a0.length : Int) != (a1.length : Int)) = true then some false else (iter (fun s => ref31_Same_B1 fuel a0 a1 s) fuel 0).bind (fun t => Sum.elim (fun t => ref31_Same_K1 fuel) (fun t => some t) t))
def ref31_implied (fuel : Nat) (a0 : EndI) (a1 : EndI) : Option (Bool) :=
  (andM (a1.proc == a0.proc) (some (decide (a0.inc ≤ a1.inc)))).bind fun x18 => (andM x18 (some (decide (a1.index ≤ a0.index)))).bind fun x20 => some x20
end Go.Mine
namespace Go.Proofs.Ytfgmboklpjanlaa
open Go.RowKit Go.Mine
attribute [local irreducible] eseq ewp iter
theorem make_Codes_Int_w {F R : Nat → Prop} {w : World} {fuel : Nat} {c0_0 : (List Int)} {c0_1 : Int} {B0 : Nat} {v2 : Value} {r : (Int × Int)} (hS : Sep F R R w w [HP.blk B0 [v2, .int .i64 c0_1] 55]) (f2 : IsSlice Ty.u8 w R v2 c0_0) (h : make_Codes_Int fuel c0_0 c0_1 = some r) :
    Gives Try.prog 38 [.pointer (some ⟨B0, 0, none⟩)] w fun u w1 => ∃ (R1 : Nat → Prop), u = .int .i64 r.1 ∧ Sep F R R1 w w1 [HP.blk B0 [v2, .int .i64 r.2] 55] := by
  refine fn_of Try.func38 rfl Try.ntmps38 (Nat.le_of_ble_eq_true rfl) ?_
  unfold make_Codes_Int at h
  refine e_seq fun K20 hK20 => ?_
  refine e_region_text rfl ?_
  refine q_assign rfl rfl ?_
  refine eseq_nil ?_
  refine hK20 _ _ ?_
  refine e_seq fun K21 hK21 => ?_
  refine e_region_text rfl ?_
  refine q_litO (T := Ty.int) (S := (fun _ => False)) (cells := [[.int .i64 9223372036854775807], [.int .i64 (-9223372036854775808)], [.int .i64 2147483648], [.int .i64 (-1)], [.int .i64 63], [.int .i64 64], [.int .i64 (-65)], [.int .i64 127], [.int .i64 128], [.int .i64 1099511627776]]) (ys := [9223372036854775807, (-9223372036854775808), 2147483648, (-1), 63, 64, (-65), 127, 128, 1099511627776]) ((Parts.cons rfl rfl (Parts.cons rfl rfl (Parts.cons rfl rfl (Parts.cons rfl rfl (Parts.cons rfl rfl (Parts.cons rfl rfl (Parts.cons rfl rfl (Parts.cons rfl rfl (Parts.cons rfl rfl (Parts.cons rfl rfl Parts.nil))))))))))) rfl rfl rfl rfl rfl rfl rfl (fun w1 hB => ⟨rfl, rfl, rfl, rfl, rfl, rfl, rfl, rfl, rfl, rfl, trivial⟩) (fun _ h => h.elim) rfl fun w22 v22 ho22 hv22 hB22 => ?_
  replace f2 := f2.ext hB22
  replace hS := hS.newOwnS hB22 ho22 hv22 (fun _ h => h.elim)
  refine q_assign rfl rfl ?_
  refine eseq_nil ?_
  refine hK21 _ _ ?_
  refine e_seq fun K24 hK24 => ?_
  refine e_seq fun K25 hK25 => ?_
  refine e_region_text rfl ?_
  refine q_move rfl rfl ?_
  obtain ⟨r27, hr27, h⟩ := Option.of_bind h
  replace hS := hS.pickB [1, 0] 2 rfl rfl; simp only [List.map_cons, List.map_nil, List.getD_cons_zero, List.getD_cons_succ] at hS
  refine q_call rfl (make_Codes_Next_w (Sep.enter (As := [_]) hS) f2 hr27) rfl ?_
  rintro _ w26 ⟨R26, rfl, hC26⟩
  refine ⟨(fun h => by cases h), ?_⟩
  have hk26 := hC26.keptR (Sep.offFeet (As := [_]) hS)
  replace f2 := (f2.kept hk26).mono fun k hk _ => hC26.ro0 k hk
  replace hS := Sep.leave (As := [_]) hS hC26; simp only [List.cons_append, List.nil_append] at hS
  refine q_eql rfl rfl rfl ?_
  refine eseq_nil ?_
  refine hK25 _ _ ?_
  refine e_cond rfl (fun hc28 => ?_) (fun hc28 => ?_)
  · replace h := (if_pos hc28).symm.trans h
    refine e_seq fun K29 hK29 => ?_
    refine e_region_text rfl ?_
    refine q_move rfl rfl ?_
    refine q_move rfl rfl ?_
    refine q_move rfl rfl ?_
    refine q_lenS rfl (hS.isl 1 rfl) rfl ?_
    obtain ⟨r31, hr31, h⟩ := Option.of_bind h
    refine q_call rfl (make_Codes_Next_w (Sep.enter (As := [_]) hS) f2 hr31) rfl ?_
    rintro _ w30 ⟨R30, rfl, hC30⟩
    refine ⟨(fun h => by cases h), ?_⟩
    have hk30 := hC30.keptR (Sep.offFeet (As := [_]) hS)
    replace f2 := (f2.kept hk30).mono fun k hk _ => hC30.ro0 k hk
    replace hS := Sep.leave (As := [_]) hS hC30; simp only [List.cons_append, List.nil_append] at hS
    obtain ⟨x32, hx32, h⟩ := Option.of_bind h
    refine q_indexO (by infer_instance) rfl (hS.own 1 rfl) rfl hx32 rfl ?_
    have f33 := (hS.ownR 1 rfl).elt hx32
    refine q_load rfl (Elt.intCell f33) rfl ?_
    refine q_assign rfl rfl ?_
    refine eseq_nil ?_
    refine hK29 _ _ ?_
    refine e_ret ?_
    obtain rfl := Option.some.inj h
    exact ⟨_, res1 rfl rfl, _, rfl, (hS.pickB [0] 2 rfl rfl)⟩
  · replace h := (if_neg (not_true hc28)).symm.trans h
    refine e_skip ?_
    refine hK24 _ _ ?_
    refine e_seq fun K34 hK34 => ?_
    refine e_region_text rfl ?_
    refine q_move rfl rfl ?_
    obtain ⟨r36, hr36, h⟩ := Option.of_bind h
    refine q_call rfl (make_Codes_Next_w (Sep.enter (As := [_]) hS) f2 hr36) rfl ?_
    rintro _ w35 ⟨R35, rfl, hC35⟩
    refine ⟨(fun h => by cases h), ?_⟩
    have hk35 := hC35.keptR (Sep.offFeet (As := [_]) hS)
    replace f2 := (f2.kept hk35).mono fun k hk _ => hC35.ro0 k hk
    replace hS := Sep.leave (As := [_]) hS hC35; simp only [List.cons_append, List.nil_append] at hS
    refine q_subW rfl rfl rfl ?_
    refine q_assign rfl rfl ?_
    refine eseq_nil ?_
    refine hK34 _ _ ?_
    refine e_ret ?_
    obtain rfl := Option.some.inj h
    exact ⟨_, res1 rfl rfl, _, rfl, (hS.pickB [0] 2 rfl rfl)⟩
theorem make_Codes_Ends_w {F R : Nat → Prop} {w : World} {fuel : Nat} {a1 : Int} {c0_0 : (List Int)} {c0_1 : Int} {B0 : Nat} {v2 : Value} {r : ((List EndI) × Int)} (hS : Sep F R R w w [HP.blk B0 [v2, .int .i64 c0_1] 55]) (f2 : IsSlice Ty.u8 w R v2 c0_0) (h : make_Codes_Ends fuel a1 c0_0 c0_1 = some r) :
    Gives Try.prog 11 [.pointer (some ⟨B0, 0, none⟩), .int .i64 a1] w fun u w1 => ∃ (v90 : Value), ∃ (R1 : Nat → Prop), u = v90 ∧ Sep F R R1 w w1 [HP.blk B0 [v2, .int .i64 r.2] 55, HP.own endITy (fun _ => False) 34 v90 r.1] := by
  refine fn_of Try.func11 rfl Try.ntmps11 (Nat.le_of_ble_eq_true rfl) ?_
  unfold make_Codes_Ends at h
  refine e_seq fun K91 hK91 => ?_
  refine e_region_text rfl ?_
  refine q_assign rfl rfl ?_
  refine eseq_nil ?_
  refine hK91 _ _ ?_
  refine e_seq fun K92 hK92 => ?_
  refine e_region_text rfl ?_
  refine q_assign rfl rfl ?_
  refine eseq_nil ?_
  refine hK92 _ _ ?_
  refine e_seq fun K93 hK93 => ?_
  refine e_seq fun K94 hK94 => ?_
  refine e_region_text rfl ?_
  refine q_move rfl rfl ?_
  refine q_move rfl rfl ?_
  refine q_addW rfl rfl rfl ?_
  obtain ⟨r96, hr96, h⟩ := Option.of_bind h
  refine q_call rfl (make_Codes_Next_w (Sep.enter (As := [_]) hS) f2 hr96) rfl ?_
  rintro _ w95 ⟨R95, rfl, hC95⟩
  refine ⟨(fun h => by cases h), ?_⟩
  have hk95 := hC95.keptR (Sep.offFeet (As := [_]) hS)
  replace f2 := (f2.kept hk95).mono fun k hk _ => hC95.ro0 k hk
  replace hS := Sep.leave (As := [_]) hS hC95; simp only [List.cons_append, List.nil_append] at hS
  refine q_assign rfl rfl ?_
  refine eseq_nil ?_
  refine hK94 _ _ ?_
  refine e_block ?_
  obtain ⟨tl97, ht97, h⟩ := Option.of_bind h
  have hX97_0 : ∀ (x157 : Int) (x160 : (List EndI)) (v159 : Value) (R154 : Nat → Prop) (w155 : World) (E_ : Env), make_Codes_Ends_K1 fuel x157 x160 = some r → Sep F R R154 w w155 [HP.blk B0 [v2, .int .i64 x157] 55, HP.own endITy (fun _ => False) 34 v159 x160] → IsSlice Ty.u8 w155 R154 v2 c0_0 → Sub [(5, v159)] E_ → K93 E_ w155 := by
    intro x157 x160 v159 R154 w155 E_ h hS f156 hsub
    refine hK93 _ _ (e_sub hsub ?_); clear hsub
    unfold make_Codes_Ends_K1 at h
    refine e_seq fun K161 hK161 => ?_
    refine e_region_text rfl ?_
    refine q_move rfl rfl ?_
    refine q_assign rfl rfl ?_
    refine eseq_nil ?_
    refine hK161 _ _ ?_
    refine e_ret ?_
    obtain rfl := Option.some.inj h
    exact ⟨_, res1 rfl rfl, v159, _, rfl, hS⟩
  replace hS := hS.nilOwn0 endITy 34
  refine e_loop (fun m_ E_ w125 => ∃ (x127 : Int), ∃ (x130 : (List EndI)), ∃ (x131 : Int), ∃ (v129 : Value), ∃ (R124 : Nat → Prop), iter (fun s => make_Codes_Ends_B1 fuel c0_0 s.1 s.2.1 s.2.2) m_ (x127, x130, x131) = some tl97 ∧ Sep F R R124 w w125 [HP.blk B0 [v2, .int .i64 x127] 55, HP.own endITy (fun _ => False) 34 v129 x130] ∧ IsSlice Ty.u8 w125 R124 v2 c0_0 ∧ E_ = [(0, .pointer (some ⟨B0, 0, none⟩)), (5, v129), (6, .int .i64 x131)]) _ ⟨_, ⟨r96.2, ([] : List EndI), r96.1, (.slice none 0 0), _, ht97, (hS.pickB [1, 0] 2 rfl rfl), f2, rfl⟩, Sub.cons rfl (Sub.cons rfl (Sub.cons rfl (Sub.nil _)))⟩ ?_
  clear ht97 hS
  rintro m97 _ w125 ⟨x127, x130, x131, v129, R124, ht97, hS, f126, rfl⟩
  obtain ⟨m97, rfl, o97, ho97, ht97⟩ := iter_some ht97
  replace ho97 : make_Codes_Ends_B1 fuel c0_0 x127 x130 x131 = some o97 := ho97
  unfold make_Codes_Ends_B1 at ho97
  refine e_seq fun K163 hK163 => ?_
  refine e_seq fun K164 hK164 => ?_
  refine e_region_text rfl ?_
  refine q_move rfl rfl ?_
  refine q_gtr rfl rfl rfl ?_
  refine eseq_nil ?_
  refine hK164 _ _ ?_
  refine e_cond rfl (fun hc165 => ?_) (fun hc165 => ?_)
  · replace ho97 := (if_pos hc165).symm.trans ho97
    refine e_skip ?_
    refine hK163 _ _ ?_
    refine e_seq fun K166 hK166 => ?_
    refine e_block ?_
    refine e_region_text rfl ?_
    refine q_move rfl rfl ?_
    refine q_move rfl rfl ?_
    obtain ⟨r168, hr168, ho97⟩ := Option.of_bind ho97
    refine q_call rfl (make_Codes_Next_w (Sep.enter (As := [_]) hS) f126 hr168) rfl ?_
    rintro _ w167 ⟨R167, rfl, hC167⟩
    refine ⟨(fun h => by cases h), ?_⟩
    have hk167 := hC167.keptR (Sep.offFeet (As := [_]) hS)
    replace f126 := (f126.kept hk167).mono fun k hk _ => hC167.ro0 k hk
    replace hS := Sep.leave (As := [_]) hS hC167; simp only [List.cons_append, List.nil_append] at hS
    refine q_move rfl rfl ?_
    obtain ⟨r170, hr170, ho97⟩ := Option.of_bind ho97
    refine q_call rfl (make_Codes_Next_w (Sep.enter (As := [_]) hS) f126 hr170) rfl ?_
    rintro _ w169 ⟨R169, rfl, hC169⟩
    refine ⟨(fun h => by cases h), ?_⟩
    have hk169 := hC169.keptR (Sep.offFeet (As := [_]) hS)
    replace f126 := (f126.kept hk169).mono fun k hk _ => hC169.ro0 k hk
    replace hS := Sep.leave (As := [_]) hS hC169; simp only [List.cons_append, List.nil_append] at hS
    refine q_move rfl rfl ?_
    obtain ⟨r172, hr172, ho97⟩ := Option.of_bind ho97
    refine q_call rfl (make_Codes_Next_w (Sep.enter (As := [_]) hS) f126 hr172) rfl ?_
    rintro _ w171 ⟨R171, rfl, hC171⟩
    refine ⟨(fun h => by cases h), ?_⟩
    have hk171 := hC171.keptR (Sep.offFeet (As := [_]) hS)
    replace f126 := (f126.kept hk171).mono fun k hk _ => hC171.ro0 k hk
    replace hS := Sep.leave (As := [_]) hS hC171; simp only [List.cons_append, List.nil_append] at hS
    refine q_build (Parts.cons rfl rfl (Parts.cons rfl rfl (Parts.cons rfl rfl Parts.nil))) rfl rfl ?_
    refine q_litO (T := endITy) (S := (fun _ => False)) (cells := [[.int .i64 r168.1, .int .i64 r170.1, .int .i64 r172.1]]) (ys := [(⟨r168.1, r170.1, r172.1⟩ : EndI)]) ((Parts.cons rfl rfl Parts.nil)) rfl rfl rfl rfl rfl rfl rfl (fun w1 hB => ⟨⟨[_], _, rfl, rfl, ⟨[_], _, rfl, rfl, rfl⟩⟩, trivial⟩) (fun _ h => h.elim) rfl fun w173 v173 ho173 hv173 hB173 => ?_
    replace f126 := f126.ext hB173
    replace hS := hS.newOwnS hB173 ho173 hv173 (fun _ h => h.elim)
    obtain ⟨x176, hx176, ho97⟩ := Option.of_bind ho97
    refine q_catOwn (T := endITy) rfl rfl rfl rfl (hS.own 2 rfl) rfl (hS.own 0 rfl) (fun _ h _ => h.elim) (snoc_cat hx176) (Nat.zero_le _) rfl (fun h => by cases h) fun v175 w175 hw175 hgr175 hnw175 => ?_
    have hk175 := hS.keptOwn 2 rfl hgr175
    replace f126 := f126.kept hk175
    replace hS := hS.setOwn 2 rfl hw175 hgr175 hnw175; simp only [List.set] at hS
    refine q_assign rfl rfl ?_
    refine eseq_nil ?_
    refine hK166 _ _ ?_
    refine e_region_text rfl ?_
    refine q_move rfl rfl ?_
    refine q_subW rfl rfl rfl ?_
    refine q_assign rfl rfl ?_
    refine eseq_nil ?_
    obtain rfl := Option.some.inj ho97
    exact ⟨m97, _, Nat.lt_succ_self _, ⟨r172.2, x176, (w64 (x131 - 1)), v175, _, ht97, (hS.pickB [1, 2] 3 rfl rfl), f126, rfl⟩, Sub.cons rfl (Sub.cons rfl (Sub.cons rfl (Sub.nil _)))⟩
  · replace ho97 := (if_neg (not_true hc165)).symm.trans ho97
    refine e_exit ?_
    obtain rfl := Option.some.inj ho97
    obtain rfl := Option.some.inj ht97
    exact hX97_0 x127 x130 v129 _ _ _ h hS f126 (Sub.cons rfl (Sub.nil _))
theorem make_Codes_Event_w {F R : Nat → Prop} {w : World} {fuel : Nat} {c0_0 : (List Int)} {c0_1 : Int} {B0 : Nat} {v2 : Value} {r : (Evt × Int)} (hS : Sep F R R w w [HP.blk B0 [v2, .int .i64 c0_1] 55]) (f2 : IsSlice Ty.u8 w R v2 c0_0) (h : make_Codes_Event fuel c0_0 c0_1 = some r) :
    Gives Try.prog 31 [.pointer (some ⟨B0, 0, none⟩)] w fun u w1 => ∃ (R1 : Nat → Prop), u = .agg #[.int .i64 r.1.kind, .int .i64 r.1.inc, .int .i64 r.1.frm, .int .i64 r.1.sent.inc, .int .i64 r.1.sent.index, .int .i64 r.1.ord, .int .i64 r.1.value] ∧ Sep F R R1 w w1 [HP.blk B0 [v2, .int .i64 r.2] 55] := by
  refine fn_of Try.func31 rfl Try.ntmps31 (Nat.le_of_ble_eq_true rfl) ?_
  unfold make_Codes_Event at h
  refine e_seq fun K53 hK53 => ?_
  refine e_region_text rfl ?_
  refine q_allocB rfl fun w54 bl54 hg54 hb54 hB54 => ?_
  replace f2 := f2.ext hB54
  replace hS := hS.newBlk hB54 hg54 hb54
  refine eseq_nil ?_
  refine hK53 _ _ ?_
  refine e_seq fun K56 hK56 => ?_
  refine e_region_text rfl ?_
  refine q_move rfl rfl ?_
  obtain ⟨r58, hr58, h⟩ := Option.of_bind h
  replace hS := hS.pickB [1, 0] 2 rfl rfl; simp only [List.map_cons, List.map_nil, List.getD_cons_zero, List.getD_cons_succ] at hS
  refine q_call rfl (make_Codes_Next_w (Sep.enter (As := [_]) hS) f2 hr58) rfl ?_
  rintro _ w57 ⟨R57, rfl, hC57⟩
  refine ⟨(fun h => by cases h), ?_⟩
  have hk57 := hC57.keptR (Sep.offFeet (As := [_]) hS)
  replace f2 := (f2.kept hk57).mono fun k hk _ => hC57.ro0 k hk
  replace hS := Sep.leave (As := [_]) hS hC57; simp only [List.cons_append, List.nil_append] at hS
  refine q_addW rfl rfl rfl ?_
  refine q_move rfl rfl ?_
  obtain ⟨r60, hr60, h⟩ := Option.of_bind h
  refine q_call rfl (make_Codes_Next_w (Sep.enter (As := [_]) hS) f2 hr60) rfl ?_
  rintro _ w59 ⟨R59, rfl, hC59⟩
  refine ⟨(fun h => by cases h), ?_⟩
  have hk59 := hC59.keptR (Sep.offFeet (As := [_]) hS)
  replace f2 := (f2.kept hk59).mono fun k hk _ => hC59.ro0 k hk
  replace hS := Sep.leave (As := [_]) hS hC59; simp only [List.cons_append, List.nil_append] at hS
  refine q_move rfl rfl ?_
  obtain ⟨r62, hr62, h⟩ := Option.of_bind h
  refine q_call rfl (make_Codes_Int_w (Sep.enter (As := [_]) hS) f2 hr62) rfl ?_
  rintro _ w61 ⟨R61, rfl, hC61⟩
  refine ⟨(fun h => by cases h), ?_⟩
  have hk61 := hC61.keptR (Sep.offFeet (As := [_]) hS)
  replace f2 := (f2.kept hk61).mono fun k hk _ => hC61.ro0 k hk
  replace hS := Sep.leave (As := [_]) hS hC61; simp only [List.cons_append, List.nil_append] at hS
  refine q_build (Parts.cons rfl rfl (Parts.cons rfl rfl (Parts.cons rfl rfl Parts.nil))) rfl rfl ?_
  refine q_allocB rfl fun w63 bl63 hg63 hb63 hB63 => ?_
  replace f2 := f2.ext hB63
  replace hS := hS.newBlk hB63 hg63 hb63
  refine q_storeAgg rfl rfl (hS.blk 0 rfl) rfl (Nat.le_of_ble_eq_true rfl) (all_cons rfl (all_cons rfl (all_cons rfl (all_cons rfl (all_cons rfl (all_cons rfl (all_cons rfl (all_nil)))))))) rfl rfl fun w66 hb66 hO66 => ?_
  simp only [setN, List.set, List.take, List.drop] at hb66
  have hk66 := hS.keptBlk 0 rfl hO66
  replace f2 := f2.kept hk66
  replace hS := hS.setBlk 0 rfl hb66 hO66; simp only [List.set] at hS
  refine eseq_nil ?_
  refine hK56 _ _ ?_
  refine e_seq fun K67 hK67 => ?_
  have hJ67 : ∀ (x84 : Int) (x85 : Int) (x86 : Int) (x87 : Int) (x88 : Int) (R81 : Nat → Prop) (w82 : World) (E_ : Env), make_Codes_Event_J1 fuel r58 r60 r62 x84 x85 x86 x87 x88 = some r → Sep F R R81 w w82 [HP.blk B0 [v2, .int .i64 x84] 55, HP.blk bl54 [.int .i64 0, .int .i64 0, .int .i64 0, .int .i64 0, .int .i64 0, .int .i64 0, .int .i64 0] 53, HP.blk bl63 [.int .i64 (w64 (1 + r58.1)), .int .i64 r60.1, .int .i64 x85, .int .i64 x86, .int .i64 x87, .int .i64 x88, .int .i64 r62.1] 53] → IsSlice Ty.u8 w82 R81 v2 c0_0 → Sub [(2, .pointer (some ⟨bl54, 0, none⟩)), (3, .pointer (some ⟨bl63, 0, none⟩))] E_ → K67 E_ w82 := by
    intro x84 x85 x86 x87 x88 R81 w82 E_ h hS f83 hsub
    refine hK67 _ _ (e_sub hsub ?_); clear hsub
    unfold make_Codes_Event_J1 at h
    refine e_seq fun K89 hK89 => ?_
    refine e_region_text rfl ?_
    refine q_loadAgg rfl (Blk.cellsAt (hS.blk 2 rfl) 0 7 rfl) rfl rfl ?_
    refine q_storeAgg rfl rfl (hS.blk 1 rfl) rfl (Nat.le_of_ble_eq_true rfl) (all_cons rfl (all_cons rfl (all_cons rfl (all_cons rfl (all_cons rfl (all_cons rfl (all_cons rfl (all_nil)))))))) rfl rfl fun w90 hb90 hO90 => ?_
    simp only [setN, List.set, List.take, List.drop] at hb90
    have hk90 := hS.keptBlk 1 rfl hO90
    replace f83 := f83.kept hk90
    replace hS := hS.setBlk 1 rfl hb90 hO90; simp only [List.set] at hS
    refine eseq_nil ?_
    refine hK89 _ _ ?_
    refine e_ret ?_
    obtain rfl := Option.some.inj h
    exact ⟨_, resC1 rfl rfl ((hS.blk 1 rfl).cellsAt 0 7 rfl) rfl, _, rfl, (hS.pickB [0] 3 rfl rfl)⟩
  refine e_seq fun K91 hK91 => ?_
  refine e_region_text rfl ?_
  refine q_field rfl rfl ?_
  refine q_load rfl (Blk.cell (hS.blk 0 rfl) rfl) rfl ?_
  refine q_eql rfl rfl rfl ?_
  refine eseq_nil ?_
  refine hK91 _ _ ?_
  refine e_cond rfl (fun hc92 => ?_) (fun hc92 => ?_)
  · replace h := (if_pos hc92).symm.trans h
    refine e_region_text rfl ?_
    refine q_move rfl rfl ?_
    obtain ⟨r94, hr94, h⟩ := Option.of_bind h
    replace hS := hS.pickB [1, 0, 2] 3 rfl rfl; simp only [List.map_cons, List.map_nil, List.getD_cons_zero, List.getD_cons_succ] at hS
    refine q_call rfl (make_Codes_Next_w (Sep.enter (As := [_]) hS) f2 hr94) rfl ?_
    rintro _ w93 ⟨R93, rfl, hC93⟩
    refine ⟨(fun h => by cases h), ?_⟩
    have hk93 := hC93.keptR (Sep.offFeet (As := [_]) hS)
    replace f2 := (f2.kept hk93).mono fun k hk _ => hC93.ro0 k hk
    replace hS := Sep.leave (As := [_]) hS hC93; simp only [List.cons_append, List.nil_append] at hS
    refine q_move rfl rfl ?_
    obtain ⟨r96, hr96, h⟩ := Option.of_bind h
    refine q_call rfl (make_Codes_Next_w (Sep.enter (As := [_]) hS) f2 hr96) rfl ?_
    rintro _ w95 ⟨R95, rfl, hC95⟩
    refine ⟨(fun h => by cases h), ?_⟩
    have hk95 := hC95.keptR (Sep.offFeet (As := [_]) hS)
    replace f2 := (f2.kept hk95).mono fun k hk _ => hC95.ro0 k hk
    replace hS := Sep.leave (As := [_]) hS hC95; simp only [List.cons_append, List.nil_append] at hS
    refine q_move rfl rfl ?_
    obtain ⟨r98, hr98, h⟩ := Option.of_bind h
    refine q_call rfl (make_Codes_Next_w (Sep.enter (As := [_]) hS) f2 hr98) rfl ?_
    rintro _ w97 ⟨R97, rfl, hC97⟩
    refine ⟨(fun h => by cases h), ?_⟩
    have hk97 := hC97.keptR (Sep.offFeet (As := [_]) hS)
    replace f2 := (f2.kept hk97).mono fun k hk _ => hC97.ro0 k hk
    replace hS := Sep.leave (As := [_]) hS hC97; simp only [List.cons_append, List.nil_append] at hS
    refine q_build (Parts.cons rfl rfl (Parts.cons rfl rfl Parts.nil)) rfl rfl ?_
    refine q_move rfl rfl ?_
    obtain ⟨r100, hr100, h⟩ := Option.of_bind h
    refine q_call rfl (make_Codes_Next_w (Sep.enter (As := [_]) hS) f2 hr100) rfl ?_
    rintro _ w99 ⟨R99, rfl, hC99⟩
    refine ⟨(fun h => by cases h), ?_⟩
    have hk99 := hC99.keptR (Sep.offFeet (As := [_]) hS)
    replace f2 := (f2.kept hk99).mono fun k hk _ => hC99.ro0 k hk
    replace hS := Sep.leave (As := [_]) hS hC99; simp only [List.cons_append, List.nil_append] at hS
    refine q_field rfl rfl ?_
    refine q_store rfl rfl (hS.blk 1 rfl) (Nat.le_of_ble_eq_true rfl) rfl rfl rfl fun w101 hb101 hO101 => ?_
    have hk101 := hS.keptBlk 1 rfl hO101
    replace f2 := f2.kept hk101
    replace hS := hS.setBlk 1 rfl hb101 hO101; simp only [List.set] at hS
    refine q_field rfl rfl ?_
    refine q_storeAgg rfl rfl (hS.blk 1 rfl) rfl (Nat.le_of_ble_eq_true rfl) (all_cons rfl (all_cons rfl (all_nil))) rfl rfl fun w102 hb102 hO102 => ?_
    simp only [setN, List.set, List.take, List.drop] at hb102
    have hk102 := hS.keptBlk 1 rfl hO102
    replace f2 := f2.kept hk102
    replace hS := hS.setBlk 1 rfl hb102 hO102; simp only [List.set] at hS
    refine q_field rfl rfl ?_
    refine q_store rfl rfl (hS.blk 1 rfl) (Nat.le_of_ble_eq_true rfl) rfl rfl rfl fun w103 hb103 hO103 => ?_
    have hk103 := hS.keptBlk 1 rfl hO103
    replace f2 := f2.kept hk103
    replace hS := hS.setBlk 1 rfl hb103 hO103; simp only [List.set] at hS
    refine eseq_nil ?_
    exact hJ67 r100.2 r94.1 r96.1 r98.1 r100.1 _ _ _ h (hS.pickB [0, 2, 1] 3 rfl rfl) f2 (Sub.cons rfl (Sub.cons rfl (Sub.nil _)))
  · replace h := (if_neg (not_true hc92)).symm.trans h
    refine e_skip ?_
    exact hJ67 r62.2 0 0 0 0 _ _ _ h (hS.pickB [1, 2, 0] 3 rfl rfl) f2 (Sub.cons rfl (Sub.cons rfl (Sub.nil _)))
theorem make_Codes_Events_w {F R : Nat → Prop} {w : World} {fuel : Nat} {a1 : Int} {c0_0 : (List Int)} {c0_1 : Int} {B0 : Nat} {v2 : Value} {r : ((List Evt) × Int)} (hS : Sep F R R w w [HP.blk B0 [v2, .int .i64 c0_1] 55]) (f2 : IsSlice Ty.u8 w R v2 c0_0) (h : make_Codes_Events fuel a1 c0_0 c0_1 = some r) :
    Gives Try.prog 20 [.pointer (some ⟨B0, 0, none⟩), .int .i64 a1] w fun u w1 => ∃ (v78 : Value), ∃ (R1 : Nat → Prop), u = v78 ∧ Sep F R R1 w w1 [HP.blk B0 [v2, .int .i64 r.2] 55, HP.own evtTy (fun _ => False) 53 v78 r.1] := by
  refine fn_of Try.func20 rfl Try.ntmps20 (Nat.le_of_ble_eq_true rfl) ?_
  unfold make_Codes_Events at h
  refine e_seq fun K79 hK79 => ?_
  refine e_region_text rfl ?_
  refine q_assign rfl rfl ?_
  refine eseq_nil ?_
  refine hK79 _ _ ?_
  refine e_seq fun K80 hK80 => ?_
  refine e_region_text rfl ?_
  refine q_assign rfl rfl ?_
  refine eseq_nil ?_
  refine hK80 _ _ ?_
  refine e_seq fun K81 hK81 => ?_
  refine e_seq fun K82 hK82 => ?_
  refine e_region_text rfl ?_
  refine q_move rfl rfl ?_
  refine q_move rfl rfl ?_
  refine q_addW rfl rfl rfl ?_
  obtain ⟨r84, hr84, h⟩ := Option.of_bind h
  refine q_call rfl (make_Codes_Next_w (Sep.enter (As := [_]) hS) f2 hr84) rfl ?_
  rintro _ w83 ⟨R83, rfl, hC83⟩
  refine ⟨(fun h => by cases h), ?_⟩
  have hk83 := hC83.keptR (Sep.offFeet (As := [_]) hS)
  replace f2 := (f2.kept hk83).mono fun k hk _ => hC83.ro0 k hk
  replace hS := Sep.leave (As := [_]) hS hC83; simp only [List.cons_append, List.nil_append] at hS
  refine q_assign rfl rfl ?_
  refine eseq_nil ?_
  refine hK82 _ _ ?_
  refine e_block ?_
  obtain ⟨tl85, ht85, h⟩ := Option.of_bind h
  have hX85_0 : ∀ (x137 : Int) (x140 : (List Evt)) (v139 : Value) (R134 : Nat → Prop) (w135 : World) (E_ : Env), make_Codes_Events_K1 fuel x137 x140 = some r → Sep F R R134 w w135 [HP.blk B0 [v2, .int .i64 x137] 55, HP.own evtTy (fun _ => False) 53 v139 x140] → IsSlice Ty.u8 w135 R134 v2 c0_0 → Sub [(5, v139)] E_ → K81 E_ w135 := by
    intro x137 x140 v139 R134 w135 E_ h hS f136 hsub
    refine hK81 _ _ (e_sub hsub ?_); clear hsub
    unfold make_Codes_Events_K1 at h
    refine e_seq fun K141 hK141 => ?_
    refine e_region_text rfl ?_
    refine q_move rfl rfl ?_
    refine q_assign rfl rfl ?_
    refine eseq_nil ?_
    refine hK141 _ _ ?_
    refine e_ret ?_
    obtain rfl := Option.some.inj h
    exact ⟨_, res1 rfl rfl, v139, _, rfl, hS⟩
  replace hS := hS.nilOwn0 evtTy 53
  refine e_loop (fun m_ E_ w109 => ∃ (x111 : Int), ∃ (x114 : (List Evt)), ∃ (x115 : Int), ∃ (v113 : Value), ∃ (R108 : Nat → Prop), iter (fun s => make_Codes_Events_B1 fuel c0_0 s.1 s.2.1 s.2.2) m_ (x111, x114, x115) = some tl85 ∧ Sep F R R108 w w109 [HP.blk B0 [v2, .int .i64 x111] 55, HP.own evtTy (fun _ => False) 53 v113 x114] ∧ IsSlice Ty.u8 w109 R108 v2 c0_0 ∧ E_ = [(0, .pointer (some ⟨B0, 0, none⟩)), (5, v113), (6, .int .i64 x115)]) _ ⟨_, ⟨r84.2, ([] : List Evt), r84.1, (.slice none 0 0), _, ht85, (hS.pickB [1, 0] 2 rfl rfl), f2, rfl⟩, Sub.cons rfl (Sub.cons rfl (Sub.cons rfl (Sub.nil _)))⟩ ?_
  clear ht85 hS
  rintro m85 _ w109 ⟨x111, x114, x115, v113, R108, ht85, hS, f110, rfl⟩
  obtain ⟨m85, rfl, o85, ho85, ht85⟩ := iter_some ht85
  replace ho85 : make_Codes_Events_B1 fuel c0_0 x111 x114 x115 = some o85 := ho85
  unfold make_Codes_Events_B1 at ho85
  refine e_seq fun K143 hK143 => ?_
  refine e_seq fun K144 hK144 => ?_
  refine e_region_text rfl ?_
  refine q_move rfl rfl ?_
  refine q_gtr rfl rfl rfl ?_
  refine eseq_nil ?_
  refine hK144 _ _ ?_
  refine e_cond rfl (fun hc145 => ?_) (fun hc145 => ?_)
  · replace ho85 := (if_pos hc145).symm.trans ho85
    refine e_skip ?_
    refine hK143 _ _ ?_
    refine e_seq fun K146 hK146 => ?_
    refine e_block ?_
    refine e_region_text rfl ?_
    refine q_move rfl rfl ?_
    refine q_move rfl rfl ?_
    obtain ⟨r148, hr148, ho85⟩ := Option.of_bind ho85
    refine q_call rfl (make_Codes_Event_w (Sep.enter (As := [_]) hS) f110 hr148) rfl ?_
    rintro _ w147 ⟨R147, rfl, hC147⟩
    refine ⟨(fun h => by cases h), ?_⟩
    have hk147 := hC147.keptR (Sep.offFeet (As := [_]) hS)
    replace f110 := (f110.kept hk147).mono fun k hk _ => hC147.ro0 k hk
    replace hS := Sep.leave (As := [_]) hS hC147; simp only [List.cons_append, List.nil_append] at hS
    refine q_litO (T := evtTy) (S := (fun _ => False)) (cells := [[.int .i64 r148.1.kind, .int .i64 r148.1.inc, .int .i64 r148.1.frm, .int .i64 r148.1.sent.inc, .int .i64 r148.1.sent.index, .int .i64 r148.1.ord, .int .i64 r148.1.value]]) (ys := [r148.1]) ((Parts.cons rfl rfl Parts.nil)) rfl rfl rfl rfl rfl rfl rfl (fun w1 hB => ⟨⟨[_], _, rfl, rfl, ⟨[_], _, rfl, rfl, ⟨[_], _, rfl, rfl, ⟨[_, _], _, rfl, ⟨[_], _, rfl, rfl, rfl⟩, ⟨[_], _, rfl, rfl, rfl⟩⟩⟩⟩⟩, trivial⟩) (fun _ h => h.elim) rfl fun w149 v149 ho149 hv149 hB149 => ?_
    replace f110 := f110.ext hB149
    replace hS := hS.newOwnS hB149 ho149 hv149 (fun _ h => h.elim)
    obtain ⟨x152, hx152, ho85⟩ := Option.of_bind ho85
    refine q_catOwn (T := evtTy) rfl rfl rfl rfl (hS.own 2 rfl) rfl (hS.own 0 rfl) (fun _ h _ => h.elim) (snoc_cat hx152) (Nat.zero_le _) rfl (fun h => by cases h) fun v151 w151 hw151 hgr151 hnw151 => ?_
    have hk151 := hS.keptOwn 2 rfl hgr151
    replace f110 := f110.kept hk151
    replace hS := hS.setOwn 2 rfl hw151 hgr151 hnw151; simp only [List.set] at hS
    refine q_assign rfl rfl ?_
    refine eseq_nil ?_
    refine hK146 _ _ ?_
    refine e_region_text rfl ?_
    refine q_move rfl rfl ?_
    refine q_subW rfl rfl rfl ?_
    refine q_assign rfl rfl ?_
    refine eseq_nil ?_
    obtain rfl := Option.some.inj ho85
    exact ⟨m85, _, Nat.lt_succ_self _, ⟨r148.2, x152, (w64 (x115 - 1)), v151, _, ht85, (hS.pickB [1, 2] 3 rfl rfl), f110, rfl⟩, Sub.cons rfl (Sub.cons rfl (Sub.cons rfl (Sub.nil _)))⟩
  · replace ho85 := (if_neg (not_true hc145)).symm.trans ho85
    refine e_exit ?_
    obtain rfl := Option.some.inj ho85
    obtain rfl := Option.some.inj ht85
    exact hX85_0 x111 x114 v113 _ _ _ h hS f110 (Sub.cons rfl (Sub.nil _))
theorem incarnation_Undone_w {F R : Nat → Prop} {w : World} {fuel : Nat} {a0 : (List EndI)} {a1 : Int} {a2 : Lab} {v1 : Value} {r : (Bool)} (hS : Sep F R R w w []) (f1 : IsSlice endITy w R v1 a0) (h : incarnation_Undone fuel a0 a1 a2 = some r) :
    Gives Try.prog 13 [v1, .int .i64 a1, .agg #[.int .i64 a2.inc, .int .i64 a2.index]] w fun u w1 => ∃ (R1 : Nat → Prop), u = .bool r ∧ Sep F R R1 w w1 [] := by
  refine fn_of Try.func13 rfl Try.ntmps13 (Nat.le_of_ble_eq_true rfl) ?_
  unfold incarnation_Undone at h
  refine e_seq fun K81 hK81 => ?_
  refine e_region_text rfl ?_
  refine q_boxB rfl rfl rfl fun w82 bl82 hg82 hb82 hB82 => ?_
  replace f1 := f1.ext hB82
  replace hS := hS.newBlk hB82 hg82 hb82
  refine q_assign rfl rfl ?_
  refine eseq_nil ?_
  refine hK81 _ _ ?_
  refine e_seq fun K84 hK84 => ?_
  refine e_seq fun K85 hK85 => ?_
  refine e_region_text rfl ?_
  refine q_move rfl rfl ?_
  refine q_lenS rfl f1 rfl ?_
  refine q_move rfl rfl ?_
  refine eseq_nil ?_
  refine hK85 _ _ ?_
  refine e_block ?_
  obtain ⟨tl86, ht86, h⟩ := Option.of_bind h
  have hX86_0 : ∀ (R138 : Nat → Prop) (w139 : World) (E_ : Env), incarnation_Undone_K1 fuel = some r → Sep F R R138 w w139 [] → Sub [] E_ → K84 E_ w139 := by
    intro R138 w139 E_ h hS  hsub
    refine hK84 _ _ (e_sub hsub ?_); clear hsub
    unfold incarnation_Undone_K1 at h
    refine e_seq fun K140 hK140 => ?_
    refine e_region_text rfl ?_
    refine q_assign rfl rfl ?_
    refine eseq_nil ?_
    refine hK140 _ _ ?_
    refine e_ret ?_
    obtain rfl := Option.some.inj h
    exact ⟨_, res1 rfl rfl, _, rfl, hS⟩
  refine e_loop (fun m_ E_ w113 => ∃ (x115 : Int), ∃ (R112 : Nat → Prop), iter (fun s => incarnation_Undone_B1 fuel a0 a1 a2 s) m_ x115 = some tl86 ∧ Sep F R R112 w w113 [HP.blk bl82 [.int .i64 a2.inc, .int .i64 a2.index] 24] ∧ IsSlice endITy w113 R112 v1 a0 ∧ E_ = [(1, .int .i64 a1), (5, .pointer (some ⟨bl82, 0, none⟩)), (9, v1), (10, .int .i64 (a0.length : Int)), (11, .int .i64 x115)]) _ ⟨_, ⟨0, _, ht86, hS, f1, rfl⟩, Sub.cons rfl (Sub.cons rfl (Sub.cons rfl (Sub.cons rfl (Sub.cons rfl (Sub.nil _)))))⟩ ?_
  clear ht86 hS
  rintro m86 _ w113 ⟨x115, R112, ht86, hS, f114, rfl⟩
  obtain ⟨m86, rfl, o86, ho86, ht86⟩ := iter_some ht86
  replace ho86 : incarnation_Undone_B1 fuel a0 a1 a2 x115 = some o86 := ho86
  unfold incarnation_Undone_B1 at ho86
  refine e_seq fun K141 hK141 => ?_
  refine e_region_text rfl ?_
  refine q_lss rfl rfl rfl ?_
  refine eseq_nil ?_
  refine hK141 _ _ ?_
  refine e_seq fun K142 hK142 => ?_
  refine e_cond rfl (fun hc143 => ?_) (fun hc143 => ?_)
  · replace ho86 := (if_pos hc143).symm.trans ho86
    refine e_skip ?_
    refine hK142 _ _ ?_
    refine e_seq fun K144 hK144 => ?_
    refine e_block ?_
    refine e_seq fun K145 hK145 => ?_
    refine e_region_text rfl ?_
    obtain ⟨x146, hx146, ho86⟩ := Option.of_bind ho86
    refine q_atS (by infer_instance) rfl f114 rfl hx146 rfl fun b147 o147 hm147 f147 => ?_
    have hc148 := EndI_open f147
    refine q_loadAgg rfl hc148 rfl rfl ?_
    refine q_allocB rfl fun w149 bl149 hg149 hb149 hB149 => ?_
    replace f114 := f114.ext hB149
    replace hS := hS.newBlk hB149 hg149 hb149
    refine q_storeAgg rfl rfl (hS.blk 0 rfl) rfl (Nat.le_of_ble_eq_true rfl) (all_cons rfl (all_cons rfl (all_cons rfl (all_nil)))) rfl rfl fun w151 hb151 hO151 => ?_
    simp only [setN, List.set, List.take, List.drop] at hb151
    have hk151 := hS.keptBlk 0 rfl hO151
    replace f114 := f114.kept hk151
    replace hS := hS.setBlk 0 rfl hb151 hO151; simp only [List.set] at hS
    refine eseq_nil ?_
    refine hK145 _ _ ?_
    refine e_seq fun K152 hK152 => ?_
    refine e_region_text rfl ?_
    refine q_field rfl rfl ?_
    refine q_load rfl (Blk.cell (hS.blk 0 rfl) rfl) rfl ?_
    refine q_move rfl rfl ?_
    refine q_eql rfl rfl rfl ?_
    refine q_move rfl rfl ?_
    obtain ⟨x154, hx153, ho86⟩ := Option.of_bind ho86
    refine g_andM 5 hx153 rfl trivial rfl rfl ?_ ?_ ?_
    · intro hg153 hx153
      clear ho86
      have hT153 := Below.refl (World.heap w151).size w151
      refine g_run rfl ?_; refine q_field rfl rfl ?_
      refine g_run rfl ?_; refine q_load rfl (Blk.cell (hS.blk 0 rfl) rfl) rfl ?_
      refine g_run rfl ?_; refine q_field rfl rfl ?_
      refine g_run rfl ?_; refine q_load rfl (Blk.cell (hS.blk 1 rfl) rfl) rfl ?_
      refine g_run rfl ?_; refine q_geq rfl rfl rfl ?_
      cases hx153
      exact eseq_nil ⟨hT153, Sub.set rfl (Sub.set rfl (Sub.set rfl (Sub.set rfl (Sub.set rfl (Sub.bool true rfl hg153))))), rfl⟩
    · intro hg153
      refine g_skip rfl rfl rfl ?_
      refine g_skip rfl rfl rfl ?_
      refine g_skip rfl rfl rfl ?_
      refine g_skip rfl rfl rfl ?_
      refine g_skip rfl rfl rfl ?_
      exact eseq_nil ⟨rfl, Sub.set rfl (Sub.set rfl (Sub.set rfl (Sub.set rfl (Sub.set rfl (Sub.bool false rfl hg153)))))⟩
    intro wm153 hBm153; clear hx153
    replace hS := hS.below hBm153
    replace f114 := f114.ext hBm153
    refine q_move rfl rfl ?_
    obtain ⟨x156, hx155, ho86⟩ := Option.of_bind ho86
    refine g_andM 5 hx155 rfl trivial rfl rfl ?_ ?_ ?_
    · intro hg155 hx155
      clear ho86
      have hT155 := Below.refl (World.heap wm153).size wm153
      refine g_run rfl ?_; refine q_field rfl rfl ?_
      refine g_run rfl ?_; refine q_load rfl (Blk.cell (hS.blk 0 rfl) rfl) rfl ?_
      refine g_run rfl ?_; refine q_field rfl rfl ?_
      refine g_run rfl ?_; refine q_load rfl (Blk.cell (hS.blk 1 rfl) rfl) rfl ?_
      refine g_run rfl ?_; refine q_lss rfl rfl rfl ?_
      cases hx155
      exact eseq_nil ⟨hT155, Sub.set rfl (Sub.set rfl (Sub.set rfl (Sub.set rfl (Sub.set rfl (Sub.bool true rfl hg155))))), rfl⟩
    · intro hg155
      refine g_skip rfl rfl rfl ?_
      refine g_skip rfl rfl rfl ?_
      refine g_skip rfl rfl rfl ?_
      refine g_skip rfl rfl rfl ?_
      refine g_skip rfl rfl rfl ?_
      exact eseq_nil ⟨rfl, Sub.set rfl (Sub.set rfl (Sub.set rfl (Sub.set rfl (Sub.set rfl (Sub.bool false rfl hg155)))))⟩
    intro wm155 hBm155; clear hx155
    replace hS := hS.below hBm155
    replace f114 := f114.ext hBm155
    refine eseq_nil ?_
    refine hK152 _ _ ?_
    refine e_cond rfl (fun hc157 => ?_) (fun hc157 => ?_)
    · replace ho86 := (if_pos hc157).symm.trans ho86
      refine e_seq fun K158 hK158 => ?_
      refine e_region_text rfl ?_
      refine q_assign rfl rfl ?_
      refine eseq_nil ?_
      refine hK158 _ _ ?_
      refine e_ret ?_
      obtain rfl := Option.some.inj ho86
      obtain rfl := Option.some.inj ht86
      obtain rfl := Option.some.inj h
      exact ⟨_, res1 rfl rfl, _, rfl, (hS.pickB [] 2 rfl rfl)⟩
    · replace ho86 := (if_neg (not_true hc157)).symm.trans ho86
      refine e_skip ?_
      refine hK144 _ _ ?_
      refine e_region_text rfl ?_
      refine q_addW rfl rfl rfl ?_
      refine q_move rfl rfl ?_
      refine eseq_nil ?_
      obtain rfl := Option.some.inj ho86
      exact ⟨m86, _, Nat.lt_succ_self _, ⟨(w64 (x115 + 1)), _, ht86, (hS.pickB [1] 2 rfl rfl), f114, rfl⟩, Sub.cons rfl (Sub.cons rfl (Sub.cons rfl (Sub.cons rfl (Sub.cons rfl (Sub.nil _)))))⟩
  · replace ho86 := (if_neg (not_true hc143)).symm.trans ho86
    refine e_exit ?_
    obtain rfl := Option.some.inj ho86
    obtain rfl := Option.some.inj ht86
    exact hX86_0  _ _ _ h (hS.pickB [] 1 rfl rfl)  (Sub.nil _)
theorem ref31_Undone_w {F R : Nat → Prop} {w : World} {fuel : Nat} {a0 : (List EndI)} {a1 : Int} {a2 : Lab} {v1 : Value} {r : (Bool)} (hS : Sep F R R w w []) (f1 : IsSlice endITy w R v1 a0) (h : ref31_Undone fuel a0 a1 a2 = some r) :
    Gives Try.prog 14 [v1, .int .i64 a1, .agg #[.int .i64 a2.inc, .int .i64 a2.index]] w fun u w1 => ∃ (R1 : Nat → Prop), u = .bool r ∧ Sep F R R1 w w1 [] := by
  refine fn_of Try.func14 rfl Try.ntmps14 (Nat.le_of_ble_eq_true rfl) ?_
  unfold ref31_Undone at h
  refine e_seq fun K87 hK87 => ?_
  refine e_region_text rfl ?_
  refine q_boxB rfl rfl rfl fun w88 bl88 hg88 hb88 hB88 => ?_
  replace f1 := f1.ext hB88
  replace hS := hS.newBlk hB88 hg88 hb88
  refine q_assign rfl rfl ?_
  refine eseq_nil ?_
  refine hK87 _ _ ?_
  refine e_seq fun K90 hK90 => ?_
  refine e_seq fun K91 hK91 => ?_
  refine e_region_text rfl ?_
  refine q_assign rfl rfl ?_
  refine eseq_nil ?_
  refine hK91 _ _ ?_
  refine e_block ?_
  obtain ⟨tl92, ht92, h⟩ := Option.of_bind h
  have hX92_0 : ∀ (R148 : Nat → Prop) (w149 : World) (E_ : Env), ref31_Undone_K1 fuel = some r → Sep F R R148 w w149 [] → Sub [] E_ → K90 E_ w149 := by
    intro R148 w149 E_ h hS  hsub
    refine hK90 _ _ (e_sub hsub ?_); clear hsub
    unfold ref31_Undone_K1 at h
    refine e_seq fun K150 hK150 => ?_
    refine e_region_text rfl ?_
    refine q_assign rfl rfl ?_
    refine eseq_nil ?_
    refine hK150 _ _ ?_
    refine e_ret ?_
    obtain rfl := Option.some.inj h
    exact ⟨_, res1 rfl rfl, _, rfl, hS⟩
  refine e_loop (fun m_ E_ w121 => ∃ (x123 : Int), ∃ (R120 : Nat → Prop), iter (fun s => ref31_Undone_B1 fuel a0 a1 a2 s) m_ x123 = some tl92 ∧ Sep F R R120 w w121 [HP.blk bl88 [.int .i64 a2.inc, .int .i64 a2.index] 24] ∧ IsSlice endITy w121 R120 v1 a0 ∧ E_ = [(0, v1), (1, .int .i64 a1), (5, .pointer (some ⟨bl88, 0, none⟩)), (7, .int .i64 x123)]) _ ⟨_, ⟨0, _, ht92, hS, f1, rfl⟩, Sub.cons rfl (Sub.cons rfl (Sub.cons rfl (Sub.cons rfl (Sub.nil _))))⟩ ?_
  clear ht92 hS
  rintro m92 _ w121 ⟨x123, R120, ht92, hS, f122, rfl⟩
  obtain ⟨m92, rfl, o92, ho92, ht92⟩ := iter_some ht92
  replace ho92 : ref31_Undone_B1 fuel a0 a1 a2 x123 = some o92 := ho92
  unfold ref31_Undone_B1 at ho92
  refine e_seq fun K151 hK151 => ?_
  refine e_seq fun K152 hK152 => ?_
  refine e_region_text rfl ?_
  refine q_move rfl rfl ?_
  refine q_move rfl rfl ?_
  refine q_lenS rfl f122 rfl ?_
  refine q_lss rfl rfl rfl ?_
  refine eseq_nil ?_
  refine hK152 _ _ ?_
  refine e_cond rfl (fun hc153 => ?_) (fun hc153 => ?_)
  · replace ho92 := (if_pos hc153).symm.trans ho92
    refine e_skip ?_
    refine hK151 _ _ ?_
    refine e_seq fun K154 hK154 => ?_
    refine e_block ?_
    refine e_seq fun K155 hK155 => ?_
    refine e_region_draw mixed (fun _ => False) [0, 0, 3, 7, 15, 0, 63, 127, 255, 255, 1023, 2047, 4095, 255, 8447, 32767, 65535, 131071, 262143, 262143, 1048575, 2097151, 4194303, 262143, 8650751, 33554431, 67108863] [] [0, 1, 2, 3, 4, 5, 6, 7, 8, 9, 10, 11, 12, 13, 14, 15, 16, 17, 18, 19, 20, 21, 22, 23, 24, 25, 26] (by kernel_rfl) ?_
    refine q_move rfl rfl ?_
    refine q_move rfl rfl ?_
    obtain ⟨x156, hx156, ho92⟩ := Option.of_bind ho92
    refine q_atS (by infer_instance) rfl f122 rfl hx156 rfl fun b157 o157 hm157 f157 => ?_
    refine q_field rfl rfl ?_
    have f158 := EndI_F0 f157
    refine q_load rfl (Elt.intCell f158) rfl ?_
    refine q_move rfl rfl ?_
    refine q_eql rfl rfl rfl ?_
    refine q_move rfl rfl ?_
    obtain ⟨x160, hx159, ho92⟩ := Option.of_bind ho92
    refine g_andM 8 hx159 rfl trivial rfl rfl ?_ ?_ ?_
    · intro hg159 hx159
      clear ho92
      have hT159 := Below.refl (World.heap w121).size w121
      refine g_run rfl ?_; refine q_move rfl rfl ?_
      refine g_run rfl ?_; refine q_move rfl rfl ?_
      obtain ⟨x161, hx161, hx159⟩ := Option.of_bind hx159
      refine g_run rfl ?_; refine q_atS (by infer_instance) rfl f122 rfl hx161 rfl fun b162 o162 hm162 f162 => ?_
      refine g_run rfl ?_; refine q_field rfl rfl ?_
      have f163 := EndI_F1 f162
      refine g_run rfl ?_; refine q_load rfl (Elt.intCell f163) rfl ?_
      refine g_run rfl ?_; refine q_field rfl rfl ?_
      refine g_run rfl ?_; refine q_load rfl (Blk.cell (hS.blk 0 rfl) rfl) rfl ?_
      refine g_run rfl ?_; refine q_geq rfl rfl rfl ?_
      cases hx159
      exact eseq_nil ⟨hT159, Sub.set rfl (Sub.set rfl (Sub.set rfl (Sub.set rfl (Sub.set rfl (Sub.set rfl (Sub.set rfl (Sub.set rfl (Sub.bool true rfl hg159)))))))), rfl⟩
    · intro hg159
      refine g_skip rfl rfl rfl ?_
      refine g_skip rfl rfl rfl ?_
      refine g_skip rfl rfl rfl ?_
      refine g_skip rfl rfl rfl ?_
      refine g_skip rfl rfl rfl ?_
      refine g_skip rfl rfl rfl ?_
      refine g_skip rfl rfl rfl ?_
      refine g_skip rfl rfl rfl ?_
      exact eseq_nil ⟨rfl, Sub.set rfl (Sub.set rfl (Sub.set rfl (Sub.set rfl (Sub.set rfl (Sub.set rfl (Sub.set rfl (Sub.set rfl (Sub.bool false rfl hg159))))))))⟩
    intro wm159 hBm159; clear hx159
    replace hS := hS.below hBm159
    replace f122 := f122.ext hBm159
    refine q_move rfl rfl ?_
    obtain ⟨x165, hx164, ho92⟩ := Option.of_bind ho92
    refine g_andM 8 hx164 rfl trivial rfl rfl ?_ ?_ ?_
    · intro hg164 hx164
      clear ho92
      have hT164 := Below.refl (World.heap wm159).size wm159
      refine g_run rfl ?_; refine q_move rfl rfl ?_
      refine g_run rfl ?_; refine q_move rfl rfl ?_
      obtain ⟨x166, hx166, hx164⟩ := Option.of_bind hx164
      refine g_run rfl ?_; refine q_atS (by infer_instance) rfl f122 rfl hx166 rfl fun b167 o167 hm167 f167 => ?_
      refine g_run rfl ?_; refine q_field rfl rfl ?_
      have f168 := EndI_F2 f167
      refine g_run rfl ?_; refine q_load rfl (Elt.intCell f168) rfl ?_
      refine g_run rfl ?_; refine q_field rfl rfl ?_
      refine g_run rfl ?_; refine q_load rfl (Blk.cell (hS.blk 0 rfl) rfl) rfl ?_
      refine g_run rfl ?_; refine q_lss rfl rfl rfl ?_
      cases hx164
      exact eseq_nil ⟨hT164, Sub.set rfl (Sub.set rfl (Sub.set rfl (Sub.set rfl (Sub.set rfl (Sub.set rfl (Sub.set rfl (Sub.set rfl (Sub.bool true rfl hg164)))))))), rfl⟩
    · intro hg164
      refine g_skip rfl rfl rfl ?_
      refine g_skip rfl rfl rfl ?_
      refine g_skip rfl rfl rfl ?_
      refine g_skip rfl rfl rfl ?_
      refine g_skip rfl rfl rfl ?_
      refine g_skip rfl rfl rfl ?_
      refine g_skip rfl rfl rfl ?_
      refine g_skip rfl rfl rfl ?_
      exact eseq_nil ⟨rfl, Sub.set rfl (Sub.set rfl (Sub.set rfl (Sub.set rfl (Sub.set rfl (Sub.set rfl (Sub.set rfl (Sub.set rfl (Sub.bool false rfl hg164))))))))⟩
    intro wm164 hBm164; clear hx164
    replace hS := hS.below hBm164
    replace f122 := f122.ext hBm164
    refine eseq_nil ?_
    refine hK155 _ _ ?_
    refine e_cond rfl (fun hc169 => ?_) (fun hc169 => ?_)
    · replace ho92 := (if_pos hc169).symm.trans ho92
      refine e_seq fun K170 hK170 => ?_
      refine e_region_text rfl ?_
      refine q_assign rfl rfl ?_
      refine eseq_nil ?_
      refine hK170 _ _ ?_
      refine e_ret ?_
      obtain rfl := Option.some.inj ho92
      obtain rfl := Option.some.inj ht92
      obtain rfl := Option.some.inj h
      exact ⟨_, res1 rfl rfl, _, rfl, (hS.pickB [] 1 rfl rfl)⟩
    · replace ho92 := (if_neg (not_true hc169)).symm.trans ho92
      refine e_skip ?_
      refine hK154 _ _ ?_
      refine e_region_text rfl ?_
      refine q_move rfl rfl ?_
      refine q_addW rfl rfl rfl ?_
      refine q_assign rfl rfl ?_
      refine eseq_nil ?_
      obtain rfl := Option.some.inj ho92
      exact ⟨m92, _, Nat.lt_succ_self _, ⟨(w64 (x123 + 1)), _, ht92, hS, f122, rfl⟩, Sub.cons rfl (Sub.cons rfl (Sub.cons rfl (Sub.cons rfl (Sub.nil _))))⟩
  · replace ho92 := (if_neg (not_true hc153)).symm.trans ho92
    refine e_exit ?_
    obtain rfl := Option.some.inj ho92
    obtain rfl := Option.some.inj ht92
    exact hX92_0  _ _ _ h (hS.pickB [] 1 rfl rfl)  (Sub.nil _)
theorem incarnation_Kept_w {F R : Nat → Prop} {w : World} {fuel : Nat} {a0 : (List EndI)} {a1 : Int} {a2 : (List Evt)} {v1 : Value} {v2 : Value} {r : (Int)} (hS : Sep F R R w w []) (f1 : IsSlice endITy w R v1 a0) (f2 : IsSlice evtTy w R v2 a2) (h : incarnation_Kept fuel a0 a1 a2 = some r) :
    Gives Try.prog 21 [v1, .int .i64 a1, v2] w fun u w1 => ∃ (R1 : Nat → Prop), u = .int .i64 r ∧ Sep F R R1 w w1 [] := by
  refine fn_of Try.func21 rfl Try.ntmps21 (Nat.le_of_ble_eq_true rfl) ?_
  unfold incarnation_Kept at h
  refine e_seq fun K83 hK83 => ?_
  refine e_region_text rfl ?_
  refine q_assign rfl rfl ?_
  refine eseq_nil ?_
  refine hK83 _ _ ?_
  refine e_seq fun K84 hK84 => ?_
  refine e_seq fun K85 hK85 => ?_
  refine e_region_text rfl ?_
  refine q_move rfl rfl ?_
  refine q_lenS rfl f2 rfl ?_
  refine q_move rfl rfl ?_
  refine eseq_nil ?_
  refine hK85 _ _ ?_
  refine e_block ?_
  obtain ⟨tl86, ht86, h⟩ := Option.of_bind h
  have hX86_0 : ∀ (R142 : Nat → Prop) (w143 : World) (E_ : Env), incarnation_Kept_K1 fuel a2 = some r → Sep F R R142 w w143 [] → IsSlice evtTy w143 R142 v2 a2 → Sub [(2, v2)] E_ → K84 E_ w143 := by
    intro R142 w143 E_ h hS f144 hsub
    refine hK84 _ _ (e_sub hsub ?_); clear hsub
    unfold incarnation_Kept_K1 at h
    refine e_seq fun K145 hK145 => ?_
    refine e_region_text rfl ?_
    refine q_move rfl rfl ?_
    refine q_lenS rfl f144 rfl ?_
    refine q_assign rfl rfl ?_
    refine eseq_nil ?_
    refine hK145 _ _ ?_
    refine e_ret ?_
    obtain rfl := Option.some.inj h
    exact ⟨_, res1 rfl rfl, _, rfl, hS⟩
  refine e_loop (fun m_ E_ w115 => ∃ (x119 : Int), ∃ (R114 : Nat → Prop), iter (fun s => incarnation_Kept_B1 fuel a2 a0 a1 s) m_ x119 = some tl86 ∧ Sep F R R114 w w115 [] ∧ IsSlice endITy w115 R114 v1 a0 ∧ IsSlice evtTy w115 R114 v2 a2 ∧ IsSlice evtTy w115 R114 v2 a2 ∧ E_ = [(0, v1), (1, .int .i64 a1), (2, v2), (9, v2), (10, .int .i64 (a2.length : Int)), (11, .int .i64 x119)]) _ ⟨_, ⟨0, _, ht86, hS, f1, f2, f2, rfl⟩, Sub.cons rfl (Sub.cons rfl (Sub.cons rfl (Sub.cons rfl (Sub.cons rfl (Sub.cons rfl (Sub.nil _))))))⟩ ?_
  clear ht86 hS
  rintro m86 _ w115 ⟨x119, R114, ht86, hS, f116, f117, f118, rfl⟩
  obtain ⟨m86, rfl, o86, ho86, ht86⟩ := iter_some ht86
  replace ho86 : incarnation_Kept_B1 fuel a2 a0 a1 x119 = some o86 := ho86
  unfold incarnation_Kept_B1 at ho86
  refine e_seq fun K146 hK146 => ?_
  refine e_region_text rfl ?_
  refine q_lss rfl rfl rfl ?_
  refine eseq_nil ?_
  refine hK146 _ _ ?_
  refine e_seq fun K147 hK147 => ?_
  refine e_cond rfl (fun hc148 => ?_) (fun hc148 => ?_)
  · replace ho86 := (if_pos hc148).symm.trans ho86
    refine e_skip ?_
    refine hK147 _ _ ?_
    refine e_seq fun K149 hK149 => ?_
    refine e_block ?_
    refine e_seq fun K150 hK150 => ?_
    refine e_region_text rfl ?_
    refine q_move rfl rfl ?_
    obtain ⟨x151, hx151, ho86⟩ := Option.of_bind ho86
    refine q_atS (by infer_instance) rfl f118 rfl hx151 rfl fun b152 o152 hm152 f152 => ?_
    have hc153 := Evt_open f152
    refine q_loadAgg rfl hc153 rfl rfl ?_
    refine q_allocB rfl fun w154 bl154 hg154 hb154 hB154 => ?_
    replace f116 := f116.ext hB154
    replace f117 := f117.ext hB154
    replace f118 := f118.ext hB154
    replace hS := hS.newBlk hB154 hg154 hb154
    refine q_assign rfl rfl ?_
    refine q_storeAgg rfl rfl (hS.blk 0 rfl) rfl (Nat.le_of_ble_eq_true rfl) (all_cons rfl (all_cons rfl (all_cons rfl (all_cons rfl (all_cons rfl (all_cons rfl (all_cons rfl (all_nil)))))))) rfl rfl fun w156 hb156 hO156 => ?_
    simp only [setN, List.set, List.take, List.drop] at hb156
    have hk156 := hS.keptBlk 0 rfl hO156
    replace f116 := f116.kept hk156
    replace f117 := f117.kept hk156
    replace f118 := f118.kept hk156
    replace hS := hS.setBlk 0 rfl hb156 hO156; simp only [List.set] at hS
    refine eseq_nil ?_
    refine hK150 _ _ ?_
    refine e_seq fun K157 hK157 => ?_
    refine e_region_text rfl ?_
    refine q_move rfl rfl ?_
    refine q_move rfl rfl ?_
    refine q_field rfl rfl ?_
    refine q_load rfl (Blk.cell (hS.blk 0 rfl) rfl) rfl ?_
    refine q_move rfl rfl ?_
    refine q_addW rfl rfl rfl ?_
    refine q_build (Parts.cons rfl rfl (Parts.cons rfl rfl Parts.nil)) rfl rfl ?_
    obtain ⟨r159, hr159, ho86⟩ := Option.of_bind ho86
    refine q_call rfl (incarnation_Undone_w (a2 := (⟨x151.inc, w64 (x119 + 1)⟩ : Lab)) (Sep.enter (As := []) hS) f116 hr159) rfl ?_
    rintro _ w158 ⟨R158, rfl, hC158⟩
    have hB158 : Below (World.heap w156).size w156 w158 := hC158.stepB0
    refine ⟨fun _ => .of_below hB158, ?_⟩
    replace f116 := (f116.ext hB158).mono fun k hk _ => hC158.ro0 k hk
    replace f117 := (f117.ext hB158).mono fun k hk _ => hC158.ro0 k hk
    replace f118 := (f118.ext hB158).mono fun k hk _ => hC158.ro0 k hk
    replace hS := Sep.leave (As := []) hS hC158; simp only [List.cons_append, List.nil_append] at hS
    refine eseq_nil ?_
    refine hK157 _ _ ?_
    refine e_cond rfl (fun hc160 => ?_) (fun hc160 => ?_)
    · replace ho86 := (if_pos hc160).symm.trans ho86
      refine e_seq fun K161 hK161 => ?_
      refine e_region_text rfl ?_
      refine q_move rfl rfl ?_
      refine q_assign rfl rfl ?_
      refine eseq_nil ?_
      refine hK161 _ _ ?_
      refine e_ret ?_
      obtain rfl := Option.some.inj ho86
      obtain rfl := Option.some.inj ht86
      obtain rfl := Option.some.inj h
      exact ⟨_, res1 rfl rfl, _, rfl, (hS.pickB [] 1 rfl rfl)⟩
    · replace ho86 := (if_neg (not_true hc160)).symm.trans ho86
      refine e_skip ?_
      refine hK149 _ _ ?_
      refine e_region_text rfl ?_
      refine q_addW rfl rfl rfl ?_
      refine q_move rfl rfl ?_
      refine eseq_nil ?_
      obtain rfl := Option.some.inj ho86
      exact ⟨m86, _, Nat.lt_succ_self _, ⟨(w64 (x119 + 1)), _, ht86, (hS.pickB [] 1 rfl rfl), f116, f117, f118, rfl⟩, Sub.cons rfl (Sub.cons rfl (Sub.cons rfl (Sub.cons rfl (Sub.cons rfl (Sub.cons rfl (Sub.nil _))))))⟩
  · replace ho86 := (if_neg (not_true hc148)).symm.trans ho86
    refine e_exit ?_
    obtain rfl := Option.some.inj ho86
    obtain rfl := Option.some.inj ht86
    exact hX86_0  _ _ _ h hS f117 (Sub.cons rfl (Sub.nil _))
theorem ref31_Kept_w {F R : Nat → Prop} {w : World} {fuel : Nat} {a0 : (List EndI)} {a1 : Int} {a2 : (List Evt)} {v1 : Value} {v2 : Value} {r : (Int)} (hS : Sep F R R w w []) (f1 : IsSlice endITy w R v1 a0) (f2 : IsSlice evtTy w R v2 a2) (h : ref31_Kept fuel a0 a1 a2 = some r) :
    Gives Try.prog 22 [v1, .int .i64 a1, v2] w fun u w1 => ∃ (R1 : Nat → Prop), u = .int .i64 r ∧ Sep F R R1 w w1 [] := by
  refine fn_of Try.func22 rfl Try.ntmps22 (Nat.le_of_ble_eq_true rfl) ?_
  unfold ref31_Kept at h
  refine e_seq fun K67 hK67 => ?_
  refine e_region_text rfl ?_
  refine q_assign rfl rfl ?_
  refine eseq_nil ?_
  refine hK67 _ _ ?_
  refine e_seq fun K68 hK68 => ?_
  refine e_seq fun K69 hK69 => ?_
  refine e_region_text rfl ?_
  refine q_assign rfl rfl ?_
  refine eseq_nil ?_
  refine hK69 _ _ ?_
  refine e_block ?_
  obtain ⟨tl70, ht70, h⟩ := Option.of_bind h
  have hX70_0 : ∀ (R114 : Nat → Prop) (w115 : World) (E_ : Env), ref31_Kept_K1 fuel a2 = some r → Sep F R R114 w w115 [] → IsSlice evtTy w115 R114 v2 a2 → Sub [(2, v2)] E_ → K68 E_ w115 := by
    intro R114 w115 E_ h hS f116 hsub
    refine hK68 _ _ (e_sub hsub ?_); clear hsub
    unfold ref31_Kept_K1 at h
    refine e_seq fun K117 hK117 => ?_
    refine e_region_text rfl ?_
    refine q_move rfl rfl ?_
    refine q_lenS rfl f116 rfl ?_
    refine q_assign rfl rfl ?_
    refine eseq_nil ?_
    refine hK117 _ _ ?_
    refine e_ret ?_
    obtain rfl := Option.some.inj h
    exact ⟨_, res1 rfl rfl, _, rfl, hS⟩
  refine e_loop (fun m_ E_ w93 => ∃ (x96 : Int), ∃ (R92 : Nat → Prop), iter (fun s => ref31_Kept_B1 fuel a2 a0 a1 s) m_ x96 = some tl70 ∧ Sep F R R92 w w93 [] ∧ IsSlice endITy w93 R92 v1 a0 ∧ IsSlice evtTy w93 R92 v2 a2 ∧ E_ = [(0, v1), (1, .int .i64 a1), (2, v2), (7, .int .i64 x96)]) _ ⟨_, ⟨0, _, ht70, hS, f1, f2, rfl⟩, Sub.cons rfl (Sub.cons rfl (Sub.cons rfl (Sub.cons rfl (Sub.nil _))))⟩ ?_
  clear ht70 hS
  rintro m70 _ w93 ⟨x96, R92, ht70, hS, f94, f95, rfl⟩
  obtain ⟨m70, rfl, o70, ho70, ht70⟩ := iter_some ht70
  replace ho70 : ref31_Kept_B1 fuel a2 a0 a1 x96 = some o70 := ho70
  unfold ref31_Kept_B1 at ho70
  refine e_seq fun K118 hK118 => ?_
  refine e_seq fun K119 hK119 => ?_
  refine e_region_text rfl ?_
  refine q_move rfl rfl ?_
  refine q_move rfl rfl ?_
  refine q_lenS rfl f95 rfl ?_
  refine q_lss rfl rfl rfl ?_
  refine eseq_nil ?_
  refine hK119 _ _ ?_
  refine e_cond rfl (fun hc120 => ?_) (fun hc120 => ?_)
  · replace ho70 := (if_pos hc120).symm.trans ho70
    refine e_skip ?_
    refine hK118 _ _ ?_
    refine e_seq fun K121 hK121 => ?_
    refine e_block ?_
    refine e_seq fun K122 hK122 => ?_
    refine e_region_text rfl ?_
    refine q_move rfl rfl ?_
    refine q_move rfl rfl ?_
    refine q_move rfl rfl ?_
    refine q_move rfl rfl ?_
    obtain ⟨x123, hx123, ho70⟩ := Option.of_bind ho70
    refine q_atS (by infer_instance) rfl f95 rfl hx123 rfl fun b124 o124 hm124 f124 => ?_
    refine q_field rfl rfl ?_
    have f125 := Evt_F1 f124
    refine q_load rfl (Elt.intCell f125) rfl ?_
    refine q_move rfl rfl ?_
    refine q_addW rfl rfl rfl ?_
    refine q_build (Parts.cons rfl rfl (Parts.cons rfl rfl Parts.nil)) rfl rfl ?_
    obtain ⟨r127, hr127, ho70⟩ := Option.of_bind ho70
    refine q_call rfl (ref31_Undone_w (a2 := (⟨x123.inc, w64 (x96 + 1)⟩ : Lab)) (Sep.enter (As := []) hS) f94 hr127) rfl ?_
    rintro _ w126 ⟨R126, rfl, hC126⟩
    have hB126 : Below (World.heap w93).size w93 w126 := hC126.stepB0
    refine ⟨fun _ => .of_below hB126, ?_⟩
    replace f94 := (f94.ext hB126).mono fun k hk _ => hC126.ro0 k hk
    replace f95 := (f95.ext hB126).mono fun k hk _ => hC126.ro0 k hk
    replace hS := Sep.leave (As := []) hS hC126; simp only [List.cons_append, List.nil_append] at hS
    refine eseq_nil ?_
    refine hK122 _ _ ?_
    refine e_cond rfl (fun hc128 => ?_) (fun hc128 => ?_)
    · replace ho70 := (if_pos hc128).symm.trans ho70
      refine e_seq fun K129 hK129 => ?_
      refine e_region_text rfl ?_
      refine q_move rfl rfl ?_
      refine q_assign rfl rfl ?_
      refine eseq_nil ?_
      refine hK129 _ _ ?_
      refine e_ret ?_
      obtain rfl := Option.some.inj ho70
      obtain rfl := Option.some.inj ht70
      obtain rfl := Option.some.inj h
      exact ⟨_, res1 rfl rfl, _, rfl, hS⟩
    · replace ho70 := (if_neg (not_true hc128)).symm.trans ho70
      refine e_skip ?_
      refine hK121 _ _ ?_
      refine e_region_text rfl ?_
      refine q_move rfl rfl ?_
      refine q_addW rfl rfl rfl ?_
      refine q_assign rfl rfl ?_
      refine eseq_nil ?_
      obtain rfl := Option.some.inj ho70
      exact ⟨m70, _, Nat.lt_succ_self _, ⟨(w64 (x96 + 1)), _, ht70, hS, f94, f95, rfl⟩, Sub.cons rfl (Sub.cons rfl (Sub.cons rfl (Sub.cons rfl (Sub.nil _))))⟩
  · replace ho70 := (if_neg (not_true hc120)).symm.trans ho70
    refine e_exit ?_
    obtain rfl := Option.some.inj ho70
    obtain rfl := Option.some.inj ht70
    exact hX70_0  _ _ _ h hS f95 (Sub.cons rfl (Sub.nil _))
theorem incarnation_Obsolete_w {F R : Nat → Prop} {w : World} {fuel : Nat} {a0 : (List EndI)} {a1 : Msg} {v1 : Value} {v2 : Value} {v3 : Value} {r : (Bool)} (hS : Sep F R R w w []) (f1 : IsSlice endITy w R v1 a0) (f2 : IsSlice Ty.int w R v2 a1.vector) (f3 : IsSlice knownTy w R v3 a1.known) (h : incarnation_Obsolete fuel a0 a1 = some r) :
    Gives Try.prog 23 [v1, .agg #[.int .i64 a1.frm, .int .i64 a1.to, .int .i64 a1.sent.inc, .int .i64 a1.sent.index, .int .i64 a1.ord, .int .i64 a1.value, .int .i64 a1.clock, v2, v3]] w fun u w1 => ∃ (R1 : Nat → Prop), u = .bool r ∧ Sep F R R1 w w1 [] := by
  refine fn_of Try.func23 rfl Try.ntmps23 (Nat.le_of_ble_eq_true rfl) ?_
  unfold incarnation_Obsolete at h
  refine e_seq fun K10 hK10 => ?_
  refine e_region_text rfl ?_
  refine q_boxB rfl rfl rfl fun w11 bl11 hg11 hb11 hB11 => ?_
  replace f1 := f1.ext hB11
  replace f2 := f2.ext hB11
  replace f3 := f3.ext hB11
  replace hS := hS.newBlk hB11 hg11 hb11
  refine q_assign rfl rfl ?_
  refine eseq_nil ?_
  refine hK10 _ _ ?_
  refine e_seq fun K13 hK13 => ?_
  refine e_region_text rfl ?_
  refine q_move rfl rfl ?_
  refine q_field rfl rfl ?_
  refine q_load rfl (Blk.cell (hS.blk 0 rfl) rfl) rfl ?_
  refine q_field rfl rfl ?_
  refine q_loadAgg rfl (Blk.cellsAt (hS.blk 0 rfl) 2 2 rfl) rfl rfl ?_
  obtain ⟨r15, hr15, h⟩ := Option.of_bind h
  refine q_call rfl (incarnation_Undone_w (a2 := (⟨a1.sent.inc, a1.sent.index⟩ : Lab)) (Sep.enter (As := []) hS) f1 hr15) rfl ?_
  rintro _ w14 ⟨R14, rfl, hC14⟩
  have hB14 : Below (World.heap w11).size w11 w14 := hC14.stepB0
  refine ⟨fun _ => .of_below hB14, ?_⟩
  replace f1 := (f1.ext hB14).mono fun k hk _ => hC14.ro0 k hk
  replace hS := Sep.leave (As := []) hS hC14; simp only [List.cons_append, List.nil_append] at hS
  refine q_assign rfl rfl ?_
  refine eseq_nil ?_
  refine hK13 _ _ ?_
  refine e_ret ?_
  obtain rfl := Option.some.inj h
  exact ⟨_, res1 rfl rfl, _, rfl, (hS.pickB [] 1 rfl rfl)⟩
theorem ref31_Obsolete_w {F R : Nat → Prop} {w : World} {fuel : Nat} {a0 : (List EndI)} {a1 : Msg} {v1 : Value} {v2 : Value} {v3 : Value} {r : (Bool)} (hS : Sep F R R w w []) (f1 : IsSlice endITy w R v1 a0) (f2 : IsSlice Ty.int w R v2 a1.vector) (f3 : IsSlice knownTy w R v3 a1.known) (h : ref31_Obsolete fuel a0 a1 = some r) :
    Gives Try.prog 24 [v1, .agg #[.int .i64 a1.frm, .int .i64 a1.to, .int .i64 a1.sent.inc, .int .i64 a1.sent.index, .int .i64 a1.ord, .int .i64 a1.value, .int .i64 a1.clock, v2, v3]] w fun u w1 => ∃ (R1 : Nat → Prop), u = .bool r ∧ Sep F R R1 w w1 [] := by
  refine fn_of Try.func24 rfl Try.ntmps24 (Nat.le_of_ble_eq_true rfl) ?_
  unfold ref31_Obsolete at h
  refine e_seq fun K10 hK10 => ?_
  refine e_region_text rfl ?_
  refine q_boxB rfl rfl rfl fun w11 bl11 hg11 hb11 hB11 => ?_
  replace f1 := f1.ext hB11
  replace f2 := f2.ext hB11
  replace f3 := f3.ext hB11
  replace hS := hS.newBlk hB11 hg11 hb11
  refine q_assign rfl rfl ?_
  refine eseq_nil ?_
  refine hK10 _ _ ?_
  refine e_seq fun K13 hK13 => ?_
  refine e_region_text rfl ?_
  refine q_move rfl rfl ?_
  refine q_field rfl rfl ?_
  refine q_load rfl (Blk.cell (hS.blk 0 rfl) rfl) rfl ?_
  refine q_field rfl rfl ?_
  refine q_loadAgg rfl (Blk.cellsAt (hS.blk 0 rfl) 2 2 rfl) rfl rfl ?_
  obtain ⟨r15, hr15, h⟩ := Option.of_bind h
  refine q_call rfl (ref31_Undone_w (a2 := (⟨a1.sent.inc, a1.sent.index⟩ : Lab)) (Sep.enter (As := []) hS) f1 hr15) rfl ?_
  rintro _ w14 ⟨R14, rfl, hC14⟩
  have hB14 : Below (World.heap w11).size w11 w14 := hC14.stepB0
  refine ⟨fun _ => .of_below hB14, ?_⟩
  replace f1 := (f1.ext hB14).mono fun k hk _ => hC14.ro0 k hk
  replace hS := Sep.leave (As := []) hS hC14; simp only [List.cons_append, List.nil_append] at hS
  refine q_assign rfl rfl ?_
  refine eseq_nil ?_
  refine hK13 _ _ ?_
  refine e_ret ?_
  obtain rfl := Option.some.inj h
  exact ⟨_, res1 rfl rfl, _, rfl, (hS.pickB [] 1 rfl rfl)⟩
theorem incarnation_Next_w {F R : Nat → Prop} {w : World} {fuel : Nat} {a0 : (List EndI)} {a1 : Int} {v1 : Value} {r : (Int)} (hS : Sep F R R w w []) (f1 : IsSlice endITy w R v1 a0) (h : incarnation_Next fuel a0 a1 = some r) :
    Gives Try.prog 25 [v1, .int .i64 a1] w fun u w1 => ∃ (R1 : Nat → Prop), u = .int .i64 r ∧ Sep F R R1 w w1 [] := by
  refine fn_of Try.func25 rfl Try.ntmps25 (Nat.le_of_ble_eq_true rfl) ?_
  unfold incarnation_Next at h
  refine e_seq fun K97 hK97 => ?_
  refine e_region_text rfl ?_
  refine q_assign rfl rfl ?_
  refine eseq_nil ?_
  refine hK97 _ _ ?_
  refine e_seq fun K98 hK98 => ?_
  refine e_region_text rfl ?_
  refine q_assign rfl rfl ?_
  refine q_assign rfl rfl ?_
  refine eseq_nil ?_
  refine hK98 _ _ ?_
  refine e_seq fun K99 hK99 => ?_
  refine e_seq fun K100 hK100 => ?_
  refine e_region_text rfl ?_
  refine q_move rfl rfl ?_
  refine q_lenS rfl f1 rfl ?_
  refine q_move rfl rfl ?_
  refine eseq_nil ?_
  refine hK100 _ _ ?_
  refine e_block ?_
  obtain ⟨tl101, ht101, h⟩ := Option.of_bind h
  have hX101_0 : ∀ (x167 : Int) (x168 : Bool) (R165 : Nat → Prop) (w166 : World) (E_ : Env), incarnation_Next_K1 fuel x167 x168 = some r → Sep F R R165 w w166 [] → Sub [(5, .int .i64 x167), (6, .bool x168)] E_ → K99 E_ w166 := by
    intro x167 x168 R165 w166 E_ h hS  hsub
    refine hK99 _ _ (e_sub hsub ?_); clear hsub
    unfold incarnation_Next_K1 at h
    refine e_seq fun K169 hK169 => ?_
    refine e_seq fun K170 hK170 => ?_
    refine e_region_text rfl ?_
    refine q_move rfl rfl ?_
    refine q_not rfl rfl ?_
    refine eseq_nil ?_
    refine hK170 _ _ ?_
    refine e_cond rfl (fun hc171 => ?_) (fun hc171 => ?_)
    · replace h := (if_pos hc171).symm.trans h
      refine e_seq fun K172 hK172 => ?_
      refine e_region_text rfl ?_
      refine q_assign rfl rfl ?_
      refine eseq_nil ?_
      refine hK172 _ _ ?_
      refine e_ret ?_
      obtain rfl := Option.some.inj h
      exact ⟨_, res1 rfl rfl, _, rfl, hS⟩
    · replace h := (if_neg (not_true hc171)).symm.trans h
      refine e_skip ?_
      refine hK169 _ _ ?_
      refine e_seq fun K173 hK173 => ?_
      refine e_region_text rfl ?_
      refine q_move rfl rfl ?_
      refine q_addW rfl rfl rfl ?_
      refine q_assign rfl rfl ?_
      refine eseq_nil ?_
      refine hK173 _ _ ?_
      refine e_ret ?_
      obtain rfl := Option.some.inj h
      exact ⟨_, res1 rfl rfl, _, rfl, hS⟩
  refine e_loop (fun m_ E_ w133 => ∃ (x134 : Int), ∃ (x135 : Bool), ∃ (x137 : Int), ∃ (R132 : Nat → Prop), iter (fun s => incarnation_Next_B1 fuel a0 a1 s.1 s.2.1 s.2.2) m_ (x134, x135, x137) = some tl101 ∧ Sep F R R132 w w133 [] ∧ IsSlice endITy w133 R132 v1 a0 ∧ E_ = [(1, .int .i64 a1), (5, .int .i64 x134), (6, .bool x135), (9, v1), (10, .int .i64 (a0.length : Int)), (11, .int .i64 x137)]) _ ⟨_, ⟨0, false, 0, _, ht101, hS, f1, rfl⟩, Sub.cons rfl (Sub.cons rfl (Sub.cons rfl (Sub.cons rfl (Sub.cons rfl (Sub.cons rfl (Sub.nil _))))))⟩ ?_
  clear ht101 hS
  rintro m101 _ w133 ⟨x134, x135, x137, R132, ht101, hS, f136, rfl⟩
  obtain ⟨m101, rfl, o101, ho101, ht101⟩ := iter_some ht101
  replace ho101 : incarnation_Next_B1 fuel a0 a1 x134 x135 x137 = some o101 := ho101
  unfold incarnation_Next_B1 at ho101
  refine e_seq fun K174 hK174 => ?_
  refine e_region_text rfl ?_
  refine q_lss rfl rfl rfl ?_
  refine eseq_nil ?_
  refine hK174 _ _ ?_
  refine e_seq fun K175 hK175 => ?_
  refine e_cond rfl (fun hc176 => ?_) (fun hc176 => ?_)
  · replace ho101 := (if_pos hc176).symm.trans ho101
    refine e_skip ?_
    refine hK175 _ _ ?_
    refine e_seq fun K177 hK177 => ?_
    refine e_block ?_
    refine e_seq fun K178 hK178 => ?_
    refine e_region_text rfl ?_
    obtain ⟨x179, hx179, ho101⟩ := Option.of_bind ho101
    refine q_atS (by infer_instance) rfl f136 rfl hx179 rfl fun b180 o180 hm180 f180 => ?_
    have hc181 := EndI_open f180
    refine q_loadAgg rfl hc181 rfl rfl ?_
    refine q_allocB rfl fun w182 bl182 hg182 hb182 hB182 => ?_
    replace f136 := f136.ext hB182
    replace hS := hS.newBlk hB182 hg182 hb182
    refine q_storeAgg rfl rfl (hS.blk 0 rfl) rfl (Nat.le_of_ble_eq_true rfl) (all_cons rfl (all_cons rfl (all_cons rfl (all_nil)))) rfl rfl fun w184 hb184 hO184 => ?_
    simp only [setN, List.set, List.take, List.drop] at hb184
    have hk184 := hS.keptBlk 0 rfl hO184
    replace f136 := f136.kept hk184
    replace hS := hS.setBlk 0 rfl hb184 hO184; simp only [List.set] at hS
    refine eseq_nil ?_
    refine hK178 _ _ ?_
    refine e_seq fun K185 hK185 => ?_
    refine e_region_text rfl ?_
    refine q_field rfl rfl ?_
    refine q_load rfl (Blk.cell (hS.blk 0 rfl) rfl) rfl ?_
    refine q_move rfl rfl ?_
    refine q_eql rfl rfl rfl ?_
    refine q_move rfl rfl ?_
    obtain ⟨x187, hx186, ho101⟩ := Option.of_bind ho101
    refine g_andM 8 hx186 rfl trivial rfl rfl ?_ ?_ ?_
    · intro hg186 hx186
      clear ho101
      have hT186 := Below.refl (World.heap w184).size w184
      refine g_run rfl ?_; refine q_move rfl rfl ?_
      refine g_run rfl ?_; refine q_not rfl rfl ?_
      refine g_run rfl ?_; refine q_move rfl rfl ?_
      obtain ⟨x189, hx188, hx186⟩ := Option.of_bind hx186
      refine g_orM 4 hx188 rfl rfl rfl rfl ?_ ?_ ?_
      · intro hg188
        refine g_skip rfl rfl rfl ?_
        refine g_skip rfl rfl rfl ?_
        refine g_skip rfl rfl rfl ?_
        refine g_skip rfl rfl rfl ?_
        exact eseq_nil ⟨rfl, Sub.set rfl (Sub.set rfl (Sub.set rfl (Sub.set rfl (Sub.bool true rfl hg188))))⟩
      · intro hg188 hx188
        clear hx186
        have hT188 := Below.refl (World.heap w184).size w184
        refine g_run rfl ?_; refine q_field rfl rfl ?_
        refine g_run rfl ?_; refine q_load rfl (Blk.cell (hS.blk 0 rfl) rfl) rfl ?_
        refine g_run rfl ?_; refine q_move rfl rfl ?_
        refine g_run rfl ?_; refine q_gtr rfl rfl rfl ?_
        cases hx188
        exact eseq_nil ⟨hT188, Sub.set rfl (Sub.set rfl (Sub.set rfl (Sub.set rfl (Sub.bool false rfl hg188)))), rfl⟩
      intro wm188 hBm188; clear hx188
      replace hS := hS.below hBm188
      replace f136 := f136.ext hBm188
      replace hT186 := hT186.trans (Below.mono hBm188 hT186.size)
      cases hx186
      exact eseq_nil ⟨hT186, Sub.set rfl (Sub.set rfl (Sub.set rfl (Sub.set rfl (Sub.bool true rfl hg186)))), rfl⟩
    · intro hg186
      refine g_skip rfl rfl rfl ?_
      refine g_skip rfl rfl rfl ?_
      refine g_skip rfl rfl rfl ?_
      refine g_skipU rfl rfl ?_
      refine g_skipU rfl rfl ?_
      refine g_skipU rfl rfl ?_
      refine g_skipU rfl rfl ?_
      refine g_skip rfl rfl rfl ?_
      exact eseq_nil ⟨rfl, Sub.set rfl (Sub.set rfl (Sub.set rfl (Sub.set rfl (Sub.set rfl (Sub.set rfl (Sub.set rfl (Sub.set rfl (Sub.bool false rfl hg186))))))))⟩
    intro wm186 hBm186; clear hx186
    replace hS := hS.below hBm186
    replace f136 := f136.ext hBm186
    refine eseq_nil ?_
    refine hK185 _ _ ?_
    refine e_cond rfl (fun hc190 => ?_) (fun hc190 => ?_)
    · replace ho101 := (if_pos hc190).symm.trans ho101
      refine e_region_text rfl ?_
      refine q_field rfl rfl ?_
      refine q_load rfl (Blk.cell (hS.blk 0 rfl) rfl) rfl ?_
      refine q_assign rfl rfl ?_
      refine q_assign rfl rfl ?_
      refine eseq_nil ?_
      refine hK177 _ _ ?_
      refine e_region_text rfl ?_
      refine q_addW rfl rfl rfl ?_
      refine q_move rfl rfl ?_
      refine eseq_nil ?_
      obtain rfl := Option.some.inj ho101
      exact ⟨m101, _, Nat.lt_succ_self _, ⟨x179.inc, true, (w64 (x137 + 1)), _, ht101, (hS.pickB [] 1 rfl rfl), f136, rfl⟩, Sub.cons rfl (Sub.cons rfl (Sub.cons rfl (Sub.cons rfl (Sub.cons rfl (Sub.cons rfl (Sub.nil _))))))⟩
    · replace ho101 := (if_neg (not_true hc190)).symm.trans ho101
      refine e_skip ?_
      refine hK177 _ _ ?_
      refine e_region_text rfl ?_
      refine q_addW rfl rfl rfl ?_
      refine q_move rfl rfl ?_
      refine eseq_nil ?_
      obtain rfl := Option.some.inj ho101
      exact ⟨m101, _, Nat.lt_succ_self _, ⟨x134, x135, (w64 (x137 + 1)), _, ht101, (hS.pickB [] 1 rfl rfl), f136, rfl⟩, Sub.cons rfl (Sub.cons rfl (Sub.cons rfl (Sub.cons rfl (Sub.cons rfl (Sub.cons rfl (Sub.nil _))))))⟩
  · replace ho101 := (if_neg (not_true hc176)).symm.trans ho101
    refine e_exit ?_
    obtain rfl := Option.some.inj ho101
    obtain rfl := Option.some.inj ht101
    exact hX101_0 x134 x135 _ _ _ h hS  (Sub.cons rfl (Sub.cons rfl (Sub.nil _)))
theorem ref31_Next_w {F R : Nat → Prop} {w : World} {fuel : Nat} {a0 : (List EndI)} {a1 : Int} {v1 : Value} {r : (Int)} (hS : Sep F R R w w []) (f1 : IsSlice endITy w R v1 a0) (h : ref31_Next fuel a0 a1 = some r) :
    Gives Try.prog 26 [v1, .int .i64 a1] w fun u w1 => ∃ (R1 : Nat → Prop), u = .int .i64 r ∧ Sep F R R1 w w1 [] := by
  refine fn_of Try.func26 rfl Try.ntmps26 (Nat.le_of_ble_eq_true rfl) ?_
  unfold ref31_Next at h
  refine e_seq fun K103 hK103 => ?_
  refine e_region_text rfl ?_
  refine q_assign rfl rfl ?_
  refine eseq_nil ?_
  refine hK103 _ _ ?_
  refine e_seq fun K104 hK104 => ?_
  refine e_region_text rfl ?_
  refine q_assign rfl rfl ?_
  refine q_assign rfl rfl ?_
  refine eseq_nil ?_
  refine hK104 _ _ ?_
  refine e_seq fun K105 hK105 => ?_
  refine e_seq fun K106 hK106 => ?_
  refine e_region_text rfl ?_
  refine q_assign rfl rfl ?_
  refine eseq_nil ?_
  refine hK106 _ _ ?_
  refine e_block ?_
  obtain ⟨tl107, ht107, h⟩ := Option.of_bind h
  have hX107_0 : ∀ (x177 : Bool) (x178 : Int) (R175 : Nat → Prop) (w176 : World) (E_ : Env), ref31_Next_K1 fuel x177 x178 = some r → Sep F R R175 w w176 [] → Sub [(5, .bool x177), (6, .int .i64 x178)] E_ → K105 E_ w176 := by
    intro x177 x178 R175 w176 E_ h hS  hsub
    refine hK105 _ _ (e_sub hsub ?_); clear hsub
    unfold ref31_Next_K1 at h
    refine e_seq fun K179 hK179 => ?_
    refine e_seq fun K180 hK180 => ?_
    refine e_region_text rfl ?_
    refine q_move rfl rfl ?_
    refine q_not rfl rfl ?_
    refine eseq_nil ?_
    refine hK180 _ _ ?_
    refine e_cond rfl (fun hc181 => ?_) (fun hc181 => ?_)
    · replace h := (if_pos hc181).symm.trans h
      refine e_seq fun K182 hK182 => ?_
      refine e_region_text rfl ?_
      refine q_assign rfl rfl ?_
      refine eseq_nil ?_
      refine hK182 _ _ ?_
      refine e_ret ?_
      obtain rfl := Option.some.inj h
      exact ⟨_, res1 rfl rfl, _, rfl, hS⟩
    · replace h := (if_neg (not_true hc181)).symm.trans h
      refine e_skip ?_
      refine hK179 _ _ ?_
      refine e_seq fun K183 hK183 => ?_
      refine e_region_text rfl ?_
      refine q_move rfl rfl ?_
      refine q_addW rfl rfl rfl ?_
      refine q_assign rfl rfl ?_
      refine eseq_nil ?_
      refine hK183 _ _ ?_
      refine e_ret ?_
      obtain rfl := Option.some.inj h
      exact ⟨_, res1 rfl rfl, _, rfl, hS⟩
  refine e_loop (fun m_ E_ w141 => ∃ (x143 : Bool), ∃ (x144 : Int), ∃ (x145 : Int), ∃ (R140 : Nat → Prop), iter (fun s => ref31_Next_B1 fuel a0 a1 s.1 s.2.1 s.2.2) m_ (x143, x144, x145) = some tl107 ∧ Sep F R R140 w w141 [] ∧ IsSlice endITy w141 R140 v1 a0 ∧ E_ = [(0, v1), (1, .int .i64 a1), (5, .bool x143), (6, .int .i64 x144), (7, .int .i64 x145)]) _ ⟨_, ⟨false, 0, 0, _, ht107, hS, f1, rfl⟩, Sub.cons rfl (Sub.cons rfl (Sub.cons rfl (Sub.cons rfl (Sub.cons rfl (Sub.nil _)))))⟩ ?_
  clear ht107 hS
  rintro m107 _ w141 ⟨x143, x144, x145, R140, ht107, hS, f142, rfl⟩
  obtain ⟨m107, rfl, o107, ho107, ht107⟩ := iter_some ht107
  replace ho107 : ref31_Next_B1 fuel a0 a1 x143 x144 x145 = some o107 := ho107
  unfold ref31_Next_B1 at ho107
  refine e_seq fun K184 hK184 => ?_
  refine e_seq fun K185 hK185 => ?_
  refine e_region_text rfl ?_
  refine q_move rfl rfl ?_
  refine q_move rfl rfl ?_
  refine q_lenS rfl f142 rfl ?_
  refine q_lss rfl rfl rfl ?_
  refine eseq_nil ?_
  refine hK185 _ _ ?_
  refine e_cond rfl (fun hc186 => ?_) (fun hc186 => ?_)
  · replace ho107 := (if_pos hc186).symm.trans ho107
    refine e_skip ?_
    refine hK184 _ _ ?_
    refine e_seq fun K187 hK187 => ?_
    refine e_block ?_
    refine e_seq fun K188 hK188 => ?_
    refine e_region_text rfl ?_
    refine q_move rfl rfl ?_
    refine q_move rfl rfl ?_
    obtain ⟨x189, hx189, ho107⟩ := Option.of_bind ho107
    refine q_atS (by infer_instance) rfl f142 rfl hx189 rfl fun b190 o190 hm190 f190 => ?_
    refine q_field rfl rfl ?_
    have f191 := EndI_F0 f190
    refine q_load rfl (Elt.intCell f191) rfl ?_
    refine q_move rfl rfl ?_
    refine q_eql rfl rfl rfl ?_
    refine q_move rfl rfl ?_
    obtain ⟨x193, hx192, ho107⟩ := Option.of_bind ho107
    refine g_andM 11 hx192 rfl trivial rfl rfl ?_ ?_ ?_
    · intro hg192 hx192
      clear ho107
      have hT192 := Below.refl (World.heap w141).size w141
      refine g_run rfl ?_; refine q_move rfl rfl ?_
      refine g_run rfl ?_; refine q_not rfl rfl ?_
      refine g_run rfl ?_; refine q_move rfl rfl ?_
      obtain ⟨x195, hx194, hx192⟩ := Option.of_bind hx192
      refine g_orM 7 hx194 rfl rfl rfl rfl ?_ ?_ ?_
      · intro hg194
        refine g_skip rfl rfl rfl ?_
        refine g_skip rfl rfl rfl ?_
        refine g_skip rfl rfl rfl ?_
        refine g_skip rfl rfl rfl ?_
        refine g_skip rfl rfl rfl ?_
        refine g_skip rfl rfl rfl ?_
        refine g_skip rfl rfl rfl ?_
        exact eseq_nil ⟨rfl, Sub.set rfl (Sub.set rfl (Sub.set rfl (Sub.set rfl (Sub.set rfl (Sub.set rfl (Sub.set rfl (Sub.bool true rfl hg194)))))))⟩
      · intro hg194 hx194
        clear hx192
        have hT194 := Below.refl (World.heap w141).size w141
        refine g_run rfl ?_; refine q_move rfl rfl ?_
        refine g_run rfl ?_; refine q_move rfl rfl ?_
        obtain ⟨x196, hx196, hx194⟩ := Option.of_bind hx194
        refine g_run rfl ?_; refine q_atS (by infer_instance) rfl f142 rfl hx196 rfl fun b197 o197 hm197 f197 => ?_
        refine g_run rfl ?_; refine q_field rfl rfl ?_
        have f198 := EndI_F1 f197
        refine g_run rfl ?_; refine q_load rfl (Elt.intCell f198) rfl ?_
        refine g_run rfl ?_; refine q_move rfl rfl ?_
        refine g_run rfl ?_; refine q_gtr rfl rfl rfl ?_
        cases hx194
        exact eseq_nil ⟨hT194, Sub.set rfl (Sub.set rfl (Sub.set rfl (Sub.set rfl (Sub.set rfl (Sub.set rfl (Sub.set rfl (Sub.bool false rfl hg194))))))), rfl⟩
      intro wm194 hBm194; clear hx194
      replace hS := hS.below hBm194
      replace f142 := f142.ext hBm194
      replace hT192 := hT192.trans (Below.mono hBm194 hT192.size)
      cases hx192
      exact eseq_nil ⟨hT192, Sub.set rfl (Sub.set rfl (Sub.set rfl (Sub.set rfl (Sub.bool true rfl hg192)))), rfl⟩
    · intro hg192
      refine g_skip rfl rfl rfl ?_
      refine g_skip rfl rfl rfl ?_
      refine g_skip rfl rfl rfl ?_
      refine g_skipU rfl rfl ?_
      refine g_skipU rfl rfl ?_
      refine g_skipU rfl rfl ?_
      refine g_skipU rfl rfl ?_
      refine g_skipU rfl rfl ?_
      refine g_skipU rfl rfl ?_
      refine g_skipU rfl rfl ?_
      refine g_skip rfl rfl rfl ?_
      exact eseq_nil ⟨rfl, Sub.set rfl (Sub.set rfl (Sub.set rfl (Sub.set rfl (Sub.set rfl (Sub.set rfl (Sub.set rfl (Sub.set rfl (Sub.set rfl (Sub.set rfl (Sub.set rfl (Sub.bool false rfl hg192)))))))))))⟩
    intro wm192 hBm192; clear hx192
    replace hS := hS.below hBm192
    replace f142 := f142.ext hBm192
    refine eseq_nil ?_
    refine hK188 _ _ ?_
    refine e_cond rfl (fun hc199 => ?_) (fun hc199 => ?_)
    · replace ho107 := (if_pos hc199).symm.trans ho107
      refine e_region_draw mixed (fun _ => False) [0, 0, 3, 7, 15, 0, 63] [] [0, 1, 2, 3, 4, 5, 6] (by kernel_rfl) ?_
      refine q_move rfl rfl ?_
      refine q_move rfl rfl ?_
      obtain ⟨x200, hx200, ho107⟩ := Option.of_bind ho107
      refine q_atS (by infer_instance) rfl f142 rfl hx200 rfl fun b201 o201 hm201 f201 => ?_
      refine q_field rfl rfl ?_
      have f202 := EndI_F1 f201
      refine q_load rfl (Elt.intCell f202) rfl ?_
      refine q_assign rfl rfl ?_
      refine q_assign rfl rfl ?_
      refine eseq_nil ?_
      refine hK187 _ _ ?_
      refine e_region_text rfl ?_
      refine q_move rfl rfl ?_
      refine q_addW rfl rfl rfl ?_
      refine q_assign rfl rfl ?_
      refine eseq_nil ?_
      obtain rfl := Option.some.inj ho107
      exact ⟨m107, _, Nat.lt_succ_self _, ⟨true, x200.inc, (w64 (x145 + 1)), _, ht107, hS, f142, rfl⟩, Sub.cons rfl (Sub.cons rfl (Sub.cons rfl (Sub.cons rfl (Sub.cons rfl (Sub.nil _)))))⟩
    · replace ho107 := (if_neg (not_true hc199)).symm.trans ho107
      refine e_skip ?_
      refine hK187 _ _ ?_
      refine e_region_text rfl ?_
      refine q_move rfl rfl ?_
      refine q_addW rfl rfl rfl ?_
      refine q_assign rfl rfl ?_
      refine eseq_nil ?_
      obtain rfl := Option.some.inj ho107
      exact ⟨m107, _, Nat.lt_succ_self _, ⟨x143, x144, (w64 (x145 + 1)), _, ht107, hS, f142, rfl⟩, Sub.cons rfl (Sub.cons rfl (Sub.cons rfl (Sub.cons rfl (Sub.cons rfl (Sub.nil _)))))⟩
  · replace ho107 := (if_neg (not_true hc186)).symm.trans ho107
    refine e_exit ?_
    obtain rfl := Option.some.inj ho107
    obtain rfl := Option.some.inj ht107
    exact hX107_0 x143 x144 _ _ _ h hS  (Sub.cons rfl (Sub.cons rfl (Sub.nil _)))
theorem ref31_Same_w {F R : Nat → Prop} {w : World} {fuel : Nat} {a0 : (List EndI)} {a1 : (List EndI)} {v1 : Value} {v2 : Value} {r : (Bool)} (hS : Sep F R R w w []) (f1 : IsSlice endITy w R v1 a0) (f2 : IsSlice endITy w R v2 a1) (h : ref31_Same fuel a0 a1 = some r) :
    Gives Try.prog 15 [v1, v2] w fun u w1 => ∃ (R1 : Nat → Prop), u = .bool r ∧ Sep F R R1 w w1 [] := by
  refine fn_of Try.func15 rfl Try.ntmps15 (Nat.le_of_ble_eq_true rfl) ?_
  unfold ref31_Same at h
  refine e_seq fun K73 hK73 => ?_
  refine e_region_text rfl ?_
  refine q_assign rfl rfl ?_
  refine eseq_nil ?_
  refine hK73 _ _ ?_
  refine e_seq fun K74 hK74 => ?_
  refine e_seq fun K75 hK75 => ?_
  refine e_region_text rfl ?_
  refine q_move rfl rfl ?_
  refine q_lenS rfl f1 rfl ?_
  refine q_move rfl rfl ?_
  refine q_lenS rfl f2 rfl ?_
  refine q_neq rfl rfl rfl ?_
  refine eseq_nil ?_
  refine hK75 _ _ ?_
  refine e_cond rfl (fun hc76 => ?_) (fun hc76 => ?_)
  · replace h := (if_pos hc76).symm.trans h
    refine e_seq fun K77 hK77 => ?_
    refine e_region_text rfl ?_
    refine q_assign rfl rfl ?_
    refine eseq_nil ?_
    refine hK77 _ _ ?_
    refine e_ret ?_
    obtain rfl := Option.some.inj h
    exact ⟨_, res1 rfl rfl, _, rfl, hS⟩
  · replace h := (if_neg (not_true hc76)).symm.trans h
    refine e_skip ?_
    refine hK74 _ _ ?_
    refine e_seq fun K78 hK78 => ?_
    refine e_seq fun K79 hK79 => ?_
    refine e_region_text rfl ?_
    refine q_assign rfl rfl ?_
    refine eseq_nil ?_
    refine hK79 _ _ ?_
    refine e_block ?_
    obtain ⟨tl80, ht80, h⟩ := Option.of_bind h
    have hX80_0 : ∀ (R126 : Nat → Prop) (w127 : World) (E_ : Env), ref31_Same_K1 fuel = some r → Sep F R R126 w w127 [] → Sub [] E_ → K78 E_ w127 := by
      intro R126 w127 E_ h hS  hsub
      refine hK78 _ _ (e_sub hsub ?_); clear hsub
      unfold ref31_Same_K1 at h
      refine e_seq fun K128 hK128 => ?_
      refine e_region_text rfl ?_
      refine q_assign rfl rfl ?_
      refine eseq_nil ?_
      refine hK128 _ _ ?_
      refine e_ret ?_
      obtain rfl := Option.some.inj h
      exact ⟨_, res1 rfl rfl, _, rfl, hS⟩
    refine e_loop (fun m_ E_ w104 => ∃ (x107 : Int), ∃ (R103 : Nat → Prop), iter (fun s => ref31_Same_B1 fuel a0 a1 s) m_ x107 = some tl80 ∧ Sep F R R103 w w104 [] ∧ IsSlice endITy w104 R103 v1 a0 ∧ IsSlice endITy w104 R103 v2 a1 ∧ E_ = [(0, v1), (1, v2), (5, .int .i64 x107)]) _ ⟨_, ⟨0, _, ht80, hS, f1, f2, rfl⟩, Sub.cons rfl (Sub.cons rfl (Sub.cons rfl (Sub.nil _)))⟩ ?_
    clear ht80 hS
    rintro m80 _ w104 ⟨x107, R103, ht80, hS, f105, f106, rfl⟩
    obtain ⟨m80, rfl, o80, ho80, ht80⟩ := iter_some ht80
    replace ho80 : ref31_Same_B1 fuel a0 a1 x107 = some o80 := ho80
    unfold ref31_Same_B1 at ho80
    refine e_seq fun K129 hK129 => ?_
    refine e_seq fun K130 hK130 => ?_
    refine e_region_text rfl ?_
    refine q_move rfl rfl ?_
    refine q_move rfl rfl ?_
    refine q_lenS rfl f105 rfl ?_
    refine q_lss rfl rfl rfl ?_
    refine eseq_nil ?_
    refine hK130 _ _ ?_
    refine e_cond rfl (fun hc131 => ?_) (fun hc131 => ?_)
    · replace ho80 := (if_pos hc131).symm.trans ho80
      refine e_skip ?_
      refine hK129 _ _ ?_
      refine e_seq fun K132 hK132 => ?_
      refine e_block ?_
      refine e_seq fun K133 hK133 => ?_
      refine e_region_draw mixed (fun _ => False) [0, 0, 3, 7, 0, 0, 48, 112, 255] [] [0, 1, 2, 3, 4, 5, 6, 7, 8] (by kernel_rfl) ?_
      refine q_move rfl rfl ?_
      refine q_move rfl rfl ?_
      obtain ⟨x134, hx134, ho80⟩ := Option.of_bind ho80
      refine q_atS (by infer_instance) rfl f105 rfl hx134 rfl fun b135 o135 hm135 f135 => ?_
      have hc136 := EndI_open f135
      refine q_loadAgg rfl hc136 rfl rfl ?_
      refine q_move rfl rfl ?_
      refine q_move rfl rfl ?_
      obtain ⟨x137, hx137, ho80⟩ := Option.of_bind ho80
      refine q_atS (by infer_instance) rfl f106 rfl hx137 rfl fun b138 o138 hm138 f138 => ?_
      have hc139 := EndI_open f138
      refine q_loadAgg rfl hc139 rfl rfl ?_
      refine q_neqA eqT34 (by kernel_rfl) rfl rfl rfl ?_
      refine eseq_nil ?_
      refine hK133 _ _ ?_
      refine e_cond rfl (fun hc140 => ?_) (fun hc140 => ?_)
      · replace ho80 := (if_pos hc140).symm.trans ho80
        refine e_seq fun K141 hK141 => ?_
        refine e_region_text rfl ?_
        refine q_assign rfl rfl ?_
        refine eseq_nil ?_
        refine hK141 _ _ ?_
        refine e_ret ?_
        obtain rfl := Option.some.inj ho80
        obtain rfl := Option.some.inj ht80
        obtain rfl := Option.some.inj h
        exact ⟨_, res1 rfl rfl, _, rfl, hS⟩
      · replace ho80 := (if_neg (not_true hc140)).symm.trans ho80
        refine e_skip ?_
        refine hK132 _ _ ?_
        refine e_region_text rfl ?_
        refine q_move rfl rfl ?_
        refine q_addW rfl rfl rfl ?_
        refine q_assign rfl rfl ?_
        refine eseq_nil ?_
        obtain rfl := Option.some.inj ho80
        exact ⟨m80, _, Nat.lt_succ_self _, ⟨(w64 (x107 + 1)), _, ht80, hS, f105, f106, rfl⟩, Sub.cons rfl (Sub.cons rfl (Sub.cons rfl (Sub.nil _)))⟩
    · replace ho80 := (if_neg (not_true hc131)).symm.trans ho80
      refine e_exit ?_
      obtain rfl := Option.some.inj ho80
      obtain rfl := Option.some.inj ht80
      exact hX80_0  _ _ _ h hS  (Sub.nil _)
theorem ref31_implied_w {F R : Nat → Prop} {w : World} {fuel : Nat} {a0 : EndI} {a1 : EndI} {r : (Bool)} (hS : Sep F R R w w []) (h : ref31_implied fuel a0 a1 = some r) :
    Gives Try.prog 30 [.agg #[.int .i64 a0.proc, .int .i64 a0.inc, .int .i64 a0.index], .agg #[.int .i64 a1.proc, .int .i64 a1.inc, .int .i64 a1.index]] w fun u w1 => ∃ (R1 : Nat → Prop), u = .bool r ∧ Sep F R R1 w w1 [] := by
  refine fn_of Try.func30 rfl Try.ntmps30 (Nat.le_of_ble_eq_true rfl) ?_
  unfold ref31_implied at h
  refine e_seq fun K11 hK11 => ?_
  refine e_region_text rfl ?_
  refine q_boxB rfl rfl rfl fun w12 bl12 hg12 hb12 hB12 => ?_
  replace hS := hS.newBlk hB12 hg12 hb12
  refine q_boxB rfl rfl rfl fun w14 bl14 hg14 hb14 hB14 => ?_
  replace hS := hS.newBlk hB14 hg14 hb14
  refine q_assign rfl rfl ?_
  refine eseq_nil ?_
  refine hK11 _ _ ?_
  refine e_seq fun K16 hK16 => ?_
  refine e_region_text rfl ?_
  refine q_field rfl rfl ?_
  refine q_load rfl (Blk.cell (hS.blk 0 rfl) rfl) rfl ?_
  refine q_field rfl rfl ?_
  refine q_load rfl (Blk.cell (hS.blk 1 rfl) rfl) rfl ?_
  refine q_eql rfl rfl rfl ?_
  refine q_move rfl rfl ?_
  obtain ⟨x18, hx17, h⟩ := Option.of_bind h
  refine g_andM 5 hx17 rfl trivial rfl rfl ?_ ?_ ?_
  · intro hg17 hx17
    clear h
    have hT17 := Below.refl (World.heap w14).size w14
    refine g_run rfl ?_; refine q_field rfl rfl ?_
    refine g_run rfl ?_; refine q_load rfl (Blk.cell (hS.blk 0 rfl) rfl) rfl ?_
    refine g_run rfl ?_; refine q_field rfl rfl ?_
    refine g_run rfl ?_; refine q_load rfl (Blk.cell (hS.blk 1 rfl) rfl) rfl ?_
    refine g_run rfl ?_; refine q_geq rfl rfl rfl ?_
    cases hx17
    exact eseq_nil ⟨hT17, Sub.set rfl (Sub.set rfl (Sub.set rfl (Sub.set rfl (Sub.set rfl (Sub.bool true rfl hg17))))), rfl⟩
  · intro hg17
    refine g_skip rfl rfl rfl ?_
    refine g_skip rfl rfl rfl ?_
    refine g_skip rfl rfl rfl ?_
    refine g_skip rfl rfl rfl ?_
    refine g_skip rfl rfl rfl ?_
    exact eseq_nil ⟨rfl, Sub.set rfl (Sub.set rfl (Sub.set rfl (Sub.set rfl (Sub.set rfl (Sub.bool false rfl hg17)))))⟩
  intro wm17 hBm17; clear hx17
  replace hS := hS.below hBm17
  refine q_move rfl rfl ?_
  obtain ⟨x20, hx19, h⟩ := Option.of_bind h
  refine g_andM 5 hx19 rfl trivial rfl rfl ?_ ?_ ?_
  · intro hg19 hx19
    clear h
    have hT19 := Below.refl (World.heap wm17).size wm17
    refine g_run rfl ?_; refine q_field rfl rfl ?_
    refine g_run rfl ?_; refine q_load rfl (Blk.cell (hS.blk 0 rfl) rfl) rfl ?_
    refine g_run rfl ?_; refine q_field rfl rfl ?_
    refine g_run rfl ?_; refine q_load rfl (Blk.cell (hS.blk 1 rfl) rfl) rfl ?_
    refine g_run rfl ?_; refine q_leq rfl rfl rfl ?_
    cases hx19
    exact eseq_nil ⟨hT19, Sub.set rfl (Sub.set rfl (Sub.set rfl (Sub.set rfl (Sub.set rfl (Sub.bool true rfl hg19))))), rfl⟩
  · intro hg19
    refine g_skip rfl rfl rfl ?_
    refine g_skip rfl rfl rfl ?_
    refine g_skip rfl rfl rfl ?_
    refine g_skip rfl rfl rfl ?_
    refine g_skip rfl rfl rfl ?_
    exact eseq_nil ⟨rfl, Sub.set rfl (Sub.set rfl (Sub.set rfl (Sub.set rfl (Sub.set rfl (Sub.bool false rfl hg19)))))⟩
  intro wm19 hBm19; clear hx19
  replace hS := hS.below hBm19
  refine q_assign rfl rfl ?_
  refine eseq_nil ?_
  refine hK16 _ _ ?_
  refine e_ret ?_
  obtain rfl := Option.some.inj h
  exact ⟨_, res1 rfl rfl, _, rfl, (hS.pickB [] 2 rfl rfl)⟩
end Go.Proofs.Ytfgmboklpjanlaa
