/- Printed walks: A22a. -/
import Derived.Test.YtljpjekifbamfaaA18
set_option linter.unusedVariables false
set_option linter.unusedSimpArgs false
namespace Go.Mine
open Go.RowKit
def slices_Index_K1 (fuel : Nat) : Option (Int) :=
  some (-1)
def slices_Index_B1 (fuel : Nat) (a0 : (List Int)) (a1 : Int) (x79 : Int) : Option ((Int) ⊕ (Unit ⊕ (Int))) :=
  (if (decide (x79 < (a0.length : Int))) = true then (ati a0 x79).bind fun x103 => (if (a1 == x103) = true then some (Sum.inr (Sum.inr x79)) else some (Sum.inl (w64 (x79 + 1)))) else some (Sum.inr (Sum.inl ())))
def slices_Index (fuel : Nat) (a0 : (List Int)) (a1 : Int) : Option (Int) :=
  (iter (fun s => slices_Index_B1 fuel a0 a1 s) fuel 0).bind (fun t => Sum.elim (fun t => slices_Index_K1 fuel) (fun t => some t) t)
def slices_Contains (fuel : Nat) (a0 : (List Int)) (a1 : Int) : Option (Bool) :=
  (slices_Index fuel a0 a1).bind fun r9 => some (decide (0 ≤ r9))
def line_newRows (fuel : Nat) (c0_0 : (List Int)) (c0_1 : (List (List Int))) (c0_2 : (List Arc)) (c1_0 : (List (List Int))) : Option ((List Int) × Bool) :=
  (pattern_Check fuel (⟨c0_0, c0_1, c0_2⟩ : Pat)).bind fun r30 => (orM (r30 != 0) (some (decide ((c1_0.length : Int) < (c0_0.length : Int))))).bind fun x34 => (if x34 = true then none else (mkL (c0_0.length : Int) (0 : Int)).bind fun x38 => some (x38, true))
def line_rows_lower_K1 (fuel : Nat) (x318 : (List Int)) (x319 : Bool) : Option (Bool × (List Int)) :=
  some (x319, x318)
def line_rows_lower_B1 (fuel : Nat) (x182 : (List Int)) (a2 : Int) (a1 : Int) (x255 : (List Int)) (x256 : Bool) (x258 : Int) : Option (((List Int) × Bool × Int) ⊕ ((List Int) × Bool)) :=
  (if (decide (x258 < (x182.length : Int))) = true then (ati x182 x258).bind fun x326 => (andM (decide (x326 ≤ a2)) ((orM (!x256) ((ati x255 a1).bind fun x339 => some (decide (x339 < x326)))).bind fun x338 => some x338)).bind fun x336 => (if x336 = true then (ati x255 a1).bind fun x342 => (seti x255 a1 x326).bind fun x344 => some (Sum.inl (x344, true, (w64 (x258 + 1)))) else some (Sum.inl (x255, x256, (w64 (x258 + 1))))) else some (Sum.inr (x255, x256)))
def line_rows_lower (fuel : Nat) (a1 : Int) (a2 : Int) (c0a_0 : (List Int)) (c0a_1 : (List (List Int))) (c0a_2 : (List Arc)) (c0b_0 : (List (List Int))) (c0_2 : (List Int)) : Option (Bool × (List Int)) :=
  (ati c0b_0 a1).bind fun x182 => (iter (fun s => line_rows_lower_B1 fuel x182 a2 a1 s.1 s.2.1 s.2.2) fuel (c0_2, false, 0)).bind (fun t => line_rows_lower_K1 fuel t.1 t.2)
def line_rows_orphan_K1 (fuel : Nat) (c0_2 : (List Int)) : Option (Arc × Bool × (List Int)) :=
  some ((⟨0, 0, 0, 0⟩ : Arc), false, c0_2)
def line_rows_orphan_B1 (fuel : Nat) (c0a_2 : (List Arc)) (c0_2 : (List Int)) (x232 : Int) : Option ((Int) ⊕ (Unit ⊕ (Arc × Bool × (List Int)))) :=
  (if (decide (x232 < (c0a_2.length : Int))) = true then (ati c0a_2 x232).bind fun x291 => (andM (x291.rcv != 0) ((ati c0_2 x291.to).bind fun x304 => some (decide (x291.rcv ≤ x304)))).bind fun x303 => (andM x303 ((ati c0_2 x291.fr).bind fun x312 => some (decide (x312 < x291.ix)))).bind fun x311 => (if x311 = true then some (Sum.inr (Sum.inr ((⟨x291.fr, x291.ix, x291.to, x291.rcv⟩ : Arc), true, c0_2))) else some (Sum.inl (w64 (x232 + 1)))) else some (Sum.inr (Sum.inl ())))
def line_rows_orphan (fuel : Nat) (c0a_0 : (List Int)) (c0a_1 : (List (List Int))) (c0a_2 : (List Arc)) (c0b_0 : (List (List Int))) (c0_2 : (List Int)) : Option (Arc × Bool × (List Int)) :=
  (iter (fun s => line_rows_orphan_B1 fuel c0a_2 c0_2 s) fuel 0).bind (fun t => Sum.elim (fun t => line_rows_orphan_K1 fuel c0_2) (fun t => some t) t)
def line_Greatest_B1 (fuel : Nat) (a0 : Pat) (a1 : (List (List Int))) (x373 : (List Int)) : Option (((List Int)) ⊕ ((List Int) × Bool)) :=
  (line_rows_orphan fuel a0.lens a0.ckpts a0.arcs a1 x373).bind fun r404 => (if (!r404.2.1) = true then some (Sum.inr (r404.2.2, true)) else (line_rows_lower fuel r404.1.to (w64 (r404.1.rcv - 1)) a0.lens a0.ckpts a0.arcs a1 r404.2.2).bind fun r415 => (if (!r415.1) = true then some (Sum.inr (([] : List Int), false)) else some (Sum.inl r415.2)))
def line_Greatest_K1 (fuel : Nat) (a0 : Pat) (a1 : (List (List Int))) (x324 : (List Int)) : Option ((List Int) × Bool) :=
  (iter (fun s => line_Greatest_B1 fuel a0 a1 s) fuel x324).bind (fun t => some t)
def line_Greatest_B2 (fuel : Nat) (a0 : Pat) (a1 : (List (List Int))) (x285 : (List Int)) (x287 : Int) : Option (((List Int) × Int) ⊕ (((List Int)) ⊕ ((List Int) × Bool))) :=
  (if (decide (x287 < (a0.lens.length : Int))) = true then (ati a0.lens x287).bind fun x425 => (line_rows_lower fuel x287 x425 a0.lens a0.ckpts a0.arcs a1 x285).bind fun r429 => (if (!r429.1) = true then some (Sum.inr (Sum.inr (([] : List Int), false))) else some (Sum.inl (r429.2, (w64 (x287 + 1))))) else some (Sum.inr (Sum.inl x285)))
def line_Greatest (fuel : Nat) (a0 : Pat) (a1 : (List (List Int))) : Option ((List Int) × Bool) :=
  (line_newRows fuel a0.lens a0.ckpts a0.arcs a1).bind fun r228 => (if (!r228.2) = true then some (([] : List Int), false) else (iter (fun s => line_Greatest_B2 fuel a0 a1 s.1 s.2) fuel (r228.1, 0)).bind (fun t => Sum.elim (fun t => line_Greatest_K1 fuel a0 a1 t) (fun t => some t) t))
def line_Allowed_K1 (fuel : Nat) (x394 : (List (List Int))) : Option ((List (List Int))) :=
  some x394
def line_Allowed_B1 (fuel : Nat) (a0 : Pat) (a1 : (List Int)) (x321 : (List (List Int))) (x325 : Int) : Option (((List (List Int)) × Int) ⊕ ((List (List Int)))) :=
  (if (decide (x325 < (a0.ckpts.length : Int))) = true then (ati a0.ckpts x325).bind fun x403 => (Clone_Int fuel x403).bind fun r408 => (ati x321 x325).bind fun x410 => (seti x321 x325 r408).bind fun x412 => (ati a0.lens x325).bind fun x414 => (slices_Contains fuel a1 x325).bind fun r418 => (andM (!r418) ((ati x403 (w64 ((x403.length : Int) - 1))).bind fun x425 => some (x425 != x414))).bind fun x424 => (if x424 = true then (ati x412 x325).bind fun x428 => (snoc x428 x414).bind fun x432 => (seti x412 x325 x432).bind fun x433 => (ati x433 x325).bind fun x434 => some (Sum.inl (x433, (w64 (x325 + 1)))) else some (Sum.inl (x412, (w64 (x325 + 1))))) else some (Sum.inr x321))
def line_Allowed (fuel : Nat) (a0 : Pat) (a1 : (List Int)) : Option ((List (List Int))) :=
  (pattern_Check fuel (⟨a0.lens, a0.ckpts, a0.arcs⟩ : Pat)).bind fun r227 => (if (r227 != 0) = true then some ([] : List (List Int)) else (mkL (a0.ckpts.length : Int) ([] : List Int)).bind fun x233 => (iter (fun s => line_Allowed_B1 fuel a0 a1 s.1 s.2) fuel (x233, 0)).bind (fun t => line_Allowed_K1 fuel t))
def line_Failure (fuel : Nat) (a0 : Pat) (a1 : (List Int)) : Option ((List Int)) :=
  (line_Allowed fuel (⟨a0.lens, a0.ckpts, a0.arcs⟩ : Pat) a1).bind fun r37 => (line_Greatest fuel (⟨a0.lens, a0.ckpts, a0.arcs⟩ : Pat) r37).bind fun r41 => some r41.1
def math_bits_OnesCount64 (fuel : Nat) (a0 : Int) : Option (Int) :=
  (shrK .u64 a0 1).bind fun x17 => (shrK .u64 (wrK .u64 ((andK .u64 x17 6148914691236517205) + (andK .u64 a0 6148914691236517205))) 2).bind fun x19 => (shrK .u64 (wrK .u64 ((andK .u64 x19 3689348814741910323) + (andK .u64 (wrK .u64 ((andK .u64 x17 6148914691236517205) + (andK .u64 a0 6148914691236517205))) 3689348814741910323))) 4).bind fun x21 => (shrK .u64 (andK .u64 (wrK .u64 (x21 + (wrK .u64 ((andK .u64 x19 3689348814741910323) + (andK .u64 (wrK .u64 ((andK .u64 x17 6148914691236517205) + (andK .u64 a0 6148914691236517205))) 3689348814741910323))))) 1085102592571150095) 8).bind fun x23 => (shrK .u64 (wrK .u64 ((andK .u64 (wrK .u64 (x21 + (wrK .u64 ((andK .u64 x19 3689348814741910323) + (andK .u64 (wrK .u64 ((andK .u64 x17 6148914691236517205) + (andK .u64 a0 6148914691236517205))) 3689348814741910323))))) 1085102592571150095) + x23)) 16).bind fun x25 => (shrK .u64 (wrK .u64 ((wrK .u64 ((andK .u64 (wrK .u64 (x21 + (wrK .u64 ((andK .u64 x19 3689348814741910323) + (andK .u64 (wrK .u64 ((andK .u64 x17 6148914691236517205) + (andK .u64 a0 6148914691236517205))) 3689348814741910323))))) 1085102592571150095) + x23)) + x25)) 32).bind fun x27 => some (andK .i64 (w64 (wrK .u64 ((wrK .u64 ((wrK .u64 ((andK .u64 (wrK .u64 (x21 + (wrK .u64 ((andK .u64 x19 3689348814741910323) + (andK .u64 (wrK .u64 ((andK .u64 x17 6148914691236517205) + (andK .u64 a0 6148914691236517205))) 3689348814741910323))))) 1085102592571150095) + x23)) + x25)) + x27))) 127)
def math_bits_OnesCount (fuel : Nat) (a0 : Int) : Option (Int) :=
  (math_bits_OnesCount64 fuel a0).bind fun r10 => some r10
def line_Sets_K1 (fuel : Nat) (x615 : (List (List Int))) : Option ((List (List Int))) :=
  some x615
def line_Sets_K2 (fuel : Nat) (x491 : (List (List Int))) (x494 : Int) (x705 : (List Int)) : Option (((List (List Int)) × Int) ⊕ ((List (List Int)))) :=
  (snoc x491 x705).bind fun x710 => some (Sum.inl (x710, (wrK .u64 (x494 + 1))))
def line_Sets_B2 (fuel : Nat) (a0 : Int) (x494 : Int) (x671 : (List Int)) (x672 : Int) : Option (((List Int) × Int) ⊕ ((List Int))) :=
  (if (decide (x672 < a0)) = true then (shrK .u64 x494 x672).bind fun x718 => (if ((andK .u64 x718 1) != 0) = true then (snoc x671 x672).bind fun x723 => some (Sum.inl (x723, (w64 (x672 + 1)))) else some (Sum.inl (x671, (w64 (x672 + 1))))) else some (Sum.inr x671))
def line_Sets_B1 (fuel : Nat) (x381 : Int) (a1 : Int) (a0 : Int) (x491 : (List (List Int))) (x494 : Int) : Option (((List (List Int)) × Int) ⊕ ((List (List Int)))) :=
  (if (decide (x494 < x381)) = true then (math_bits_OnesCount fuel x494).bind fun r629 => (if (decide (a1 < r629)) = true then some (Sum.inl (x491, (wrK .u64 (x494 + 1)))) else (iter (fun s => line_Sets_B2 fuel a0 x494 s.1 s.2) fuel (([] : List Int), 0)).bind (fun t => line_Sets_K2 fuel x491 x494 t)) else some (Sum.inr x491))
def line_Sets (fuel : Nat) (a0 : Int) (a1 : Int) : Option ((List (List Int))) :=
  (orM (decide (a0 < 0)) (some (decide (16 < a0)))).bind fun x369 => (orM x369 (some (decide (a1 < 0)))).bind fun x373 => (if x373 = true then some ([] : List (List Int)) else (shlK .u64 1 a0).bind fun x381 => (iter (fun s => line_Sets_B1 fuel x381 a1 a0 s.1 s.2) fuel (([] : List (List Int)), 0)).bind (fun t => line_Sets_K1 fuel t))
end Go.Mine
namespace Go.Proofs.Ytljpjekifbamfaa
open Go.RowKit Go.Mine
attribute [local irreducible] eseq ewp iter
theorem slices_Index_w {F R : Nat → Prop} {w : World} {fuel : Nat} {a0 : (List Int)} {a1 : Int} {v1 : Value} {r : (Int)} (hS : Sep F R R w w []) (f1 : IsSlice Ty.int w R v1 a0) (h : slices_Index fuel a0 a1 = some r) :
    Gives Try.prog 88 [v1, .int .i64 a1] w fun u w1 => ∃ (R1 : Nat → Prop), u = .int .i64 r ∧ Sep F R R1 w w1 [] := by
  refine fn_of Try.func88 rfl Try.ntmps88 (Nat.le_of_ble_eq_true rfl) ?_
  unfold slices_Index at h
  refine e_seq fun K54 hK54 => ?_
  refine e_region_text rfl ?_
  refine q_assign rfl rfl ?_
  refine eseq_nil ?_
  refine hK54 _ _ ?_
  refine e_seq fun K55 hK55 => ?_
  refine e_seq fun K56 hK56 => ?_
  refine e_region_text rfl ?_
  refine q_move rfl rfl ?_
  refine q_lenS rfl f1 rfl ?_
  refine q_move rfl rfl ?_
  refine eseq_nil ?_
  refine hK56 _ _ ?_
  refine e_block ?_
  obtain ⟨tl57, ht57, h⟩ := Option.of_bind h
  have hX57_0 : ∀ (R94 : Nat → Prop) (w95 : World) (E_ : Env), slices_Index_K1 fuel = some r → Sep F R R94 w w95 [] → Sub [] E_ → K55 E_ w95 := by
    intro R94 w95 E_ h hS  hsub
    refine hK55 _ _ (e_sub hsub ?_); clear hsub
    unfold slices_Index_K1 at h
    refine e_seq fun K96 hK96 => ?_
    refine e_region_text rfl ?_
    refine q_assign rfl rfl ?_
    refine eseq_nil ?_
    refine hK96 _ _ ?_
    refine e_ret ?_
    obtain rfl := Option.some.inj h
    exact ⟨_, res1 rfl rfl, _, rfl, hS⟩
  refine e_loop (fun m_ E_ w77 => ∃ (x79 : Int), ∃ (R76 : Nat → Prop), iter (fun s => slices_Index_B1 fuel a0 a1 s) m_ x79 = some tl57 ∧ Sep F R R76 w w77 [] ∧ IsSlice Ty.int w77 R76 v1 a0 ∧ E_ = [(0, v1), (1, .int .i64 a1), (7, .int .i64 (a0.length : Int)), (8, .int .i64 x79)]) _ ⟨_, ⟨0, _, ht57, hS, f1, rfl⟩, Sub.cons rfl (Sub.cons rfl (Sub.cons rfl (Sub.cons rfl (Sub.nil _))))⟩ ?_
  clear ht57 hS
  rintro m57 _ w77 ⟨x79, R76, ht57, hS, f78, rfl⟩
  obtain ⟨m57, rfl, o57, ho57, ht57⟩ := iter_some ht57
  replace ho57 : slices_Index_B1 fuel a0 a1 x79 = some o57 := ho57
  unfold slices_Index_B1 at ho57
  refine e_seq fun K97 hK97 => ?_
  refine e_region_text rfl ?_
  refine q_lss rfl rfl rfl ?_
  refine eseq_nil ?_
  refine hK97 _ _ ?_
  refine e_seq fun K98 hK98 => ?_
  refine e_cond rfl (fun hc99 => ?_) (fun hc99 => ?_)
  · replace ho57 := (if_pos hc99).symm.trans ho57
    refine e_skip ?_
    refine hK98 _ _ ?_
    refine e_seq fun K100 hK100 => ?_
    refine e_block ?_
    refine e_seq fun K101 hK101 => ?_
    refine e_region_text rfl ?_
    refine q_move rfl rfl ?_
    refine q_assign rfl rfl ?_
    refine eseq_nil ?_
    refine hK101 _ _ ?_
    refine e_seq fun K102 hK102 => ?_
    refine e_region_text rfl ?_
    refine q_move rfl rfl ?_
    refine q_move rfl rfl ?_
    refine q_move rfl rfl ?_
    obtain ⟨x103, hx103, ho57⟩ := Option.of_bind ho57
    refine q_atS (by infer_instance) rfl f78 rfl hx103 rfl fun b104 o104 hm104 f104 => ?_
    refine q_load rfl (Elt.intCell f104) rfl ?_
    refine q_eql rfl rfl rfl ?_
    refine eseq_nil ?_
    refine hK102 _ _ ?_
    refine e_cond rfl (fun hc105 => ?_) (fun hc105 => ?_)
    · replace ho57 := (if_pos hc105).symm.trans ho57
      refine e_seq fun K106 hK106 => ?_
      refine e_region_text rfl ?_
      refine q_move rfl rfl ?_
      refine q_assign rfl rfl ?_
      refine eseq_nil ?_
      refine hK106 _ _ ?_
      refine e_ret ?_
      obtain rfl := Option.some.inj ho57
      obtain rfl := Option.some.inj ht57
      obtain rfl := Option.some.inj h
      exact ⟨_, res1 rfl rfl, _, rfl, hS⟩
    · replace ho57 := (if_neg (not_true hc105)).symm.trans ho57
      refine e_skip ?_
      refine hK100 _ _ ?_
      refine e_region_text rfl ?_
      refine q_addW rfl rfl rfl ?_
      refine q_move rfl rfl ?_
      refine eseq_nil ?_
      obtain rfl := Option.some.inj ho57
      exact ⟨m57, _, Nat.lt_succ_self _, ⟨(w64 (x79 + 1)), _, ht57, hS, f78, rfl⟩, Sub.cons rfl (Sub.cons rfl (Sub.cons rfl (Sub.cons rfl (Sub.nil _))))⟩
  · replace ho57 := (if_neg (not_true hc99)).symm.trans ho57
    refine e_exit ?_
    obtain rfl := Option.some.inj ho57
    obtain rfl := Option.some.inj ht57
    exact hX57_0  _ _ _ h hS  (Sub.nil _)
theorem slices_Contains_w {F R : Nat → Prop} {w : World} {fuel : Nat} {a0 : (List Int)} {a1 : Int} {v1 : Value} {r : (Bool)} (hS : Sep F R R w w []) (f1 : IsSlice Ty.int w R v1 a0) (h : slices_Contains fuel a0 a1 = some r) :
    Gives Try.prog 72 [v1, .int .i64 a1] w fun u w1 => ∃ (R1 : Nat → Prop), u = .bool r ∧ Sep F R R1 w w1 [] := by
  refine fn_of Try.func72 rfl Try.ntmps72 (Nat.le_of_ble_eq_true rfl) ?_
  unfold slices_Contains at h
  refine e_seq fun K6 hK6 => ?_
  refine e_region_text rfl ?_
  refine q_assign rfl rfl ?_
  refine eseq_nil ?_
  refine hK6 _ _ ?_
  refine e_seq fun K7 hK7 => ?_
  refine e_region_text rfl ?_
  refine q_move rfl rfl ?_
  refine q_move rfl rfl ?_
  obtain ⟨r9, hr9, h⟩ := Option.of_bind h
  refine q_call rfl (slices_Index_w (Sep.enter (As := []) hS) f1 hr9) rfl ?_
  rintro _ w8 ⟨R8, rfl, hC8⟩
  have hB8 : Below (World.heap w).size w w8 := hC8.stepB0
  refine ⟨fun _ => .of_below hB8, ?_⟩
  replace f1 := (f1.ext hB8).mono fun k hk _ => hC8.ro0 k hk
  replace hS := Sep.leave (As := []) hS hC8; simp only [List.cons_append, List.nil_append] at hS
  refine q_geq rfl rfl rfl ?_
  refine q_assign rfl rfl ?_
  refine eseq_nil ?_
  refine hK7 _ _ ?_
  refine e_ret ?_
  obtain rfl := Option.some.inj h
  exact ⟨_, res1 rfl rfl, _, rfl, hS⟩
theorem line_newRows_w {F R : Nat → Prop} {w : World} {fuel : Nat} {c0_0 : (List Int)} {c0_1 : (List (List Int))} {c0_2 : (List Arc)} {c1_0 : (List (List Int))} {B0 : Nat} {v2 : Value} {v3 : Value} {v4 : Value} {B1 : Nat} {v6 : Value} {r : ((List Int) × Bool)} (hS : Sep F R R w w []) (f1 : Lent w R B0 [v2, v3, v4] 28) (f2 : IsSlice Ty.int w R v2 c0_0) (f3 : IsSlice (Ty.slice Ty.int) w R v3 c0_1) (f4 : IsSlice arcTy w R v4 c0_2) (f5 : Lent w R B1 [v6] 25) (f6 : IsSlice (Ty.slice Ty.int) w R v6 c1_0) (h : line_newRows fuel c0_0 c0_1 c0_2 c1_0 = some r) :
    Gives Try.prog 68 [.pointer (some ⟨B0, 0, none⟩), .pointer (some ⟨B1, 0, none⟩)] w fun u w1 => ∃ (B24 : Nat), ∃ (v25 : Value), ∃ (R1 : Nat → Prop), u = .tuple #[.pointer (some ⟨B24, 0, none⟩), .bool r.2] ∧ Sep F R R1 w w1 [HP.blk B24 [.pointer (some ⟨B0, 0, none⟩), .pointer (some ⟨B1, 0, none⟩), v25] 100, HP.own Ty.int (fun _ => False) 3 v25 r.1] := by
  refine fn_of Try.func68 rfl Try.ntmps68 (Nat.le_of_ble_eq_true rfl) ?_
  unfold line_newRows at h
  refine e_seq fun K26 hK26 => ?_
  refine e_region_text rfl ?_
  refine q_assign rfl rfl ?_
  refine q_assign rfl rfl ?_
  refine eseq_nil ?_
  refine hK26 _ _ ?_
  refine e_seq fun K27 hK27 => ?_
  refine e_seq fun K28 hK28 => ?_
  refine e_region_draw mixed (fun _ => False) [0, 1, 3, 7, 15, 31, 63, 127, 255, 511, 63, 1087, 3135, 7231, 15423, 32767, 65535] [] [0, 1, 2, 3, 4, 5, 6, 7, 8, 9, 10, 11, 12, 13, 14, 15, 16] (by kernel_rfl) ?_
  refine q_move rfl rfl ?_
  refine q_nilCheck rfl rfl ?_
  refine q_loadAgg rfl (Blk.cellsAt f1.blk 0 3 rfl) rfl rfl ?_
  obtain ⟨r30, hr30, h⟩ := Option.of_bind h
  refine q_call rfl (pattern_Check_w (a0 := (⟨c0_0, c0_1, c0_2⟩ : Pat)) (Sep.enter (As := []) hS) f2 f3 f4 hr30) rfl ?_
  rintro _ w29 ⟨R29, rfl, hC29⟩
  have hB29 : Below (World.heap w).size w w29 := hC29.stepB0
  refine ⟨fun _ => .of_below hB29, ?_⟩
  replace f1 := (f1.ext hB29).mono fun k hk _ => hC29.ro0 k hk
  replace f2 := (f2.ext hB29).mono fun k hk _ => hC29.ro0 k hk
  replace f3 := (f3.ext hB29).mono fun k hk _ => hC29.ro0 k hk
  replace f4 := (f4.ext hB29).mono fun k hk _ => hC29.ro0 k hk
  replace f5 := (f5.ext hB29).mono fun k hk _ => hC29.ro0 k hk
  replace f6 := (f6.ext hB29).mono fun k hk _ => hC29.ro0 k hk
  replace hS := Sep.leave (As := []) hS hC29; simp only [List.cons_append, List.nil_append] at hS
  refine q_neq rfl rfl rfl ?_
  refine q_move rfl rfl ?_
  obtain ⟨x34, hx33, h⟩ := Option.of_bind h
  refine g_orM 10 hx33 rfl trivial rfl rfl ?_ ?_ ?_
  · intro hg33
    refine g_skip rfl rfl rfl ?_
    refine g_skip rfl rfl rfl ?_
    refine g_skip rfl rfl rfl ?_
    refine g_skip rfl rfl rfl ?_
    refine g_skip rfl rfl rfl ?_
    refine g_skip rfl rfl rfl ?_
    refine g_skip rfl rfl rfl ?_
    refine g_skip rfl rfl rfl ?_
    refine g_skip rfl rfl rfl ?_
    refine g_skip rfl rfl rfl ?_
    exact eseq_nil ⟨rfl, Sub.set rfl (Sub.set rfl (Sub.set rfl (Sub.set rfl (Sub.set rfl (Sub.set rfl (Sub.set rfl (Sub.set rfl (Sub.set rfl (Sub.set rfl (Sub.bool true rfl hg33))))))))))⟩
  · intro hg33 hx33
    clear h
    have hT33 := Below.refl (World.heap w29).size w29
    refine g_run rfl ?_; refine q_move rfl rfl ?_
    refine g_run rfl ?_; refine q_nilCheck rfl rfl ?_
    refine g_run rfl ?_; refine q_load rfl (Blk.cell f5.blk rfl) rfl ?_
    refine g_run rfl ?_; refine q_lenS rfl f6 rfl ?_
    refine g_run rfl ?_; refine q_move rfl rfl ?_
    refine g_run rfl ?_; refine q_nilCheck rfl rfl ?_
    refine g_run rfl ?_; refine q_field rfl rfl ?_
    refine g_run rfl ?_; refine q_load rfl (Blk.cell f1.blk rfl) rfl ?_
    refine g_run rfl ?_; refine q_lenS rfl f2 rfl ?_
    refine g_run rfl ?_; refine q_lss rfl rfl rfl ?_
    cases hx33
    exact eseq_nil ⟨hT33, Sub.set rfl (Sub.set rfl (Sub.set rfl (Sub.set rfl (Sub.set rfl (Sub.set rfl (Sub.set rfl (Sub.set rfl (Sub.set rfl (Sub.set rfl (Sub.bool false rfl hg33)))))))))), rfl⟩
  intro wm33 hBm33; clear hx33
  replace hS := hS.below hBm33
  replace f1 := f1.ext hBm33
  replace f2 := f2.ext hBm33
  replace f3 := f3.ext hBm33
  replace f4 := f4.ext hBm33
  replace f5 := f5.ext hBm33
  replace f6 := f6.ext hBm33
  refine eseq_nil ?_
  refine hK28 _ _ ?_
  refine e_cond rfl (fun hc35 => ?_) (fun hc35 => ?_)
  · replace h := (if_pos hc35).symm.trans h
    refine e_seq fun K36 hK36 => ?_
    refine e_region_text rfl ?_
    refine q_assign rfl rfl ?_
    refine q_assign rfl rfl ?_
    refine eseq_nil ?_
    refine hK36 _ _ ?_
    refine e_ret ?_
    cases h
  · replace h := (if_neg (not_true hc35)).symm.trans h
    refine e_skip ?_
    refine hK27 _ _ ?_
    refine e_seq fun K37 hK37 => ?_
    refine e_region_text rfl ?_
    refine q_move rfl rfl ?_
    refine q_move rfl rfl ?_
    refine q_move rfl rfl ?_
    refine q_nilCheck rfl rfl ?_
    refine q_field rfl rfl ?_
    refine q_load rfl (Blk.cell f1.blk rfl) rfl ?_
    refine q_lenS rfl f2 rfl ?_
    obtain ⟨x38, hx38, h⟩ := Option.of_bind h
    refine q_makeO (T := Ty.int) (S := (fun _ => False)) rfl rfl rfl hx38 (fun _ h => h.elim) rfl fun w39 v39 ho39 hv39 hB39 => ?_
    replace f1 := f1.ext hB39
    replace f2 := f2.ext hB39
    replace f3 := f3.ext hB39
    replace f4 := f4.ext hB39
    replace f5 := f5.ext hB39
    replace f6 := f6.ext hB39
    replace hS := hS.newOwnS hB39 ho39 hv39 (fun _ h => h.elim)
    refine q_build (Parts.cons rfl rfl (Parts.cons rfl rfl (Parts.cons rfl (cells_one (hS.own 0 rfl).one) Parts.nil))) rfl rfl ?_
    refine q_boxB rfl rfl rfl fun w41 bl41 hg41 hb41 hB41 => ?_
    replace f1 := f1.ext hB41
    replace f2 := f2.ext hB41
    replace f3 := f3.ext hB41
    replace f4 := f4.ext hB41
    replace f5 := f5.ext hB41
    replace f6 := f6.ext hB41
    replace hS := hS.newBlk hB41 hg41 hb41
    refine q_assign rfl rfl ?_
    refine q_assign rfl rfl ?_
    refine eseq_nil ?_
    refine hK37 _ _ ?_
    refine e_ret ?_
    obtain rfl := Option.some.inj h
    exact ⟨_, res2 rfl rfl rfl, bl41, v39, _, rfl, hS⟩
theorem line_rows_lower_w {F R : Nat → Prop} {w : World} {fuel : Nat} {a1 : Int} {a2 : Int} {c0a_0 : (List Int)} {c0a_1 : (List (List Int))} {c0a_2 : (List Arc)} {c0b_0 : (List (List Int))} {c0_2 : (List Int)} {B0 : Nat} {B0_0 : Nat} {v3 : Value} {v4 : Value} {v5 : Value} {B0_1 : Nat} {v7 : Value} {v8 : Value} {r : (Bool × (List Int))} (hS : Sep F R R w w [HP.blk B0 [.pointer (some ⟨B0_0, 0, none⟩), .pointer (some ⟨B0_1, 0, none⟩), v8] 100, HP.own Ty.int (fun _ => False) 3 v8 c0_2]) (f2 : Lent w R B0_0 [v3, v4, v5] 28) (f3 : IsSlice Ty.int w R v3 c0a_0) (f4 : IsSlice (Ty.slice Ty.int) w R v4 c0a_1) (f5 : IsSlice arcTy w R v5 c0a_2) (f6 : Lent w R B0_1 [v7] 25) (f7 : IsSlice (Ty.slice Ty.int) w R v7 c0b_0) (h : line_rows_lower fuel a1 a2 c0a_0 c0a_1 c0a_2 c0b_0 c0_2 = some r) :
    Gives Try.prog 69 [.pointer (some ⟨B0, 0, none⟩), .int .i64 a1, .int .i64 a2] w fun u w1 => ∃ (v177 : Value), ∃ (R1 : Nat → Prop), u = .bool r.1 ∧ Sep F R R1 w w1 [HP.blk B0 [.pointer (some ⟨B0_0, 0, none⟩), .pointer (some ⟨B0_1, 0, none⟩), v177] 100, HP.own Ty.int (fun _ => False) 3 v177 r.2] := by
  refine fn_of Try.func69 rfl Try.ntmps69 (Nat.le_of_ble_eq_true rfl) ?_
  unfold line_rows_lower at h
  refine e_seq fun K178 hK178 => ?_
  refine e_region_text rfl ?_
  refine q_assign rfl rfl ?_
  refine eseq_nil ?_
  refine hK178 _ _ ?_
  refine e_seq fun K179 hK179 => ?_
  refine e_region_text rfl ?_
  refine q_assign rfl rfl ?_
  refine eseq_nil ?_
  refine hK179 _ _ ?_
  refine e_seq fun K180 hK180 => ?_
  refine e_seq fun K181 hK181 => ?_
  refine e_region_text rfl ?_
  refine q_move rfl rfl ?_
  refine q_nilCheck rfl rfl ?_
  refine q_field rfl rfl ?_
  refine q_load rfl (Blk.cell (hS.blk 0 rfl) rfl) rfl ?_
  refine q_nilCheck rfl rfl ?_
  refine q_load rfl (Blk.cell f6.blk rfl) rfl ?_
  refine q_move rfl rfl ?_
  obtain ⟨x182, hx182, h⟩ := Option.of_bind h
  refine q_atS (by infer_instance) rfl f7 rfl hx182 rfl fun b183 o183 hm183 f183 => ?_
  refine q_loadE rfl f183 rfl (fun v184 f184 => ?_)
  refine q_lenS rfl f184 rfl ?_
  refine q_move rfl rfl ?_
  refine eseq_nil ?_
  refine hK181 _ _ ?_
  refine e_block ?_
  obtain ⟨tl185, ht185, h⟩ := Option.of_bind h
  have hX185_0 : ∀ (x318 : (List Int)) (x319 : Bool) (v317 : Value) (R308 : Nat → Prop) (w309 : World) (E_ : Env), line_rows_lower_K1 fuel x318 x319 = some r → Sep F R R308 w w309 [HP.blk B0 [.pointer (some ⟨B0_0, 0, none⟩), .pointer (some ⟨B0_1, 0, none⟩), v317] 100, HP.own Ty.int (fun _ => False) 3 v317 x318] → Lent w309 R308 B0_0 [v3, v4, v5] 28 → IsSlice Ty.int w309 R308 v3 c0a_0 → IsSlice (Ty.slice Ty.int) w309 R308 v4 c0a_1 → IsSlice arcTy w309 R308 v5 c0a_2 → Lent w309 R308 B0_1 [v7] 25 → IsSlice (Ty.slice Ty.int) w309 R308 v7 c0b_0 → Sub [(7, .bool x319)] E_ → K180 E_ w309 := by
    intro x318 x319 v317 R308 w309 E_ h hS f310 f311 f312 f313 f314 f315 hsub
    refine hK180 _ _ (e_sub hsub ?_); clear hsub
    unfold line_rows_lower_K1 at h
    refine e_seq fun K320 hK320 => ?_
    refine e_region_text rfl ?_
    refine q_move rfl rfl ?_
    refine q_assign rfl rfl ?_
    refine eseq_nil ?_
    refine hK320 _ _ ?_
    refine e_ret ?_
    obtain rfl := Option.some.inj h
    exact ⟨_, res1 rfl rfl, v317, _, rfl, hS⟩
  refine e_loop (fun m_ E_ w246 => ∃ (x255 : (List Int)), ∃ (x256 : Bool), ∃ (x258 : Int), ∃ (v254 : Value), ∃ (R245 : Nat → Prop), iter (fun s => line_rows_lower_B1 fuel x182 a2 a1 s.1 s.2.1 s.2.2) m_ (x255, x256, x258) = some tl185 ∧ Sep F R R245 w w246 [HP.blk B0 [.pointer (some ⟨B0_0, 0, none⟩), .pointer (some ⟨B0_1, 0, none⟩), v254] 100, HP.own Ty.int (fun _ => False) 3 v254 x255] ∧ Lent w246 R245 B0_0 [v3, v4, v5] 28 ∧ IsSlice Ty.int w246 R245 v3 c0a_0 ∧ IsSlice (Ty.slice Ty.int) w246 R245 v4 c0a_1 ∧ IsSlice arcTy w246 R245 v5 c0a_2 ∧ Lent w246 R245 B0_1 [v7] 25 ∧ IsSlice (Ty.slice Ty.int) w246 R245 v7 c0b_0 ∧ IsSlice Ty.int w246 R245 v184 x182 ∧ E_ = [(0, .pointer (some ⟨B0, 0, none⟩)), (1, .int .i64 a1), (2, .int .i64 a2), (7, .bool x256), (18, v184), (19, .int .i64 (x182.length : Int)), (20, .int .i64 x258)]) _ ⟨_, ⟨c0_2, false, 0, v8, _, ht185, hS, f2, f3, f4, f5, f6, f7, f184, rfl⟩, Sub.cons rfl (Sub.cons rfl (Sub.cons rfl (Sub.cons rfl (Sub.cons rfl (Sub.cons rfl (Sub.cons rfl (Sub.nil _)))))))⟩ ?_
  clear ht185 hS
  rintro m185 _ w246 ⟨x255, x256, x258, v254, R245, ht185, hS, f247, f248, f249, f250, f251, f252, f257, rfl⟩
  obtain ⟨m185, rfl, o185, ho185, ht185⟩ := iter_some ht185
  replace ho185 : line_rows_lower_B1 fuel x182 a2 a1 x255 x256 x258 = some o185 := ho185
  unfold line_rows_lower_B1 at ho185
  refine e_seq fun K321 hK321 => ?_
  refine e_region_text rfl ?_
  refine q_lss rfl rfl rfl ?_
  refine eseq_nil ?_
  refine hK321 _ _ ?_
  refine e_seq fun K322 hK322 => ?_
  refine e_cond rfl (fun hc323 => ?_) (fun hc323 => ?_)
  · replace ho185 := (if_pos hc323).symm.trans ho185
    refine e_skip ?_
    refine hK322 _ _ ?_
    refine e_seq fun K324 hK324 => ?_
    refine e_block ?_
    refine e_seq fun K325 hK325 => ?_
    refine e_region_text rfl ?_
    obtain ⟨x326, hx326, ho185⟩ := Option.of_bind ho185
    refine q_atS (by infer_instance) rfl f257 rfl hx326 rfl fun b327 o327 hm327 f327 => ?_
    refine q_load rfl (Elt.intCell f327) rfl ?_
    refine q_assign rfl rfl ?_
    refine eseq_nil ?_
    refine hK325 _ _ ?_
    refine e_seq fun K328 hK328 => ?_
    refine e_region_text rfl ?_
    refine q_move rfl rfl ?_
    refine q_move rfl rfl ?_
    refine q_leq rfl rfl rfl ?_
    refine q_move rfl rfl ?_
    obtain ⟨x336, hx335, ho185⟩ := Option.of_bind ho185
    refine g_andM 13 hx335 rfl trivial rfl rfl ?_ ?_ ?_
    · intro hg335 hx335
      clear ho185
      have hT335 := Below.refl (World.heap w246).size w246
      refine g_run rfl ?_; refine q_move rfl rfl ?_
      refine g_run rfl ?_; refine q_not rfl rfl ?_
      refine g_run rfl ?_; refine q_move rfl rfl ?_
      obtain ⟨x338, hx337, hx335⟩ := Option.of_bind hx335
      refine g_orM 9 hx337 rfl rfl rfl rfl ?_ ?_ ?_
      · intro hg337
        refine g_skip rfl rfl rfl ?_
        refine g_skip rfl rfl rfl ?_
        refine g_skip rfl rfl rfl ?_
        refine g_skip rfl rfl rfl ?_
        refine g_skip rfl rfl rfl ?_
        refine g_skip rfl rfl rfl ?_
        refine g_skip rfl rfl rfl ?_
        refine g_skip rfl rfl rfl ?_
        refine g_skip rfl rfl rfl ?_
        exact eseq_nil ⟨rfl, Sub.set rfl (Sub.set rfl (Sub.set rfl (Sub.set rfl (Sub.set rfl (Sub.set rfl (Sub.set rfl (Sub.set rfl (Sub.set rfl (Sub.bool true rfl hg337)))))))))⟩
      · intro hg337 hx337
        clear hx335
        have hT337 := Below.refl (World.heap w246).size w246
        refine g_run rfl ?_; refine q_move rfl rfl ?_
        refine g_run rfl ?_; refine q_move rfl rfl ?_
        refine g_run rfl ?_; refine q_nilCheck rfl rfl ?_
        refine g_run rfl ?_; refine q_field rfl rfl ?_
        refine g_run rfl ?_; refine q_load rfl (Blk.cell (hS.blk 0 rfl) rfl) rfl ?_
        refine g_run rfl ?_; refine q_move rfl rfl ?_
        obtain ⟨x339, hx339, hx337⟩ := Option.of_bind hx337
        refine g_run rfl ?_; refine q_indexO (by infer_instance) rfl (hS.own 1 rfl) rfl hx339 rfl ?_
        have f340 := (hS.ownR 1 rfl).elt hx339
        refine g_run rfl ?_; refine q_load rfl (Elt.intCell f340) rfl ?_
        refine g_run rfl ?_; refine q_gtr rfl rfl rfl ?_
        cases hx337
        exact eseq_nil ⟨hT337, Sub.set rfl (Sub.set rfl (Sub.set rfl (Sub.set rfl (Sub.set rfl (Sub.set rfl (Sub.set rfl (Sub.set rfl (Sub.set rfl (Sub.bool false rfl hg337))))))))), rfl⟩
      intro wm337 hBm337; clear hx337
      replace hS := hS.below hBm337
      replace f247 := f247.ext hBm337
      replace f248 := f248.ext hBm337
      replace f249 := f249.ext hBm337
      replace f250 := f250.ext hBm337
      replace f251 := f251.ext hBm337
      replace f252 := f252.ext hBm337
      replace f257 := f257.ext hBm337
      replace hT335 := hT335.trans (Below.mono hBm337 hT335.size)
      cases hx335
      exact eseq_nil ⟨hT335, Sub.set rfl (Sub.set rfl (Sub.set rfl (Sub.set rfl (Sub.bool true rfl hg335)))), rfl⟩
    · intro hg335
      refine g_skip rfl rfl rfl ?_
      refine g_skip rfl rfl rfl ?_
      refine g_skip rfl rfl rfl ?_
      refine g_skipU rfl rfl ?_
      refine g_skipU rfl rfl ?_
      refine g_skipU rfl rfl ?_
      refine g_skipU rfl rfl ?_
      refine g_skipU rfl rfl ?_
      refine g_skipU rfl rfl ?_
      refine g_skipU rfl rfl ?_
      refine g_skipU rfl rfl ?_
      refine g_skipU rfl rfl ?_
      refine g_skip rfl rfl rfl ?_
      exact eseq_nil ⟨rfl, Sub.set rfl (Sub.set rfl (Sub.set rfl (Sub.set rfl (Sub.set rfl (Sub.set rfl (Sub.set rfl (Sub.set rfl (Sub.set rfl (Sub.set rfl (Sub.set rfl (Sub.set rfl (Sub.set rfl (Sub.bool false rfl hg335)))))))))))))⟩
    intro wm335 hBm335; clear hx335
    replace hS := hS.below hBm335
    replace f247 := f247.ext hBm335
    replace f248 := f248.ext hBm335
    replace f249 := f249.ext hBm335
    replace f250 := f250.ext hBm335
    replace f251 := f251.ext hBm335
    replace f252 := f252.ext hBm335
    replace f257 := f257.ext hBm335
    refine eseq_nil ?_
    refine hK328 _ _ ?_
    refine e_cond rfl (fun hc341 => ?_) (fun hc341 => ?_)
    · replace ho185 := (if_pos hc341).symm.trans ho185
      refine e_region_text rfl ?_
      refine q_move rfl rfl ?_
      refine q_nilCheck rfl rfl ?_
      refine q_field rfl rfl ?_
      refine q_load rfl (Blk.cell (hS.blk 0 rfl) rfl) rfl ?_
      refine q_move rfl rfl ?_
      refine q_move rfl rfl ?_
      obtain ⟨x342, hx342, ho185⟩ := Option.of_bind ho185
      refine q_indexO (by infer_instance) rfl (hS.own 1 rfl) rfl hx342 rfl ?_
      obtain ⟨x344, hx344, ho185⟩ := Option.of_bind ho185
      refine q_storeO (T := Ty.int) (j := 0) rfl rfl (hS.own 1 rfl) hx342 hx344 rfl rfl rfl (Enc.setL rfl) fun w343 ho343 hO343 => ?_
      have hk343 := hS.keptO 1 rfl hx342 hO343
      replace f247 := f247.kept hk343
      replace f248 := f248.kept hk343
      replace f249 := f249.kept hk343
      replace f250 := f250.kept hk343
      replace f251 := f251.kept hk343
      replace f252 := f252.kept hk343
      replace f257 := f257.kept hk343
      replace hS := hS.putO 1 rfl hx342 ho343 hO343; simp only [List.set] at hS
      refine q_assign rfl rfl ?_
      refine eseq_nil ?_
      refine hK324 _ _ ?_
      refine e_region_text rfl ?_
      refine q_addW rfl rfl rfl ?_
      refine q_move rfl rfl ?_
      refine eseq_nil ?_
      obtain rfl := Option.some.inj ho185
      exact ⟨m185, _, Nat.lt_succ_self _, ⟨x344, true, (w64 (x258 + 1)), v254, _, ht185, hS, f247, f248, f249, f250, f251, f252, f257, rfl⟩, Sub.cons rfl (Sub.cons rfl (Sub.cons rfl (Sub.cons rfl (Sub.cons rfl (Sub.cons rfl (Sub.cons rfl (Sub.nil _)))))))⟩
    · replace ho185 := (if_neg (not_true hc341)).symm.trans ho185
      refine e_skip ?_
      refine hK324 _ _ ?_
      refine e_region_text rfl ?_
      refine q_addW rfl rfl rfl ?_
      refine q_move rfl rfl ?_
      refine eseq_nil ?_
      obtain rfl := Option.some.inj ho185
      exact ⟨m185, _, Nat.lt_succ_self _, ⟨x255, x256, (w64 (x258 + 1)), v254, _, ht185, hS, f247, f248, f249, f250, f251, f252, f257, rfl⟩, Sub.cons rfl (Sub.cons rfl (Sub.cons rfl (Sub.cons rfl (Sub.cons rfl (Sub.cons rfl (Sub.cons rfl (Sub.nil _)))))))⟩
  · replace ho185 := (if_neg (not_true hc323)).symm.trans ho185
    refine e_exit ?_
    obtain rfl := Option.some.inj ho185
    obtain rfl := Option.some.inj ht185
    exact hX185_0 x255 x256 v254 _ _ _ h hS f247 f248 f249 f250 f251 f252 (Sub.cons rfl (Sub.nil _))
theorem line_rows_orphan_w {F R : Nat → Prop} {w : World} {fuel : Nat} {c0a_0 : (List Int)} {c0a_1 : (List (List Int))} {c0a_2 : (List Arc)} {c0b_0 : (List (List Int))} {c0_2 : (List Int)} {B0 : Nat} {B0_0 : Nat} {v3 : Value} {v4 : Value} {v5 : Value} {B0_1 : Nat} {v7 : Value} {v8 : Value} {r : (Arc × Bool × (List Int))} (hS : Sep F R R w w [HP.blk B0 [.pointer (some ⟨B0_0, 0, none⟩), .pointer (some ⟨B0_1, 0, none⟩), v8] 100, HP.own Ty.int (fun _ => False) 3 v8 c0_2]) (f2 : Lent w R B0_0 [v3, v4, v5] 28) (f3 : IsSlice Ty.int w R v3 c0a_0) (f4 : IsSlice (Ty.slice Ty.int) w R v4 c0a_1) (f5 : IsSlice arcTy w R v5 c0a_2) (f6 : Lent w R B0_1 [v7] 25) (f7 : IsSlice (Ty.slice Ty.int) w R v7 c0b_0) (h : line_rows_orphan fuel c0a_0 c0a_1 c0a_2 c0b_0 c0_2 = some r) :
    Gives Try.prog 70 [.pointer (some ⟨B0, 0, none⟩)] w fun u w1 => ∃ (v163 : Value), ∃ (R1 : Nat → Prop), u = .tuple #[.agg #[.int .i64 r.1.fr, .int .i64 r.1.ix, .int .i64 r.1.to, .int .i64 r.1.rcv], .bool r.2.1] ∧ Sep F R R1 w w1 [HP.blk B0 [.pointer (some ⟨B0_0, 0, none⟩), .pointer (some ⟨B0_1, 0, none⟩), v163] 100, HP.own Ty.int (fun _ => False) 3 v163 r.2.2] := by
  refine fn_of Try.func70 rfl Try.ntmps70 (Nat.le_of_ble_eq_true rfl) ?_
  unfold line_rows_orphan at h
  refine e_seq fun K164 hK164 => ?_
  refine e_region_text rfl ?_
  refine q_allocB rfl fun w165 bl165 hg165 hb165 hB165 => ?_
  replace f2 := f2.ext hB165
  replace f3 := f3.ext hB165
  replace f4 := f4.ext hB165
  replace f5 := f5.ext hB165
  replace f6 := f6.ext hB165
  replace f7 := f7.ext hB165
  replace hS := hS.newBlk hB165 hg165 hb165
  refine q_assign rfl rfl ?_
  refine eseq_nil ?_
  refine hK164 _ _ ?_
  refine e_seq fun K167 hK167 => ?_
  refine e_seq fun K168 hK168 => ?_
  refine e_region_text rfl ?_
  refine q_move rfl rfl ?_
  refine q_nilCheck rfl rfl ?_
  refine q_field rfl rfl ?_
  refine q_load rfl (Blk.cell (hS.blk 1 rfl) rfl) rfl ?_
  refine q_nilCheck rfl rfl ?_
  refine q_field rfl rfl ?_
  refine q_load rfl (Blk.cell f2.blk rfl) rfl ?_
  refine q_lenS rfl f5 rfl ?_
  refine q_move rfl rfl ?_
  refine eseq_nil ?_
  refine hK168 _ _ ?_
  refine e_block ?_
  obtain ⟨tl169, ht169, h⟩ := Option.of_bind h
  have hX169_0 : ∀ (R275 : Nat → Prop) (w276 : World) (E_ : Env), line_rows_orphan_K1 fuel c0_2 = some r → Sep F R R275 w w276 [HP.blk B0 [.pointer (some ⟨B0_0, 0, none⟩), .pointer (some ⟨B0_1, 0, none⟩), v8] 100, HP.own Ty.int (fun _ => False) 3 v8 c0_2, HP.blk bl165 [.int .i64 0, .int .i64 0, .int .i64 0, .int .i64 0] 59] → Lent w276 R275 B0_0 [v3, v4, v5] 28 → IsSlice Ty.int w276 R275 v3 c0a_0 → IsSlice (Ty.slice Ty.int) w276 R275 v4 c0a_1 → IsSlice arcTy w276 R275 v5 c0a_2 → Lent w276 R275 B0_1 [v7] 25 → IsSlice (Ty.slice Ty.int) w276 R275 v7 c0b_0 → Sub [(2, .pointer (some ⟨bl165, 0, none⟩))] E_ → K167 E_ w276 := by
    intro R275 w276 E_ h hS f277 f278 f279 f280 f281 f282 hsub
    refine hK167 _ _ (e_sub hsub ?_); clear hsub
    unfold line_rows_orphan_K1 at h
    refine e_seq fun K284 hK284 => ?_
    refine e_region_text rfl ?_
    refine q_build Parts.nil rfl rfl ?_
    refine q_storeAgg rfl rfl (hS.blk 2 rfl) rfl (Nat.le_of_ble_eq_true rfl) (all_cons rfl (all_cons rfl (all_cons rfl (all_cons rfl (all_nil))))) rfl rfl fun w285 hb285 hO285 => ?_
    simp only [setN, List.set, List.take, List.drop] at hb285
    have hk285 := hS.keptBlk 2 rfl hO285
    replace f277 := f277.kept hk285
    replace f278 := f278.kept hk285
    replace f279 := f279.kept hk285
    replace f280 := f280.kept hk285
    replace f281 := f281.kept hk285
    replace f282 := f282.kept hk285
    replace hS := hS.setBlk 2 rfl hb285 hO285; simp only [List.set] at hS
    refine q_assign rfl rfl ?_
    refine eseq_nil ?_
    refine hK284 _ _ ?_
    refine e_ret ?_
    obtain rfl := Option.some.inj h
    exact ⟨_, resCT rfl rfl ((hS.blk 2 rfl).cellsAt 0 4 rfl) rfl rfl, v8, _, rfl, (hS.pickB [0, 1] 3 rfl rfl)⟩
  refine e_loop (fun m_ E_ w223 => ∃ (x232 : Int), ∃ (R222 : Nat → Prop), iter (fun s => line_rows_orphan_B1 fuel c0a_2 c0_2 s) m_ x232 = some tl169 ∧ Sep F R R222 w w223 [HP.blk B0 [.pointer (some ⟨B0_0, 0, none⟩), .pointer (some ⟨B0_1, 0, none⟩), v8] 100, HP.own Ty.int (fun _ => False) 3 v8 c0_2, HP.blk bl165 [.int .i64 0, .int .i64 0, .int .i64 0, .int .i64 0] 59] ∧ Lent w223 R222 B0_0 [v3, v4, v5] 28 ∧ IsSlice Ty.int w223 R222 v3 c0a_0 ∧ IsSlice (Ty.slice Ty.int) w223 R222 v4 c0a_1 ∧ IsSlice arcTy w223 R222 v5 c0a_2 ∧ Lent w223 R222 B0_1 [v7] 25 ∧ IsSlice (Ty.slice Ty.int) w223 R222 v7 c0b_0 ∧ IsSlice arcTy w223 R222 v5 c0a_2 ∧ E_ = [(0, .pointer (some ⟨B0, 0, none⟩)), (2, .pointer (some ⟨bl165, 0, none⟩)), (12, v5), (13, .int .i64 (c0a_2.length : Int)), (14, .int .i64 x232)]) _ ⟨_, ⟨0, _, ht169, (hS.pickB [1, 2, 0] 3 rfl rfl), f2, f3, f4, f5, f6, f7, f5, rfl⟩, Sub.cons rfl (Sub.cons rfl (Sub.cons rfl (Sub.cons rfl (Sub.cons rfl (Sub.nil _)))))⟩ ?_
  clear ht169 hS
  rintro m169 _ w223 ⟨x232, R222, ht169, hS, f224, f225, f226, f227, f228, f229, f231, rfl⟩
  obtain ⟨m169, rfl, o169, ho169, ht169⟩ := iter_some ht169
  replace ho169 : line_rows_orphan_B1 fuel c0a_2 c0_2 x232 = some o169 := ho169
  unfold line_rows_orphan_B1 at ho169
  refine e_seq fun K286 hK286 => ?_
  refine e_region_text rfl ?_
  refine q_lss rfl rfl rfl ?_
  refine eseq_nil ?_
  refine hK286 _ _ ?_
  refine e_seq fun K287 hK287 => ?_
  refine e_cond rfl (fun hc288 => ?_) (fun hc288 => ?_)
  · replace ho169 := (if_pos hc288).symm.trans ho169
    refine e_skip ?_
    refine hK287 _ _ ?_
    refine e_seq fun K289 hK289 => ?_
    refine e_block ?_
    refine e_seq fun K290 hK290 => ?_
    refine e_region_text rfl ?_
    obtain ⟨x291, hx291, ho169⟩ := Option.of_bind ho169
    refine q_atS (by infer_instance) rfl f231 rfl hx291 rfl fun b292 o292 hm292 f292 => ?_
    have hc293 := Arc_open f292
    refine q_loadAgg rfl hc293 rfl rfl ?_
    refine q_allocB rfl fun w294 bl294 hg294 hb294 hB294 => ?_
    replace f224 := f224.ext hB294
    replace f225 := f225.ext hB294
    replace f226 := f226.ext hB294
    replace f227 := f227.ext hB294
    replace f228 := f228.ext hB294
    replace f229 := f229.ext hB294
    replace f231 := f231.ext hB294
    replace hS := hS.newBlk hB294 hg294 hb294
    refine q_storeAgg rfl rfl (hS.blk 0 rfl) rfl (Nat.le_of_ble_eq_true rfl) (all_cons rfl (all_cons rfl (all_cons rfl (all_cons rfl (all_nil))))) rfl rfl fun w296 hb296 hO296 => ?_
    simp only [setN, List.set, List.take, List.drop] at hb296
    have hk296 := hS.keptBlk 0 rfl hO296
    replace f224 := f224.kept hk296
    replace f225 := f225.kept hk296
    replace f226 := f226.kept hk296
    replace f227 := f227.kept hk296
    replace f228 := f228.kept hk296
    replace f229 := f229.kept hk296
    replace f231 := f231.kept hk296
    replace hS := hS.setBlk 0 rfl hb296 hO296; simp only [List.set] at hS
    refine eseq_nil ?_
    refine hK290 _ _ ?_
    refine e_seq fun K297 hK297 => ?_
    refine e_region_draw mixed (fun _ => False) [0, 1, 3, 7, 15, 31, 15, 79, 207, 463, 15, 1039, 4047, 8143, 16383, 32767, 65535, 131071, 262143, 131071, 655359, 1703935, 3801087, 131071, 8519679, 33161215, 66715647, 134217727, 268435455] [] [0, 1, 2, 3, 4, 5, 6, 7, 8, 9, 10, 11, 12, 13, 14, 15, 16, 17, 18, 19, 20, 21, 22, 23, 24, 25, 26, 27, 28] (by kernel_rfl) ?_
    refine q_field rfl rfl ?_
    refine q_load rfl (Blk.cell (hS.blk 0 rfl) rfl) rfl ?_
    refine q_neq rfl rfl rfl ?_
    refine q_move rfl rfl ?_
    obtain ⟨x303, hx302, ho169⟩ := Option.of_bind ho169
    refine g_andM 11 hx302 rfl trivial rfl rfl ?_ ?_ ?_
    · intro hg302 hx302
      clear ho169
      have hT302 := Below.refl (World.heap w296).size w296
      refine g_run rfl ?_; refine q_field rfl rfl ?_
      refine g_run rfl ?_; refine q_load rfl (Blk.cell (hS.blk 0 rfl) rfl) rfl ?_
      refine g_run rfl ?_; refine q_move rfl rfl ?_
      refine g_run rfl ?_; refine q_nilCheck rfl rfl ?_
      refine g_run rfl ?_; refine q_field rfl rfl ?_
      refine g_run rfl ?_; refine q_load rfl (Blk.cell (hS.blk 1 rfl) rfl) rfl ?_
      refine g_run rfl ?_; refine q_field rfl rfl ?_
      refine g_run rfl ?_; refine q_load rfl (Blk.cell (hS.blk 0 rfl) rfl) rfl ?_
      obtain ⟨x304, hx304, hx302⟩ := Option.of_bind hx302
      refine g_run rfl ?_; refine q_indexO (by infer_instance) rfl (hS.own 2 rfl) rfl hx304 rfl ?_
      have f305 := (hS.ownR 2 rfl).elt hx304
      refine g_run rfl ?_; refine q_load rfl (Elt.intCell f305) rfl ?_
      refine g_run rfl ?_; refine q_leq rfl rfl rfl ?_
      cases hx302
      exact eseq_nil ⟨hT302, Sub.set rfl (Sub.set rfl (Sub.set rfl (Sub.set rfl (Sub.set rfl (Sub.set rfl (Sub.set rfl (Sub.set rfl (Sub.set rfl (Sub.set rfl (Sub.set rfl (Sub.bool true rfl hg302))))))))))), rfl⟩
    · intro hg302
      refine g_skip rfl rfl rfl ?_
      refine g_skip rfl rfl rfl ?_
      refine g_skip rfl rfl rfl ?_
      refine g_skip rfl rfl rfl ?_
      refine g_skip rfl rfl rfl ?_
      refine g_skip rfl rfl rfl ?_
      refine g_skip rfl rfl rfl ?_
      refine g_skip rfl rfl rfl ?_
      refine g_skip rfl rfl rfl ?_
      refine g_skip rfl rfl rfl ?_
      refine g_skip rfl rfl rfl ?_
      exact eseq_nil ⟨rfl, Sub.set rfl (Sub.set rfl (Sub.set rfl (Sub.set rfl (Sub.set rfl (Sub.set rfl (Sub.set rfl (Sub.set rfl (Sub.set rfl (Sub.set rfl (Sub.set rfl (Sub.bool false rfl hg302)))))))))))⟩
    intro wm302 hBm302; clear hx302
    replace hS := hS.below hBm302
    replace f224 := f224.ext hBm302
    replace f225 := f225.ext hBm302
    replace f226 := f226.ext hBm302
    replace f227 := f227.ext hBm302
    replace f228 := f228.ext hBm302
    replace f229 := f229.ext hBm302
    replace f231 := f231.ext hBm302
    refine q_move rfl rfl ?_
    obtain ⟨x311, hx310, ho169⟩ := Option.of_bind ho169
    refine g_andM 11 hx310 rfl trivial rfl rfl ?_ ?_ ?_
    · intro hg310 hx310
      clear ho169
      have hT310 := Below.refl (World.heap wm302).size wm302
      refine g_run rfl ?_; refine q_field rfl rfl ?_
      refine g_run rfl ?_; refine q_load rfl (Blk.cell (hS.blk 0 rfl) rfl) rfl ?_
      refine g_run rfl ?_; refine q_move rfl rfl ?_
      refine g_run rfl ?_; refine q_nilCheck rfl rfl ?_
      refine g_run rfl ?_; refine q_field rfl rfl ?_
      refine g_run rfl ?_; refine q_load rfl (Blk.cell (hS.blk 1 rfl) rfl) rfl ?_
      refine g_run rfl ?_; refine q_field rfl rfl ?_
      refine g_run rfl ?_; refine q_load rfl (Blk.cell (hS.blk 0 rfl) rfl) rfl ?_
      obtain ⟨x312, hx312, hx310⟩ := Option.of_bind hx310
      refine g_run rfl ?_; refine q_indexO (by infer_instance) rfl (hS.own 2 rfl) rfl hx312 rfl ?_
      have f313 := (hS.ownR 2 rfl).elt hx312
      refine g_run rfl ?_; refine q_load rfl (Elt.intCell f313) rfl ?_
      refine g_run rfl ?_; refine q_gtr rfl rfl rfl ?_
      cases hx310
      exact eseq_nil ⟨hT310, Sub.set rfl (Sub.set rfl (Sub.set rfl (Sub.set rfl (Sub.set rfl (Sub.set rfl (Sub.set rfl (Sub.set rfl (Sub.set rfl (Sub.set rfl (Sub.set rfl (Sub.bool true rfl hg310))))))))))), rfl⟩
    · intro hg310
      refine g_skip rfl rfl rfl ?_
      refine g_skip rfl rfl rfl ?_
      refine g_skip rfl rfl rfl ?_
      refine g_skip rfl rfl rfl ?_
      refine g_skip rfl rfl rfl ?_
      refine g_skip rfl rfl rfl ?_
      refine g_skip rfl rfl rfl ?_
      refine g_skip rfl rfl rfl ?_
      refine g_skip rfl rfl rfl ?_
      refine g_skip rfl rfl rfl ?_
      refine g_skip rfl rfl rfl ?_
      exact eseq_nil ⟨rfl, Sub.set rfl (Sub.set rfl (Sub.set rfl (Sub.set rfl (Sub.set rfl (Sub.set rfl (Sub.set rfl (Sub.set rfl (Sub.set rfl (Sub.set rfl (Sub.set rfl (Sub.bool false rfl hg310)))))))))))⟩
    intro wm310 hBm310; clear hx310
    replace hS := hS.below hBm310
    replace f224 := f224.ext hBm310
    replace f225 := f225.ext hBm310
    replace f226 := f226.ext hBm310
    replace f227 := f227.ext hBm310
    replace f228 := f228.ext hBm310
    replace f229 := f229.ext hBm310
    replace f231 := f231.ext hBm310
    refine eseq_nil ?_
    refine hK297 _ _ ?_
    refine e_cond rfl (fun hc314 => ?_) (fun hc314 => ?_)
    · replace ho169 := (if_pos hc314).symm.trans ho169
      refine e_seq fun K315 hK315 => ?_
      refine e_region_text rfl ?_
      refine q_loadAgg rfl (Blk.cellsAt (hS.blk 0 rfl) 0 4 rfl) rfl rfl ?_
      refine q_storeAgg rfl rfl (hS.blk 3 rfl) rfl (Nat.le_of_ble_eq_true rfl) (all_cons rfl (all_cons rfl (all_cons rfl (all_cons rfl (all_nil))))) rfl rfl fun w316 hb316 hO316 => ?_
      simp only [setN, List.set, List.take, List.drop] at hb316
      have hk316 := hS.keptBlk 3 rfl hO316
      replace f224 := f224.kept hk316
      replace f225 := f225.kept hk316
      replace f226 := f226.kept hk316
      replace f227 := f227.kept hk316
      replace f228 := f228.kept hk316
      replace f229 := f229.kept hk316
      replace hS := hS.setBlk 3 rfl hb316 hO316; simp only [List.set] at hS
      refine q_assign rfl rfl ?_
      refine eseq_nil ?_
      refine hK315 _ _ ?_
      refine e_ret ?_
      obtain rfl := Option.some.inj ho169
      obtain rfl := Option.some.inj ht169
      obtain rfl := Option.some.inj h
      exact ⟨_, resCT rfl rfl ((hS.blk 3 rfl).cellsAt 0 4 rfl) rfl rfl, v8, _, rfl, (hS.pickB [1, 2] 4 rfl rfl)⟩
    · replace ho169 := (if_neg (not_true hc314)).symm.trans ho169
      refine e_skip ?_
      refine hK289 _ _ ?_
      refine e_region_text rfl ?_
      refine q_addW rfl rfl rfl ?_
      refine q_move rfl rfl ?_
      refine eseq_nil ?_
      obtain rfl := Option.some.inj ho169
      exact ⟨m169, _, Nat.lt_succ_self _, ⟨(w64 (x232 + 1)), _, ht169, (hS.pickB [1, 2, 3] 4 rfl rfl), f224, f225, f226, f227, f228, f229, f231, rfl⟩, Sub.cons rfl (Sub.cons rfl (Sub.cons rfl (Sub.cons rfl (Sub.cons rfl (Sub.nil _)))))⟩
  · replace ho169 := (if_neg (not_true hc288)).symm.trans ho169
    refine e_exit ?_
    obtain rfl := Option.some.inj ho169
    obtain rfl := Option.some.inj ht169
    exact hX169_0  _ _ _ h hS f224 f225 f226 f227 f228 f229 (Sub.cons rfl (Sub.nil _))
theorem line_Greatest_w {F R : Nat → Prop} {w : World} {fuel : Nat} {a0 : Pat} {a1 : (List (List Int))} {v1 : Value} {v2 : Value} {v3 : Value} {v4 : Value} {r : ((List Int) × Bool)} (hS : Sep F R R w w []) (f1 : IsSlice Ty.int w R v1 a0.lens) (f2 : IsSlice (Ty.slice Ty.int) w R v2 a0.ckpts) (f3 : IsSlice arcTy w R v3 a0.arcs) (f4 : IsSlice (Ty.slice Ty.int) w R v4 a1) (h : line_Greatest fuel a0 a1 = some r) :
    Gives Try.prog 55 [.agg #[v1, v2, v3], v4] w fun u w1 => ∃ (v218 : Value), ∃ (R1 : Nat → Prop), u = .tuple #[v218, .bool r.2] ∧ Sep F R R1 w w1 [HP.own Ty.int (fun _ => False) 3 v218 r.1] := by
  refine fn_of Try.func55 rfl Try.ntmps55 (Nat.le_of_ble_eq_true rfl) ?_
  unfold line_Greatest at h
  refine e_seq fun K219 hK219 => ?_
  refine e_region_text rfl ?_
  refine q_boxB rfl rfl rfl fun w220 bl220 hg220 hb220 hB220 => ?_
  replace f1 := f1.ext hB220
  replace f2 := f2.ext hB220
  replace f3 := f3.ext hB220
  replace f4 := f4.ext hB220
  replace hS := hS.newBlk hB220 hg220 hb220
  refine q_boxB rfl (cells_one f4.one) rfl fun w222 bl222 hg222 hb222 hB222 => ?_
  replace f4 := f4.ext hB222
  replace f1 := f1.ext hB222
  replace f2 := f2.ext hB222
  replace f3 := f3.ext hB222
  replace hS := hS.newBlk hB222 hg222 hb222
  refine q_assign rfl rfl ?_
  refine q_assign rfl rfl ?_
  refine eseq_nil ?_
  refine hK219 _ _ ?_
  refine e_seq fun K224 hK224 => ?_
  refine e_region_text rfl ?_
  obtain ⟨R226, hS, hm226, f226⟩ := hS.lend 1 rfl; simp only [List.eraseIdx] at hS
  replace f1 := f1.mono fun k hk _ => hm226 k hk
  replace f2 := f2.mono fun k hk _ => hm226 k hk
  replace f3 := f3.mono fun k hk _ => hm226 k hk
  replace f4 := f4.mono fun k hk _ => hm226 k hk
  obtain ⟨R227, hS, hm227, f227⟩ := hS.lend 0 rfl; simp only [List.eraseIdx] at hS
  replace f226 := f226.mono fun k hk _ => hm227 k hk
  replace f1 := f1.mono fun k hk _ => hm227 k hk
  replace f2 := f2.mono fun k hk _ => hm227 k hk
  replace f3 := f3.mono fun k hk _ => hm227 k hk
  replace f4 := f4.mono fun k hk _ => hm227 k hk
  obtain ⟨r228, hr228, h⟩ := Option.of_bind h
  refine q_call rfl (line_newRows_w (Sep.enter (As := []) hS) f226 f1 f2 f3 f227 f4 hr228) rfl ?_
  rintro _ w225 ⟨B229, v230, R225, rfl, hC225⟩
  have hB225 : Below (World.heap w222).size w222 w225 := hC225.stepB0
  refine ⟨fun _ => .of_below hB225, ?_⟩
  replace f226 := (f226.ext hB225).mono fun k hk _ => hC225.ro0 k hk
  replace f1 := (f1.ext hB225).mono fun k hk _ => hC225.ro0 k hk
  replace f2 := (f2.ext hB225).mono fun k hk _ => hC225.ro0 k hk
  replace f3 := (f3.ext hB225).mono fun k hk _ => hC225.ro0 k hk
  replace f227 := (f227.ext hB225).mono fun k hk _ => hC225.ro0 k hk
  replace f4 := (f4.ext hB225).mono fun k hk _ => hC225.ro0 k hk
  replace hS := Sep.leave (As := []) hS hC225; simp only [List.cons_append, List.nil_append] at hS
  refine q_move rfl rfl ?_
  refine q_extract rfl rfl rfl ?_
  refine q_extract rfl rfl rfl ?_
  refine q_assign rfl rfl ?_
  refine q_assign rfl rfl ?_
  refine eseq_nil ?_
  refine hK224 _ _ ?_
  refine e_seq fun K231 hK231 => ?_
  refine e_seq fun K232 hK232 => ?_
  refine e_region_text rfl ?_
  refine q_move rfl rfl ?_
  refine q_not rfl rfl ?_
  refine eseq_nil ?_
  refine hK232 _ _ ?_
  refine e_cond rfl (fun hc233 => ?_) (fun hc233 => ?_)
  · replace h := (if_pos hc233).symm.trans h
    refine e_seq fun K234 hK234 => ?_
    refine e_region_text rfl ?_
    refine q_assign rfl rfl ?_
    refine q_assign rfl rfl ?_
    refine eseq_nil ?_
    refine hK234 _ _ ?_
    refine e_ret ?_
    replace hS := hS.nilOwn0 Ty.int 3
    obtain rfl := Option.some.inj h
    exact ⟨_, res2 rfl rfl rfl, (.slice none 0 0), _, rfl, (hS.pickB [0] 3 rfl rfl)⟩
  · replace h := (if_neg (not_true hc233)).symm.trans h
    refine e_skip ?_
    refine hK231 _ _ ?_
    refine e_seq fun K236 hK236 => ?_
    refine e_seq fun K237 hK237 => ?_
    refine e_region_text rfl ?_
    refine q_field rfl rfl ?_
    refine q_load rfl (Blk.cell f226.blk rfl) rfl ?_
    refine q_lenS rfl f1 rfl ?_
    refine q_move rfl rfl ?_
    refine eseq_nil ?_
    refine hK237 _ _ ?_
    refine e_block ?_
    obtain ⟨tl238, ht238, h⟩ := Option.of_bind h
    have hX238_0 : ∀ (x324 : (List Int)) (v323 : Value) (R314 : Nat → Prop) (w315 : World) (E_ : Env), line_Greatest_K1 fuel a0 a1 x324 = some r → Sep F R R314 w w315 [HP.blk B229 [.pointer (some ⟨bl220, 0, none⟩), .pointer (some ⟨bl222, 0, none⟩), v323] 100, HP.own Ty.int (fun _ => False) 3 v323 x324] → Lent w315 R314 bl220 [v1, v2, v3] 28 → IsSlice Ty.int w315 R314 v1 a0.lens → IsSlice (Ty.slice Ty.int) w315 R314 v2 a0.ckpts → IsSlice arcTy w315 R314 v3 a0.arcs → Lent w315 R314 bl222 [v4] 25 → IsSlice (Ty.slice Ty.int) w315 R314 v4 a1 → Sub [(6, .pointer (some ⟨B229, 0, none⟩))] E_ → K236 E_ w315 := by
      intro x324 v323 R314 w315 E_ h hS f316 f317 f318 f319 f320 f321 hsub
      refine hK236 _ _ (e_sub hsub ?_); clear hsub
      unfold line_Greatest_K1 at h
      refine e_block ?_
      obtain ⟨tl325, ht325, h⟩ := Option.of_bind h
      refine e_loop (fun m_ E_ w364 => ∃ (x373 : (List Int)), ∃ (v372 : Value), ∃ (R363 : Nat → Prop), iter (fun s => line_Greatest_B1 fuel a0 a1 s) m_ x373 = some tl325 ∧ Sep F R R363 w w364 [HP.blk B229 [.pointer (some ⟨bl220, 0, none⟩), .pointer (some ⟨bl222, 0, none⟩), v372] 100, HP.own Ty.int (fun _ => False) 3 v372 x373] ∧ Lent w364 R363 bl220 [v1, v2, v3] 28 ∧ IsSlice Ty.int w364 R363 v1 a0.lens ∧ IsSlice (Ty.slice Ty.int) w364 R363 v2 a0.ckpts ∧ IsSlice arcTy w364 R363 v3 a0.arcs ∧ Lent w364 R363 bl222 [v4] 25 ∧ IsSlice (Ty.slice Ty.int) w364 R363 v4 a1 ∧ E_ = [(6, .pointer (some ⟨B229, 0, none⟩))]) _ ⟨_, ⟨x324, v323, _, ht325, hS, f316, f317, f318, f319, f320, f321, rfl⟩, Sub.cons rfl (Sub.nil _)⟩ ?_
      clear ht325 hS
      rintro m325 _ w364 ⟨x373, v372, R363, ht325, hS, f365, f366, f367, f368, f369, f370, rfl⟩
      obtain ⟨m325, rfl, o325, ho325, ht325⟩ := iter_some ht325
      replace ho325 : line_Greatest_B1 fuel a0 a1 x373 = some o325 := ho325
      unfold line_Greatest_B1 at ho325
      refine e_block ?_
      refine e_seq fun K402 hK402 => ?_
      refine e_region_text rfl ?_
      refine q_move rfl rfl ?_
      obtain ⟨r404, hr404, ho325⟩ := Option.of_bind ho325
      refine q_call rfl (line_rows_orphan_w (Sep.enter (As := [_, _]) hS) f365 f366 f367 f368 f369 f370 hr404) rfl ?_
      rintro _ w403 ⟨v405, R403, rfl, hC403⟩
      refine ⟨(fun h => by cases h), ?_⟩
      have hk403 := hC403.keptR (Sep.offFeet (As := [_, _]) hS)
      replace f365 := (f365.kept hk403).mono fun k hk _ => hC403.ro0 k hk
      replace f366 := (f366.kept hk403).mono fun k hk _ => hC403.ro0 k hk
      replace f367 := (f367.kept hk403).mono fun k hk _ => hC403.ro0 k hk
      replace f368 := (f368.kept hk403).mono fun k hk _ => hC403.ro0 k hk
      replace f369 := (f369.kept hk403).mono fun k hk _ => hC403.ro0 k hk
      replace f370 := (f370.kept hk403).mono fun k hk _ => hC403.ro0 k hk
      replace hS := Sep.leave (As := [_, _]) hS hC403; simp only [List.cons_append, List.nil_append] at hS
      refine q_move rfl rfl ?_
      refine q_extract rfl rfl rfl ?_
      refine q_extract rfl rfl rfl ?_
      refine q_allocB rfl fun w406 bl406 hg406 hb406 hB406 => ?_
      replace f365 := f365.ext hB406
      replace f366 := f366.ext hB406
      replace f367 := f367.ext hB406
      replace f368 := f368.ext hB406
      replace f369 := f369.ext hB406
      replace f370 := f370.ext hB406
      replace hS := hS.newBlk hB406 hg406 hb406
      refine q_storeAgg rfl rfl (hS.blk 0 rfl) rfl (Nat.le_of_ble_eq_true rfl) (all_cons rfl (all_cons rfl (all_cons rfl (all_cons rfl (all_nil))))) rfl rfl fun w408 hb408 hO408 => ?_
      simp only [setN, List.set, List.take, List.drop] at hb408
      have hk408 := hS.keptBlk 0 rfl hO408
      replace f365 := f365.kept hk408
      replace f366 := f366.kept hk408
      replace f367 := f367.kept hk408
      replace f368 := f368.kept hk408
      replace f369 := f369.kept hk408
      replace f370 := f370.kept hk408
      replace hS := hS.setBlk 0 rfl hb408 hO408; simp only [List.set] at hS
      refine q_assign rfl rfl ?_
      refine eseq_nil ?_
      refine hK402 _ _ ?_
      refine e_seq fun K409 hK409 => ?_
      refine e_seq fun K410 hK410 => ?_
      refine e_region_text rfl ?_
      refine q_move rfl rfl ?_
      refine q_not rfl rfl ?_
      refine eseq_nil ?_
      refine hK410 _ _ ?_
      refine e_cond rfl (fun hc411 => ?_) (fun hc411 => ?_)
      · replace ho325 := (if_pos hc411).symm.trans ho325
        refine e_seq fun K412 hK412 => ?_
        refine e_region_text rfl ?_
        refine q_move rfl rfl ?_
        refine q_nilCheck rfl rfl ?_
        refine q_field rfl rfl ?_
        refine q_load rfl (Blk.cell (hS.blk 1 rfl) rfl) rfl ?_
        refine q_assign rfl rfl ?_
        refine q_assign rfl rfl ?_
        refine eseq_nil ?_
        refine hK412 _ _ ?_
        refine e_ret ?_
        obtain rfl := Option.some.inj ho325
        obtain rfl := Option.some.inj ht325
        obtain rfl := Option.some.inj h
        exact ⟨_, res2 rfl rfl rfl, v405, _, rfl, (hS.pickB [2] 3 rfl rfl)⟩
      · replace ho325 := (if_neg (not_true hc411)).symm.trans ho325
        refine e_skip ?_
        refine hK409 _ _ ?_
        refine e_seq fun K413 hK413 => ?_
        refine e_region_text rfl ?_
        refine q_move rfl rfl ?_
        refine q_field rfl rfl ?_
        refine q_load rfl (Blk.cell (hS.blk 0 rfl) rfl) rfl ?_
        refine q_field rfl rfl ?_
        refine q_load rfl (Blk.cell (hS.blk 0 rfl) rfl) rfl ?_
        refine q_subW rfl rfl rfl ?_
        obtain ⟨r415, hr415, ho325⟩ := Option.of_bind ho325
        replace hS := hS.pickB [1, 2, 0] 3 rfl rfl; simp only [List.map_cons, List.map_nil, List.getD_cons_zero, List.getD_cons_succ] at hS
        refine q_call rfl (line_rows_lower_w (Sep.enter (As := [_, _]) hS) f365 f366 f367 f368 f369 f370 hr415) rfl ?_
        rintro _ w414 ⟨v416, R414, rfl, hC414⟩
        refine ⟨(fun h => by cases h), ?_⟩
        have hk414 := hC414.keptR (Sep.offFeet (As := [_, _]) hS)
        replace f365 := (f365.kept hk414).mono fun k hk _ => hC414.ro0 k hk
        replace f366 := (f366.kept hk414).mono fun k hk _ => hC414.ro0 k hk
        replace f367 := (f367.kept hk414).mono fun k hk _ => hC414.ro0 k hk
        replace f368 := (f368.kept hk414).mono fun k hk _ => hC414.ro0 k hk
        replace f369 := (f369.kept hk414).mono fun k hk _ => hC414.ro0 k hk
        replace f370 := (f370.kept hk414).mono fun k hk _ => hC414.ro0 k hk
        replace hS := Sep.leave (As := [_, _]) hS hC414; simp only [List.cons_append, List.nil_append] at hS
        refine q_not rfl rfl ?_
        refine eseq_nil ?_
        refine hK413 _ _ ?_
        refine e_cond rfl (fun hc417 => ?_) (fun hc417 => ?_)
        · replace ho325 := (if_pos hc417).symm.trans ho325
          refine e_seq fun K418 hK418 => ?_
          refine e_region_text rfl ?_
          refine q_assign rfl rfl ?_
          refine q_assign rfl rfl ?_
          refine eseq_nil ?_
          refine hK418 _ _ ?_
          refine e_ret ?_
          replace hS := hS.nilOwn0 Ty.int 3
          obtain rfl := Option.some.inj ho325
          obtain rfl := Option.some.inj ht325
          obtain rfl := Option.some.inj h
          exact ⟨_, res2 rfl rfl rfl, (.slice none 0 0), _, rfl, (hS.pickB [0] 4 rfl rfl)⟩
        · replace ho325 := (if_neg (not_true hc417)).symm.trans ho325
          refine e_skip ?_
          obtain rfl := Option.some.inj ho325
          exact ⟨m325, _, Nat.lt_succ_self _, ⟨r415.2, v416, _, ht325, (hS.pickB [0, 1] 3 rfl rfl), f365, f366, f367, f368, f369, f370, rfl⟩, Sub.cons rfl (Sub.nil _)⟩
    refine e_loop (fun m_ E_ w276 => ∃ (x285 : (List Int)), ∃ (x287 : Int), ∃ (v284 : Value), ∃ (R275 : Nat → Prop), iter (fun s => line_Greatest_B2 fuel a0 a1 s.1 s.2) m_ (x285, x287) = some tl238 ∧ Sep F R R275 w w276 [HP.blk B229 [.pointer (some ⟨bl220, 0, none⟩), .pointer (some ⟨bl222, 0, none⟩), v284] 100, HP.own Ty.int (fun _ => False) 3 v284 x285] ∧ Lent w276 R275 bl220 [v1, v2, v3] 28 ∧ IsSlice Ty.int w276 R275 v1 a0.lens ∧ IsSlice (Ty.slice Ty.int) w276 R275 v2 a0.ckpts ∧ IsSlice arcTy w276 R275 v3 a0.arcs ∧ Lent w276 R275 bl222 [v4] 25 ∧ IsSlice (Ty.slice Ty.int) w276 R275 v4 a1 ∧ IsSlice Ty.int w276 R275 v1 a0.lens ∧ E_ = [(6, .pointer (some ⟨B229, 0, none⟩)), (19, v1), (20, .int .i64 (a0.lens.length : Int)), (21, .int .i64 x287)]) _ ⟨_, ⟨r228.1, 0, v230, _, ht238, hS, f226, f1, f2, f3, f227, f4, f1, rfl⟩, Sub.cons rfl (Sub.cons rfl (Sub.cons rfl (Sub.cons rfl (Sub.nil _))))⟩ ?_
    clear ht238 hS
    rintro m238 _ w276 ⟨x285, x287, v284, R275, ht238, hS, f277, f278, f279, f280, f281, f282, f286, rfl⟩
    obtain ⟨m238, rfl, o238, ho238, ht238⟩ := iter_some ht238
    replace ho238 : line_Greatest_B2 fuel a0 a1 x285 x287 = some o238 := ho238
    unfold line_Greatest_B2 at ho238
    refine e_seq fun K420 hK420 => ?_
    refine e_region_text rfl ?_
    refine q_lss rfl rfl rfl ?_
    refine eseq_nil ?_
    refine hK420 _ _ ?_
    refine e_seq fun K421 hK421 => ?_
    refine e_cond rfl (fun hc422 => ?_) (fun hc422 => ?_)
    · replace ho238 := (if_pos hc422).symm.trans ho238
      refine e_skip ?_
      refine hK421 _ _ ?_
      refine e_seq fun K423 hK423 => ?_
      refine e_block ?_
      refine e_seq fun K424 hK424 => ?_
      refine e_region_text rfl ?_
      refine q_move rfl rfl ?_
      obtain ⟨x425, hx425, ho238⟩ := Option.of_bind ho238
      refine q_atS (by infer_instance) rfl f286 rfl hx425 rfl fun b426 o426 hm426 f426 => ?_
      refine q_load rfl (Elt.intCell f426) rfl ?_
      refine q_assign rfl rfl ?_
      refine q_assign rfl rfl ?_
      refine eseq_nil ?_
      refine hK424 _ _ ?_
      refine e_seq fun K427 hK427 => ?_
      refine e_region_text rfl ?_
      refine q_move rfl rfl ?_
      refine q_move rfl rfl ?_
      refine q_move rfl rfl ?_
      obtain ⟨r429, hr429, ho238⟩ := Option.of_bind ho238
      refine q_call rfl (line_rows_lower_w (Sep.enter (As := [_, _]) hS) f277 f278 f279 f280 f281 f282 hr429) rfl ?_
      rintro _ w428 ⟨v430, R428, rfl, hC428⟩
      refine ⟨(fun h => by cases h), ?_⟩
      have hk428 := hC428.keptR (Sep.offFeet (As := [_, _]) hS)
      replace f277 := (f277.kept hk428).mono fun k hk _ => hC428.ro0 k hk
      replace f278 := (f278.kept hk428).mono fun k hk _ => hC428.ro0 k hk
      replace f279 := (f279.kept hk428).mono fun k hk _ => hC428.ro0 k hk
      replace f280 := (f280.kept hk428).mono fun k hk _ => hC428.ro0 k hk
      replace f281 := (f281.kept hk428).mono fun k hk _ => hC428.ro0 k hk
      replace f282 := (f282.kept hk428).mono fun k hk _ => hC428.ro0 k hk
      replace f286 := (f286.kept hk428).mono fun k hk _ => hC428.ro0 k hk
      replace hS := Sep.leave (As := [_, _]) hS hC428; simp only [List.cons_append, List.nil_append] at hS
      refine q_not rfl rfl ?_
      refine eseq_nil ?_
      refine hK427 _ _ ?_
      refine e_cond rfl (fun hc431 => ?_) (fun hc431 => ?_)
      · replace ho238 := (if_pos hc431).symm.trans ho238
        refine e_seq fun K432 hK432 => ?_
        refine e_region_text rfl ?_
        refine q_assign rfl rfl ?_
        refine q_assign rfl rfl ?_
        refine eseq_nil ?_
        refine hK432 _ _ ?_
        refine e_ret ?_
        replace hS := hS.nilOwn0 Ty.int 3
        obtain rfl := Option.some.inj ho238
        obtain rfl := Option.some.inj ht238
        obtain rfl := Option.some.inj h
        exact ⟨_, res2 rfl rfl rfl, (.slice none 0 0), _, rfl, (hS.pickB [0] 3 rfl rfl)⟩
      · replace ho238 := (if_neg (not_true hc431)).symm.trans ho238
        refine e_skip ?_
        refine hK423 _ _ ?_
        refine e_region_text rfl ?_
        refine q_addW rfl rfl rfl ?_
        refine q_move rfl rfl ?_
        refine eseq_nil ?_
        obtain rfl := Option.some.inj ho238
        exact ⟨m238, _, Nat.lt_succ_self _, ⟨r429.2, (w64 (x287 + 1)), v430, _, ht238, hS, f277, f278, f279, f280, f281, f282, f286, rfl⟩, Sub.cons rfl (Sub.cons rfl (Sub.cons rfl (Sub.cons rfl (Sub.nil _))))⟩
    · replace ho238 := (if_neg (not_true hc422)).symm.trans ho238
      refine e_exit ?_
      obtain rfl := Option.some.inj ho238
      obtain rfl := Option.some.inj ht238
      exact hX238_0 x285 v284 _ _ _ h hS f277 f278 f279 f280 f281 f282 (Sub.cons rfl (Sub.nil _))
theorem line_Allowed_w {F R : Nat → Prop} {w : World} {fuel : Nat} {a0 : Pat} {a1 : (List Int)} {v1 : Value} {v2 : Value} {v3 : Value} {v4 : Value} {r : ((List (List Int)))} (hS : Sep F R R w w []) (f1 : IsSlice Ty.int w R v1 a0.lens) (f2 : IsSlice (Ty.slice Ty.int) w R v2 a0.ckpts) (f3 : IsSlice arcTy w R v3 a0.arcs) (f4 : IsSlice Ty.int w R v4 a1) (h : line_Allowed fuel a0 a1 = some r) :
    Gives Try.prog 56 [.agg #[v1, v2, v3], v4] w fun u w1 => ∃ (v219 : Value), ∃ (v220 : List Value), ∃ (R1 : Nat → Prop), u = v219 ∧ Sep F R R1 w w1 [HP.own Ty.raw (fun _ => False) 24 v219 v220, HP.famS Ty.int (fun _ => False) 3 v220 r] := by
  refine fn_of Try.func56 rfl Try.ntmps56 (Nat.le_of_ble_eq_true rfl) ?_
  unfold line_Allowed at h
  refine e_seq fun K221 hK221 => ?_
  refine e_region_text rfl ?_
  refine q_boxB rfl rfl rfl fun w222 bl222 hg222 hb222 hB222 => ?_
  replace f1 := f1.ext hB222
  replace f2 := f2.ext hB222
  replace f3 := f3.ext hB222
  replace f4 := f4.ext hB222
  replace hS := hS.newBlk hB222 hg222 hb222
  refine q_assign rfl rfl ?_
  refine eseq_nil ?_
  refine hK221 _ _ ?_
  refine e_seq fun K224 hK224 => ?_
  refine e_seq fun K225 hK225 => ?_
  refine e_region_text rfl ?_
  refine q_loadAgg rfl (Blk.cellsAt (hS.blk 0 rfl) 0 3 rfl) rfl rfl ?_
  obtain ⟨r227, hr227, h⟩ := Option.of_bind h
  refine q_call rfl (pattern_Check_w (a0 := (⟨a0.lens, a0.ckpts, a0.arcs⟩ : Pat)) (Sep.enter (As := []) hS) f1 f2 f3 hr227) rfl ?_
  rintro _ w226 ⟨R226, rfl, hC226⟩
  have hB226 : Below (World.heap w222).size w222 w226 := hC226.stepB0
  refine ⟨fun _ => .of_below hB226, ?_⟩
  replace f4 := (f4.ext hB226).mono fun k hk _ => hC226.ro0 k hk
  replace f1 := (f1.ext hB226).mono fun k hk _ => hC226.ro0 k hk
  replace f2 := (f2.ext hB226).mono fun k hk _ => hC226.ro0 k hk
  replace f3 := (f3.ext hB226).mono fun k hk _ => hC226.ro0 k hk
  replace hS := Sep.leave (As := []) hS hC226; simp only [List.cons_append, List.nil_append] at hS
  refine q_neq rfl rfl rfl ?_
  refine eseq_nil ?_
  refine hK225 _ _ ?_
  refine e_cond rfl (fun hc228 => ?_) (fun hc228 => ?_)
  · replace h := (if_pos hc228).symm.trans h
    refine e_seq fun K229 hK229 => ?_
    refine e_region_text rfl ?_
    refine q_assign rfl rfl ?_
    refine eseq_nil ?_
    refine hK229 _ _ ?_
    refine e_ret ?_
    replace hS := hS.nilRows0 Ty.int 3 24
    obtain rfl := Option.some.inj h
    exact ⟨_, res1 rfl rfl, (.slice none 0 0), ([] : List Value), _, rfl, (hS.pickB [0, 1] 3 rfl rfl)⟩
  · replace h := (if_neg (not_true hc228)).symm.trans h
    refine e_skip ?_
    refine hK224 _ _ ?_
    refine e_seq fun K232 hK232 => ?_
    refine e_region_text rfl ?_
    refine q_field rfl rfl ?_
    refine q_load rfl (Blk.cell (hS.blk 0 rfl) rfl) rfl ?_
    refine q_lenS rfl f2 rfl ?_
    obtain ⟨x233, hx233, h⟩ := Option.of_bind h
    refine q_makeO (T := Ty.raw) (S := (fun _ => False)) rfl rfl rfl (mkL_raw hx233) (fun _ h => h.elim) rfl fun w234 v234 ho234 hv234 hB234 => ?_
    replace f4 := f4.ext hB234
    replace f1 := f1.ext hB234
    replace f2 := f2.ext hB234
    replace f3 := f3.ext hB234
    replace hS := (hS.famNilsM (S := fun _ => False) Ty.int 3 (fun _ h => h.elim) hx233).newOwnS hB234 ho234 hv234 (fun _ h => h.elim)
    refine q_assign rfl rfl ?_
    refine eseq_nil ?_
    refine hK232 _ _ ?_
    refine e_seq fun K237 hK237 => ?_
    refine e_seq fun K238 hK238 => ?_
    refine e_region_text rfl ?_
    refine q_field rfl rfl ?_
    refine q_load rfl (Blk.cell (hS.blk 2 rfl) rfl) rfl ?_
    refine q_lenS rfl f2 rfl ?_
    refine q_move rfl rfl ?_
    refine eseq_nil ?_
    refine hK238 _ _ ?_
    refine e_block ?_
    obtain ⟨tl239, ht239, h⟩ := Option.of_bind h
    have hX239_0 : ∀ (x394 : (List (List Int))) (v392 : Value) (v393 : List Value) (R390 : Nat → Prop) (w391 : World) (E_ : Env), line_Allowed_K1 fuel x394 = some r → Sep F R R390 w w391 [HP.own Ty.raw (fun _ => False) 24 v392 v393, HP.famS Ty.int (fun _ => False) 3 v393 x394] → Sub [(5, v392)] E_ → K237 E_ w391 := by
      intro x394 v392 v393 R390 w391 E_ h hS  hsub
      refine hK237 _ _ (e_sub hsub ?_); clear hsub
      unfold line_Allowed_K1 at h
      refine e_seq fun K397 hK397 => ?_
      refine e_region_text rfl ?_
      refine q_move rfl rfl ?_
      refine q_assign rfl rfl ?_
      refine eseq_nil ?_
      refine hK397 _ _ ?_
      refine e_ret ?_
      obtain rfl := Option.some.inj h
      exact ⟨_, res1 rfl rfl, v392, v393, _, rfl, hS⟩
    refine e_loop (fun m_ E_ w314 => ∃ (x321 : (List (List Int))), ∃ (x325 : Int), ∃ (v319 : Value), ∃ (v320 : List Value), ∃ (R313 : Nat → Prop), iter (fun s => line_Allowed_B1 fuel a0 a1 s.1 s.2) m_ (x321, x325) = some tl239 ∧ Sep F R R313 w w314 [HP.blk bl222 [v1, v2, v3] 28, HP.own Ty.raw (fun _ => False) 24 v319 v320, HP.famS Ty.int (fun _ => False) 3 v320 x321] ∧ IsSlice Ty.int w314 R313 v4 a1 ∧ IsSlice Ty.int w314 R313 v1 a0.lens ∧ IsSlice (Ty.slice Ty.int) w314 R313 v2 a0.ckpts ∧ IsSlice arcTy w314 R313 v3 a0.arcs ∧ IsSlice (Ty.slice Ty.int) w314 R313 v2 a0.ckpts ∧ E_ = [(1, v4), (2, .pointer (some ⟨bl222, 0, none⟩)), (5, v319), (17, v2), (18, .int .i64 (a0.ckpts.length : Int)), (19, .int .i64 x325)]) _ ⟨_, ⟨x233, 0, v234, (List.replicate ((a0.ckpts.length : Int)).toNat (.slice none 0 0)), _, ht239, (hS.pickB [2, 0, 1] 3 rfl rfl), f4, f1, f2, f3, f2, rfl⟩, Sub.cons rfl (Sub.cons rfl (Sub.cons rfl (Sub.cons rfl (Sub.cons rfl (Sub.cons rfl (Sub.nil _))))))⟩ ?_
    clear ht239 hS
    rintro m239 _ w314 ⟨x321, x325, v319, v320, R313, ht239, hS, f315, f316, f317, f318, f324, rfl⟩
    obtain ⟨m239, rfl, o239, ho239, ht239⟩ := iter_some ht239
    replace ho239 : line_Allowed_B1 fuel a0 a1 x321 x325 = some o239 := ho239
    unfold line_Allowed_B1 at ho239
    refine e_seq fun K398 hK398 => ?_
    refine e_region_text rfl ?_
    refine q_lss rfl rfl rfl ?_
    refine eseq_nil ?_
    refine hK398 _ _ ?_
    refine e_seq fun K399 hK399 => ?_
    refine e_cond rfl (fun hc400 => ?_) (fun hc400 => ?_)
    · replace ho239 := (if_pos hc400).symm.trans ho239
      refine e_skip ?_
      refine hK399 _ _ ?_
      refine e_seq fun K401 hK401 => ?_
      refine e_block ?_
      refine e_seq fun K402 hK402 => ?_
      refine e_region_text rfl ?_
      refine q_move rfl rfl ?_
      obtain ⟨x403, hx403, ho239⟩ := Option.of_bind ho239
      refine q_atS (by infer_instance) rfl f324 rfl hx403 rfl fun b404 o404 hm404 f404 => ?_
      refine q_loadE rfl f404 rfl (fun v405 f405 => ?_)
      refine q_assign rfl rfl ?_
      refine q_assign rfl rfl ?_
      refine eseq_nil ?_
      refine hK402 _ _ ?_
      refine e_seq fun K406 hK406 => ?_
      refine e_region_text rfl ?_
      refine q_move rfl rfl ?_
      refine q_move rfl rfl ?_
      refine q_move rfl rfl ?_
      obtain ⟨r408, hr408, ho239⟩ := Option.of_bind ho239
      refine q_call rfl (Clone_Int_w (Sep.enter (As := []) hS) f405 hr408) rfl ?_
      rintro v409 w407 ⟨_, R407, rfl, hC407⟩
      have hB407 : Below (World.heap w314).size w314 w407 := hC407.stepB0
      refine ⟨fun _ => .of_below hB407, ?_⟩
      replace f315 := (f315.ext hB407).mono fun k hk _ => hC407.ro0 k hk
      replace f316 := (f316.ext hB407).mono fun k hk _ => hC407.ro0 k hk
      replace f317 := (f317.ext hB407).mono fun k hk _ => hC407.ro0 k hk
      replace f318 := (f318.ext hB407).mono fun k hk _ => hC407.ro0 k hk
      replace f405 := (f405.ext hB407).mono fun k hk _ => hC407.ro0 k hk
      replace f324 := (f324.ext hB407).mono fun k hk _ => hC407.ro0 k hk
      replace hS := Sep.leave (As := []) hS hC407; simp only [List.cons_append, List.nil_append] at hS
      obtain ⟨x410, hx410, ho239⟩ := Option.of_bind ho239
      have hax410 := ati_nth (hS.famLen 3 rfl) hx410
      refine q_indexO (T := Ty.raw) (by infer_instance) rfl (hS.own 2 rfl) rfl hax410 rfl ?_
      obtain ⟨x412, hx412, ho239⟩ := Option.of_bind ho239
      replace hS := hS.pickB [3, 0, 1, 2] 4 rfl rfl; simp only [List.map_cons, List.map_nil, List.getD_cons_zero, List.getD_cons_succ] at hS
      have hone411 := (hS.own 1 rfl).one
      replace hS := hS.famTake hx410 hx412
      refine q_storeO (T := Ty.raw) (j := 0) rfl rfl (hS.own 2 rfl) hax410 (seti_ok hax410) rfl hone411 rfl (rawSet hone411) fun w411 ho411 hO411 => ?_
      have hk411 := hS.keptO 2 rfl hax410 hO411
      replace f315 := f315.kept hk411
      replace f316 := f316.kept hk411
      replace f317 := f317.kept hk411
      replace f318 := f318.kept hk411
      replace f405 := f405.kept hk411
      replace f324 := f324.kept hk411
      replace hS := hS.putO 2 rfl hax410 ho411 hO411; simp only [List.set] at hS
      refine eseq_nil ?_
      refine hK406 _ _ ?_
      refine e_seq fun K413 hK413 => ?_
      refine e_region_text rfl ?_
      refine q_field rfl rfl ?_
      refine q_load rfl (Blk.cell (hS.blk 1 rfl) rfl) rfl ?_
      refine q_move rfl rfl ?_
      obtain ⟨x414, hx414, ho239⟩ := Option.of_bind ho239
      refine q_atS (by infer_instance) rfl f316 rfl hx414 rfl fun b415 o415 hm415 f415 => ?_
      refine q_load rfl (Elt.intCell f415) rfl ?_
      refine q_assign rfl rfl ?_
      refine eseq_nil ?_
      refine hK413 _ _ ?_
      refine e_seq fun K416 hK416 => ?_
      refine e_region_text rfl ?_
      refine q_move rfl rfl ?_
      refine q_move rfl rfl ?_
      obtain ⟨r418, hr418, ho239⟩ := Option.of_bind ho239
      refine q_call rfl (slices_Contains_w (Sep.enter (As := []) hS) f315 hr418) rfl ?_
      rintro _ w417 ⟨R417, rfl, hC417⟩
      have hB417 : Below (World.heap w411).size w411 w417 := hC417.stepB0
      refine ⟨fun _ => .of_below hB417, ?_⟩
      replace f315 := (f315.ext hB417).mono fun k hk _ => hC417.ro0 k hk
      replace f316 := (f316.ext hB417).mono fun k hk _ => hC417.ro0 k hk
      replace f317 := (f317.ext hB417).mono fun k hk _ => hC417.ro0 k hk
      replace f318 := (f318.ext hB417).mono fun k hk _ => hC417.ro0 k hk
      replace f405 := (f405.ext hB417).mono fun k hk _ => hC417.ro0 k hk
      replace f324 := (f324.ext hB417).mono fun k hk _ => hC417.ro0 k hk
      replace hS := Sep.leave (As := []) hS hC417; simp only [List.cons_append, List.nil_append] at hS
      refine q_not rfl rfl ?_
      refine q_move rfl rfl ?_
      obtain ⟨x424, hx423, ho239⟩ := Option.of_bind ho239
      refine g_andM 8 hx423 rfl trivial rfl rfl ?_ ?_ ?_
      · intro hg423 hx423
        clear ho239
        have hT423 := Below.refl (World.heap w417).size w417
        refine g_run rfl ?_; refine q_move rfl rfl ?_
        refine g_run rfl ?_; refine q_move rfl rfl ?_
        refine g_run rfl ?_; refine q_lenS rfl f405 rfl ?_
        refine g_run rfl ?_; refine q_subW rfl rfl rfl ?_
        obtain ⟨x425, hx425, hx423⟩ := Option.of_bind hx423
        refine g_run rfl ?_; refine q_atS (by infer_instance) rfl f405 rfl hx425 rfl fun b426 o426 hm426 f426 => ?_
        refine g_run rfl ?_; refine q_load rfl (Elt.intCell f426) rfl ?_
        refine g_run rfl ?_; refine q_move rfl rfl ?_
        refine g_run rfl ?_; refine q_neq rfl rfl rfl ?_
        cases hx423
        exact eseq_nil ⟨hT423, Sub.set rfl (Sub.set rfl (Sub.set rfl (Sub.set rfl (Sub.set rfl (Sub.set rfl (Sub.set rfl (Sub.set rfl (Sub.bool true rfl hg423)))))))), rfl⟩
      · intro hg423
        refine g_skip rfl rfl rfl ?_
        refine g_skip rfl rfl rfl ?_
        refine g_skip rfl rfl rfl ?_
        refine g_skip rfl rfl rfl ?_
        refine g_skip rfl rfl rfl ?_
        refine g_skip rfl rfl rfl ?_
        refine g_skip rfl rfl rfl ?_
        refine g_skip rfl rfl rfl ?_
        exact eseq_nil ⟨rfl, Sub.set rfl (Sub.set rfl (Sub.set rfl (Sub.set rfl (Sub.set rfl (Sub.set rfl (Sub.set rfl (Sub.set rfl (Sub.bool false rfl hg423))))))))⟩
      intro wm423 hBm423; clear hx423
      replace hS := hS.below hBm423
      replace f315 := f315.ext hBm423
      replace f316 := f316.ext hBm423
      replace f317 := f317.ext hBm423
      replace f318 := f318.ext hBm423
      replace f324 := f324.ext hBm423
      refine eseq_nil ?_
      refine hK416 _ _ ?_
      refine e_cond rfl (fun hc427 => ?_) (fun hc427 => ?_)
      · replace ho239 := (if_pos hc427).symm.trans ho239
        refine e_region_text rfl ?_
        refine q_move rfl rfl ?_
        refine q_move rfl rfl ?_
        refine q_move rfl rfl ?_
        refine q_move rfl rfl ?_
        obtain ⟨x428, hx428, ho239⟩ := Option.of_bind ho239
        have hax428 := ati_nth (hS.famLen 0 rfl) hx428
        refine q_indexO (T := Ty.raw) (by infer_instance) rfl (hS.own 2 rfl) rfl hax428 rfl ?_
        refine q_load rfl (Elt.rawCell ((hS.own 2 rfl).elt hax428)) rfl ?_
        refine q_move rfl rfl ?_
        refine q_litO (T := Ty.int) (S := (fun _ => False)) (cells := [[.int .i64 x414]]) (ys := [x414]) ((Parts.cons rfl rfl Parts.nil)) rfl rfl rfl rfl rfl rfl rfl (fun w1 hB => ⟨rfl, trivial⟩) (fun _ h => h.elim) rfl fun w429 v429 ho429 hv429 hB429 => ?_
        replace f315 := f315.ext hB429
        replace f316 := f316.ext hB429
        replace f317 := f317.ext hB429
        replace f318 := f318.ext hB429
        replace f324 := f324.ext hB429
        replace hS := hS.newOwnS hB429 ho429 hv429 (fun _ h => h.elim)
        obtain ⟨x432, hx432, ho239⟩ := Option.of_bind ho239
        obtain ⟨x433, hx433, ho239⟩ := Option.of_bind ho239
        refine q_catOwn (T := Ty.int) rfl rfl rfl rfl (hS.famO 1 rfl hx428) rfl (hS.own 0 rfl) (fun _ h _ => h.elim) (snoc_cat hx432) (Nat.zero_le _) rfl (fun h => by cases h) fun v431 w431 hw431 hgr431 hnw431 => ?_
        have hk431 := hS.famKeptM 1 rfl hx428 hgr431
        replace f315 := f315.kept hk431
        replace f316 := f316.kept hk431
        replace f317 := f317.kept hk431
        replace f318 := f318.kept hk431
        replace f324 := f324.kept hk431
        replace hS := hS.famSetM 1 rfl hx428 hx433 hw431 hgr431 hnw431; simp only [List.set] at hS
        obtain ⟨x434, hx434, ho239⟩ := Option.of_bind ho239
        have hax434 := ati_nth (show (v320.set (x325).toNat v409).length = _ by simpa using hS.famLen 1 rfl) hx434
        refine q_indexO (T := Ty.raw) (by infer_instance) rfl (hS.own 3 rfl) rfl hax434 rfl ?_
        refine q_storeO (T := Ty.raw) (j := 0) rfl rfl (hS.own 3 rfl) hax434 (seti_ok hax434) rfl hw431.one rfl (rawSet hw431.one) fun w435 ho435 hO435 => ?_
        have hk435 := hS.keptO 3 rfl hax434 hO435
        replace f315 := f315.kept hk435
        replace f316 := f316.kept hk435
        replace f317 := f317.kept hk435
        replace f318 := f318.kept hk435
        replace f324 := f324.kept hk435
        replace hS := hS.putO 3 rfl hax434 ho435 hO435; simp only [List.set] at hS
        refine eseq_nil ?_
        refine hK401 _ _ ?_
        refine e_region_text rfl ?_
        refine q_addW rfl rfl rfl ?_
        refine q_move rfl rfl ?_
        refine eseq_nil ?_
        obtain rfl := Option.some.inj ho239
        exact ⟨m239, _, Nat.lt_succ_self _, ⟨x433, (w64 (x325 + 1)), v319, ((v320.set (x325).toNat v409).set (x325).toNat v431), _, ht239, (hS.pickB [2, 3, 1] 4 rfl rfl), f315, f316, f317, f318, f324, rfl⟩, Sub.cons rfl (Sub.cons rfl (Sub.cons rfl (Sub.cons rfl (Sub.cons rfl (Sub.cons rfl (Sub.nil _))))))⟩
      · replace ho239 := (if_neg (not_true hc427)).symm.trans ho239
        refine e_skip ?_
        refine hK401 _ _ ?_
        refine e_region_text rfl ?_
        refine q_addW rfl rfl rfl ?_
        refine q_move rfl rfl ?_
        refine eseq_nil ?_
        obtain rfl := Option.some.inj ho239
        exact ⟨m239, _, Nat.lt_succ_self _, ⟨x412, (w64 (x325 + 1)), v319, (v320.set (x325).toNat v409), _, ht239, (hS.pickB [1, 2, 0] 3 rfl rfl), f315, f316, f317, f318, f324, rfl⟩, Sub.cons rfl (Sub.cons rfl (Sub.cons rfl (Sub.cons rfl (Sub.cons rfl (Sub.cons rfl (Sub.nil _))))))⟩
    · replace ho239 := (if_neg (not_true hc400)).symm.trans ho239
      refine e_exit ?_
      obtain rfl := Option.some.inj ho239
      obtain rfl := Option.some.inj ht239
      exact hX239_0 x321 v319 v320 _ _ _ h (hS.pickB [1, 2] 3 rfl rfl)  (Sub.cons rfl (Sub.nil _))
theorem line_Failure_w {F R : Nat → Prop} {w : World} {fuel : Nat} {a0 : Pat} {a1 : (List Int)} {v1 : Value} {v2 : Value} {v3 : Value} {v4 : Value} {r : ((List Int))} (hS : Sep F R R w w []) (f1 : IsSlice Ty.int w R v1 a0.lens) (f2 : IsSlice (Ty.slice Ty.int) w R v2 a0.ckpts) (f3 : IsSlice arcTy w R v3 a0.arcs) (f4 : IsSlice Ty.int w R v4 a1) (h : line_Failure fuel a0 a1 = some r) :
    Gives Try.prog 32 [.agg #[v1, v2, v3], v4] w fun u w1 => ∃ (v24 : Value), ∃ (R1 : Nat → Prop), u = v24 ∧ Sep F R R1 w w1 [HP.own Ty.int (fun _ => False) 3 v24 r] := by
  refine fn_of Try.func32 rfl Try.ntmps32 (Nat.le_of_ble_eq_true rfl) ?_
  unfold line_Failure at h
  refine e_seq fun K25 hK25 => ?_
  refine e_region_text rfl ?_
  refine q_boxB rfl rfl rfl fun w26 bl26 hg26 hb26 hB26 => ?_
  replace f1 := f1.ext hB26
  replace f2 := f2.ext hB26
  replace f3 := f3.ext hB26
  replace f4 := f4.ext hB26
  replace hS := hS.newBlk hB26 hg26 hb26
  refine q_assign rfl rfl ?_
  refine eseq_nil ?_
  refine hK25 _ _ ?_
  refine e_seq fun K28 hK28 => ?_
  refine e_region_draw mixed (fun _ => False) [0, 0, 0, 6, 15, 31, 63, 63, 127, 511] [3] [0, 1, 2, 3, 4, 5, 6, 7, 8, 9] (by kernel_rfl) ?_
  refine q_loadAgg rfl (Blk.cellsAt (hS.blk 0 rfl) 0 3 rfl) rfl rfl ?_
  refine q_loadAgg rfl (Blk.cellsAt (hS.blk 0 rfl) 0 3 rfl) rfl rfl ?_
  refine q_move rfl rfl ?_
  obtain ⟨r37, hr37, h⟩ := Option.of_bind h
  refine q_call rfl (line_Allowed_w (a0 := (⟨a0.lens, a0.ckpts, a0.arcs⟩ : Pat)) (Sep.enter (As := []) hS) f1 f2 f3 f4 hr37) rfl ?_
  rintro v38 w36 ⟨_, v39, R36, rfl, hC36⟩
  have hB36 : Below (World.heap w26).size w26 w36 := hC36.stepB0
  refine ⟨fun _ => .of_below hB36, ?_⟩
  replace f1 := (f1.ext hB36).mono fun k hk _ => hC36.ro0 k hk
  replace f2 := (f2.ext hB36).mono fun k hk _ => hC36.ro0 k hk
  replace f3 := (f3.ext hB36).mono fun k hk _ => hC36.ro0 k hk
  replace f4 := (f4.ext hB36).mono fun k hk _ => hC36.ro0 k hk
  replace hS := Sep.leave (As := []) hS hC36; simp only [List.cons_append, List.nil_append] at hS
  obtain ⟨r41, hr41, h⟩ := Option.of_bind h
  refine q_call rfl (line_Greatest_w (a0 := (⟨a0.lens, a0.ckpts, a0.arcs⟩ : Pat)) (Sep.all w36) (f1).old (f2).old (f3).old ((hS.rowsI 0 1 rfl rfl (by decide))).old hr41) rfl ?_
  rintro _ w40 ⟨v42, R40, rfl, hC40⟩
  have hB40 : Below (World.heap w36).size w36 w40 := hC40.stepBF
  refine ⟨fun _ => .of_below hB40, ?_⟩
  replace f1 := f1.ext hB40
  replace f2 := f2.ext hB40
  replace f3 := f3.ext hB40
  replace hS := hS.newOwnS hB40 (hC40.own 0 rfl) (hC40.fresh 0 rfl) (fun _ h => h.elim)
  refine q_move rfl rfl ?_
  refine q_extract rfl rfl rfl ?_
  refine q_extract rfl rfl rfl ?_
  refine q_assign rfl rfl ?_
  refine q_assign rfl rfl ?_
  refine eseq_nil ?_
  refine hK28 _ _ ?_
  refine e_seq fun K43 hK43 => ?_
  refine e_region_text rfl ?_
  refine q_move rfl rfl ?_
  refine q_assign rfl rfl ?_
  refine eseq_nil ?_
  refine hK43 _ _ ?_
  refine e_ret ?_
  obtain rfl := Option.some.inj h
  exact ⟨_, res1 rfl rfl, v42, _, rfl, (hS.pickB [0] 4 rfl rfl)⟩
theorem math_bits_OnesCount64_w {F R : Nat → Prop} {w : World} {fuel : Nat} {a0 : Int} {r : (Int)} (hS : Sep F R R w w []) (h : math_bits_OnesCount64 fuel a0 = some r) :
    Gives Try.prog 87 [.int .u64 a0] w fun u w1 => ∃ (R1 : Nat → Prop), u = .int .i64 r ∧ Sep F R R1 w w1 [] := by
  refine fn_of Try.func87 rfl Try.ntmps87 (Nat.le_of_ble_eq_true rfl) ?_
  unfold math_bits_OnesCount64 at h
  refine e_seq fun K15 hK15 => ?_
  refine e_region_text rfl ?_
  refine q_assign rfl rfl ?_
  refine eseq_nil ?_
  refine hK15 _ _ ?_
  refine e_seq fun K16 hK16 => ?_
  refine e_region_text rfl ?_
  refine q_move rfl rfl ?_
  obtain ⟨x17, hx17, h⟩ := Option.of_bind h
  refine q_shrK rfl rfl hx17 rfl ?_
  refine q_andK rfl rfl rfl ?_
  refine q_move rfl rfl ?_
  refine q_andK rfl rfl rfl ?_
  refine q_addK rfl rfl rfl ?_
  refine q_assign rfl rfl ?_
  refine eseq_nil ?_
  refine hK16 _ _ ?_
  refine e_seq fun K18 hK18 => ?_
  refine e_region_text rfl ?_
  refine q_move rfl rfl ?_
  obtain ⟨x19, hx19, h⟩ := Option.of_bind h
  refine q_shrK rfl rfl hx19 rfl ?_
  refine q_andK rfl rfl rfl ?_
  refine q_move rfl rfl ?_
  refine q_andK rfl rfl rfl ?_
  refine q_addK rfl rfl rfl ?_
  refine q_assign rfl rfl ?_
  refine eseq_nil ?_
  refine hK18 _ _ ?_
  refine e_seq fun K20 hK20 => ?_
  refine e_region_text rfl ?_
  refine q_move rfl rfl ?_
  obtain ⟨x21, hx21, h⟩ := Option.of_bind h
  refine q_shrK rfl rfl hx21 rfl ?_
  refine q_move rfl rfl ?_
  refine q_addK rfl rfl rfl ?_
  refine q_andK rfl rfl rfl ?_
  refine q_assign rfl rfl ?_
  refine eseq_nil ?_
  refine hK20 _ _ ?_
  refine e_seq fun K22 hK22 => ?_
  refine e_region_text rfl ?_
  refine q_move rfl rfl ?_
  refine q_move rfl rfl ?_
  obtain ⟨x23, hx23, h⟩ := Option.of_bind h
  refine q_shrK rfl rfl hx23 rfl ?_
  refine q_addK rfl rfl rfl ?_
  refine q_assign rfl rfl ?_
  refine eseq_nil ?_
  refine hK22 _ _ ?_
  refine e_seq fun K24 hK24 => ?_
  refine e_region_text rfl ?_
  refine q_move rfl rfl ?_
  refine q_move rfl rfl ?_
  obtain ⟨x25, hx25, h⟩ := Option.of_bind h
  refine q_shrK rfl rfl hx25 rfl ?_
  refine q_addK rfl rfl rfl ?_
  refine q_assign rfl rfl ?_
  refine eseq_nil ?_
  refine hK24 _ _ ?_
  refine e_seq fun K26 hK26 => ?_
  refine e_region_text rfl ?_
  refine q_move rfl rfl ?_
  refine q_move rfl rfl ?_
  obtain ⟨x27, hx27, h⟩ := Option.of_bind h
  refine q_shrK rfl rfl hx27 rfl ?_
  refine q_addK rfl rfl rfl ?_
  refine q_assign rfl rfl ?_
  refine eseq_nil ?_
  refine hK26 _ _ ?_
  refine e_seq fun K28 hK28 => ?_
  refine e_region_text rfl ?_
  refine q_move rfl rfl ?_
  refine q_conv64 rfl rfl ?_
  refine q_andK rfl rfl rfl ?_
  refine q_assign rfl rfl ?_
  refine eseq_nil ?_
  refine hK28 _ _ ?_
  refine e_ret ?_
  obtain rfl := Option.some.inj h
  exact ⟨_, res1 rfl rfl, _, rfl, hS⟩
theorem math_bits_OnesCount_w {F R : Nat → Prop} {w : World} {fuel : Nat} {a0 : Int} {r : (Int)} (hS : Sep F R R w w []) (h : math_bits_OnesCount fuel a0 = some r) :
    Gives Try.prog 67 [.int .u64 a0] w fun u w1 => ∃ (R1 : Nat → Prop), u = .int .i64 r ∧ Sep F R R1 w w1 [] := by
  refine fn_of Try.func67 rfl Try.ntmps67 (Nat.le_of_ble_eq_true rfl) ?_
  unfold math_bits_OnesCount at h
  refine e_seq fun K6 hK6 => ?_
  refine e_region_text rfl ?_
  refine q_assign rfl rfl ?_
  refine eseq_nil ?_
  refine hK6 _ _ ?_
  refine e_seq fun K7 hK7 => ?_
  refine e_cond rfl (fun h => by cases h) (fun _ => ?_)
  refine e_skip ?_
  refine hK7 _ _ ?_
  refine e_seq fun K8 hK8 => ?_
  refine e_region_text rfl ?_
  refine q_move rfl rfl ?_
  obtain ⟨r10, hr10, h⟩ := Option.of_bind h
  refine q_call rfl (math_bits_OnesCount64_w (Sep.enter (As := []) hS)  hr10) rfl ?_
  rintro _ w9 ⟨R9, rfl, hC9⟩
  have hB9 : Below (World.heap w).size w w9 := hC9.stepB0
  refine ⟨fun _ => .of_below hB9, ?_⟩
  replace hS := Sep.leave (As := []) hS hC9; simp only [List.cons_append, List.nil_append] at hS
  refine q_assign rfl rfl ?_
  refine eseq_nil ?_
  refine hK8 _ _ ?_
  refine e_ret ?_
  obtain rfl := Option.some.inj h
  exact ⟨_, res1 rfl rfl, _, rfl, hS⟩
theorem line_Sets_w {F R : Nat → Prop} {w : World} {fuel : Nat} {a0 : Int} {a1 : Int} {r : ((List (List Int)))} (hS : Sep F R R w w []) (h : line_Sets fuel a0 a1 = some r) :
    Gives Try.prog 54 [.int .i64 a0, .int .i64 a1] w fun u w1 => ∃ (v361 : Value), ∃ (v362 : List Value), ∃ (R1 : Nat → Prop), u = v361 ∧ Sep F R R1 w w1 [HP.own Ty.raw (fun _ => False) 24 v361 v362, HP.famS Ty.int (fun _ => False) 3 v362 r] := by
  refine fn_of Try.func54 rfl Try.ntmps54 (Nat.le_of_ble_eq_true rfl) ?_
  unfold line_Sets at h
  refine e_seq fun K363 hK363 => ?_
  refine e_region_text rfl ?_
  refine q_assign rfl rfl ?_
  refine eseq_nil ?_
  refine hK363 _ _ ?_
  refine e_seq fun K364 hK364 => ?_
  refine e_seq fun K365 hK365 => ?_
  refine e_region_text rfl ?_
  refine q_move rfl rfl ?_
  refine q_lss rfl rfl rfl ?_
  refine q_move rfl rfl ?_
  obtain ⟨x369, hx368, h⟩ := Option.of_bind h
  refine g_orM 2 hx368 rfl trivial rfl rfl ?_ ?_ ?_
  · intro hg368
    refine g_skip rfl rfl rfl ?_
    refine g_skip rfl rfl rfl ?_
    exact eseq_nil ⟨rfl, Sub.set rfl (Sub.set rfl (Sub.bool true rfl hg368))⟩
  · intro hg368 hx368
    clear h
    have hT368 := Below.refl (World.heap w).size w
    refine g_run rfl ?_; refine q_move rfl rfl ?_
    refine g_run rfl ?_; refine q_gtr rfl rfl rfl ?_
    cases hx368
    exact eseq_nil ⟨hT368, Sub.set rfl (Sub.set rfl (Sub.bool false rfl hg368)), rfl⟩
  intro wm368 hBm368; clear hx368
  replace hS := hS.below hBm368
  refine q_move rfl rfl ?_
  obtain ⟨x373, hx372, h⟩ := Option.of_bind h
  refine g_orM 2 hx372 rfl trivial rfl rfl ?_ ?_ ?_
  · intro hg372
    refine g_skip rfl rfl rfl ?_
    refine g_skip rfl rfl rfl ?_
    exact eseq_nil ⟨rfl, Sub.set rfl (Sub.set rfl (Sub.bool true rfl hg372))⟩
  · intro hg372 hx372
    clear h
    have hT372 := Below.refl (World.heap wm368).size wm368
    refine g_run rfl ?_; refine q_move rfl rfl ?_
    refine g_run rfl ?_; refine q_lss rfl rfl rfl ?_
    cases hx372
    exact eseq_nil ⟨hT372, Sub.set rfl (Sub.set rfl (Sub.bool false rfl hg372)), rfl⟩
  intro wm372 hBm372; clear hx372
  replace hS := hS.below hBm372
  refine eseq_nil ?_
  refine hK365 _ _ ?_
  refine e_cond rfl (fun hc374 => ?_) (fun hc374 => ?_)
  · replace h := (if_pos hc374).symm.trans h
    refine e_seq fun K375 hK375 => ?_
    refine e_region_text rfl ?_
    refine q_assign rfl rfl ?_
    refine eseq_nil ?_
    refine hK375 _ _ ?_
    refine e_ret ?_
    replace hS := hS.nilRows0 Ty.int 3 24
    obtain rfl := Option.some.inj h
    exact ⟨_, res1 rfl rfl, (.slice none 0 0), ([] : List Value), _, rfl, hS⟩
  · replace h := (if_neg (not_true hc374)).symm.trans h
    refine e_skip ?_
    refine hK364 _ _ ?_
    refine e_seq fun K378 hK378 => ?_
    refine e_region_text rfl ?_
    refine q_assign rfl rfl ?_
    refine eseq_nil ?_
    refine hK378 _ _ ?_
    refine e_seq fun K379 hK379 => ?_
    refine e_seq fun K380 hK380 => ?_
    refine e_region_text rfl ?_
    refine q_move rfl rfl ?_
    obtain ⟨x381, hx381, h⟩ := Option.of_bind h
    refine q_shlK rfl rfl hx381 rfl ?_
    refine q_move rfl rfl ?_
    refine eseq_nil ?_
    refine hK380 _ _ ?_
    refine e_block ?_
    obtain ⟨tl382, ht382, h⟩ := Option.of_bind h
    have hX382_0 : ∀ (x615 : (List (List Int))) (v613 : Value) (v614 : List Value) (R611 : Nat → Prop) (w612 : World) (E_ : Env), line_Sets_K1 fuel x615 = some r → Sep F R R611 w w612 [HP.own Ty.raw (fun _ => False) 24 v613 v614, HP.famS Ty.int (fun _ => False) 3 v614 x615] → Sub [(5, v613)] E_ → K379 E_ w612 := by
      intro x615 v613 v614 R611 w612 E_ h hS  hsub
      refine hK379 _ _ (e_sub hsub ?_); clear hsub
      unfold line_Sets_K1 at h
      refine e_seq fun K618 hK618 => ?_
      refine e_region_text rfl ?_
      refine q_move rfl rfl ?_
      refine q_assign rfl rfl ?_
      refine eseq_nil ?_
      refine hK618 _ _ ?_
      refine e_ret ?_
      obtain rfl := Option.some.inj h
      exact ⟨_, res1 rfl rfl, v613, v614, _, rfl, hS⟩
    replace hS := hS.nilRows0 Ty.int 3 24
    refine e_loop (fun m_ E_ w488 => ∃ (x491 : (List (List Int))), ∃ (x494 : Int), ∃ (v489 : Value), ∃ (v490 : List Value), ∃ (R487 : Nat → Prop), iter (fun s => line_Sets_B1 fuel x381 a1 a0 s.1 s.2) m_ (x491, x494) = some tl382 ∧ Sep F R R487 w w488 [HP.own Ty.raw (fun _ => False) 24 v489 v490, HP.famS Ty.int (fun _ => False) 3 v490 x491] ∧ E_ = [(0, .int .i64 a0), (1, .int .i64 a1), (5, v489), (20, .int .u64 x381), (21, .int .u64 x494)]) _ ⟨_, ⟨([] : List (List Int)), 0, (.slice none 0 0), ([] : List Value), _, ht382, hS, rfl⟩, Sub.cons rfl (Sub.cons rfl (Sub.cons rfl (Sub.cons rfl (Sub.cons rfl (Sub.nil _)))))⟩ ?_
    clear ht382 hS
    rintro m382 _ w488 ⟨x491, x494, v489, v490, R487, ht382, hS, rfl⟩
    obtain ⟨m382, rfl, o382, ho382, ht382⟩ := iter_some ht382
    replace ho382 : line_Sets_B1 fuel x381 a1 a0 x491 x494 = some o382 := ho382
    unfold line_Sets_B1 at ho382
    refine e_seq fun K621 hK621 => ?_
    refine e_region_text rfl ?_
    refine q_lss rfl rfl rfl ?_
    refine eseq_nil ?_
    refine hK621 _ _ ?_
    refine e_seq fun K622 hK622 => ?_
    refine e_cond rfl (fun hc623 => ?_) (fun hc623 => ?_)
    · replace ho382 := (if_pos hc623).symm.trans ho382
      refine e_skip ?_
      refine hK622 _ _ ?_
      refine e_seq fun K624 hK624 => ?_
      refine e_block ?_
      refine e_seq fun K625 hK625 => ?_
      refine e_region_text rfl ?_
      refine q_move rfl rfl ?_
      refine q_assign rfl rfl ?_
      refine eseq_nil ?_
      refine hK625 _ _ ?_
      refine e_seq fun K626 hK626 => ?_
      refine e_seq fun K627 hK627 => ?_
      refine e_region_text rfl ?_
      refine q_move rfl rfl ?_
      obtain ⟨r629, hr629, ho382⟩ := Option.of_bind ho382
      refine q_call rfl (math_bits_OnesCount_w (Sep.enter (As := []) hS)  hr629) rfl ?_
      rintro _ w628 ⟨R628, rfl, hC628⟩
      have hB628 : Below (World.heap w488).size w488 w628 := hC628.stepB0
      refine ⟨fun _ => .of_below hB628, ?_⟩
      replace hS := Sep.leave (As := []) hS hC628; simp only [List.cons_append, List.nil_append] at hS
      refine q_move rfl rfl ?_
      refine q_gtr rfl rfl rfl ?_
      refine eseq_nil ?_
      refine hK627 _ _ ?_
      refine e_cond rfl (fun hc630 => ?_) (fun hc630 => ?_)
      · replace ho382 := (if_pos hc630).symm.trans ho382
        refine e_exit ?_
        refine hK624 _ _ ?_
        refine e_region_text rfl ?_
        refine q_addK rfl rfl rfl ?_
        refine q_move rfl rfl ?_
        refine eseq_nil ?_
        obtain rfl := Option.some.inj ho382
        exact ⟨m382, _, Nat.lt_succ_self _, ⟨x491, (wrK .u64 (x494 + 1)), v489, v490, _, ht382, hS, rfl⟩, Sub.cons rfl (Sub.cons rfl (Sub.cons rfl (Sub.cons rfl (Sub.cons rfl (Sub.nil _)))))⟩
      · replace ho382 := (if_neg (not_true hc630)).symm.trans ho382
        refine e_skip ?_
        refine hK626 _ _ ?_
        refine e_seq fun K631 hK631 => ?_
        refine e_region_text rfl ?_
        refine q_assign rfl rfl ?_
        refine eseq_nil ?_
        refine hK631 _ _ ?_
        refine e_seq fun K632 hK632 => ?_
        refine e_seq fun K633 hK633 => ?_
        refine e_region_text rfl ?_
        refine q_move rfl rfl ?_
        refine q_move rfl rfl ?_
        refine eseq_nil ?_
        refine hK633 _ _ ?_
        refine e_block ?_
        obtain ⟨tl634, ht634, ho382⟩ := Option.of_bind ho382
        have hX634_2 : ∀ (x705 : (List Int)) (v704 : Value) (R699 : Nat → Prop) (w700 : World) (E_ : Env), line_Sets_K2 fuel x491 x494 x705 = some o382 → Sep F R R699 w w700 [HP.own Ty.raw (fun _ => False) 24 v489 v490, HP.famS Ty.int (fun _ => False) 3 v490 x491, HP.own Ty.int (fun _ => False) 3 v704 x705] → Sub [(0, .int .i64 a0), (1, .int .i64 a1), (5, v489), (7, v704), (20, .int .u64 x381), (21, .int .u64 x494)] E_ → K632 E_ w700 := by
          intro x705 v704 R699 w700 E_ ho382 hS  hsub
          refine hK632 _ _ (e_sub hsub ?_); clear hsub
          unfold line_Sets_K2 at ho382
          refine e_region_text rfl ?_
          refine q_move rfl rfl ?_
          refine q_move rfl rfl ?_
          refine q_litO (T := Ty.raw) (S := (fun _ => False)) (cells := [[v704]]) (ys := [v704]) ((Parts.cons rfl (cells_one (hS.own 2 rfl).one) Parts.nil)) rfl rfl rfl rfl rfl rfl rfl (fun w1 hB => ⟨⟨rfl, (hS.own 2 rfl).one⟩, trivial⟩) (fun _ h => h.elim) rfl fun w706 v706 ho706 hv706 hB706 => ?_
          replace hS := hS.newOwnS hB706 ho706 hv706 (fun _ h => h.elim)
          replace hS := hS.pickB [3, 0, 1, 2] 4 rfl rfl; simp only [List.map_cons, List.map_nil, List.getD_cons_zero, List.getD_cons_succ] at hS
          replace hS := hS.famOne
          obtain ⟨x710, hx710, ho382⟩ := Option.of_bind ho382
          obtain ⟨hcr709, hce709⟩ := catL_raw (hS.famLen 3 rfl) (hS.famLen 0 rfl) (snoc_cat hx710)
          refine q_catOwn (T := Ty.raw) rfl rfl rfl rfl (hS.own 2 rfl) rfl (hS.own 1 rfl) (fun _ h _ => h.elim) hcr709 (Nat.zero_le _) rfl (fun h => by cases h) fun v709 w709 hw709 hgr709 hnw709 => ?_
          have hk709 := hS.keptOwn 2 rfl hgr709
          replace hS := hS.setOwn 2 rfl hw709 hgr709 hnw709; simp only [List.set] at hS
          replace hS := hS.pickB [3, 0, 1, 2] 4 rfl rfl; simp only [List.map_cons, List.map_nil, List.getD_cons_zero, List.getD_cons_succ] at hS
          replace hS := hS.famCat; rw [hce709] at hS
          refine q_assign rfl rfl ?_
          refine eseq_nil ?_
          refine hK624 _ _ ?_
          refine e_region_text rfl ?_
          refine q_addK rfl rfl rfl ?_
          refine q_move rfl rfl ?_
          refine eseq_nil ?_
          obtain rfl := Option.some.inj ho382
          exact ⟨m382, _, Nat.lt_succ_self _, ⟨x710, (wrK .u64 (x494 + 1)), v709, (v490 ++ ([v704])), _, ht382, (hS.pickB [2, 0] 3 rfl rfl), rfl⟩, Sub.cons rfl (Sub.cons rfl (Sub.cons rfl (Sub.cons rfl (Sub.cons rfl (Sub.nil _)))))⟩
        replace hS := hS.nilOwn0 Ty.int 3
        refine e_loop (fun m_ E_ w666 => ∃ (x671 : (List Int)), ∃ (x672 : Int), ∃ (v670 : Value), ∃ (R665 : Nat → Prop), iter (fun s => line_Sets_B2 fuel a0 x494 s.1 s.2) m_ (x671, x672) = some tl634 ∧ Sep F R R665 w w666 [HP.own Ty.raw (fun _ => False) 24 v489 v490, HP.famS Ty.int (fun _ => False) 3 v490 x491, HP.own Ty.int (fun _ => False) 3 v670 x671] ∧ E_ = [(0, .int .i64 a0), (1, .int .i64 a1), (5, v489), (6, .int .u64 x494), (7, v670), (20, .int .u64 x381), (21, .int .u64 x494), (28, .int .i64 a0), (29, .int .i64 x672)]) _ ⟨_, ⟨([] : List Int), 0, (.slice none 0 0), _, ht634, (hS.pickB [1, 2, 0] 3 rfl rfl), rfl⟩, Sub.cons rfl (Sub.cons rfl (Sub.cons rfl (Sub.cons rfl (Sub.cons rfl (Sub.cons rfl (Sub.cons rfl (Sub.cons rfl (Sub.cons rfl (Sub.nil _)))))))))⟩ ?_
        clear ht634 hS
        rintro m634 _ w666 ⟨x671, x672, v670, R665, ht634, hS, rfl⟩
        obtain ⟨m634, rfl, o634, ho634, ht634⟩ := iter_some ht634
        replace ho634 : line_Sets_B2 fuel a0 x494 x671 x672 = some o634 := ho634
        unfold line_Sets_B2 at ho634
        refine e_seq fun K712 hK712 => ?_
        refine e_region_text rfl ?_
        refine q_lss rfl rfl rfl ?_
        refine eseq_nil ?_
        refine hK712 _ _ ?_
        refine e_seq fun K713 hK713 => ?_
        refine e_cond rfl (fun hc714 => ?_) (fun hc714 => ?_)
        · replace ho634 := (if_pos hc714).symm.trans ho634
          refine e_skip ?_
          refine hK713 _ _ ?_
          refine e_seq fun K715 hK715 => ?_
          refine e_block ?_
          refine e_seq fun K716 hK716 => ?_
          refine e_region_text rfl ?_
          refine q_move rfl rfl ?_
          refine q_assign rfl rfl ?_
          refine eseq_nil ?_
          refine hK716 _ _ ?_
          refine e_seq fun K717 hK717 => ?_
          refine e_region_text rfl ?_
          refine q_move rfl rfl ?_
          refine q_move rfl rfl ?_
          obtain ⟨x718, hx718, ho634⟩ := Option.of_bind ho634
          refine q_shrK rfl rfl hx718 rfl ?_
          refine q_andK rfl rfl rfl ?_
          refine q_neq rfl rfl rfl ?_
          refine eseq_nil ?_
          refine hK717 _ _ ?_
          refine e_cond rfl (fun hc719 => ?_) (fun hc719 => ?_)
          · replace ho634 := (if_pos hc719).symm.trans ho634
            refine e_region_text rfl ?_
            refine q_move rfl rfl ?_
            refine q_move rfl rfl ?_
            refine q_litO (T := Ty.int) (S := (fun _ => False)) (cells := [[.int .i64 x672]]) (ys := [x672]) ((Parts.cons rfl rfl Parts.nil)) rfl rfl rfl rfl rfl rfl rfl (fun w1 hB => ⟨rfl, trivial⟩) (fun _ h => h.elim) rfl fun w720 v720 ho720 hv720 hB720 => ?_
            replace hS := hS.newOwnS hB720 ho720 hv720 (fun _ h => h.elim)
            obtain ⟨x723, hx723, ho634⟩ := Option.of_bind ho634
            refine q_catOwn (T := Ty.int) rfl rfl rfl rfl (hS.own 3 rfl) rfl (hS.own 0 rfl) (fun _ h _ => h.elim) (snoc_cat hx723) (Nat.zero_le _) rfl (fun h => by cases h) fun v722 w722 hw722 hgr722 hnw722 => ?_
            have hk722 := hS.keptOwn 3 rfl hgr722
            replace hS := hS.setOwn 3 rfl hw722 hgr722 hnw722; simp only [List.set] at hS
            refine q_assign rfl rfl ?_
            refine eseq_nil ?_
            refine hK715 _ _ ?_
            refine e_region_text rfl ?_
            refine q_addW rfl rfl rfl ?_
            refine q_move rfl rfl ?_
            refine eseq_nil ?_
            obtain rfl := Option.some.inj ho634
            exact ⟨m634, _, Nat.lt_succ_self _, ⟨x723, (w64 (x672 + 1)), v722, _, ht634, (hS.pickB [1, 2, 3] 4 rfl rfl), rfl⟩, Sub.cons rfl (Sub.cons rfl (Sub.cons rfl (Sub.cons rfl (Sub.cons rfl (Sub.cons rfl (Sub.cons rfl (Sub.cons rfl (Sub.cons rfl (Sub.nil _)))))))))⟩
          · replace ho634 := (if_neg (not_true hc719)).symm.trans ho634
            refine e_skip ?_
            refine hK715 _ _ ?_
            refine e_region_text rfl ?_
            refine q_addW rfl rfl rfl ?_
            refine q_move rfl rfl ?_
            refine eseq_nil ?_
            obtain rfl := Option.some.inj ho634
            exact ⟨m634, _, Nat.lt_succ_self _, ⟨x671, (w64 (x672 + 1)), v670, _, ht634, hS, rfl⟩, Sub.cons rfl (Sub.cons rfl (Sub.cons rfl (Sub.cons rfl (Sub.cons rfl (Sub.cons rfl (Sub.cons rfl (Sub.cons rfl (Sub.cons rfl (Sub.nil _)))))))))⟩
        · replace ho634 := (if_neg (not_true hc714)).symm.trans ho634
          refine e_exit ?_
          obtain rfl := Option.some.inj ho634
          obtain rfl := Option.some.inj ht634
          exact hX634_2 x671 v670 _ _ _ ho382 hS  (Sub.cons rfl (Sub.cons rfl (Sub.cons rfl (Sub.cons rfl (Sub.cons rfl (Sub.cons rfl (Sub.nil _)))))))
    · replace ho382 := (if_neg (not_true hc623)).symm.trans ho382
      refine e_exit ?_
      obtain rfl := Option.some.inj ho382
      obtain rfl := Option.some.inj ht382
      exact hX382_0 x491 v489 v490 _ _ _ h hS  (Sub.cons rfl (Sub.nil _))
end Go.Proofs.Ytljpjekifbamfaa
