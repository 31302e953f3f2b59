/- Printed walks: A32a. -/
import Derived.Test.YtbmjcbhappjnaaaAmk
import Derived.Test.YtbmjcbhappjnaaaA31u
set_option linter.unusedVariables false
set_option linter.unusedSimpArgs false
namespace Go.Mine
open Go.RowKit
def orphan_Before (fuel : Nat) (a0 : Lab) (a1 : Lab) : Option (Bool) :=
  (orM (decide (a0.inc < a1.inc)) ((andM (a0.inc == a1.inc) (some (decide (a0.index < a1.index)))).bind fun x28 => some x28)).bind fun x26 => some x26
def orphan_Merge_K1 (fuel : Nat) (x292 : (List Lab)) : Option ((List Lab)) :=
  some x292
def orphan_Merge_J1 (fuel : Nat) (x237 : (List Lab)) (x238 : Int) (x313 : Int) (x314 : Int) : Option (((List Lab) × Int) ⊕ ((List Lab))) :=
  (ati x237 x238).bind fun x316 => (orphan_Before fuel x316 (⟨x313, x314⟩ : Lab)).bind fun r320 => (if r320 = true then (ati x237 x238).bind fun x322 => (seti x237 x238 (⟨x313, x314⟩ : Lab)).bind fun x324 => some (Sum.inl (x324, (w64 (x238 + 1)))) else some (Sum.inl (x237, (w64 (x238 + 1)))))
def orphan_Merge_B1 (fuel : Nat) (x175 : (List Lab)) (a1 : (List Lab)) (x237 : (List Lab)) (x238 : Int) : Option (((List Lab) × Int) ⊕ ((List Lab))) :=
  (if (decide (x238 < (x175.length : Int))) = true then (if (decide (x238 < (a1.length : Int))) = true then (ati a1 x238).bind fun x327 => orphan_Merge_J1 fuel x237 x238 x327.inc x327.index else orphan_Merge_J1 fuel x237 x238 0 0) else some (Sum.inr x237))
def orphan_Merge (fuel : Nat) (a0 : (List Lab)) (a1 : (List Lab)) : Option ((List Lab)) :=
  (mkL (max (a0.length : Int) (a1.length : Int)) (⟨(0 : Int), (0 : Int)⟩ : Lab)).bind fun x170 => (copyM x170 a0).bind fun x175 => (iter (fun s => orphan_Merge_B1 fuel x175 a1 s.1 s.2) fuel (x175, 0)).bind (fun t => orphan_Merge_K1 fuel t)
def ref32_SameLabels_K1 (fuel : Nat) : Option (Bool) :=
  some true
def ref32_SameLabels_B1 (fuel : Nat) (a0 : (List Lab)) (a1 : (List Lab)) (x107 : Int) : Option ((Int) ⊕ (Unit ⊕ (Bool))) :=
  (if (decide (x107 < (a0.length : Int))) = true then (ati a0 x107).bind fun x134 => (ati a1 x107).bind fun x137 => (if (!((x134.inc == x137.inc) && ((x134.index == x137.index) && true))) = true then some (Sum.inr (Sum.inr false)) else some (Sum.inl (w64 (x107 + 1)))) else some (Sum.inr (Sum.inl ())))
def ref32_SameLabels (fuel : Nat) (a0 : (List Lab)) (a1 : (List Lab)) : Option (Bool) :=
  (if ((a0.length : Int) != (a1.length : Int)) = true then some false else (iter (fun s => ref32_SameLabels_B1 fuel a0 a1 s) fuel 0).bind (fun t => Sum.elim (fun t => ref32_SameLabels_K1 fuel) (fun t => some t) t))
def orphan_label (fuel : Nat) (a0 : (List Evt)) (a1 : Int) : Option (Lab × Bool) :=
  (orM (decide (a1 < 0)) (some (decide ((a0.length : Int) < a1)))).bind fun x31 => (if x31 = true then some ((⟨0, 0⟩ : Lab), false) else (if (a1 == 0) = true then some ((⟨0, 0⟩ : Lab), true) else (ati a0 (w64 (a1 - 1))).bind fun x40 => some ((⟨x40.inc, a1⟩ : Lab), true)))
def orphan_fits_J1 (fuel : Nat) (r102 : (Lab × Bool)) (a3 : Evt) : Option (Bool) :=
  (andM r102.2 (some ((r102.1.inc == a3.sent.inc) && ((r102.1.index == a3.sent.index) && true)))).bind fun x125 => some x125
def orphan_fits (fuel : Nat) (a0 : (List (List Evt))) (a1 : (List Int)) (a2 : Int) (a3 : Evt) : Option (Bool) :=
  (if (a3.kind != 1) = true then some true else (orM (decide (a3.frm < 0)) (some (decide ((a0.length : Int) ≤ a3.frm)))).bind fun x82 => (orM x82 (some (a3.frm == a2))).bind fun x86 => (orM x86 ((ati a1 a3.frm).bind fun x93 => some (decide (x93 < a3.sent.index)))).bind fun x92 => (if x92 = true then some false else (ati a0 a3.frm).bind fun x98 => (orphan_label fuel x98 a3.sent.index).bind fun r102 => orphan_fits_J1 fuel r102 a3))
def orphan_Consistent_K2 (fuel : Nat) : Option (Bool) :=
  some true
def orphan_Consistent_K3 (fuel : Nat) (x603 : Int) : Option ((Int) ⊕ (Unit ⊕ (Bool))) :=
  some (Sum.inl (w64 (x603 + 1)))
def orphan_Consistent_B2 (fuel : Nat) (x719 : (List Evt)) (a0 : (List (List Evt))) (a1 : (List Int)) (x603 : Int) (x756 : Int) : Option ((Int) ⊕ (Unit ⊕ (Bool))) :=
  (if (decide (x756 < (x719.length : Int))) = true then (ati x719 x756).bind fun x790 => (orphan_fits fuel a0 a1 x603 (⟨x790.kind, x790.inc, x790.frm, (⟨x790.sent.inc, x790.sent.index⟩ : Lab), x790.ord, x790.value⟩ : Evt)).bind fun r798 => (if (!r798) = true then some (Sum.inr (Sum.inr false)) else some (Sum.inl (w64 (x756 + 1)))) else some (Sum.inr (Sum.inl ())))
def orphan_Consistent_B1 (fuel : Nat) (a0 : (List (List Evt))) (a1 : (List Int)) (x603 : Int) : Option ((Int) ⊕ (Unit ⊕ (Bool))) :=
  (if (decide (x603 < (a0.length : Int))) = true then (ati a0 x603).bind fun x712 => (ati a1 x603).bind fun x716 => (takeL x712 x716).bind fun x719 => (iter (fun s => orphan_Consistent_B2 fuel x719 a0 a1 x603 s) fuel 0).bind (fun t => Sum.elim (fun t => orphan_Consistent_K3 fuel x603) (fun t => some (Sum.inr (Sum.inr t))) t) else some (Sum.inr (Sum.inl ())))
def orphan_Consistent_K1 (fuel : Nat) (a0 : (List (List Evt))) (a1 : (List Int)) : Option (Bool) :=
  (iter (fun s => orphan_Consistent_B1 fuel a0 a1 s) fuel 0).bind (fun t => Sum.elim (fun t => orphan_Consistent_K2 fuel) (fun t => some t) t)
def orphan_Consistent_B3 (fuel : Nat) (a0 : (List (List Evt))) (a1 : (List Int)) (x458 : Int) : Option ((Int) ⊕ (Unit ⊕ (Bool))) :=
  (if (decide (x458 < (a0.length : Int))) = true then (ati a0 x458).bind fun x806 => (ati a1 x458).bind fun x810 => (orM (decide (x810 < 0)) ((ati a1 x458).bind fun x818 => some (decide ((x806.length : Int) < x818)))).bind fun x817 => (if x817 = true then some (Sum.inr (Sum.inr false)) else some (Sum.inl (w64 (x458 + 1)))) else some (Sum.inr (Sum.inl ())))
def orphan_Consistent (fuel : Nat) (a0 : (List (List Evt))) (a1 : (List Int)) : Option (Bool) :=
  (if ((a1.length : Int) != (a0.length : Int)) = true then some false else (iter (fun s => orphan_Consistent_B3 fuel a0 a1 s) fuel 0).bind (fun t => Sum.elim (fun t => orphan_Consistent_K1 fuel a0 a1) (fun t => some t) t))
def ref23_SameInts_K1 (fuel : Nat) : Option (Bool) :=
  some true
def ref23_SameInts_B1 (fuel : Nat) (a0 : (List Int)) (a1 : (List Int)) (x99 : Int) : Option ((Int) ⊕ (Unit ⊕ (Bool))) :=
  (if (decide (x99 < (a0.length : Int))) = true then (ati a0 x99).bind fun x124 => (ati a1 x99).bind fun x126 => (if (x124 != x126) = true then some (Sum.inr (Sum.inr false)) else some (Sum.inl (w64 (x99 + 1)))) else some (Sum.inr (Sum.inl ())))
def ref23_SameInts (fuel : Nat) (a0 : (List Int)) (a1 : (List Int)) : Option (Bool) :=
  (if ((a0.length : Int) != (a1.length : Int)) = true then some false else (iter (fun s => ref23_SameInts_B1 fuel a0 a1 s) fuel 0).bind (fun t => Sum.elim (fun t => ref23_SameInts_K1 fuel) (fun t => some t) t))
def orphan_Lower_1 (fuel : Nat) (a0 : Evt) (c1_0 : (List (List Evt))) (c2_0 : (List Int)) (c3_0 : Int) : Option (Bool) :=
  (orphan_fits fuel c1_0 c2_0 c3_0 (⟨a0.kind, a0.inc, a0.frm, (⟨a0.sent.inc, a0.sent.index⟩ : Lab), a0.ord, a0.value⟩ : Evt)).bind fun r17 => some (!r17)
def slices_IndexFunc_K1 (fuel : Nat) : Option (Int) :=
  some (-1)
def slices_IndexFunc_B1 (fuel : Nat) (a0 : (List Evt)) (c1a_0 : (List (List Evt))) (c1b_0 : (List Int)) (c1c_0 : Int) (x131 : Int) : Option ((Int) ⊕ (Unit ⊕ (Int))) :=
  (if (decide (x131 < (a0.length : Int))) = true then (ati a0 x131).bind fun x163 => (orphan_Lower_1 fuel x163 c1a_0 c1b_0 c1c_0).bind fun r167 => (if r167 = true then some (Sum.inr (Sum.inr x131)) else some (Sum.inl (w64 (x131 + 1)))) else some (Sum.inr (Sum.inl ())))
def slices_IndexFunc (fuel : Nat) (a0 : (List Evt)) (c1a_0 : (List (List Evt))) (c1b_0 : (List Int)) (c1c_0 : Int) : Option (Int) :=
  (iter (fun s => slices_IndexFunc_B1 fuel a0 c1a_0 c1b_0 c1c_0 s) fuel 0).bind (fun t => Sum.elim (fun t => slices_IndexFunc_K1 fuel) (fun t => some t) t)
def orphan_Lower_K2 (fuel : Nat) (x857 : (List Int)) : Option (((List Int)) ⊕ ((List Int))) :=
  some (Sum.inl x857)
def orphan_Lower_K3 (fuel : Nat) (x657 : (List Int)) : Option (((List Int)) ⊕ ((List Int))) :=
  some (Sum.inr x657)
def orphan_Lower_B2 (fuel : Nat) (a0 : (List (List Evt))) (x657 : (List Int)) (x821 : Int) : Option ((Int) ⊕ (((List Int)) ⊕ Unit)) :=
  (if (decide (x821 < (a0.length : Int))) = true then (ati a0 x821).bind fun x867 => (ati x657 x821).bind fun x874 => (takeL x867 x874).bind fun x877 => (slices_IndexFunc fuel x877 a0 x657 x821).bind fun r879 => (if (decide (0 ≤ r879)) = true then (ati x657 x821).bind fun x883 => (seti x657 x821 r879).bind fun x885 => some (Sum.inr (Sum.inl x885)) else some (Sum.inl (w64 (x821 + 1)))) else some (Sum.inr (Sum.inr ())))
def orphan_Lower_B1 (fuel : Nat) (a0 : (List (List Evt))) (x657 : (List Int)) : Option (((List Int)) ⊕ ((List Int))) :=
  (iter (fun s => orphan_Lower_B2 fuel a0 x657 s) fuel 0).bind (fun t => Sum.elim (fun t => orphan_Lower_K2 fuel t) (fun t => orphan_Lower_K3 fuel x657) t)
def orphan_Lower_K1 (fuel : Nat) (a0 : (List (List Evt))) (x525 : (List Int)) : Option ((List Int)) :=
  (iter (fun s => orphan_Lower_B1 fuel a0 s) fuel x525).bind (fun t => some t)
def orphan_Lower_B3 (fuel : Nat) (a0 : (List (List Evt))) (a1 : (List Int)) (x497 : (List Int)) (x498 : Int) : Option (((List Int) × Int) ⊕ ((List Int))) :=
  (if (decide (x498 < (min (a0.length : Int) (a1.length : Int)))) = true then (ati a1 x498).bind fun x891 => (ati a0 x498).bind fun x893 => (ati x497 x498).bind fun x896 => (seti x497 x498 (min (max x891 0) (x893.length : Int))).bind fun x898 => some (Sum.inl (x898, (w64 (x498 + 1)))) else some (Sum.inr x497))
def orphan_Lower (fuel : Nat) (a0 : (List (List Evt))) (a1 : (List Int)) : Option ((List Int)) :=
  (mkL (a0.length : Int) (0 : Int)).bind fun x456 => (iter (fun s => orphan_Lower_B3 fuel a0 a1 s.1 s.2) fuel (x456, 0)).bind (fun t => orphan_Lower_K1 fuel a0 t)
def orphan_all_K1 (fuel : Nat) (x135 : (List Int)) : Option ((List Int)) :=
  some x135
def orphan_all_B1 (fuel : Nat) (a0 : (List (List Evt))) (x110 : (List Int)) (x112 : Int) : Option (((List Int) × Int) ⊕ ((List Int))) :=
  (if (decide (x112 < (a0.length : Int))) = true then (ati a0 x112).bind fun x142 => (ati x110 x112).bind fun x145 => (seti x110 x112 (x142.length : Int)).bind fun x147 => some (Sum.inl (x147, (w64 (x112 + 1)))) else some (Sum.inr x110))
def orphan_all (fuel : Nat) (a0 : (List (List Evt))) : Option ((List Int)) :=
  (mkL (a0.length : Int) (0 : Int)).bind fun x78 => (iter (fun s => orphan_all_B1 fuel a0 s.1 s.2) fuel (x78, 0)).bind (fun t => orphan_all_K1 fuel t)
def orphan_Orphan_K1 (fuel : Nat) : Option (Bool) :=
  some false
def orphan_Orphan_B1 (fuel : Nat) (a1 : (List Lab)) (a0 : (List EndI)) (x111 : Int) : Option ((Int) ⊕ (Unit ⊕ (Bool))) :=
  (if (decide (x111 < (a1.length : Int))) = true then (ati a1 x111).bind fun x141 => (incarnation_Undone fuel a0 x111 (⟨x141.inc, x141.index⟩ : Lab)).bind fun r149 => (if r149 = true then some (Sum.inr (Sum.inr true)) else some (Sum.inl (w64 (x111 + 1)))) else some (Sum.inr (Sum.inl ())))
def orphan_Orphan (fuel : Nat) (a0 : (List EndI)) (a1 : (List Lab)) : Option (Bool) :=
  (iter (fun s => orphan_Orphan_B1 fuel a1 a0 s) fuel 0).bind (fun t => Sum.elim (fun t => orphan_Orphan_K1 fuel) (fun t => some t) t)
def Clone_Lab (fuel : Nat) (a0 : List Lab) : Option (List Lab) := catL [] a0
def reach_K1 (fuel : Nat) (rec_ : Int → Int → (List (List Evt)) → (List (List (List Lab))) → (List Bool) → Option (Bool × (List (List (List Lab))) × (List Bool))) (a1 : Int) (x984 : (List (List (List Lab)))) (x989 : (List Bool)) : Option (Bool × (List (List (List Lab))) × (List Bool)) :=
  (ati x989 a1).bind fun x991 => (seti x989 a1 false).bind fun x993 => some (true, x984, x993)
def reach_J1 (fuel : Nat) (rec_ : Int → Int → (List (List Evt)) → (List (List (List Lab))) → (List Bool) → Option (Bool × (List (List (List Lab))) × (List Bool))) (a1 : Int) (x867 : Int) (x1045 : (List (List (List Lab)))) (x1050 : (List Bool)) (x1053 : (List Lab)) : Option (((List (List (List Lab))) × (List Bool) × Int) ⊕ (((List (List (List Lab))) × (List Bool)) ⊕ (Bool × (List (List (List Lab))) × (List Bool)))) :=
  (ati x1045 a1).bind fun x1065 => (catL x1065 ([x1053])).bind fun x1072 => (seti x1045 a1 x1072).bind fun x1073 => (ati x1073 a1).bind fun x1074 => some (Sum.inl (x1073, x1050, (w64 (x867 + 1))))
def reach_B1 (fuel : Nat) (rec_ : Int → Int → (List (List Evt)) → (List (List (List Lab))) → (List Bool) → Option (Bool × (List (List (List Lab))) × (List Bool))) (a2 : Int) (c0_0 : (List (List Evt))) (a1 : Int) (x861 : (List (List (List Lab)))) (x866 : (List Bool)) (x867 : Int) : Option (((List (List (List Lab))) × (List Bool) × Int) ⊕ (((List (List (List Lab))) × (List Bool)) ⊕ (Bool × (List (List (List Lab))) × (List Bool)))) :=
  (if (decide (x867 ≤ a2)) = true then (ati c0_0 a1).bind fun x1000 => (ati x1000 (w64 (x867 - 1))).bind fun x1003 => (ati x861 a1).bind fun x1010 => (ati x1010 (w64 (x867 - 1))).bind fun x1011 => (Clone_Lab fuel x1011).bind fun r1015 => (ati r1015 a1).bind fun x1018 => (seti r1015 a1 (⟨x1003.inc, x867⟩ : Lab)).bind fun x1020 => (if (x1003.kind == 1) = true then (rec_ x1003.frm x1003.sent.index c0_0 x861 x866).bind fun r1081 => (if (!r1081.1) = true then some (Sum.inr (Sum.inr (false, r1081.2.1, r1081.2.2))) else (ati r1081.2.1 x1003.frm).bind fun x1087 => (ati x1087 x1003.sent.index).bind fun x1088 => (orphan_Merge fuel x1020 x1088).bind fun r1092 => reach_J1 fuel rec_ a1 x867 r1081.2.1 r1081.2.2 r1092) else reach_J1 fuel rec_ a1 x867 x861 x866 x1020) else some (Sum.inr (Sum.inl (x861, x866))))
def reach_F (fuel : Nat) (rec_ : Int → Int → (List (List Evt)) → (List (List (List Lab))) → (List Bool) → Option (Bool × (List (List (List Lab))) × (List Bool))) (a1 : Int) (a2 : Int) (c0_0 : (List (List Evt))) (c0_1 : (List (List (List Lab)))) (c0_2 : (List Bool)) : Option (Bool × (List (List (List Lab))) × (List Bool)) :=
  (ati c0_1 a1).bind fun x722 => (if (decide (a2 < (x722.length : Int))) = true then some (true, c0_1, c0_2) else (ati c0_2 a1).bind fun x727 => (if x727 = true then some (false, c0_1, c0_2) else (ati c0_2 a1).bind fun x732 => (seti c0_2 a1 true).bind fun x734 => (ati c0_1 a1).bind fun x737 => (iter (fun s => reach_B1 fuel rec_ a2 c0_0 a1 s.1 s.2.1 s.2.2) fuel (c0_1, x734, (x737.length : Int))).bind (fun t => Sum.elim (fun t => reach_K1 fuel rec_ a1 t.1 t.2) (fun t => some t) t)))
def reach_R (fuel : Nat) : Nat → Int → Int → (List (List Evt)) → (List (List (List Lab))) → (List Bool) → Option (Bool × (List (List (List Lab))) × (List Bool))
  | 0 => fun _ _ _ _ _ => none
  | d_ + 1 => reach_F fuel (reach_R fuel d_)
def reach (fuel : Nat) (a1 : Int) (a2 : Int) (c0_0 : (List (List Evt))) (c0_1 : (List (List (List Lab)))) (c0_2 : (List Bool)) : Option (Bool × (List (List (List Lab))) × (List Bool)) := reach_R fuel fuel a1 a2 c0_0 c0_1 c0_2
def Track_K2 (fuel : Nat) (x555 : (List (List (List Lab)))) (x560 : (List Bool)) : Option ((List (List (List Lab))) × Bool) :=
  some (x555, true)
def Track_B1 (fuel : Nat) (a0 : (List (List Evt))) (x513 : (List (List (List Lab)))) (x518 : (List Bool)) (x520 : Int) : Option (((List (List (List Lab))) × (List Bool) × Int) ⊕ (((List (List (List Lab))) × (List Bool)) ⊕ ((List (List (List Lab))) × Bool))) :=
  (if (decide (x520 < (a0.length : Int))) = true then (ati a0 x520).bind fun x567 => (reach fuel x520 (x567.length : Int) a0 x513 x518).bind fun r572 => (if (!r572.1) = true then some (Sum.inr (Sum.inr (([] : List (List (List Lab))), false))) else some (Sum.inl (r572.2.1, r572.2.2, (w64 (x520 + 1))))) else some (Sum.inr (Sum.inl (x513, x518))))
def Track_K1 (fuel : Nat) (a0 : (List (List Evt))) (x360 : (List Bool)) (x465 : (List (List (List Lab)))) : Option ((List (List (List Lab))) × Bool) :=
  (iter (fun s => Track_B1 fuel a0 s.1 s.2.1 s.2.2) fuel (x465, x360, 0)).bind (fun t => Sum.elim (fun t => Track_K2 fuel t.1 t.2) (fun t => some t) t)
def Track_B2 (fuel : Nat) (a0 : (List (List Evt))) (x416 : (List (List (List Lab)))) (x420 : Int) : Option (((List (List (List Lab))) × Int) ⊕ ((List (List (List Lab))))) :=
  (if (decide (x420 < (a0.length : Int))) = true then (mkL (a0.length : Int) (⟨(0 : Int), (0 : Int)⟩ : Lab)).bind fun x596 => (ati x416 x420).bind fun x602 => (seti x416 x420 ([x596])).bind fun x606 => some (Sum.inl (x606, (w64 (x420 + 1)))) else some (Sum.inr x416))
def Track_J1 (fuel : Nat) (a0 : (List (List Evt))) (x355 : (List (List (List Lab)))) (x360 : (List Bool)) : Option ((List (List (List Lab))) × Bool) :=
  (iter (fun s => Track_B2 fuel a0 s.1 s.2) fuel (x355, 0)).bind (fun t => Track_K1 fuel a0 x360 t)
def Track (fuel : Nat) (a0 : (List (List Evt))) : Option ((List (List (List Lab))) × Bool) :=
  (orphan_all fuel a0).bind fun r315 => (orphan_Consistent fuel a0 r315).bind fun r318 => (if (!r318) = true then some (([] : List (List (List Lab))), false) else (mkL (a0.length : Int) ([] : List (List Lab))).bind fun x324 => (mkL (a0.length : Int) false).bind fun x328 => Track_J1 fuel a0 x324 x328)
def law32_awake (fuel : Nat) : Option (Bool) :=
  (Track fuel ([[(⟨2, 0, 0, (⟨0, 0⟩ : Lab), 0, 0⟩ : Evt), (⟨2, 0, 0, (⟨0, 0⟩ : Lab), 0, 0⟩ : Evt)], [(⟨1, 0, 0, (⟨0, 2⟩ : Lab), 0, 0⟩ : Evt)]])).bind fun r108 => (andM r108.2 (some ((r108.1.length : Int) == 2))).bind fun x115 => (andM x115 ((ati r108.1 1).bind fun x121 => some ((x121.length : Int) == 2))).bind fun x120 => (andM x120 ((ati r108.1 1).bind fun x134 => (ati x134 1).bind fun x135 => (ref32_SameLabels fuel x135 ([(⟨0, 2⟩ : Lab), (⟨0, 1⟩ : Lab)])).bind fun r141 => some r141)).bind fun x133 => (andM x133 ((orphan_Lower fuel ([[(⟨2, 0, 0, (⟨0, 0⟩ : Lab), 0, 0⟩ : Evt), (⟨2, 0, 0, (⟨0, 0⟩ : Lab), 0, 0⟩ : Evt)], [(⟨1, 0, 0, (⟨0, 2⟩ : Lab), 0, 0⟩ : Evt)]]) ([1, 1])).bind fun r158 => (ref23_SameInts fuel r158 ([1, 0])).bind fun r163 => some r163)).bind fun x154 => (andM x154 ((ati r108.1 1).bind fun x178 => (ati x178 1).bind fun x179 => (orphan_Orphan fuel ([(⟨0, 0, 1⟩ : EndI)]) x179).bind fun r183 => some r183)).bind fun x175 => some x175
end Go.Mine
namespace Go.Proofs.Ytbmjcbhappjnaaa
open Go.RowKit Go.Mine
attribute [local irreducible] eseq ewp iter
theorem orphan_Before_w {F R : Nat → Prop} {w : World} {fuel : Nat} {a0 : Lab} {a1 : Lab} {r : (Bool)} (hS : Sep F R R w w []) (h : orphan_Before fuel a0 a1 = some r) :
    Gives Try.prog 134 [.agg #[.int .i64 a0.inc, .int .i64 a0.index], .agg #[.int .i64 a1.inc, .int .i64 a1.index]] w fun u w1 => ∃ (R1 : Nat → Prop), u = .bool r ∧ Sep F R R1 w w1 [] := by
  refine fn_of Try.func134 rfl Try.ntmps134 (Nat.le_of_ble_eq_true rfl) ?_
  unfold orphan_Before at h
  refine e_seq fun K15 hK15 => ?_
  refine e_region_text rfl ?_
  refine q_boxB rfl rfl rfl fun w16 bl16 hg16 hb16 hB16 => ?_
  replace hS := hS.newBlk hB16 hg16 hb16
  refine q_boxB rfl rfl rfl fun w18 bl18 hg18 hb18 hB18 => ?_
  replace hS := hS.newBlk hB18 hg18 hb18
  refine q_assign rfl rfl ?_
  refine eseq_nil ?_
  refine hK15 _ _ ?_
  refine e_seq fun K20 hK20 => ?_
  refine e_region_text rfl ?_
  refine q_field rfl rfl ?_
  refine q_load rfl (Blk.cell (hS.blk 1 rfl) rfl) rfl ?_
  refine q_field rfl rfl ?_
  refine q_load rfl (Blk.cell (hS.blk 0 rfl) rfl) rfl ?_
  refine q_lss rfl rfl rfl ?_
  refine q_move rfl rfl ?_
  obtain ⟨x26, hx25, h⟩ := Option.of_bind h
  refine g_orM 12 hx25 rfl trivial rfl rfl ?_ ?_ ?_
  · intro hg25
    refine g_skip rfl rfl rfl ?_
    refine g_skip rfl rfl rfl ?_
    refine g_skip rfl rfl rfl ?_
    refine g_skip rfl rfl rfl ?_
    refine g_skip rfl rfl rfl ?_
    refine g_skip rfl rfl rfl ?_
    refine g_skipU rfl rfl ?_
    refine g_skipU rfl rfl ?_
    refine g_skipU rfl rfl ?_
    refine g_skipU rfl rfl ?_
    refine g_skipU rfl rfl ?_
    refine g_skip rfl rfl rfl ?_
    exact eseq_nil ⟨rfl, Sub.set rfl (Sub.set rfl (Sub.set rfl (Sub.set rfl (Sub.set rfl (Sub.set rfl (Sub.set rfl (Sub.set rfl (Sub.set rfl (Sub.set rfl (Sub.set rfl (Sub.set rfl (Sub.bool true rfl hg25))))))))))))⟩
  · intro hg25 hx25
    clear h
    have hT25 := Below.refl (World.heap w18).size w18
    refine g_run rfl ?_; refine q_field rfl rfl ?_
    refine g_run rfl ?_; refine q_load rfl (Blk.cell (hS.blk 1 rfl) rfl) rfl ?_
    refine g_run rfl ?_; refine q_field rfl rfl ?_
    refine g_run rfl ?_; refine q_load rfl (Blk.cell (hS.blk 0 rfl) rfl) rfl ?_
    refine g_run rfl ?_; refine q_eql rfl rfl rfl ?_
    refine g_run rfl ?_; refine q_move rfl rfl ?_
    obtain ⟨x28, hx27, hx25⟩ := Option.of_bind hx25
    refine g_andM 5 hx27 rfl rfl rfl rfl ?_ ?_ ?_
    · intro hg27 hx27
      clear hx25
      have hT27 := Below.refl (World.heap w18).size w18
      refine g_run rfl ?_; refine q_field rfl rfl ?_
      refine g_run rfl ?_; refine q_load rfl (Blk.cell (hS.blk 1 rfl) rfl) rfl ?_
      refine g_run rfl ?_; refine q_field rfl rfl ?_
      refine g_run rfl ?_; refine q_load rfl (Blk.cell (hS.blk 0 rfl) rfl) rfl ?_
      refine g_run rfl ?_; refine q_lss rfl rfl rfl ?_
      cases hx27
      exact eseq_nil ⟨hT27, Sub.set rfl (Sub.set rfl (Sub.set rfl (Sub.set rfl (Sub.set rfl (Sub.bool true rfl hg27))))), rfl⟩
    · intro hg27
      refine g_skip rfl rfl rfl ?_
      refine g_skip rfl rfl rfl ?_
      refine g_skip rfl rfl rfl ?_
      refine g_skip rfl rfl rfl ?_
      refine g_skip rfl rfl rfl ?_
      exact eseq_nil ⟨rfl, Sub.set rfl (Sub.set rfl (Sub.set rfl (Sub.set rfl (Sub.set rfl (Sub.bool false rfl hg27)))))⟩
    intro wm27 hBm27; clear hx27
    replace hS := hS.below hBm27
    replace hT25 := hT25.trans (Below.mono hBm27 hT25.size)
    cases hx25
    exact eseq_nil ⟨hT25, Sub.set rfl (Sub.set rfl (Sub.set rfl (Sub.set rfl (Sub.set rfl (Sub.set rfl (Sub.set rfl (Sub.bool false rfl hg25))))))), rfl⟩
  intro wm25 hBm25; clear hx25
  replace hS := hS.below hBm25
  refine q_assign rfl rfl ?_
  refine eseq_nil ?_
  refine hK20 _ _ ?_
  refine e_ret ?_
  obtain rfl := Option.some.inj h
  exact ⟨_, res1 rfl rfl, _, rfl, (hS.pickB [] 2 rfl rfl)⟩
theorem orphan_Merge_w {F R : Nat → Prop} {w : World} {fuel : Nat} {a0 : (List Lab)} {a1 : (List Lab)} {v1 : Value} {v2 : Value} {r : ((List Lab))} (hS : Sep F R R w w []) (f1 : IsSlice labTy w R v1 a0) (f2 : IsSlice labTy w R v2 a1) (h : orphan_Merge fuel a0 a1 = some r) :
    Gives Try.prog 109 [v1, v2] w fun u w1 => ∃ (v167 : Value), ∃ (R1 : Nat → Prop), u = v167 ∧ Sep F R R1 w w1 [HP.own labTy (fun _ => False) 60 v167 r] := by
  refine fn_of Try.func109 rfl Try.ntmps109 (Nat.le_of_ble_eq_true rfl) ?_
  unfold orphan_Merge at h
  refine e_seq fun K168 hK168 => ?_
  refine e_region_text rfl ?_
  refine q_assign rfl rfl ?_
  refine eseq_nil ?_
  refine hK168 _ _ ?_
  refine e_seq fun K169 hK169 => ?_
  refine e_region_text rfl ?_
  refine q_move rfl rfl ?_
  refine q_lenS rfl f1 rfl ?_
  refine q_move rfl rfl ?_
  refine q_lenS rfl f2 rfl ?_
  refine q_max rfl rfl rfl ?_
  obtain ⟨x170, hx170, h⟩ := Option.of_bind h
  refine q_makeO (T := labTy) (S := (fun _ => False)) rfl rfl rfl hx170 (fun _ h => h.elim) rfl fun w171 v171 ho171 hv171 hB171 => ?_
  replace f1 := f1.ext hB171
  replace f2 := f2.ext hB171
  replace hS := hS.newOwnS hB171 ho171 hv171 (fun _ h => h.elim)
  refine q_assign rfl rfl ?_
  refine eseq_nil ?_
  refine hK169 _ _ ?_
  refine e_seq fun K173 hK173 => ?_
  refine e_region_text rfl ?_
  refine q_move rfl rfl ?_
  refine q_move rfl rfl ?_
  obtain ⟨x175, hx175, h⟩ := Option.of_bind h
  refine q_copyO (T := labTy) rfl (hS.own 0 rfl) rfl f1 Enc.any rfl rfl fun w174 ho174 hst174 => ?_
  rw [copyM_eq hx175] at ho174
  have hk174 := hS.keptF 0 rfl hst174
  replace f2 := f2.kept hk174
  replace f1 := f1.kept hk174
  replace hS := hS.set 0 rfl hst174 (c' := HP.own _ _ _ _ _) ho174 (fun k hk => .inl hk) (fun k hk => hS.depR 0 rfl k hk); simp only [List.set] at hS
  refine eseq_nil ?_
  refine hK173 _ _ ?_
  refine e_seq fun K176 hK176 => ?_
  refine e_seq fun K177 hK177 => ?_
  refine e_region_text rfl ?_
  refine q_move rfl rfl ?_
  refine q_lenS rfl (hS.isl 0 rfl) rfl ?_
  refine q_move rfl rfl ?_
  refine eseq_nil ?_
  refine hK177 _ _ ?_
  refine e_block ?_
  obtain ⟨tl178, ht178, h⟩ := Option.of_bind h
  have hX178_0 : ∀ (x292 : (List Lab)) (v291 : Value) (R288 : Nat → Prop) (w289 : World) (E_ : Env), orphan_Merge_K1 fuel x292 = some r → Sep F R R288 w w289 [HP.own labTy (fun _ => False) 60 v291 x292] → Sub [(5, v291)] E_ → K176 E_ w289 := by
    intro x292 v291 R288 w289 E_ h hS  hsub
    refine hK176 _ _ (e_sub hsub ?_); clear hsub
    unfold orphan_Merge_K1 at h
    refine e_seq fun K293 hK293 => ?_
    refine e_region_text rfl ?_
    refine q_move rfl rfl ?_
    refine q_assign rfl rfl ?_
    refine eseq_nil ?_
    refine hK293 _ _ ?_
    refine e_ret ?_
    obtain rfl := Option.some.inj h
    exact ⟨_, res1 rfl rfl, v291, _, rfl, hS⟩
  refine e_loop (fun m_ E_ w233 => ∃ (x237 : (List Lab)), ∃ (x238 : Int), ∃ (v236 : Value), ∃ (R232 : Nat → Prop), iter (fun s => orphan_Merge_B1 fuel x175 a1 s.1 s.2) m_ (x237, x238) = some tl178 ∧ Sep F R R232 w w233 [HP.own labTy (fun _ => False) 60 v236 x237] ∧ IsSlice labTy w233 R232 v2 a1 ∧ E_ = [(1, v2), (5, v236), (18, .int .i64 (x175.length : Int)), (19, .int .i64 x238)]) _ ⟨_, ⟨x175, 0, v171, _, ht178, hS, f2, rfl⟩, Sub.cons rfl (Sub.cons rfl (Sub.cons rfl (Sub.cons rfl (Sub.nil _))))⟩ ?_
  clear ht178 hS
  rintro m178 _ w233 ⟨x237, x238, v236, R232, ht178, hS, f234, rfl⟩
  obtain ⟨m178, rfl, o178, ho178, ht178⟩ := iter_some ht178
  replace ho178 : orphan_Merge_B1 fuel x175 a1 x237 x238 = some o178 := ho178
  unfold orphan_Merge_B1 at ho178
  refine e_seq fun K294 hK294 => ?_
  refine e_region_text rfl ?_
  refine q_lss rfl rfl rfl ?_
  refine eseq_nil ?_
  refine hK294 _ _ ?_
  refine e_seq fun K295 hK295 => ?_
  refine e_cond rfl (fun hc296 => ?_) (fun hc296 => ?_)
  · replace ho178 := (if_pos hc296).symm.trans ho178
    refine e_skip ?_
    refine hK295 _ _ ?_
    refine e_seq fun K297 hK297 => ?_
    refine e_block ?_
    refine e_seq fun K298 hK298 => ?_
    refine e_region_text rfl ?_
    refine q_move rfl rfl ?_
    refine q_assign rfl rfl ?_
    refine eseq_nil ?_
    refine hK298 _ _ ?_
    refine e_seq fun K299 hK299 => ?_
    refine e_region_text rfl ?_
    refine q_allocB rfl fun w300 bl300 hg300 hb300 hB300 => ?_
    replace f234 := f234.ext hB300
    replace hS := hS.newBlk hB300 hg300 hb300
    refine eseq_nil ?_
    refine hK299 _ _ ?_
    refine e_seq fun K302 hK302 => ?_
    have hJ302 : ∀ (x313 : Int) (x314 : Int) (R309 : Nat → Prop) (w310 : World) (E_ : Env), orphan_Merge_J1 fuel x237 x238 x313 x314 = some o178 → Sep F R R309 w w310 [HP.own labTy (fun _ => False) 60 v236 x237, HP.blk bl300 [.int .i64 x313, .int .i64 x314] 60] → IsSlice labTy w310 R309 v2 a1 → Sub [(1, v2), (5, v236), (6, .int .i64 x238), (7, .pointer (some ⟨bl300, 0, none⟩)), (18, .int .i64 (x175.length : Int)), (19, .int .i64 x238)] E_ → K302 E_ w310 := by
      intro x313 x314 R309 w310 E_ ho178 hS f311 hsub
      refine hK302 _ _ (e_sub hsub ?_); clear hsub
      unfold orphan_Merge_J1 at ho178
      refine e_seq fun K315 hK315 => ?_
      refine e_region_draw mixed (fun _ => False) [0, 0, 3, 7, 0, 31] [] [0, 1, 2, 3, 4, 5] (by kernel_rfl) ?_
      refine q_move rfl rfl ?_
      refine q_move rfl rfl ?_
      obtain ⟨x316, hx316, ho178⟩ := Option.of_bind ho178
      refine q_indexO (by infer_instance) rfl (hS.own 0 rfl) rfl hx316 rfl ?_
      have f317 := (hS.ownR 0 rfl).elt hx316
      have hc318 := Lab_open f317
      refine q_loadAgg rfl hc318 rfl rfl ?_
      refine q_loadAgg rfl (Blk.cellsAt (hS.blk 1 rfl) 0 2 rfl) rfl rfl ?_
      obtain ⟨r320, hr320, ho178⟩ := Option.of_bind ho178
      refine q_call rfl (orphan_Before_w (a0 := x316) (a1 := (⟨x313, x314⟩ : Lab)) (Sep.enter (As := []) hS)  hr320) rfl ?_
      rintro _ w319 ⟨R319, rfl, hC319⟩
      have hB319 : Below (World.heap w310).size w310 w319 := hC319.stepB0
      refine ⟨fun _ => .of_below hB319, ?_⟩
      replace f311 := (f311.ext hB319).mono fun k hk _ => hC319.ro0 k hk
      replace hS := Sep.leave (As := []) hS hC319; simp only [List.cons_append, List.nil_append] at hS
      refine eseq_nil ?_
      refine hK315 _ _ ?_
      refine e_cond rfl (fun hc321 => ?_) (fun hc321 => ?_)
      · replace ho178 := (if_pos hc321).symm.trans ho178
        refine e_region_text rfl ?_
        refine q_move rfl rfl ?_
        refine q_move rfl rfl ?_
        refine q_loadAgg rfl (Blk.cellsAt (hS.blk 1 rfl) 0 2 rfl) rfl rfl ?_
        obtain ⟨x322, hx322, ho178⟩ := Option.of_bind ho178
        refine q_indexO (by infer_instance) rfl (hS.own 0 rfl) rfl hx322 rfl ?_
        obtain ⟨x324, hx324, ho178⟩ := Option.of_bind ho178
        refine q_storeOA (T := labTy) (j := 0) rfl rfl (hS.own 0 rfl) hx322 hx324 rfl rfl (all_cons rfl (all_cons rfl (all_nil))) rfl (Enc.setNL rfl) fun w323 ho323 hO323 => ?_
        have hk323 := hS.keptO 0 rfl hx322 hO323
        replace f311 := f311.kept hk323
        replace hS := hS.putO 0 rfl hx322 ho323 hO323; simp only [List.set] at hS
        refine eseq_nil ?_
        refine hK297 _ _ ?_
        refine e_region_text rfl ?_
        refine q_addW rfl rfl rfl ?_
        refine q_move rfl rfl ?_
        refine eseq_nil ?_
        obtain rfl := Option.some.inj ho178
        exact ⟨m178, _, Nat.lt_succ_self _, ⟨x324, (w64 (x238 + 1)), v236, _, ht178, (hS.pickB [0] 2 rfl rfl), f311, rfl⟩, Sub.cons rfl (Sub.cons rfl (Sub.cons rfl (Sub.cons rfl (Sub.nil _))))⟩
      · replace ho178 := (if_neg (not_true hc321)).symm.trans ho178
        refine e_skip ?_
        refine hK297 _ _ ?_
        refine e_region_text rfl ?_
        refine q_addW rfl rfl rfl ?_
        refine q_move rfl rfl ?_
        refine eseq_nil ?_
        obtain rfl := Option.some.inj ho178
        exact ⟨m178, _, Nat.lt_succ_self _, ⟨x237, (w64 (x238 + 1)), v236, _, ht178, (hS.pickB [0] 2 rfl rfl), f311, rfl⟩, Sub.cons rfl (Sub.cons rfl (Sub.cons rfl (Sub.cons rfl (Sub.nil _))))⟩
    refine e_seq fun K325 hK325 => ?_
    refine e_region_text rfl ?_
    refine q_move rfl rfl ?_
    refine q_move rfl rfl ?_
    refine q_lenS rfl f234 rfl ?_
    refine q_lss rfl rfl rfl ?_
    refine eseq_nil ?_
    refine hK325 _ _ ?_
    refine e_cond rfl (fun hc326 => ?_) (fun hc326 => ?_)
    · replace ho178 := (if_pos hc326).symm.trans ho178
      refine e_region_text rfl ?_
      refine q_move rfl rfl ?_
      refine q_move rfl rfl ?_
      obtain ⟨x327, hx327, ho178⟩ := Option.of_bind ho178
      refine q_atS (by infer_instance) rfl f234 rfl hx327 rfl fun b328 o328 hm328 f328 => ?_
      have hc329 := Lab_open f328
      refine q_loadAgg rfl hc329 rfl rfl ?_
      refine q_storeAgg rfl rfl (hS.blk 0 rfl) rfl (Nat.le_of_ble_eq_true rfl) (all_cons rfl (all_cons rfl (all_nil))) rfl rfl fun w330 hb330 hO330 => ?_
      simp only [setN, List.set, List.take, List.drop] at hb330
      have hk330 := hS.keptBlk 0 rfl hO330
      replace f234 := f234.kept hk330
      replace hS := hS.setBlk 0 rfl hb330 hO330; simp only [List.set] at hS
      refine eseq_nil ?_
      exact hJ302 x327.inc x327.index _ _ _ ho178 (hS.pickB [1, 0] 2 rfl rfl) f234 (Sub.cons rfl (Sub.cons rfl (Sub.cons rfl (Sub.cons rfl (Sub.cons rfl (Sub.cons rfl (Sub.nil _)))))))
    · replace ho178 := (if_neg (not_true hc326)).symm.trans ho178
      refine e_skip ?_
      exact hJ302 0 0 _ _ _ ho178 (hS.pickB [1, 0] 2 rfl rfl) f234 (Sub.cons rfl (Sub.cons rfl (Sub.cons rfl (Sub.cons rfl (Sub.cons rfl (Sub.cons rfl (Sub.nil _)))))))
  · replace ho178 := (if_neg (not_true hc296)).symm.trans ho178
    refine e_exit ?_
    obtain rfl := Option.some.inj ho178
    obtain rfl := Option.some.inj ht178
    exact hX178_0 x237 v236 _ _ _ h hS  (Sub.cons rfl (Sub.nil _))
theorem ref32_SameLabels_w {F R : Nat → Prop} {w : World} {fuel : Nat} {a0 : (List Lab)} {a1 : (List Lab)} {v1 : Value} {v2 : Value} {r : (Bool)} (hS : Sep F R R w w []) (f1 : IsSlice labTy w R v1 a0) (f2 : IsSlice labTy w R v2 a1) (h : ref32_SameLabels fuel a0 a1 = some r) :
    Gives Try.prog 62 [v1, v2] w fun u w1 => ∃ (R1 : Nat → Prop), u = .bool r ∧ Sep F R R1 w w1 [] := by
  refine fn_of Try.func62 rfl Try.ntmps62 (Nat.le_of_ble_eq_true rfl) ?_
  unfold ref32_SameLabels at h
  refine e_seq fun K73 hK73 => ?_
  refine e_region_text rfl ?_
  refine q_assign rfl rfl ?_
  refine eseq_nil ?_
  refine hK73 _ _ ?_
  refine e_seq fun K74 hK74 => ?_
  refine e_seq fun K75 hK75 => ?_
  refine e_region_text rfl ?_
  refine q_move rfl rfl ?_
  refine q_lenS rfl f1 rfl ?_
  refine q_move rfl rfl ?_
  refine q_lenS rfl f2 rfl ?_
  refine q_neq rfl rfl rfl ?_
  refine eseq_nil ?_
  refine hK75 _ _ ?_
  refine e_cond rfl (fun hc76 => ?_) (fun hc76 => ?_)
  · replace h := (if_pos hc76).symm.trans h
    refine e_seq fun K77 hK77 => ?_
    refine e_region_text rfl ?_
    refine q_assign rfl rfl ?_
    refine eseq_nil ?_
    refine hK77 _ _ ?_
    refine e_ret ?_
    obtain rfl := Option.some.inj h
    exact ⟨_, res1 rfl rfl, _, rfl, hS⟩
  · replace h := (if_neg (not_true hc76)).symm.trans h
    refine e_skip ?_
    refine hK74 _ _ ?_
    refine e_seq fun K78 hK78 => ?_
    refine e_seq fun K79 hK79 => ?_
    refine e_region_text rfl ?_
    refine q_assign rfl rfl ?_
    refine eseq_nil ?_
    refine hK79 _ _ ?_
    refine e_block ?_
    obtain ⟨tl80, ht80, h⟩ := Option.of_bind h
    have hX80_0 : ∀ (R126 : Nat → Prop) (w127 : World) (E_ : Env), ref32_SameLabels_K1 fuel = some r → Sep F R R126 w w127 [] → Sub [] E_ → K78 E_ w127 := by
      intro R126 w127 E_ h hS  hsub
      refine hK78 _ _ (e_sub hsub ?_); clear hsub
      unfold ref32_SameLabels_K1 at h
      refine e_seq fun K128 hK128 => ?_
      refine e_region_text rfl ?_
      refine q_assign rfl rfl ?_
      refine eseq_nil ?_
      refine hK128 _ _ ?_
      refine e_ret ?_
      obtain rfl := Option.some.inj h
      exact ⟨_, res1 rfl rfl, _, rfl, hS⟩
    refine e_loop (fun m_ E_ w104 => ∃ (x107 : Int), ∃ (R103 : Nat → Prop), iter (fun s => ref32_SameLabels_B1 fuel a0 a1 s) m_ x107 = some tl80 ∧ Sep F R R103 w w104 [] ∧ IsSlice labTy w104 R103 v1 a0 ∧ IsSlice labTy w104 R103 v2 a1 ∧ E_ = [(0, v1), (1, v2), (5, .int .i64 x107)]) _ ⟨_, ⟨0, _, ht80, hS, f1, f2, rfl⟩, Sub.cons rfl (Sub.cons rfl (Sub.cons rfl (Sub.nil _)))⟩ ?_
    clear ht80 hS
    rintro m80 _ w104 ⟨x107, R103, ht80, hS, f105, f106, rfl⟩
    obtain ⟨m80, rfl, o80, ho80, ht80⟩ := iter_some ht80
    replace ho80 : ref32_SameLabels_B1 fuel a0 a1 x107 = some o80 := ho80
    unfold ref32_SameLabels_B1 at ho80
    refine e_seq fun K129 hK129 => ?_
    refine e_seq fun K130 hK130 => ?_
    refine e_region_text rfl ?_
    refine q_move rfl rfl ?_
    refine q_move rfl rfl ?_
    refine q_lenS rfl f105 rfl ?_
    refine q_lss rfl rfl rfl ?_
    refine eseq_nil ?_
    refine hK130 _ _ ?_
    refine e_cond rfl (fun hc131 => ?_) (fun hc131 => ?_)
    · replace ho80 := (if_pos hc131).symm.trans ho80
      refine e_skip ?_
      refine hK129 _ _ ?_
      refine e_seq fun K132 hK132 => ?_
      refine e_block ?_
      refine e_seq fun K133 hK133 => ?_
      refine e_region_draw mixed (fun _ => False) [0, 0, 3, 7, 0, 0, 48, 112, 255] [] [0, 1, 2, 3, 4, 5, 6, 7, 8] (by kernel_rfl) ?_
      refine q_move rfl rfl ?_
      refine q_move rfl rfl ?_
      obtain ⟨x134, hx134, ho80⟩ := Option.of_bind ho80
      refine q_atS (by infer_instance) rfl f105 rfl hx134 rfl fun b135 o135 hm135 f135 => ?_
      have hc136 := Lab_open f135
      refine q_loadAgg rfl hc136 rfl rfl ?_
      refine q_move rfl rfl ?_
      refine q_move rfl rfl ?_
      obtain ⟨x137, hx137, ho80⟩ := Option.of_bind ho80
      refine q_atS (by infer_instance) rfl f106 rfl hx137 rfl fun b138 o138 hm138 f138 => ?_
      have hc139 := Lab_open f138
      refine q_loadAgg rfl hc139 rfl rfl ?_
      refine q_neqA eqT60 (by kernel_rfl) rfl rfl rfl ?_
      refine eseq_nil ?_
      refine hK133 _ _ ?_
      refine e_cond rfl (fun hc140 => ?_) (fun hc140 => ?_)
      · replace ho80 := (if_pos hc140).symm.trans ho80
        refine e_seq fun K141 hK141 => ?_
        refine e_region_text rfl ?_
        refine q_assign rfl rfl ?_
        refine eseq_nil ?_
        refine hK141 _ _ ?_
        refine e_ret ?_
        obtain rfl := Option.some.inj ho80
        obtain rfl := Option.some.inj ht80
        obtain rfl := Option.some.inj h
        exact ⟨_, res1 rfl rfl, _, rfl, hS⟩
      · replace ho80 := (if_neg (not_true hc140)).symm.trans ho80
        refine e_skip ?_
        refine hK132 _ _ ?_
        refine e_region_text rfl ?_
        refine q_move rfl rfl ?_
        refine q_addW rfl rfl rfl ?_
        refine q_assign rfl rfl ?_
        refine eseq_nil ?_
        obtain rfl := Option.some.inj ho80
        exact ⟨m80, _, Nat.lt_succ_self _, ⟨(w64 (x107 + 1)), _, ht80, hS, f105, f106, rfl⟩, Sub.cons rfl (Sub.cons rfl (Sub.cons rfl (Sub.nil _)))⟩
    · replace ho80 := (if_neg (not_true hc131)).symm.trans ho80
      refine e_exit ?_
      obtain rfl := Option.some.inj ho80
      obtain rfl := Option.some.inj ht80
      exact hX80_0  _ _ _ h hS  (Sub.nil _)
theorem orphan_label_w {F R : Nat → Prop} {w : World} {fuel : Nat} {a0 : (List Evt)} {a1 : Int} {v1 : Value} {r : (Lab × Bool)} (hS : Sep F R R w w []) (f1 : IsSlice evtTy w R v1 a0) (h : orphan_label fuel a0 a1 = some r) :
    Gives Try.prog 118 [v1, .int .i64 a1] w fun u w1 => ∃ (R1 : Nat → Prop), u = .tuple #[.agg #[.int .i64 r.1.inc, .int .i64 r.1.index], .bool r.2] ∧ Sep F R R1 w w1 [] := by
  refine fn_of Try.func118 rfl Try.ntmps118 (Nat.le_of_ble_eq_true rfl) ?_
  unfold orphan_label at h
  refine e_seq fun K23 hK23 => ?_
  refine e_region_text rfl ?_
  refine q_allocB rfl fun w24 bl24 hg24 hb24 hB24 => ?_
  replace f1 := f1.ext hB24
  replace hS := hS.newBlk hB24 hg24 hb24
  refine q_assign rfl rfl ?_
  refine eseq_nil ?_
  refine hK23 _ _ ?_
  refine e_seq fun K26 hK26 => ?_
  refine e_block ?_
  refine e_seq fun K27 hK27 => ?_
  refine e_region_text rfl ?_
  refine q_move rfl rfl ?_
  refine q_lss rfl rfl rfl ?_
  refine q_move rfl rfl ?_
  obtain ⟨x31, hx30, h⟩ := Option.of_bind h
  refine g_orM 4 hx30 rfl trivial rfl rfl ?_ ?_ ?_
  · intro hg30
    refine g_skip rfl rfl rfl ?_
    refine g_skip rfl rfl rfl ?_
    refine g_skip rfl rfl rfl ?_
    refine g_skip rfl rfl rfl ?_
    exact eseq_nil ⟨rfl, Sub.set rfl (Sub.set rfl (Sub.set rfl (Sub.set rfl (Sub.bool true rfl hg30))))⟩
  · intro hg30 hx30
    clear h
    have hT30 := Below.refl (World.heap w24).size w24
    refine g_run rfl ?_; refine q_move rfl rfl ?_
    refine g_run rfl ?_; refine q_move rfl rfl ?_
    refine g_run rfl ?_; refine q_lenS rfl f1 rfl ?_
    refine g_run rfl ?_; refine q_gtr rfl rfl rfl ?_
    cases hx30
    exact eseq_nil ⟨hT30, Sub.set rfl (Sub.set rfl (Sub.set rfl (Sub.set rfl (Sub.bool false rfl hg30)))), rfl⟩
  intro wm30 hBm30; clear hx30
  replace hS := hS.below hBm30
  replace f1 := f1.ext hBm30
  refine q_assign rfl rfl ?_
  refine eseq_nil ?_
  refine hK27 _ _ ?_
  refine e_cond rfl (fun hc32 => ?_) (fun hc32 => ?_)
  · replace h := (if_pos hc32).symm.trans h
    refine e_seq fun K33 hK33 => ?_
    refine e_region_text rfl ?_
    refine q_build Parts.nil rfl rfl ?_
    refine q_storeAgg rfl rfl (hS.blk 0 rfl) rfl (Nat.le_of_ble_eq_true rfl) (all_cons rfl (all_cons rfl (all_nil))) rfl rfl fun w34 hb34 hO34 => ?_
    simp only [setN, List.set, List.take, List.drop] at hb34
    have hk34 := hS.keptBlk 0 rfl hO34
    replace hS := hS.setBlk 0 rfl hb34 hO34; simp only [List.set] at hS
    refine q_assign rfl rfl ?_
    refine eseq_nil ?_
    refine hK33 _ _ ?_
    refine e_ret ?_
    obtain rfl := Option.some.inj h
    exact ⟨_, resCT rfl rfl ((hS.blk 0 rfl).cellsAt 0 2 rfl) rfl rfl, _, rfl, (hS.pickB [] 1 rfl rfl)⟩
  · replace h := (if_neg (not_true hc32)).symm.trans h
    refine e_seq fun K35 hK35 => ?_
    refine e_region_text rfl ?_
    refine q_move rfl rfl ?_
    refine q_eql rfl rfl rfl ?_
    refine q_assign rfl rfl ?_
    refine eseq_nil ?_
    refine hK35 _ _ ?_
    refine e_cond rfl (fun hc36 => ?_) (fun hc36 => ?_)
    · replace h := (if_pos hc36).symm.trans h
      refine e_seq fun K37 hK37 => ?_
      refine e_region_text rfl ?_
      refine q_build Parts.nil rfl rfl ?_
      refine q_storeAgg rfl rfl (hS.blk 0 rfl) rfl (Nat.le_of_ble_eq_true rfl) (all_cons rfl (all_cons rfl (all_nil))) rfl rfl fun w38 hb38 hO38 => ?_
      simp only [setN, List.set, List.take, List.drop] at hb38
      have hk38 := hS.keptBlk 0 rfl hO38
      replace hS := hS.setBlk 0 rfl hb38 hO38; simp only [List.set] at hS
      refine q_assign rfl rfl ?_
      refine eseq_nil ?_
      refine hK37 _ _ ?_
      refine e_ret ?_
      obtain rfl := Option.some.inj h
      exact ⟨_, resCT rfl rfl ((hS.blk 0 rfl).cellsAt 0 2 rfl) rfl rfl, _, rfl, (hS.pickB [] 1 rfl rfl)⟩
    · replace h := (if_neg (not_true hc36)).symm.trans h
      refine e_skip ?_
      refine hK26 _ _ ?_
      refine e_seq fun K39 hK39 => ?_
      refine e_region_text rfl ?_
      refine q_move rfl rfl ?_
      refine q_move rfl rfl ?_
      refine q_subW rfl rfl rfl ?_
      obtain ⟨x40, hx40, h⟩ := Option.of_bind h
      refine q_atS (by infer_instance) rfl f1 rfl hx40 rfl fun b41 o41 hm41 f41 => ?_
      refine q_field rfl rfl ?_
      have f42 := Evt_F1 f41
      refine q_load rfl (Elt.intCell f42) rfl ?_
      refine q_move rfl rfl ?_
      refine q_build (Parts.cons rfl rfl (Parts.cons rfl rfl Parts.nil)) rfl rfl ?_
      refine q_storeAgg rfl rfl (hS.blk 0 rfl) rfl (Nat.le_of_ble_eq_true rfl) (all_cons rfl (all_cons rfl (all_nil))) rfl rfl fun w43 hb43 hO43 => ?_
      simp only [setN, List.set, List.take, List.drop] at hb43
      have hk43 := hS.keptBlk 0 rfl hO43
      replace hS := hS.setBlk 0 rfl hb43 hO43; simp only [List.set] at hS
      refine q_assign rfl rfl ?_
      refine eseq_nil ?_
      refine hK39 _ _ ?_
      refine e_ret ?_
      obtain rfl := Option.some.inj h
      exact ⟨_, resCT rfl rfl ((hS.blk 0 rfl).cellsAt 0 2 rfl) rfl rfl, _, rfl, (hS.pickB [] 1 rfl rfl)⟩
theorem orphan_fits_w {F R : Nat → Prop} {w : World} {fuel : Nat} {a0 : (List (List Evt))} {a1 : (List Int)} {a2 : Int} {a3 : Evt} {v1 : Value} {v2 : Value} {r : (Bool)} (hS : Sep F R R w w []) (f1 : IsSlice (Ty.slice evtTy) w R v1 a0) (f2 : IsSlice Ty.int w R v2 a1) (h : orphan_fits fuel a0 a1 a2 a3 = some r) :
    Gives Try.prog 79 [v1, v2, .int .i64 a2, .agg #[.int .i64 a3.kind, .int .i64 a3.inc, .int .i64 a3.frm, .int .i64 a3.sent.inc, .int .i64 a3.sent.index, .int .i64 a3.ord, .int .i64 a3.value]] w fun u w1 => ∃ (R1 : Nat → Prop), u = .bool r ∧ Sep F R R1 w w1 [] := by
  refine fn_of Try.func79 rfl Try.ntmps79 (Nat.le_of_ble_eq_true rfl) ?_
  unfold orphan_fits at h
  refine e_seq fun K70 hK70 => ?_
  refine e_region_text rfl ?_
  refine q_boxB rfl rfl rfl fun w71 bl71 hg71 hb71 hB71 => ?_
  replace f1 := f1.ext hB71
  replace f2 := f2.ext hB71
  replace hS := hS.newBlk hB71 hg71 hb71
  refine q_assign rfl rfl ?_
  refine eseq_nil ?_
  refine hK70 _ _ ?_
  refine e_seq fun K73 hK73 => ?_
  refine e_seq fun K74 hK74 => ?_
  refine e_region_text rfl ?_
  refine q_field rfl rfl ?_
  refine q_load rfl (Blk.cell (hS.blk 0 rfl) rfl) rfl ?_
  refine q_neq rfl rfl rfl ?_
  refine eseq_nil ?_
  refine hK74 _ _ ?_
  refine e_cond rfl (fun hc75 => ?_) (fun hc75 => ?_)
  · replace h := (if_pos hc75).symm.trans h
    refine e_seq fun K76 hK76 => ?_
    refine e_region_text rfl ?_
    refine q_assign rfl rfl ?_
    refine eseq_nil ?_
    refine hK76 _ _ ?_
    refine e_ret ?_
    obtain rfl := Option.some.inj h
    exact ⟨_, res1 rfl rfl, _, rfl, (hS.pickB [] 1 rfl rfl)⟩
  · replace h := (if_neg (not_true hc75)).symm.trans h
    refine e_skip ?_
    refine hK73 _ _ ?_
    refine e_seq fun K77 hK77 => ?_
    refine e_seq fun K78 hK78 => ?_
    refine e_region_draw mixed (fun _ => False) [0, 1, 3, 7, 15, 31, 15, 79, 255, 511, 1023, 2047, 4095, 2047, 16383, 32767, 65535, 131071, 262143, 524287, 131071, 131071, 2228223, 7471103, 15859711, 33554431, 67108863] [] [0, 1, 2, 3, 4, 5, 6, 7, 8, 9, 10, 11, 12, 13, 14, 15, 16, 17, 18, 19, 20, 21, 22, 23, 24, 25, 26] (by kernel_rfl) ?_
    refine q_field rfl rfl ?_
    refine q_load rfl (Blk.cell (hS.blk 0 rfl) rfl) rfl ?_
    refine q_lss rfl rfl rfl ?_
    refine q_move rfl rfl ?_
    obtain ⟨x82, hx81, h⟩ := Option.of_bind h
    refine g_orM 5 hx81 rfl trivial rfl rfl ?_ ?_ ?_
    · intro hg81
      refine g_skip rfl rfl rfl ?_
      refine g_skip rfl rfl rfl ?_
      refine g_skip rfl rfl rfl ?_
      refine g_skip rfl rfl rfl ?_
      refine g_skip rfl rfl rfl ?_
      exact eseq_nil ⟨rfl, Sub.set rfl (Sub.set rfl (Sub.set rfl (Sub.set rfl (Sub.set rfl (Sub.bool true rfl hg81)))))⟩
    · intro hg81 hx81
      clear h
      have hT81 := Below.refl (World.heap w71).size w71
      refine g_run rfl ?_; refine q_field rfl rfl ?_
      refine g_run rfl ?_; refine q_load rfl (Blk.cell (hS.blk 0 rfl) rfl) rfl ?_
      refine g_run rfl ?_; refine q_move rfl rfl ?_
      refine g_run rfl ?_; refine q_lenS rfl f1 rfl ?_
      refine g_run rfl ?_; refine q_geq rfl rfl rfl ?_
      cases hx81
      exact eseq_nil ⟨hT81, Sub.set rfl (Sub.set rfl (Sub.set rfl (Sub.set rfl (Sub.set rfl (Sub.bool false rfl hg81))))), rfl⟩
    intro wm81 hBm81; clear hx81
    replace hS := hS.below hBm81
    replace f1 := f1.ext hBm81
    replace f2 := f2.ext hBm81
    refine q_move rfl rfl ?_
    obtain ⟨x86, hx85, h⟩ := Option.of_bind h
    refine g_orM 4 hx85 rfl trivial rfl rfl ?_ ?_ ?_
    · intro hg85
      refine g_skip rfl rfl rfl ?_
      refine g_skip rfl rfl rfl ?_
      refine g_skip rfl rfl rfl ?_
      refine g_skip rfl rfl rfl ?_
      exact eseq_nil ⟨rfl, Sub.set rfl (Sub.set rfl (Sub.set rfl (Sub.set rfl (Sub.bool true rfl hg85))))⟩
    · intro hg85 hx85
      clear h
      have hT85 := Below.refl (World.heap wm81).size wm81
      refine g_run rfl ?_; refine q_field rfl rfl ?_
      refine g_run rfl ?_; refine q_load rfl (Blk.cell (hS.blk 0 rfl) rfl) rfl ?_
      refine g_run rfl ?_; refine q_move rfl rfl ?_
      refine g_run rfl ?_; refine q_eql rfl rfl rfl ?_
      cases hx85
      exact eseq_nil ⟨hT85, Sub.set rfl (Sub.set rfl (Sub.set rfl (Sub.set rfl (Sub.bool false rfl hg85)))), rfl⟩
    intro wm85 hBm85; clear hx85
    replace hS := hS.below hBm85
    replace f1 := f1.ext hBm85
    replace f2 := f2.ext hBm85
    refine q_move rfl rfl ?_
    obtain ⟨x92, hx91, h⟩ := Option.of_bind h
    refine g_orM 9 hx91 rfl trivial rfl rfl ?_ ?_ ?_
    · intro hg91
      refine g_skip rfl rfl rfl ?_
      refine g_skip rfl rfl rfl ?_
      refine g_skip rfl rfl rfl ?_
      refine g_skip rfl rfl rfl ?_
      refine g_skip rfl rfl rfl ?_
      refine g_skip rfl rfl rfl ?_
      refine g_skip rfl rfl rfl ?_
      refine g_skip rfl rfl rfl ?_
      refine g_skip rfl rfl rfl ?_
      exact eseq_nil ⟨rfl, Sub.set rfl (Sub.set rfl (Sub.set rfl (Sub.set rfl (Sub.set rfl (Sub.set rfl (Sub.set rfl (Sub.set rfl (Sub.set rfl (Sub.bool true rfl hg91)))))))))⟩
    · intro hg91 hx91
      clear h
      have hT91 := Below.refl (World.heap wm85).size wm85
      refine g_run rfl ?_; refine q_field rfl rfl ?_
      refine g_run rfl ?_; refine q_field rfl rfl ?_
      refine g_run rfl ?_; refine q_load rfl (Blk.cell (hS.blk 0 rfl) rfl) rfl ?_
      refine g_run rfl ?_; refine q_move rfl rfl ?_
      refine g_run rfl ?_; refine q_field rfl rfl ?_
      refine g_run rfl ?_; refine q_load rfl (Blk.cell (hS.blk 0 rfl) rfl) rfl ?_
      obtain ⟨x93, hx93, hx91⟩ := Option.of_bind hx91
      refine g_run rfl ?_; refine q_atS (by infer_instance) rfl f2 rfl hx93 rfl fun b94 o94 hm94 f94 => ?_
      refine g_run rfl ?_; refine q_load rfl (Elt.intCell f94) rfl ?_
      refine g_run rfl ?_; refine q_gtr rfl rfl rfl ?_
      cases hx91
      exact eseq_nil ⟨hT91, Sub.set rfl (Sub.set rfl (Sub.set rfl (Sub.set rfl (Sub.set rfl (Sub.set rfl (Sub.set rfl (Sub.set rfl (Sub.set rfl (Sub.bool false rfl hg91))))))))), rfl⟩
    intro wm91 hBm91; clear hx91
    replace hS := hS.below hBm91
    replace f1 := f1.ext hBm91
    refine eseq_nil ?_
    refine hK78 _ _ ?_
    refine e_cond rfl (fun hc95 => ?_) (fun hc95 => ?_)
    · replace h := (if_pos hc95).symm.trans h
      refine e_seq fun K96 hK96 => ?_
      refine e_region_text rfl ?_
      refine q_assign rfl rfl ?_
      refine eseq_nil ?_
      refine hK96 _ _ ?_
      refine e_ret ?_
      obtain rfl := Option.some.inj h
      exact ⟨_, res1 rfl rfl, _, rfl, (hS.pickB [] 1 rfl rfl)⟩
    · replace h := (if_neg (not_true hc95)).symm.trans h
      refine e_skip ?_
      refine hK77 _ _ ?_
      refine e_seq fun K97 hK97 => ?_
      have hJt120 : ∀ (r102 : (Lab × Bool)) (B119 : Nat) (R116 : Nat → Prop) (w117 : World) (E_ : Env), orphan_fits_J1 fuel r102 a3 = some r → Sep F R R116 w w117 [HP.blk bl71 [.int .i64 a3.kind, .int .i64 a3.inc, .int .i64 a3.frm, .int .i64 a3.sent.inc, .int .i64 a3.sent.index, .int .i64 a3.ord, .int .i64 a3.value] 62, HP.blk B119 [.int .i64 r102.1.inc, .int .i64 r102.1.index] 60] → Sub [(7, .pointer (some ⟨bl71, 0, none⟩)), (9, .pointer (some ⟨B119, 0, none⟩)), (10, .bool r102.2)] E_ → K97 E_ w117 := by
        intro r102 B119 R116 w117 E_ h hS  hsub
        refine hK97 _ _ (e_sub hsub ?_); clear hsub
        unfold orphan_fits_J1 at h
        refine e_seq fun K121 hK121 => ?_
        refine e_region_text rfl ?_
        refine q_move rfl rfl ?_
        refine q_move rfl rfl ?_
        obtain ⟨x125, hx124, h⟩ := Option.of_bind h
        refine g_andM 4 hx124 rfl trivial rfl rfl ?_ ?_ ?_
        · intro hg124 hx124
          clear h
          have hT124 := Below.refl (World.heap w117).size w117
          refine g_run rfl ?_; refine q_loadAgg rfl (Blk.cellsAt (hS.blk 1 rfl) 0 2 rfl) rfl rfl ?_
          refine g_run rfl ?_; refine q_field rfl rfl ?_
          refine g_run rfl ?_; refine q_loadAgg rfl (Blk.cellsAt (hS.blk 0 rfl) 3 2 rfl) rfl rfl ?_
          refine g_run rfl ?_; refine q_eqlA eqT60 (by kernel_rfl) rfl rfl rfl ?_
          cases hx124
          exact eseq_nil ⟨hT124, Sub.set rfl (Sub.set rfl (Sub.set rfl (Sub.set rfl (Sub.bool true rfl hg124)))), rfl⟩
        · intro hg124
          refine g_skip rfl rfl rfl ?_
          refine g_skip rfl rfl rfl ?_
          refine g_skip rfl rfl rfl ?_
          refine g_skip rfl rfl rfl ?_
          exact eseq_nil ⟨rfl, Sub.set rfl (Sub.set rfl (Sub.set rfl (Sub.set rfl (Sub.bool false rfl hg124))))⟩
        intro wm124 hBm124; clear hx124
        replace hS := hS.below hBm124
        refine q_assign rfl rfl ?_
        refine eseq_nil ?_
        refine hK121 _ _ ?_
        refine e_ret ?_
        obtain rfl := Option.some.inj h
        exact ⟨_, res1 rfl rfl, _, rfl, (hS.pickB [] 2 rfl rfl)⟩
      obtain ⟨x98, hx98, h⟩ := Option.of_bind h
      obtain ⟨r102, hr102, h⟩ := Option.of_bind h
      refine e_region_T mixed (fun _ => False) [0, 0, 2, 7, 15, 0, 32, 96, 255, 511, 1023, 1023, 0, 6143, 16383] [12] (QT.op 0 (QT.op 1 (QT.op 2 (QT.op 3 (QT.op 4 (QT.op 5 (QT.op 6 (QT.op 7 (QT.alt (QT.op 8 (QT.op 9 (QT.op 10 (QT.op 11 (QT.op 12 (QT.op 13 (QT.op 14 QT.fin))))))) (QT.op 12 (QT.op 8 (QT.op 9 (QT.op 10 (QT.op 11 (QT.op 13 (QT.op 14 QT.fin)))))))))))))))) (by kernel_rfl) ?_
      refine t_op ?_
      refine q_move rfl rfl ?_
      refine eseq_nil ?_
      refine t_op ?_
      refine q_field rfl rfl ?_
      refine eseq_nil ?_
      refine t_op ?_
      refine q_load rfl (Blk.cell (hS.blk 0 rfl) rfl) rfl ?_
      refine eseq_nil ?_
      refine t_op ?_
      refine q_atS (by infer_instance) rfl f1 rfl hx98 rfl fun b126 o126 hm126 f126 => ?_
      refine eseq_nil ?_
      refine t_op ?_
      refine q_loadE rfl f126 rfl (fun v127 f127 => ?_)
      refine eseq_nil ?_
      refine t_op ?_
      refine q_field rfl rfl ?_
      refine eseq_nil ?_
      refine t_op ?_
      refine q_field rfl rfl ?_
      refine eseq_nil ?_
      refine t_op ?_
      refine q_load rfl (Blk.cell (hS.blk 0 rfl) rfl) rfl ?_
      refine eseq_nil ?_
      refine t_alt ?_ ?_
      · skip
        refine t_op ?_
        refine q_call rfl (orphan_label_w (Sep.enter (As := []) hS) f127 hr102) rfl ?_
        rintro _ w128 ⟨R128, rfl, hC128⟩
        have hB128 : Below (World.heap wm91).size wm91 w128 := hC128.stepB0
        refine ⟨fun _ => .of_below hB128, ?_⟩
        replace f1 := (f1.ext hB128).mono fun k hk _ => hC128.ro0 k hk
        replace f127 := (f127.ext hB128).mono fun k hk _ => hC128.ro0 k hk
        replace f126 := (f126.ext hB128).mono fun k hk _ => hC128.ro0 k hk
        replace hS := Sep.leave (As := []) hS hC128; simp only [List.cons_append, List.nil_append] at hS
        refine eseq_nil ?_
        refine t_op ?_
        refine q_move rfl rfl ?_
        refine eseq_nil ?_
        refine t_op ?_
        refine q_extract rfl rfl rfl ?_
        refine eseq_nil ?_
        refine t_op ?_
        refine q_extract rfl rfl rfl ?_
        refine eseq_nil ?_
        refine t_op ?_
        refine q_allocB rfl fun w129 bl129 hg129 hb129 hB129 => ?_
        replace f1 := f1.ext hB129
        replace f127 := f127.ext hB129
        replace f126 := f126.ext hB129
        replace hS := hS.newBlk hB129 hg129 hb129
        refine eseq_nil ?_
        refine t_op ?_
        refine q_storeAgg rfl rfl (hS.blk 0 rfl) rfl (Nat.le_of_ble_eq_true rfl) (all_cons rfl (all_cons rfl (all_nil))) rfl rfl fun w131 hb131 hO131 => ?_
        simp only [setN, List.set, List.take, List.drop] at hb131
        have hk131 := hS.keptBlk 0 rfl hO131
        replace f1 := f1.kept hk131
        replace f127 := f127.kept hk131
        replace hS := hS.setBlk 0 rfl hb131 hO131; simp only [List.set] at hS
        refine eseq_nil ?_
        refine t_op ?_
        refine q_assign rfl rfl ?_
        refine eseq_nil ?_
        refine t_fin ?_
        exact hJt120 r102 bl129 _ _ _ h (hS.pickB [1, 0] 2 rfl rfl)  (Sub.cons rfl (Sub.cons rfl (Sub.cons rfl (Sub.nil _))))
      · skip
        refine t_op ?_
        refine q_allocB rfl fun w132 bl132 hg132 hb132 hB132 => ?_
        replace f1 := f1.ext hB132
        replace f127 := f127.ext hB132
        replace f126 := f126.ext hB132
        replace hS := hS.newBlk hB132 hg132 hb132
        refine eseq_nil ?_
        refine t_op ?_
        refine q_call rfl (orphan_label_w (Sep.enter (As := []) hS) f127 hr102) rfl ?_
        rintro _ w134 ⟨R134, rfl, hC134⟩
        have hB134 : Below (World.heap w132).size w132 w134 := hC134.stepB0
        refine ⟨fun _ => .of_below hB134, ?_⟩
        replace f1 := (f1.ext hB134).mono fun k hk _ => hC134.ro0 k hk
        replace f127 := (f127.ext hB134).mono fun k hk _ => hC134.ro0 k hk
        replace f126 := (f126.ext hB134).mono fun k hk _ => hC134.ro0 k hk
        replace hS := Sep.leave (As := []) hS hC134; simp only [List.cons_append, List.nil_append] at hS
        refine eseq_nil ?_
        refine t_op ?_
        refine q_move rfl rfl ?_
        refine eseq_nil ?_
        refine t_op ?_
        refine q_extract rfl rfl rfl ?_
        refine eseq_nil ?_
        refine t_op ?_
        refine q_extract rfl rfl rfl ?_
        refine eseq_nil ?_
        refine t_op ?_
        refine q_storeAgg rfl rfl (hS.blk 0 rfl) rfl (Nat.le_of_ble_eq_true rfl) (all_cons rfl (all_cons rfl (all_nil))) rfl rfl fun w135 hb135 hO135 => ?_
        simp only [setN, List.set, List.take, List.drop] at hb135
        have hk135 := hS.keptBlk 0 rfl hO135
        replace f1 := f1.kept hk135
        replace f127 := f127.kept hk135
        replace hS := hS.setBlk 0 rfl hb135 hO135; simp only [List.set] at hS
        refine eseq_nil ?_
        refine t_op ?_
        refine q_assign rfl rfl ?_
        refine eseq_nil ?_
        refine t_fin ?_
        exact hJt120 r102 bl132 _ _ _ h (hS.pickB [1, 0] 2 rfl rfl)  (Sub.cons rfl (Sub.cons rfl (Sub.cons rfl (Sub.nil _))))
theorem orphan_Consistent_w {F R : Nat → Prop} {w : World} {fuel : Nat} {a0 : (List (List Evt))} {a1 : (List Int)} {v1 : Value} {v2 : Value} {r : (Bool)} (hS : Sep F R R w w []) (f1 : IsSlice (Ty.slice evtTy) w R v1 a0) (f2 : IsSlice Ty.int w R v2 a1) (h : orphan_Consistent fuel a0 a1 = some r) :
    Gives Try.prog 65 [v1, v2] w fun u w1 => ∃ (R1 : Nat → Prop), u = .bool r ∧ Sep F R R1 w w1 [] := by
  refine fn_of Try.func65 rfl Try.ntmps65 (Nat.le_of_ble_eq_true rfl) ?_
  unfold orphan_Consistent at h
  refine e_seq fun K413 hK413 => ?_
  refine e_region_text rfl ?_
  refine q_assign rfl rfl ?_
  refine eseq_nil ?_
  refine hK413 _ _ ?_
  refine e_seq fun K414 hK414 => ?_
  refine e_seq fun K415 hK415 => ?_
  refine e_region_text rfl ?_
  refine q_move rfl rfl ?_
  refine q_lenS rfl f2 rfl ?_
  refine q_move rfl rfl ?_
  refine q_lenS rfl f1 rfl ?_
  refine q_neq rfl rfl rfl ?_
  refine eseq_nil ?_
  refine hK415 _ _ ?_
  refine e_cond rfl (fun hc416 => ?_) (fun hc416 => ?_)
  · replace h := (if_pos hc416).symm.trans h
    refine e_seq fun K417 hK417 => ?_
    refine e_region_text rfl ?_
    refine q_assign rfl rfl ?_
    refine eseq_nil ?_
    refine hK417 _ _ ?_
    refine e_ret ?_
    obtain rfl := Option.some.inj h
    exact ⟨_, res1 rfl rfl, _, rfl, hS⟩
  · replace h := (if_neg (not_true hc416)).symm.trans h
    refine e_skip ?_
    refine hK414 _ _ ?_
    refine e_seq fun K418 hK418 => ?_
    refine e_seq fun K419 hK419 => ?_
    refine e_region_text rfl ?_
    refine q_move rfl rfl ?_
    refine q_lenS rfl f1 rfl ?_
    refine q_move rfl rfl ?_
    refine eseq_nil ?_
    refine hK419 _ _ ?_
    refine e_block ?_
    obtain ⟨tl420, ht420, h⟩ := Option.of_bind h
    have hX420_0 : ∀ (R486 : Nat → Prop) (w487 : World) (E_ : Env), orphan_Consistent_K1 fuel a0 a1 = some r → Sep F R R486 w w487 [] → IsSlice (Ty.slice evtTy) w487 R486 v1 a0 → IsSlice Ty.int w487 R486 v2 a1 → Sub [(0, v1), (1, v2)] E_ → K418 E_ w487 := by
      intro R486 w487 E_ h hS f488 f489 hsub
      refine hK418 _ _ (e_sub hsub ?_); clear hsub
      unfold orphan_Consistent_K1 at h
      refine e_seq fun K490 hK490 => ?_
      refine e_seq fun K491 hK491 => ?_
      refine e_region_text rfl ?_
      refine q_move rfl rfl ?_
      refine q_lenS rfl f488 rfl ?_
      refine q_move rfl rfl ?_
      refine eseq_nil ?_
      refine hK491 _ _ ?_
      refine e_block ?_
      obtain ⟨tl492, ht492, h⟩ := Option.of_bind h
      have hX492_2 : ∀ (R704 : Nat → Prop) (w705 : World) (E_ : Env), orphan_Consistent_K2 fuel = some r → Sep F R R704 w w705 [] → Sub [] E_ → K490 E_ w705 := by
        intro R704 w705 E_ h hS  hsub
        refine hK490 _ _ (e_sub hsub ?_); clear hsub
        unfold orphan_Consistent_K2 at h
        refine e_seq fun K706 hK706 => ?_
        refine e_region_text rfl ?_
        refine q_assign rfl rfl ?_
        refine eseq_nil ?_
        refine hK706 _ _ ?_
        refine e_ret ?_
        obtain rfl := Option.some.inj h
        exact ⟨_, res1 rfl rfl, _, rfl, hS⟩
      refine e_loop (fun m_ E_ w599 => ∃ (x603 : Int), ∃ (R598 : Nat → Prop), iter (fun s => orphan_Consistent_B1 fuel a0 a1 s) m_ x603 = some tl492 ∧ Sep F R R598 w w599 [] ∧ IsSlice (Ty.slice evtTy) w599 R598 v1 a0 ∧ IsSlice Ty.int w599 R598 v2 a1 ∧ IsSlice (Ty.slice evtTy) w599 R598 v1 a0 ∧ E_ = [(0, v1), (1, v2), (38, v1), (39, .int .i64 (a0.length : Int)), (40, .int .i64 x603)]) _ ⟨_, ⟨0, _, ht492, hS, f488, f489, f488, rfl⟩, Sub.cons rfl (Sub.cons rfl (Sub.cons rfl (Sub.cons rfl (Sub.cons rfl (Sub.nil _)))))⟩ ?_
      clear ht492 hS
      rintro m492 _ w599 ⟨x603, R598, ht492, hS, f600, f601, f602, rfl⟩
      obtain ⟨m492, rfl, o492, ho492, ht492⟩ := iter_some ht492
      replace ho492 : orphan_Consistent_B1 fuel a0 a1 x603 = some o492 := ho492
      unfold orphan_Consistent_B1 at ho492
      refine e_seq fun K707 hK707 => ?_
      refine e_region_text rfl ?_
      refine q_lss rfl rfl rfl ?_
      refine eseq_nil ?_
      refine hK707 _ _ ?_
      refine e_seq fun K708 hK708 => ?_
      refine e_cond rfl (fun hc709 => ?_) (fun hc709 => ?_)
      · replace ho492 := (if_pos hc709).symm.trans ho492
        refine e_skip ?_
        refine hK708 _ _ ?_
        refine e_seq fun K710 hK710 => ?_
        refine e_block ?_
        refine e_seq fun K711 hK711 => ?_
        refine e_region_text rfl ?_
        refine q_move rfl rfl ?_
        obtain ⟨x712, hx712, ho492⟩ := Option.of_bind ho492
        refine q_atS (by infer_instance) rfl f602 rfl hx712 rfl fun b713 o713 hm713 f713 => ?_
        refine q_loadE rfl f713 rfl (fun v714 f714 => ?_)
        refine q_assign rfl rfl ?_
        refine q_assign rfl rfl ?_
        refine eseq_nil ?_
        refine hK711 _ _ ?_
        refine e_seq fun K715 hK715 => ?_
        refine e_region_text rfl ?_
        refine q_move rfl rfl ?_
        refine q_move rfl rfl ?_
        refine q_move rfl rfl ?_
        obtain ⟨x716, hx716, ho492⟩ := Option.of_bind ho492
        refine q_atS (by infer_instance) rfl f601 rfl hx716 rfl fun b717 o717 hm717 f717 => ?_
        refine q_load rfl (Elt.intCell f717) rfl ?_
        obtain ⟨x719, hx719, ho492⟩ := Option.of_bind ho492
        refine q_takeS (by infer_instance) rfl f714 rfl hx719 rfl fun v718 f718 => ?_
        refine q_lenS rfl f718 rfl ?_
        refine q_move rfl rfl ?_
        refine eseq_nil ?_
        refine hK715 _ _ ?_
        refine e_block ?_
        obtain ⟨tl720, ht720, ho492⟩ := Option.of_bind ho492
        have hX720_4 : ∀ (R780 : Nat → Prop) (w781 : World) (E_ : Env), orphan_Consistent_K3 fuel x603 = some o492 → Sep F R R780 w w781 [] → IsSlice (Ty.slice evtTy) w781 R780 v1 a0 → IsSlice Ty.int w781 R780 v2 a1 → IsSlice (Ty.slice evtTy) w781 R780 v1 a0 → Sub [(0, v1), (1, v2), (38, v1), (39, .int .i64 (a0.length : Int)), (40, .int .i64 x603)] E_ → K710 E_ w781 := by
          intro R780 w781 E_ ho492 hS f782 f783 f784 hsub
          refine hK710 _ _ (e_sub hsub ?_); clear hsub
          unfold orphan_Consistent_K3 at ho492
          refine e_region_text rfl ?_
          refine q_addW rfl rfl rfl ?_
          refine q_move rfl rfl ?_
          refine eseq_nil ?_
          obtain rfl := Option.some.inj ho492
          exact ⟨m492, _, Nat.lt_succ_self _, ⟨(w64 (x603 + 1)), _, ht492, hS, f782, f783, f784, rfl⟩, Sub.cons rfl (Sub.cons rfl (Sub.cons rfl (Sub.cons rfl (Sub.cons rfl (Sub.nil _)))))⟩
        refine e_loop (fun m_ E_ w751 => ∃ (x756 : Int), ∃ (R750 : Nat → Prop), iter (fun s => orphan_Consistent_B2 fuel x719 a0 a1 x603 s) m_ x756 = some tl720 ∧ Sep F R R750 w w751 [] ∧ IsSlice (Ty.slice evtTy) w751 R750 v1 a0 ∧ IsSlice Ty.int w751 R750 v2 a1 ∧ IsSlice (Ty.slice evtTy) w751 R750 v1 a0 ∧ IsSlice evtTy w751 R750 v718 x719 ∧ E_ = [(0, v1), (1, v2), (7, .int .i64 x603), (38, v1), (39, .int .i64 (a0.length : Int)), (40, .int .i64 x603), (50, v718), (51, .int .i64 (x719.length : Int)), (52, .int .i64 x756)]) _ ⟨_, ⟨0, _, ht720, hS, f600, f601, f602, f718, rfl⟩, Sub.cons rfl (Sub.cons rfl (Sub.cons rfl (Sub.cons rfl (Sub.cons rfl (Sub.cons rfl (Sub.cons rfl (Sub.cons rfl (Sub.cons rfl (Sub.nil _)))))))))⟩ ?_
        clear ht720 hS
        rintro m720 _ w751 ⟨x756, R750, ht720, hS, f752, f753, f754, f755, rfl⟩
        obtain ⟨m720, rfl, o720, ho720, ht720⟩ := iter_some ht720
        replace ho720 : orphan_Consistent_B2 fuel x719 a0 a1 x603 x756 = some o720 := ho720
        unfold orphan_Consistent_B2 at ho720
        refine e_seq fun K785 hK785 => ?_
        refine e_region_text rfl ?_
        refine q_lss rfl rfl rfl ?_
        refine eseq_nil ?_
        refine hK785 _ _ ?_
        refine e_seq fun K786 hK786 => ?_
        refine e_cond rfl (fun hc787 => ?_) (fun hc787 => ?_)
        · replace ho720 := (if_pos hc787).symm.trans ho720
          refine e_skip ?_
          refine hK786 _ _ ?_
          refine e_seq fun K788 hK788 => ?_
          refine e_block ?_
          refine e_seq fun K789 hK789 => ?_
          refine e_region_text rfl ?_
          obtain ⟨x790, hx790, ho720⟩ := Option.of_bind ho720
          refine q_atS (by infer_instance) rfl f755 rfl hx790 rfl fun b791 o791 hm791 f791 => ?_
          have hc792 := Evt_open f791
          refine q_loadAgg rfl hc792 rfl rfl ?_
          refine q_allocB rfl fun w793 bl793 hg793 hb793 hB793 => ?_
          replace f752 := f752.ext hB793
          replace f753 := f753.ext hB793
          replace f754 := f754.ext hB793
          replace f755 := f755.ext hB793
          replace hS := hS.newBlk hB793 hg793 hb793
          refine q_storeAgg rfl rfl (hS.blk 0 rfl) rfl (Nat.le_of_ble_eq_true rfl) (all_cons rfl (all_cons rfl (all_cons rfl (all_cons rfl (all_cons rfl (all_cons rfl (all_cons rfl (all_nil)))))))) rfl rfl fun w795 hb795 hO795 => ?_
          simp only [setN, List.set, List.take, List.drop] at hb795
          have hk795 := hS.keptBlk 0 rfl hO795
          replace f752 := f752.kept hk795
          replace f753 := f753.kept hk795
          replace f754 := f754.kept hk795
          replace f755 := f755.kept hk795
          replace hS := hS.setBlk 0 rfl hb795 hO795; simp only [List.set] at hS
          refine eseq_nil ?_
          refine hK789 _ _ ?_
          refine e_seq fun K796 hK796 => ?_
          refine e_region_text rfl ?_
          refine q_move rfl rfl ?_
          refine q_move rfl rfl ?_
          refine q_move rfl rfl ?_
          refine q_loadAgg rfl (Blk.cellsAt (hS.blk 0 rfl) 0 7 rfl) rfl rfl ?_
          obtain ⟨r798, hr798, ho720⟩ := Option.of_bind ho720
          refine q_call rfl (orphan_fits_w (a3 := (⟨x790.kind, x790.inc, x790.frm, (⟨x790.sent.inc, x790.sent.index⟩ : Lab), x790.ord, x790.value⟩ : Evt)) (Sep.enter (As := []) hS) f752 f753 hr798) rfl ?_
          rintro _ w797 ⟨R797, rfl, hC797⟩
          have hB797 : Below (World.heap w795).size w795 w797 := hC797.stepB0
          refine ⟨fun _ => .of_below hB797, ?_⟩
          replace f752 := (f752.ext hB797).mono fun k hk _ => hC797.ro0 k hk
          replace f753 := (f753.ext hB797).mono fun k hk _ => hC797.ro0 k hk
          replace f754 := (f754.ext hB797).mono fun k hk _ => hC797.ro0 k hk
          replace f755 := (f755.ext hB797).mono fun k hk _ => hC797.ro0 k hk
          replace hS := Sep.leave (As := []) hS hC797; simp only [List.cons_append, List.nil_append] at hS
          refine q_not rfl rfl ?_
          refine eseq_nil ?_
          refine hK796 _ _ ?_
          refine e_cond rfl (fun hc799 => ?_) (fun hc799 => ?_)
          · replace ho720 := (if_pos hc799).symm.trans ho720
            refine e_seq fun K800 hK800 => ?_
            refine e_region_text rfl ?_
            refine q_assign rfl rfl ?_
            refine eseq_nil ?_
            refine hK800 _ _ ?_
            refine e_ret ?_
            obtain rfl := Option.some.inj ho720
            obtain rfl := Option.some.inj ht720
            obtain rfl := Option.some.inj ho492
            obtain rfl := Option.some.inj ht492
            obtain rfl := Option.some.inj h
            exact ⟨_, res1 rfl rfl, _, rfl, (hS.pickB [] 1 rfl rfl)⟩
          · replace ho720 := (if_neg (not_true hc799)).symm.trans ho720
            refine e_skip ?_
            refine hK788 _ _ ?_
            refine e_region_text rfl ?_
            refine q_addW rfl rfl rfl ?_
            refine q_move rfl rfl ?_
            refine eseq_nil ?_
            obtain rfl := Option.some.inj ho720
            exact ⟨m720, _, Nat.lt_succ_self _, ⟨(w64 (x756 + 1)), _, ht720, (hS.pickB [] 1 rfl rfl), f752, f753, f754, f755, rfl⟩, Sub.cons rfl (Sub.cons rfl (Sub.cons rfl (Sub.cons rfl (Sub.cons rfl (Sub.cons rfl (Sub.cons rfl (Sub.cons rfl (Sub.cons rfl (Sub.nil _)))))))))⟩
        · replace ho720 := (if_neg (not_true hc787)).symm.trans ho720
          refine e_exit ?_
          obtain rfl := Option.some.inj ho720
          obtain rfl := Option.some.inj ht720
          exact hX720_4  _ _ _ ho492 hS f752 f753 f754 (Sub.cons rfl (Sub.cons rfl (Sub.cons rfl (Sub.cons rfl (Sub.cons rfl (Sub.nil _))))))
      · replace ho492 := (if_neg (not_true hc709)).symm.trans ho492
        refine e_exit ?_
        obtain rfl := Option.some.inj ho492
        obtain rfl := Option.some.inj ht492
        exact hX492_2  _ _ _ h hS  (Sub.nil _)
    refine e_loop (fun m_ E_ w454 => ∃ (x458 : Int), ∃ (R453 : Nat → Prop), iter (fun s => orphan_Consistent_B3 fuel a0 a1 s) m_ x458 = some tl420 ∧ Sep F R R453 w w454 [] ∧ IsSlice (Ty.slice evtTy) w454 R453 v1 a0 ∧ IsSlice Ty.int w454 R453 v2 a1 ∧ IsSlice (Ty.slice evtTy) w454 R453 v1 a0 ∧ E_ = [(0, v1), (1, v2), (16, v1), (17, .int .i64 (a0.length : Int)), (18, .int .i64 x458)]) _ ⟨_, ⟨0, _, ht420, hS, f1, f2, f1, rfl⟩, Sub.cons rfl (Sub.cons rfl (Sub.cons rfl (Sub.cons rfl (Sub.cons rfl (Sub.nil _)))))⟩ ?_
    clear ht420 hS
    rintro m420 _ w454 ⟨x458, R453, ht420, hS, f455, f456, f457, rfl⟩
    obtain ⟨m420, rfl, o420, ho420, ht420⟩ := iter_some ht420
    replace ho420 : orphan_Consistent_B3 fuel a0 a1 x458 = some o420 := ho420
    unfold orphan_Consistent_B3 at ho420
    refine e_seq fun K801 hK801 => ?_
    refine e_region_text rfl ?_
    refine q_lss rfl rfl rfl ?_
    refine eseq_nil ?_
    refine hK801 _ _ ?_
    refine e_seq fun K802 hK802 => ?_
    refine e_cond rfl (fun hc803 => ?_) (fun hc803 => ?_)
    · replace ho420 := (if_pos hc803).symm.trans ho420
      refine e_skip ?_
      refine hK802 _ _ ?_
      refine e_seq fun K804 hK804 => ?_
      refine e_block ?_
      refine e_seq fun K805 hK805 => ?_
      refine e_region_text rfl ?_
      refine q_move rfl rfl ?_
      obtain ⟨x806, hx806, ho420⟩ := Option.of_bind ho420
      refine q_atS (by infer_instance) rfl f457 rfl hx806 rfl fun b807 o807 hm807 f807 => ?_
      refine q_loadE rfl f807 rfl (fun v808 f808 => ?_)
      refine q_assign rfl rfl ?_
      refine q_assign rfl rfl ?_
      refine eseq_nil ?_
      refine hK805 _ _ ?_
      refine e_seq fun K809 hK809 => ?_
      refine e_region_text rfl ?_
      refine q_move rfl rfl ?_
      refine q_move rfl rfl ?_
      obtain ⟨x810, hx810, ho420⟩ := Option.of_bind ho420
      refine q_atS (by infer_instance) rfl f456 rfl hx810 rfl fun b811 o811 hm811 f811 => ?_
      refine q_load rfl (Elt.intCell f811) rfl ?_
      refine q_lss rfl rfl rfl ?_
      refine q_move rfl rfl ?_
      obtain ⟨x817, hx816, ho420⟩ := Option.of_bind ho420
      refine g_orM 7 hx816 rfl trivial rfl rfl ?_ ?_ ?_
      · intro hg816
        refine g_skip rfl rfl rfl ?_
        refine g_skip rfl rfl rfl ?_
        refine g_skip rfl rfl rfl ?_
        refine g_skip rfl rfl rfl ?_
        refine g_skip rfl rfl rfl ?_
        refine g_skip rfl rfl rfl ?_
        refine g_skip rfl rfl rfl ?_
        exact eseq_nil ⟨rfl, Sub.set rfl (Sub.set rfl (Sub.set rfl (Sub.set rfl (Sub.set rfl (Sub.set rfl (Sub.set rfl (Sub.bool true rfl hg816)))))))⟩
      · intro hg816 hx816
        clear ho420
        have hT816 := Below.refl (World.heap w454).size w454
        refine g_run rfl ?_; refine q_move rfl rfl ?_
        refine g_run rfl ?_; refine q_move rfl rfl ?_
        obtain ⟨x818, hx818, hx816⟩ := Option.of_bind hx816
        refine g_run rfl ?_; refine q_atS (by infer_instance) rfl f456 rfl hx818 rfl fun b819 o819 hm819 f819 => ?_
        refine g_run rfl ?_; refine q_load rfl (Elt.intCell f819) rfl ?_
        refine g_run rfl ?_; refine q_move rfl rfl ?_
        refine g_run rfl ?_; refine q_lenS rfl f808 rfl ?_
        refine g_run rfl ?_; refine q_gtr rfl rfl rfl ?_
        cases hx816
        exact eseq_nil ⟨hT816, Sub.set rfl (Sub.set rfl (Sub.set rfl (Sub.set rfl (Sub.set rfl (Sub.set rfl (Sub.set rfl (Sub.bool false rfl hg816))))))), rfl⟩
      intro wm816 hBm816; clear hx816
      replace hS := hS.below hBm816
      replace f455 := f455.ext hBm816
      replace f456 := f456.ext hBm816
      replace f457 := f457.ext hBm816
      refine eseq_nil ?_
      refine hK809 _ _ ?_
      refine e_cond rfl (fun hc820 => ?_) (fun hc820 => ?_)
      · replace ho420 := (if_pos hc820).symm.trans ho420
        refine e_seq fun K821 hK821 => ?_
        refine e_region_text rfl ?_
        refine q_assign rfl rfl ?_
        refine eseq_nil ?_
        refine hK821 _ _ ?_
        refine e_ret ?_
        obtain rfl := Option.some.inj ho420
        obtain rfl := Option.some.inj ht420
        obtain rfl := Option.some.inj h
        exact ⟨_, res1 rfl rfl, _, rfl, hS⟩
      · replace ho420 := (if_neg (not_true hc820)).symm.trans ho420
        refine e_skip ?_
        refine hK804 _ _ ?_
        refine e_region_text rfl ?_
        refine q_addW rfl rfl rfl ?_
        refine q_move rfl rfl ?_
        refine eseq_nil ?_
        obtain rfl := Option.some.inj ho420
        exact ⟨m420, _, Nat.lt_succ_self _, ⟨(w64 (x458 + 1)), _, ht420, hS, f455, f456, f457, rfl⟩, Sub.cons rfl (Sub.cons rfl (Sub.cons rfl (Sub.cons rfl (Sub.cons rfl (Sub.nil _)))))⟩
    · replace ho420 := (if_neg (not_true hc803)).symm.trans ho420
      refine e_exit ?_
      obtain rfl := Option.some.inj ho420
      obtain rfl := Option.some.inj ht420
      exact hX420_0  _ _ _ h hS f455 f456 (Sub.cons rfl (Sub.cons rfl (Sub.nil _)))
theorem ref23_SameInts_w {F R : Nat → Prop} {w : World} {fuel : Nat} {a0 : (List Int)} {a1 : (List Int)} {v1 : Value} {v2 : Value} {r : (Bool)} (hS : Sep F R R w w []) (f1 : IsSlice Ty.int w R v1 a0) (f2 : IsSlice Ty.int w R v2 a1) (h : ref23_SameInts fuel a0 a1 = some r) :
    Gives Try.prog 25 [v1, v2] w fun u w1 => ∃ (R1 : Nat → Prop), u = .bool r ∧ Sep F R R1 w w1 [] := by
  refine fn_of Try.func25 rfl Try.ntmps25 (Nat.le_of_ble_eq_true rfl) ?_
  unfold ref23_SameInts at h
  refine e_seq fun K67 hK67 => ?_
  refine e_region_text rfl ?_
  refine q_assign rfl rfl ?_
  refine eseq_nil ?_
  refine hK67 _ _ ?_
  refine e_seq fun K68 hK68 => ?_
  refine e_seq fun K69 hK69 => ?_
  refine e_region_text rfl ?_
  refine q_move rfl rfl ?_
  refine q_lenS rfl f1 rfl ?_
  refine q_move rfl rfl ?_
  refine q_lenS rfl f2 rfl ?_
  refine q_neq rfl rfl rfl ?_
  refine eseq_nil ?_
  refine hK69 _ _ ?_
  refine e_cond rfl (fun hc70 => ?_) (fun hc70 => ?_)
  · replace h := (if_pos hc70).symm.trans h
    refine e_seq fun K71 hK71 => ?_
    refine e_region_text rfl ?_
    refine q_assign rfl rfl ?_
    refine eseq_nil ?_
    refine hK71 _ _ ?_
    refine e_ret ?_
    obtain rfl := Option.some.inj h
    exact ⟨_, res1 rfl rfl, _, rfl, hS⟩
  · replace h := (if_neg (not_true hc70)).symm.trans h
    refine e_skip ?_
    refine hK68 _ _ ?_
    refine e_seq fun K72 hK72 => ?_
    refine e_seq fun K73 hK73 => ?_
    refine e_region_text rfl ?_
    refine q_assign rfl rfl ?_
    refine eseq_nil ?_
    refine hK73 _ _ ?_
    refine e_block ?_
    obtain ⟨tl74, ht74, h⟩ := Option.of_bind h
    have hX74_0 : ∀ (R116 : Nat → Prop) (w117 : World) (E_ : Env), ref23_SameInts_K1 fuel = some r → Sep F R R116 w w117 [] → Sub [] E_ → K72 E_ w117 := by
      intro R116 w117 E_ h hS  hsub
      refine hK72 _ _ (e_sub hsub ?_); clear hsub
      unfold ref23_SameInts_K1 at h
      refine e_seq fun K118 hK118 => ?_
      refine e_region_text rfl ?_
      refine q_assign rfl rfl ?_
      refine eseq_nil ?_
      refine hK118 _ _ ?_
      refine e_ret ?_
      obtain rfl := Option.some.inj h
      exact ⟨_, res1 rfl rfl, _, rfl, hS⟩
    refine e_loop (fun m_ E_ w96 => ∃ (x99 : Int), ∃ (R95 : Nat → Prop), iter (fun s => ref23_SameInts_B1 fuel a0 a1 s) m_ x99 = some tl74 ∧ Sep F R R95 w w96 [] ∧ IsSlice Ty.int w96 R95 v1 a0 ∧ IsSlice Ty.int w96 R95 v2 a1 ∧ E_ = [(0, v1), (1, v2), (5, .int .i64 x99)]) _ ⟨_, ⟨0, _, ht74, hS, f1, f2, rfl⟩, Sub.cons rfl (Sub.cons rfl (Sub.cons rfl (Sub.nil _)))⟩ ?_
    clear ht74 hS
    rintro m74 _ w96 ⟨x99, R95, ht74, hS, f97, f98, rfl⟩
    obtain ⟨m74, rfl, o74, ho74, ht74⟩ := iter_some ht74
    replace ho74 : ref23_SameInts_B1 fuel a0 a1 x99 = some o74 := ho74
    unfold ref23_SameInts_B1 at ho74
    refine e_seq fun K119 hK119 => ?_
    refine e_seq fun K120 hK120 => ?_
    refine e_region_text rfl ?_
    refine q_move rfl rfl ?_
    refine q_move rfl rfl ?_
    refine q_lenS rfl f97 rfl ?_
    refine q_lss rfl rfl rfl ?_
    refine eseq_nil ?_
    refine hK120 _ _ ?_
    refine e_cond rfl (fun hc121 => ?_) (fun hc121 => ?_)
    · replace ho74 := (if_pos hc121).symm.trans ho74
      refine e_skip ?_
      refine hK119 _ _ ?_
      refine e_seq fun K122 hK122 => ?_
      refine e_block ?_
      refine e_seq fun K123 hK123 => ?_
      refine e_region_draw mixed (fun _ => False) [0, 0, 3, 7, 0, 0, 48, 112, 255] [] [0, 1, 2, 3, 4, 5, 6, 7, 8] (by kernel_rfl) ?_
      refine q_move rfl rfl ?_
      refine q_move rfl rfl ?_
      obtain ⟨x124, hx124, ho74⟩ := Option.of_bind ho74
      refine q_atS (by infer_instance) rfl f97 rfl hx124 rfl fun b125 o125 hm125 f125 => ?_
      refine q_load rfl (Elt.intCell f125) rfl ?_
      refine q_move rfl rfl ?_
      refine q_move rfl rfl ?_
      obtain ⟨x126, hx126, ho74⟩ := Option.of_bind ho74
      refine q_atS (by infer_instance) rfl f98 rfl hx126 rfl fun b127 o127 hm127 f127 => ?_
      refine q_load rfl (Elt.intCell f127) rfl ?_
      refine q_neq rfl rfl rfl ?_
      refine eseq_nil ?_
      refine hK123 _ _ ?_
      refine e_cond rfl (fun hc128 => ?_) (fun hc128 => ?_)
      · replace ho74 := (if_pos hc128).symm.trans ho74
        refine e_seq fun K129 hK129 => ?_
        refine e_region_text rfl ?_
        refine q_assign rfl rfl ?_
        refine eseq_nil ?_
        refine hK129 _ _ ?_
        refine e_ret ?_
        obtain rfl := Option.some.inj ho74
        obtain rfl := Option.some.inj ht74
        obtain rfl := Option.some.inj h
        exact ⟨_, res1 rfl rfl, _, rfl, hS⟩
      · replace ho74 := (if_neg (not_true hc128)).symm.trans ho74
        refine e_skip ?_
        refine hK122 _ _ ?_
        refine e_region_text rfl ?_
        refine q_move rfl rfl ?_
        refine q_addW rfl rfl rfl ?_
        refine q_assign rfl rfl ?_
        refine eseq_nil ?_
        obtain rfl := Option.some.inj ho74
        exact ⟨m74, _, Nat.lt_succ_self _, ⟨(w64 (x99 + 1)), _, ht74, hS, f97, f98, rfl⟩, Sub.cons rfl (Sub.cons rfl (Sub.cons rfl (Sub.nil _)))⟩
    · replace ho74 := (if_neg (not_true hc121)).symm.trans ho74
      refine e_exit ?_
      obtain rfl := Option.some.inj ho74
      obtain rfl := Option.some.inj ht74
      exact hX74_0  _ _ _ h hS  (Sub.nil _)
theorem orphan_Lower_1_w {F R : Nat → Prop} {w : World} {fuel : Nat} {a0 : Evt} {c1_0 : (List (List Evt))} {c2_0 : (List Int)} {c3_0 : Int} {B1 : Nat} {v2 : Value} {B2 : Nat} {v4 : Value} {B3 : Nat} {r : (Bool)} (hS : Sep F R R w w []) (f1 : Lent w R B1 [v2] 55) (f2 : IsSlice (Ty.slice evtTy) w R v2 c1_0) (f3 : Lent w R B2 [v4] 27) (f4 : IsSlice Ty.int w R v4 c2_0) (f5 : Lent w R B3 [.int .i64 c3_0] 3) (h : orphan_Lower_1 fuel a0 c1_0 c2_0 c3_0 = some r) :
    Gives Try.prog 78 [.agg #[.int .i64 a0.kind, .int .i64 a0.inc, .int .i64 a0.frm, .int .i64 a0.sent.inc, .int .i64 a0.sent.index, .int .i64 a0.ord, .int .i64 a0.value], .pointer (some ⟨B1, 0, none⟩), .pointer (some ⟨B2, 0, none⟩), .pointer (some ⟨B3, 0, none⟩)] w fun u w1 => ∃ (R1 : Nat → Prop), u = .bool r ∧ Sep F R R1 w w1 [] := by
  refine fn_of Try.func78 rfl Try.ntmps78 (Nat.le_of_ble_eq_true rfl) ?_
  unfold orphan_Lower_1 at h
  refine e_seq fun K12 hK12 => ?_
  refine e_region_text rfl ?_
  refine q_boxB rfl rfl rfl fun w13 bl13 hg13 hb13 hB13 => ?_
  replace f1 := f1.ext hB13
  replace f2 := f2.ext hB13
  replace f3 := f3.ext hB13
  replace f4 := f4.ext hB13
  replace f5 := f5.ext hB13
  replace hS := hS.newBlk hB13 hg13 hb13
  refine q_assign rfl rfl ?_
  refine eseq_nil ?_
  refine hK12 _ _ ?_
  refine e_seq fun K15 hK15 => ?_
  refine e_region_text rfl ?_
  refine q_load rfl (Blk.cell f1.blk rfl) rfl ?_
  refine q_load rfl (Blk.cell f3.blk rfl) rfl ?_
  refine q_load rfl (Blk.cell f5.blk rfl) rfl ?_
  refine q_loadAgg rfl (Blk.cellsAt (hS.blk 0 rfl) 0 7 rfl) rfl rfl ?_
  obtain ⟨r17, hr17, h⟩ := Option.of_bind h
  refine q_call rfl (orphan_fits_w (a3 := (⟨a0.kind, a0.inc, a0.frm, (⟨a0.sent.inc, a0.sent.index⟩ : Lab), a0.ord, a0.value⟩ : Evt)) (Sep.enter (As := []) hS) f2 f4 hr17) rfl ?_
  rintro _ w16 ⟨R16, rfl, hC16⟩
  have hB16 : Below (World.heap w13).size w13 w16 := hC16.stepB0
  refine ⟨fun _ => .of_below hB16, ?_⟩
  replace f2 := (f2.ext hB16).mono fun k hk _ => hC16.ro0 k hk
  replace f4 := (f4.ext hB16).mono fun k hk _ => hC16.ro0 k hk
  replace hS := Sep.leave (As := []) hS hC16; simp only [List.cons_append, List.nil_append] at hS
  refine q_not rfl rfl ?_
  refine q_assign rfl rfl ?_
  refine eseq_nil ?_
  refine hK15 _ _ ?_
  refine e_ret ?_
  obtain rfl := Option.some.inj h
  exact ⟨_, res1 rfl rfl, _, rfl, (hS.pickB [] 1 rfl rfl)⟩
theorem slices_IndexFunc_w {F R : Nat → Prop} {w : World} {fuel : Nat} {a0 : (List Evt)} {c1a_0 : (List (List Evt))} {c1b_0 : (List Int)} {c1c_0 : Int} {v1 : Value} {B1_0 : Nat} {v3 : Value} {B1_1 : Nat} {v5 : Value} {B1_2 : Nat} {r : (Int)} (hS : Sep F R R w w []) (f1 : IsSlice evtTy w R v1 a0) (f2 : Lent w R B1_0 [v3] 55) (f3 : IsSlice (Ty.slice evtTy) w R v3 c1a_0) (f4 : Lent w R B1_1 [v5] 27) (f5 : IsSlice Ty.int w R v5 c1b_0) (f6 : Lent w R B1_2 [.int .i64 c1c_0] 3) (h : slices_IndexFunc fuel a0 c1a_0 c1b_0 c1c_0 = some r) :
    Gives Try.prog 77 [v1, .func (.func 78) #[] #[.pointer (some ⟨B1_0, 0, none⟩), .pointer (some ⟨B1_1, 0, none⟩), .pointer (some ⟨B1_2, 0, none⟩)]] w fun u w1 => ∃ (R1 : Nat → Prop), u = .int .i64 r ∧ Sep F R R1 w w1 [] := by
  refine fn_of Try.func77 rfl Try.ntmps77 (Nat.le_of_ble_eq_true rfl) ?_
  unfold slices_IndexFunc at h
  refine e_seq fun K89 hK89 => ?_
  refine e_region_text rfl ?_
  refine q_assign rfl rfl ?_
  refine eseq_nil ?_
  refine hK89 _ _ ?_
  refine e_seq fun K90 hK90 => ?_
  refine e_seq fun K91 hK91 => ?_
  refine e_region_text rfl ?_
  refine q_move rfl rfl ?_
  refine q_lenS rfl f1 rfl ?_
  refine q_move rfl rfl ?_
  refine eseq_nil ?_
  refine hK91 _ _ ?_
  refine e_block ?_
  obtain ⟨tl92, ht92, h⟩ := Option.of_bind h
  have hX92_0 : ∀ (R154 : Nat → Prop) (w155 : World) (E_ : Env), slices_IndexFunc_K1 fuel = some r → Sep F R R154 w w155 [] → Sub [] E_ → K90 E_ w155 := by
    intro R154 w155 E_ h hS  hsub
    refine hK90 _ _ (e_sub hsub ?_); clear hsub
    unfold slices_IndexFunc_K1 at h
    refine e_seq fun K156 hK156 => ?_
    refine e_region_text rfl ?_
    refine q_assign rfl rfl ?_
    refine eseq_nil ?_
    refine hK156 _ _ ?_
    refine e_ret ?_
    obtain rfl := Option.some.inj h
    exact ⟨_, res1 rfl rfl, _, rfl, hS⟩
  refine e_loop (fun m_ E_ w124 => ∃ (x131 : Int), ∃ (R123 : Nat → Prop), iter (fun s => slices_IndexFunc_B1 fuel a0 c1a_0 c1b_0 c1c_0 s) m_ x131 = some tl92 ∧ Sep F R R123 w w124 [] ∧ IsSlice evtTy w124 R123 v1 a0 ∧ Lent w124 R123 B1_0 [v3] 55 ∧ IsSlice (Ty.slice evtTy) w124 R123 v3 c1a_0 ∧ Lent w124 R123 B1_1 [v5] 27 ∧ IsSlice Ty.int w124 R123 v5 c1b_0 ∧ Lent w124 R123 B1_2 [.int .i64 c1c_0] 3 ∧ E_ = [(0, v1), (1, .func (.func 78) #[] #[.pointer (some ⟨B1_0, 0, none⟩), .pointer (some ⟨B1_1, 0, none⟩), .pointer (some ⟨B1_2, 0, none⟩)]), (7, .int .i64 (a0.length : Int)), (8, .int .i64 x131)]) _ ⟨_, ⟨0, _, ht92, hS, f1, f2, f3, f4, f5, f6, rfl⟩, Sub.cons rfl (Sub.cons rfl (Sub.cons rfl (Sub.cons rfl (Sub.nil _))))⟩ ?_
  clear ht92 hS
  rintro m92 _ w124 ⟨x131, R123, ht92, hS, f125, f126, f127, f128, f129, f130, rfl⟩
  obtain ⟨m92, rfl, o92, ho92, ht92⟩ := iter_some ht92
  replace ho92 : slices_IndexFunc_B1 fuel a0 c1a_0 c1b_0 c1c_0 x131 = some o92 := ho92
  unfold slices_IndexFunc_B1 at ho92
  refine e_seq fun K157 hK157 => ?_
  refine e_region_text rfl ?_
  refine q_lss rfl rfl rfl ?_
  refine eseq_nil ?_
  refine hK157 _ _ ?_
  refine e_seq fun K158 hK158 => ?_
  refine e_cond rfl (fun hc159 => ?_) (fun hc159 => ?_)
  · replace ho92 := (if_pos hc159).symm.trans ho92
    refine e_skip ?_
    refine hK158 _ _ ?_
    refine e_seq fun K160 hK160 => ?_
    refine e_block ?_
    refine e_seq fun K161 hK161 => ?_
    refine e_region_text rfl ?_
    refine q_move rfl rfl ?_
    refine q_assign rfl rfl ?_
    refine eseq_nil ?_
    refine hK161 _ _ ?_
    refine e_seq fun K162 hK162 => ?_
    refine e_region_text rfl ?_
    refine q_move rfl rfl ?_
    refine q_move rfl rfl ?_
    refine q_move rfl rfl ?_
    obtain ⟨x163, hx163, ho92⟩ := Option.of_bind ho92
    refine q_atS (by infer_instance) rfl f125 rfl hx163 rfl fun b164 o164 hm164 f164 => ?_
    have hc165 := Evt_open f164
    refine q_loadAgg rfl hc165 rfl rfl ?_
    obtain ⟨r167, hr167, ho92⟩ := Option.of_bind ho92
    refine q_callC rfl rfl (orphan_Lower_1_w (a0 := x163) (Sep.enter (As := []) hS) f126 f127 f128 f129 f130 hr167) rfl ?_
    rintro _ w166 ⟨R166, rfl, hC166⟩
    have hB166 : Below (World.heap w124).size w124 w166 := hC166.stepB0
    refine ⟨fun _ => .of_below hB166, ?_⟩
    replace f125 := (f125.ext hB166).mono fun k hk _ => hC166.ro0 k hk
    replace f126 := (f126.ext hB166).mono fun k hk _ => hC166.ro0 k hk
    replace f127 := (f127.ext hB166).mono fun k hk _ => hC166.ro0 k hk
    replace f128 := (f128.ext hB166).mono fun k hk _ => hC166.ro0 k hk
    replace f129 := (f129.ext hB166).mono fun k hk _ => hC166.ro0 k hk
    replace f130 := (f130.ext hB166).mono fun k hk _ => hC166.ro0 k hk
    replace hS := Sep.leave (As := []) hS hC166; simp only [List.cons_append, List.nil_append] at hS
    refine eseq_nil ?_
    refine hK162 _ _ ?_
    refine e_cond rfl (fun hc168 => ?_) (fun hc168 => ?_)
    · replace ho92 := (if_pos hc168).symm.trans ho92
      refine e_seq fun K169 hK169 => ?_
      refine e_region_text rfl ?_
      refine q_move rfl rfl ?_
      refine q_assign rfl rfl ?_
      refine eseq_nil ?_
      refine hK169 _ _ ?_
      refine e_ret ?_
      obtain rfl := Option.some.inj ho92
      obtain rfl := Option.some.inj ht92
      obtain rfl := Option.some.inj h
      exact ⟨_, res1 rfl rfl, _, rfl, hS⟩
    · replace ho92 := (if_neg (not_true hc168)).symm.trans ho92
      refine e_skip ?_
      refine hK160 _ _ ?_
      refine e_region_text rfl ?_
      refine q_addW rfl rfl rfl ?_
      refine q_move rfl rfl ?_
      refine eseq_nil ?_
      obtain rfl := Option.some.inj ho92
      exact ⟨m92, _, Nat.lt_succ_self _, ⟨(w64 (x131 + 1)), _, ht92, hS, f125, f126, f127, f128, f129, f130, rfl⟩, Sub.cons rfl (Sub.cons rfl (Sub.cons rfl (Sub.cons rfl (Sub.nil _))))⟩
  · replace ho92 := (if_neg (not_true hc159)).symm.trans ho92
    refine e_exit ?_
    obtain rfl := Option.some.inj ho92
    obtain rfl := Option.some.inj ht92
    exact hX92_0  _ _ _ h hS  (Sub.nil _)
theorem orphan_Lower_w {F R : Nat → Prop} {w : World} {fuel : Nat} {a0 : (List (List Evt))} {a1 : (List Int)} {v1 : Value} {v2 : Value} {r : ((List Int))} (hS : Sep F R R w w []) (f1 : IsSlice (Ty.slice evtTy) w R v1 a0) (f2 : IsSlice Ty.int w R v2 a1) (h : orphan_Lower fuel a0 a1 = some r) :
    Gives Try.prog 37 [v1, v2] w fun u w1 => ∃ (v451 : Value), ∃ (R1 : Nat → Prop), u = v451 ∧ Sep F R R1 w w1 [HP.own Ty.int (fun _ => False) 3 v451 r] := by
  refine fn_of Try.func37 rfl Try.ntmps37 (Nat.le_of_ble_eq_true rfl) ?_
  unfold orphan_Lower at h
  refine e_seq fun K452 hK452 => ?_
  refine e_region_text rfl ?_
  refine q_boxB rfl (cells_one f1.one) rfl fun w453 bl453 hg453 hb453 hB453 => ?_
  replace f1 := f1.ext hB453
  replace f2 := f2.ext hB453
  replace hS := hS.newBlk hB453 hg453 hb453
  refine q_assign rfl rfl ?_
  refine eseq_nil ?_
  refine hK452 _ _ ?_
  refine e_scope ?_
  refine e_seq fun K455 hK455 => ?_
  refine e_region_text rfl ?_
  refine q_load rfl (Blk.cell (hS.blk 0 rfl) rfl) rfl ?_
  refine q_lenS rfl f1 rfl ?_
  obtain ⟨x456, hx456, h⟩ := Option.of_bind h
  refine q_makeO (T := Ty.int) (S := (fun _ => False)) rfl rfl rfl hx456 (fun _ h => h.elim) rfl fun w457 v457 ho457 hv457 hB457 => ?_
  replace f2 := f2.ext hB457
  replace f1 := f1.ext hB457
  replace hS := hS.newOwnS hB457 ho457 hv457 (fun _ h => h.elim)
  refine q_allocB rfl fun w459 bl459 hg459 hb459 hB459 => ?_
  replace f2 := f2.ext hB459
  replace f1 := f1.ext hB459
  replace hS := hS.newBlk hB459 hg459 hb459
  refine q_store rfl rfl (hS.blk 0 rfl) (Nat.le_of_ble_eq_true rfl) (hS.own 1 rfl).one rfl rfl fun w461 hb461 hO461 => ?_
  have hk461 := hS.keptBlk 0 rfl hO461
  replace f2 := f2.kept hk461
  replace f1 := f1.kept hk461
  replace hS := hS.setBlk 0 rfl hb461 hO461; simp only [List.set] at hS
  refine eseq_nil ?_
  refine hK455 _ _ ?_
  refine e_seq fun K462 hK462 => ?_
  refine e_seq fun K463 hK463 => ?_
  refine e_region_text rfl ?_
  refine q_load rfl (Blk.cell (hS.blk 2 rfl) rfl) rfl ?_
  refine q_lenS rfl f1 rfl ?_
  refine q_move rfl rfl ?_
  refine q_lenS rfl f2 rfl ?_
  refine q_min rfl rfl rfl ?_
  refine q_move rfl rfl ?_
  refine eseq_nil ?_
  refine hK463 _ _ ?_
  refine e_block ?_
  obtain ⟨tl464, ht464, h⟩ := Option.of_bind h
  have hX464_0 : ∀ (x525 : (List Int)) (v524 : Value) (R520 : Nat → Prop) (w521 : World) (E_ : Env), orphan_Lower_K1 fuel a0 x525 = some r → Sep F R R520 w w521 [HP.blk bl453 [v1] 55, HP.blk bl459 [v524] 27, HP.own Ty.int (fun _ => False) 3 v524 x525] → IsSlice (Ty.slice evtTy) w521 R520 v1 a0 → Sub [(2, .pointer (some ⟨bl453, 0, none⟩)), (5, .pointer (some ⟨bl459, 0, none⟩))] E_ → K462 E_ w521 := by
    intro x525 v524 R520 w521 E_ h hS f522 hsub
    refine hK462 _ _ (e_sub hsub ?_); clear hsub
    unfold orphan_Lower_K1 at h
    refine e_seq fun K526 hK526 => ?_
    refine e_label ?_
    refine hK526 _ _ ?_
    refine e_block ?_
    obtain ⟨tl527, ht527, h⟩ := Option.of_bind h
    refine e_loop (fun m_ E_ w653 => ∃ (x657 : (List Int)), ∃ (v656 : Value), ∃ (R652 : Nat → Prop), iter (fun s => orphan_Lower_B1 fuel a0 s) m_ x657 = some tl527 ∧ Sep F R R652 w w653 [HP.blk bl453 [v1] 55, HP.blk bl459 [v656] 27, HP.own Ty.int (fun _ => False) 3 v656 x657] ∧ IsSlice (Ty.slice evtTy) w653 R652 v1 a0 ∧ E_ = [(2, .pointer (some ⟨bl453, 0, none⟩)), (5, .pointer (some ⟨bl459, 0, none⟩))]) _ ⟨_, ⟨x525, v524, _, ht527, hS, f522, rfl⟩, Sub.cons rfl (Sub.cons rfl (Sub.nil _))⟩ ?_
    clear ht527 hS
    rintro m527 _ w653 ⟨x657, v656, R652, ht527, hS, f654, rfl⟩
    obtain ⟨m527, rfl, o527, ho527, ht527⟩ := iter_some ht527
    replace ho527 : orphan_Lower_B1 fuel a0 x657 = some o527 := ho527
    unfold orphan_Lower_B1 at ho527
    refine e_block ?_
    refine e_seq fun K778 hK778 => ?_
    refine e_seq fun K779 hK779 => ?_
    refine e_region_text rfl ?_
    refine q_load rfl (Blk.cell (hS.blk 0 rfl) rfl) rfl ?_
    refine q_lenS rfl f654 rfl ?_
    refine q_move rfl rfl ?_
    refine eseq_nil ?_
    refine hK779 _ _ ?_
    refine e_block ?_
    obtain ⟨tl780, ht780, ho527⟩ := Option.of_bind ho527
    have hX780_4 : ∀ (R858 : Nat → Prop) (w859 : World) (E_ : Env), orphan_Lower_K3 fuel x657 = some o527 → Sep F R R858 w w859 [HP.blk bl459 [v656] 27, HP.own Ty.int (fun _ => False) 3 v656 x657] → Sub [(5, .pointer (some ⟨bl459, 0, none⟩))] E_ → K778 E_ w859 := by
      intro R858 w859 E_ ho527 hS  hsub
      refine hK778 _ _ (e_sub hsub ?_); clear hsub
      unfold orphan_Lower_K3 at ho527
      refine e_seq fun K861 hK861 => ?_
      refine e_region_text rfl ?_
      refine q_load rfl (Blk.cell (hS.blk 0 rfl) rfl) rfl ?_
      refine q_assign rfl rfl ?_
      refine eseq_nil ?_
      refine hK861 _ _ ?_
      refine e_ret ?_
      obtain rfl := Option.some.inj ho527
      obtain rfl := Option.some.inj ht527
      obtain rfl := Option.some.inj h
      exact ⟨_, res1 rfl rfl, v656, _, rfl, (hS.pickB [1] 2 rfl rfl)⟩
    refine e_loop (fun m_ E_ w817 => ∃ (x821 : Int), ∃ (R816 : Nat → Prop), iter (fun s => orphan_Lower_B2 fuel a0 x657 s) m_ x821 = some tl780 ∧ Sep F R R816 w w817 [HP.blk bl453 [v1] 55, HP.blk bl459 [v656] 27, HP.own Ty.int (fun _ => False) 3 v656 x657] ∧ IsSlice (Ty.slice evtTy) w817 R816 v1 a0 ∧ IsSlice (Ty.slice evtTy) w817 R816 v1 a0 ∧ E_ = [(2, .pointer (some ⟨bl453, 0, none⟩)), (5, .pointer (some ⟨bl459, 0, none⟩)), (36, v1), (37, .int .i64 (a0.length : Int)), (38, .int .i64 x821)]) _ ⟨_, ⟨0, _, ht780, hS, f654, f654, rfl⟩, Sub.cons rfl (Sub.cons rfl (Sub.cons rfl (Sub.cons rfl (Sub.cons rfl (Sub.nil _)))))⟩ ?_
    clear ht780 hS
    rintro m780 _ w817 ⟨x821, R816, ht780, hS, f818, f820, rfl⟩
    obtain ⟨m780, rfl, o780, ho780, ht780⟩ := iter_some ht780
    replace ho780 : orphan_Lower_B2 fuel a0 x657 x821 = some o780 := ho780
    unfold orphan_Lower_B2 at ho780
    refine e_seq fun K862 hK862 => ?_
    refine e_region_text rfl ?_
    refine q_lss rfl rfl rfl ?_
    refine eseq_nil ?_
    refine hK862 _ _ ?_
    refine e_seq fun K863 hK863 => ?_
    refine e_cond rfl (fun hc864 => ?_) (fun hc864 => ?_)
    · replace ho780 := (if_pos hc864).symm.trans ho780
      refine e_skip ?_
      refine hK863 _ _ ?_
      refine e_seq fun K865 hK865 => ?_
      refine e_block ?_
      refine e_seq fun K866 hK866 => ?_
      refine e_region_text rfl ?_
      refine q_move rfl rfl ?_
      obtain ⟨x867, hx867, ho780⟩ := Option.of_bind ho780
      refine q_atS (by infer_instance) rfl f820 rfl hx867 rfl fun b868 o868 hm868 f868 => ?_
      refine q_loadE rfl f868 rfl (fun v869 f869 => ?_)
      refine q_allocB rfl fun w870 bl870 hg870 hb870 hB870 => ?_
      replace f818 := f818.ext hB870
      replace f820 := f820.ext hB870
      replace f869 := f869.ext hB870
      replace hS := hS.newBlk hB870 hg870 hb870
      refine q_store rfl rfl (hS.blk 0 rfl) (Nat.le_of_ble_eq_true rfl) rfl rfl rfl fun w872 hb872 hO872 => ?_
      have hk872 := hS.keptBlk 0 rfl hO872
      replace f818 := f818.kept hk872
      replace f820 := f820.kept hk872
      replace f869 := f869.kept hk872
      replace hS := hS.setBlk 0 rfl hb872 hO872; simp only [List.set] at hS
      refine q_assign rfl rfl ?_
      refine eseq_nil ?_
      refine hK866 _ _ ?_
      refine e_seq fun K873 hK873 => ?_
      refine e_region_text rfl ?_
      refine q_move rfl rfl ?_
      refine q_load rfl (Blk.cell (hS.blk 2 rfl) rfl) rfl ?_
      refine q_load rfl (Blk.cell (hS.blk 0 rfl) rfl) rfl ?_
      obtain ⟨x874, hx874, ho780⟩ := Option.of_bind ho780
      refine q_indexO (by infer_instance) rfl (hS.own 3 rfl) rfl hx874 rfl ?_
      have f875 := (hS.ownR 3 rfl).elt hx874
      refine q_load rfl (Elt.intCell f875) rfl ?_
      obtain ⟨x877, hx877, ho780⟩ := Option.of_bind ho780
      refine q_takeS (by infer_instance) rfl f869 rfl hx877 rfl fun v876 f876 => ?_
      refine q_makeFunc rfl rfl ?_
      obtain ⟨r879, hr879, ho780⟩ := Option.of_bind ho780
      refine q_call rfl (slices_IndexFunc_w (Sep.all w872) (f876).old (Lent.of (hS.blk 1 rfl)) (f818).old (Lent.of (hS.blk 2 rfl)) ((hS.isl 3 rfl)).old (Lent.of (hS.blk 0 rfl)) hr879) rfl ?_
      rintro _ w878 ⟨R878, rfl, hC878⟩
      have hB878 : Below (World.heap w872).size w872 w878 := hC878.stepBF
      refine ⟨fun _ => .of_below hB878, ?_⟩
      replace f818 := f818.ext hB878
      replace f820 := f820.ext hB878
      replace f876 := f876.ext hB878
      replace hS := hS.below hB878
      refine q_assign rfl rfl ?_
      refine eseq_nil ?_
      refine hK873 _ _ ?_
      refine e_seq fun K880 hK880 => ?_
      refine e_region_text rfl ?_
      refine q_move rfl rfl ?_
      refine q_geq rfl rfl rfl ?_
      refine eseq_nil ?_
      refine hK880 _ _ ?_
      refine e_cond rfl (fun hc881 => ?_) (fun hc881 => ?_)
      · replace ho780 := (if_pos hc881).symm.trans ho780
        refine e_seq fun K882 hK882 => ?_
        refine e_region_text rfl ?_
        refine q_load rfl (Blk.cell (hS.blk 2 rfl) rfl) rfl ?_
        refine q_load rfl (Blk.cell (hS.blk 0 rfl) rfl) rfl ?_
        refine q_move rfl rfl ?_
        obtain ⟨x883, hx883, ho780⟩ := Option.of_bind ho780
        refine q_indexO (by infer_instance) rfl (hS.own 3 rfl) rfl hx883 rfl ?_
        obtain ⟨x885, hx885, ho780⟩ := Option.of_bind ho780
        refine q_storeO (T := Ty.int) (j := 0) rfl rfl (hS.own 3 rfl) hx883 hx885 rfl rfl rfl (Enc.setL rfl) fun w884 ho884 hO884 => ?_
        have hk884 := hS.keptO 3 rfl hx883 hO884
        replace f818 := f818.kept hk884
        replace hS := hS.putO 3 rfl hx883 ho884 hO884; simp only [List.set] at hS
        refine eseq_nil ?_
        refine hK882 _ _ ?_
        refine e_exit ?_
        obtain rfl := Option.some.inj ho780
        obtain rfl := Option.some.inj ht780
        replace ho527 : orphan_Lower_K2 fuel x885 = some o527 := ho527
        unfold orphan_Lower_K2 at ho527
        obtain rfl := Option.some.inj ho527
        exact ⟨m527, _, Nat.lt_succ_self _, ⟨x885, v656, _, ht527, (hS.pickB [1, 2, 3] 4 rfl rfl), f818, rfl⟩, Sub.cons rfl (Sub.cons rfl (Sub.nil _))⟩
      · replace ho780 := (if_neg (not_true hc881)).symm.trans ho780
        refine e_skip ?_
        refine hK865 _ _ ?_
        refine e_region_text rfl ?_
        refine q_addW rfl rfl rfl ?_
        refine q_move rfl rfl ?_
        refine eseq_nil ?_
        obtain rfl := Option.some.inj ho780
        exact ⟨m780, _, Nat.lt_succ_self _, ⟨(w64 (x821 + 1)), _, ht780, (hS.pickB [1, 2, 3] 4 rfl rfl), f818, f820, rfl⟩, Sub.cons rfl (Sub.cons rfl (Sub.cons rfl (Sub.cons rfl (Sub.cons rfl (Sub.nil _)))))⟩
    · replace ho780 := (if_neg (not_true hc864)).symm.trans ho780
      refine e_exit ?_
      obtain rfl := Option.some.inj ho780
      obtain rfl := Option.some.inj ht780
      exact hX780_4  _ _ _ ho527 (hS.pickB [1, 2] 3 rfl rfl)  (Sub.cons rfl (Sub.nil _))
  refine e_loop (fun m_ E_ w492 => ∃ (x497 : (List Int)), ∃ (x498 : Int), ∃ (v496 : Value), ∃ (R491 : Nat → Prop), iter (fun s => orphan_Lower_B3 fuel a0 a1 s.1 s.2) m_ (x497, x498) = some tl464 ∧ Sep F R R491 w w492 [HP.blk bl453 [v1] 55, HP.blk bl459 [v496] 27, HP.own Ty.int (fun _ => False) 3 v496 x497] ∧ IsSlice Ty.int w492 R491 v2 a1 ∧ IsSlice (Ty.slice evtTy) w492 R491 v1 a0 ∧ E_ = [(1, v2), (2, .pointer (some ⟨bl453, 0, none⟩)), (5, .pointer (some ⟨bl459, 0, none⟩)), (17, .int .i64 (min (a0.length : Int) (a1.length : Int))), (18, .int .i64 x498)]) _ ⟨_, ⟨x456, 0, v457, _, ht464, (hS.pickB [2, 0, 1] 3 rfl rfl), f2, f1, rfl⟩, Sub.cons rfl (Sub.cons rfl (Sub.cons rfl (Sub.cons rfl (Sub.cons rfl (Sub.nil _)))))⟩ ?_
  clear ht464 hS
  rintro m464 _ w492 ⟨x497, x498, v496, R491, ht464, hS, f493, f494, rfl⟩
  obtain ⟨m464, rfl, o464, ho464, ht464⟩ := iter_some ht464
  replace ho464 : orphan_Lower_B3 fuel a0 a1 x497 x498 = some o464 := ho464
  unfold orphan_Lower_B3 at ho464
  refine e_seq fun K886 hK886 => ?_
  refine e_region_text rfl ?_
  refine q_lss rfl rfl rfl ?_
  refine eseq_nil ?_
  refine hK886 _ _ ?_
  refine e_seq fun K887 hK887 => ?_
  refine e_cond rfl (fun hc888 => ?_) (fun hc888 => ?_)
  · replace ho464 := (if_pos hc888).symm.trans ho464
    refine e_skip ?_
    refine hK887 _ _ ?_
    refine e_seq fun K889 hK889 => ?_
    refine e_block ?_
    refine e_seq fun K890 hK890 => ?_
    refine e_region_text rfl ?_
    refine q_move rfl rfl ?_
    refine q_assign rfl rfl ?_
    refine eseq_nil ?_
    refine hK890 _ _ ?_
    refine e_region_draw mixed (fun _ => False) [0, 0, 0, 0, 12, 28, 60, 0, 0, 384, 896, 1920, 4092, 8191, 16383] [] [0, 1, 2, 3, 4, 5, 6, 7, 8, 9, 10, 11, 12, 13, 14] (by kernel_rfl) ?_
    refine q_load rfl (Blk.cell (hS.blk 1 rfl) rfl) rfl ?_
    refine q_move rfl rfl ?_
    refine q_move rfl rfl ?_
    refine q_move rfl rfl ?_
    obtain ⟨x891, hx891, ho464⟩ := Option.of_bind ho464
    refine q_atS (by infer_instance) rfl f493 rfl hx891 rfl fun b892 o892 hm892 f892 => ?_
    refine q_load rfl (Elt.intCell f892) rfl ?_
    refine q_max rfl rfl rfl ?_
    refine q_load rfl (Blk.cell (hS.blk 0 rfl) rfl) rfl ?_
    refine q_move rfl rfl ?_
    obtain ⟨x893, hx893, ho464⟩ := Option.of_bind ho464
    refine q_atS (by infer_instance) rfl f494 rfl hx893 rfl fun b894 o894 hm894 f894 => ?_
    refine q_loadE rfl f894 rfl (fun v895 f895 => ?_)
    refine q_lenS rfl f895 rfl ?_
    refine q_min rfl rfl rfl ?_
    obtain ⟨x896, hx896, ho464⟩ := Option.of_bind ho464
    refine q_indexO (by infer_instance) rfl (hS.own 2 rfl) rfl hx896 rfl ?_
    obtain ⟨x898, hx898, ho464⟩ := Option.of_bind ho464
    refine q_storeO (T := Ty.int) (j := 0) rfl rfl (hS.own 2 rfl) hx896 hx898 rfl rfl rfl (Enc.setL rfl) fun w897 ho897 hO897 => ?_
    have hk897 := hS.keptO 2 rfl hx896 hO897
    replace f493 := f493.kept hk897
    replace f494 := f494.kept hk897
    replace hS := hS.putO 2 rfl hx896 ho897 hO897; simp only [List.set] at hS
    refine eseq_nil ?_
    refine hK889 _ _ ?_
    refine e_region_text rfl ?_
    refine q_addW rfl rfl rfl ?_
    refine q_move rfl rfl ?_
    refine eseq_nil ?_
    obtain rfl := Option.some.inj ho464
    exact ⟨m464, _, Nat.lt_succ_self _, ⟨x898, (w64 (x498 + 1)), v496, _, ht464, hS, f493, f494, rfl⟩, Sub.cons rfl (Sub.cons rfl (Sub.cons rfl (Sub.cons rfl (Sub.cons rfl (Sub.nil _)))))⟩
  · replace ho464 := (if_neg (not_true hc888)).symm.trans ho464
    refine e_exit ?_
    obtain rfl := Option.some.inj ho464
    obtain rfl := Option.some.inj ht464
    exact hX464_0 x497 v496 _ _ _ h hS f494 (Sub.cons rfl (Sub.cons rfl (Sub.nil _)))
theorem orphan_all_w {F R : Nat → Prop} {w : World} {fuel : Nat} {a0 : (List (List Evt))} {v1 : Value} {r : ((List Int))} (hS : Sep F R R w w []) (f1 : IsSlice (Ty.slice evtTy) w R v1 a0) (h : orphan_all fuel a0 = some r) :
    Gives Try.prog 66 [v1] w fun u w1 => ∃ (v75 : Value), ∃ (R1 : Nat → Prop), u = v75 ∧ Sep F R R1 w w1 [HP.own Ty.int (fun _ => False) 3 v75 r] := by
  refine fn_of Try.func66 rfl Try.ntmps66 (Nat.le_of_ble_eq_true rfl) ?_
  unfold orphan_all at h
  refine e_seq fun K76 hK76 => ?_
  refine e_region_text rfl ?_
  refine q_assign rfl rfl ?_
  refine eseq_nil ?_
  refine hK76 _ _ ?_
  refine e_seq fun K77 hK77 => ?_
  refine e_region_text rfl ?_
  refine q_move rfl rfl ?_
  refine q_lenS rfl f1 rfl ?_
  obtain ⟨x78, hx78, h⟩ := Option.of_bind h
  refine q_makeO (T := Ty.int) (S := (fun _ => False)) rfl rfl rfl hx78 (fun _ h => h.elim) rfl fun w79 v79 ho79 hv79 hB79 => ?_
  replace f1 := f1.ext hB79
  replace hS := hS.newOwnS hB79 ho79 hv79 (fun _ h => h.elim)
  refine q_assign rfl rfl ?_
  refine eseq_nil ?_
  refine hK77 _ _ ?_
  refine e_seq fun K81 hK81 => ?_
  refine e_seq fun K82 hK82 => ?_
  refine e_region_text rfl ?_
  refine q_move rfl rfl ?_
  refine q_lenS rfl f1 rfl ?_
  refine q_move rfl rfl ?_
  refine eseq_nil ?_
  refine hK82 _ _ ?_
  refine e_block ?_
  obtain ⟨tl83, ht83, h⟩ := Option.of_bind h
  have hX83_0 : ∀ (x135 : (List Int)) (v134 : Value) (R131 : Nat → Prop) (w132 : World) (E_ : Env), orphan_all_K1 fuel x135 = some r → Sep F R R131 w w132 [HP.own Ty.int (fun _ => False) 3 v134 x135] → Sub [(3, v134)] E_ → K81 E_ w132 := by
    intro x135 v134 R131 w132 E_ h hS  hsub
    refine hK81 _ _ (e_sub hsub ?_); clear hsub
    unfold orphan_all_K1 at h
    refine e_seq fun K136 hK136 => ?_
    refine e_region_text rfl ?_
    refine q_move rfl rfl ?_
    refine q_assign rfl rfl ?_
    refine eseq_nil ?_
    refine hK136 _ _ ?_
    refine e_ret ?_
    obtain rfl := Option.some.inj h
    exact ⟨_, res1 rfl rfl, v134, _, rfl, hS⟩
  refine e_loop (fun m_ E_ w107 => ∃ (x110 : (List Int)), ∃ (x112 : Int), ∃ (v109 : Value), ∃ (R106 : Nat → Prop), iter (fun s => orphan_all_B1 fuel a0 s.1 s.2) m_ (x110, x112) = some tl83 ∧ Sep F R R106 w w107 [HP.own Ty.int (fun _ => False) 3 v109 x110] ∧ IsSlice (Ty.slice evtTy) w107 R106 v1 a0 ∧ E_ = [(3, v109), (9, v1), (10, .int .i64 (a0.length : Int)), (11, .int .i64 x112)]) _ ⟨_, ⟨x78, 0, v79, _, ht83, hS, f1, rfl⟩, Sub.cons rfl (Sub.cons rfl (Sub.cons rfl (Sub.cons rfl (Sub.nil _))))⟩ ?_
  clear ht83 hS
  rintro m83 _ w107 ⟨x110, x112, v109, R106, ht83, hS, f111, rfl⟩
  obtain ⟨m83, rfl, o83, ho83, ht83⟩ := iter_some ht83
  replace ho83 : orphan_all_B1 fuel a0 x110 x112 = some o83 := ho83
  unfold orphan_all_B1 at ho83
  refine e_seq fun K137 hK137 => ?_
  refine e_region_text rfl ?_
  refine q_lss rfl rfl rfl ?_
  refine eseq_nil ?_
  refine hK137 _ _ ?_
  refine e_seq fun K138 hK138 => ?_
  refine e_cond rfl (fun hc139 => ?_) (fun hc139 => ?_)
  · replace ho83 := (if_pos hc139).symm.trans ho83
    refine e_skip ?_
    refine hK138 _ _ ?_
    refine e_seq fun K140 hK140 => ?_
    refine e_block ?_
    refine e_seq fun K141 hK141 => ?_
    refine e_region_text rfl ?_
    refine q_move rfl rfl ?_
    obtain ⟨x142, hx142, ho83⟩ := Option.of_bind ho83
    refine q_atS (by infer_instance) rfl f111 rfl hx142 rfl fun b143 o143 hm143 f143 => ?_
    refine q_loadE rfl f143 rfl (fun v144 f144 => ?_)
    refine q_assign rfl rfl ?_
    refine q_assign rfl rfl ?_
    refine eseq_nil ?_
    refine hK141 _ _ ?_
    refine e_region_text rfl ?_
    refine q_move rfl rfl ?_
    refine q_move rfl rfl ?_
    refine q_move rfl rfl ?_
    refine q_lenS rfl f144 rfl ?_
    obtain ⟨x145, hx145, ho83⟩ := Option.of_bind ho83
    refine q_indexO (by infer_instance) rfl (hS.own 0 rfl) rfl hx145 rfl ?_
    obtain ⟨x147, hx147, ho83⟩ := Option.of_bind ho83
    refine q_storeO (T := Ty.int) (j := 0) rfl rfl (hS.own 0 rfl) hx145 hx147 rfl rfl rfl (Enc.setL rfl) fun w146 ho146 hO146 => ?_
    have hk146 := hS.keptO 0 rfl hx145 hO146
    replace f111 := f111.kept hk146
    replace hS := hS.putO 0 rfl hx145 ho146 hO146; simp only [List.set] at hS
    refine eseq_nil ?_
    refine hK140 _ _ ?_
    refine e_region_text rfl ?_
    refine q_addW rfl rfl rfl ?_
    refine q_move rfl rfl ?_
    refine eseq_nil ?_
    obtain rfl := Option.some.inj ho83
    exact ⟨m83, _, Nat.lt_succ_self _, ⟨x147, (w64 (x112 + 1)), v109, _, ht83, hS, f111, rfl⟩, Sub.cons rfl (Sub.cons rfl (Sub.cons rfl (Sub.cons rfl (Sub.nil _))))⟩
  · replace ho83 := (if_neg (not_true hc139)).symm.trans ho83
    refine e_exit ?_
    obtain rfl := Option.some.inj ho83
    obtain rfl := Option.some.inj ht83
    exact hX83_0 x110 v109 _ _ _ h hS  (Sub.cons rfl (Sub.nil _))
theorem orphan_Orphan_w {F R : Nat → Prop} {w : World} {fuel : Nat} {a0 : (List EndI)} {a1 : (List Lab)} {v1 : Value} {v2 : Value} {r : (Bool)} (hS : Sep F R R w w []) (f1 : IsSlice endITy w R v1 a0) (f2 : IsSlice labTy w R v2 a1) (h : orphan_Orphan fuel a0 a1 = some r) :
    Gives Try.prog 38 [v1, v2] w fun u w1 => ∃ (R1 : Nat → Prop), u = .bool r ∧ Sep F R R1 w w1 [] := by
  refine fn_of Try.func38 rfl Try.ntmps38 (Nat.le_of_ble_eq_true rfl) ?_
  unfold orphan_Orphan at h
  refine e_seq fun K78 hK78 => ?_
  refine e_region_text rfl ?_
  refine q_assign rfl rfl ?_
  refine eseq_nil ?_
  refine hK78 _ _ ?_
  refine e_seq fun K79 hK79 => ?_
  refine e_seq fun K80 hK80 => ?_
  refine e_region_text rfl ?_
  refine q_move rfl rfl ?_
  refine q_lenS rfl f2 rfl ?_
  refine q_move rfl rfl ?_
  refine eseq_nil ?_
  refine hK80 _ _ ?_
  refine e_block ?_
  obtain ⟨tl81, ht81, h⟩ := Option.of_bind h
  have hX81_0 : ∀ (R133 : Nat → Prop) (w134 : World) (E_ : Env), orphan_Orphan_K1 fuel = some r → Sep F R R133 w w134 [] → Sub [] E_ → K79 E_ w134 := by
    intro R133 w134 E_ h hS  hsub
    refine hK79 _ _ (e_sub hsub ?_); clear hsub
    unfold orphan_Orphan_K1 at h
    refine e_seq fun K135 hK135 => ?_
    refine e_region_text rfl ?_
    refine q_assign rfl rfl ?_
    refine eseq_nil ?_
    refine hK135 _ _ ?_
    refine e_ret ?_
    obtain rfl := Option.some.inj h
    exact ⟨_, res1 rfl rfl, _, rfl, hS⟩
  refine e_loop (fun m_ E_ w108 => ∃ (x111 : Int), ∃ (R107 : Nat → Prop), iter (fun s => orphan_Orphan_B1 fuel a1 a0 s) m_ x111 = some tl81 ∧ Sep F R R107 w w108 [] ∧ IsSlice endITy w108 R107 v1 a0 ∧ IsSlice labTy w108 R107 v2 a1 ∧ E_ = [(0, v1), (7, v2), (8, .int .i64 (a1.length : Int)), (9, .int .i64 x111)]) _ ⟨_, ⟨0, _, ht81, hS, f1, f2, rfl⟩, Sub.cons rfl (Sub.cons rfl (Sub.cons rfl (Sub.cons rfl (Sub.nil _))))⟩ ?_
  clear ht81 hS
  rintro m81 _ w108 ⟨x111, R107, ht81, hS, f109, f110, rfl⟩
  obtain ⟨m81, rfl, o81, ho81, ht81⟩ := iter_some ht81
  replace ho81 : orphan_Orphan_B1 fuel a1 a0 x111 = some o81 := ho81
  unfold orphan_Orphan_B1 at ho81
  refine e_seq fun K136 hK136 => ?_
  refine e_region_text rfl ?_
  refine q_lss rfl rfl rfl ?_
  refine eseq_nil ?_
  refine hK136 _ _ ?_
  refine e_seq fun K137 hK137 => ?_
  refine e_cond rfl (fun hc138 => ?_) (fun hc138 => ?_)
  · replace ho81 := (if_pos hc138).symm.trans ho81
    refine e_skip ?_
    refine hK137 _ _ ?_
    refine e_seq fun K139 hK139 => ?_
    refine e_block ?_
    refine e_seq fun K140 hK140 => ?_
    refine e_region_text rfl ?_
    refine q_move rfl rfl ?_
    obtain ⟨x141, hx141, ho81⟩ := Option.of_bind ho81
    refine q_atS (by infer_instance) rfl f110 rfl hx141 rfl fun b142 o142 hm142 f142 => ?_
    have hc143 := Lab_open f142
    refine q_loadAgg rfl hc143 rfl rfl ?_
    refine q_allocB rfl fun w144 bl144 hg144 hb144 hB144 => ?_
    replace f109 := f109.ext hB144
    replace f110 := f110.ext hB144
    replace hS := hS.newBlk hB144 hg144 hb144
    refine q_assign rfl rfl ?_
    refine q_storeAgg rfl rfl (hS.blk 0 rfl) rfl (Nat.le_of_ble_eq_true rfl) (all_cons rfl (all_cons rfl (all_nil))) rfl rfl fun w146 hb146 hO146 => ?_
    simp only [setN, List.set, List.take, List.drop] at hb146
    have hk146 := hS.keptBlk 0 rfl hO146
    replace f109 := f109.kept hk146
    replace f110 := f110.kept hk146
    replace hS := hS.setBlk 0 rfl hb146 hO146; simp only [List.set] at hS
    refine eseq_nil ?_
    refine hK140 _ _ ?_
    refine e_seq fun K147 hK147 => ?_
    refine e_region_text rfl ?_
    refine q_move rfl rfl ?_
    refine q_move rfl rfl ?_
    refine q_loadAgg rfl (Blk.cellsAt (hS.blk 0 rfl) 0 2 rfl) rfl rfl ?_
    obtain ⟨r149, hr149, ho81⟩ := Option.of_bind ho81
    refine q_call rfl (incarnation_Undone_w (a2 := (⟨x141.inc, x141.index⟩ : Lab)) (Sep.enter (As := []) hS) f109 hr149) rfl ?_
    rintro _ w148 ⟨R148, rfl, hC148⟩
    have hB148 : Below (World.heap w146).size w146 w148 := hC148.stepB0
    refine ⟨fun _ => .of_below hB148, ?_⟩
    replace f109 := (f109.ext hB148).mono fun k hk _ => hC148.ro0 k hk
    replace f110 := (f110.ext hB148).mono fun k hk _ => hC148.ro0 k hk
    replace hS := Sep.leave (As := []) hS hC148; simp only [List.cons_append, List.nil_append] at hS
    refine eseq_nil ?_
    refine hK147 _ _ ?_
    refine e_cond rfl (fun hc150 => ?_) (fun hc150 => ?_)
    · replace ho81 := (if_pos hc150).symm.trans ho81
      refine e_seq fun K151 hK151 => ?_
      refine e_region_text rfl ?_
      refine q_assign rfl rfl ?_
      refine eseq_nil ?_
      refine hK151 _ _ ?_
      refine e_ret ?_
      obtain rfl := Option.some.inj ho81
      obtain rfl := Option.some.inj ht81
      obtain rfl := Option.some.inj h
      exact ⟨_, res1 rfl rfl, _, rfl, (hS.pickB [] 1 rfl rfl)⟩
    · replace ho81 := (if_neg (not_true hc150)).symm.trans ho81
      refine e_skip ?_
      refine hK139 _ _ ?_
      refine e_region_text rfl ?_
      refine q_addW rfl rfl rfl ?_
      refine q_move rfl rfl ?_
      refine eseq_nil ?_
      obtain rfl := Option.some.inj ho81
      exact ⟨m81, _, Nat.lt_succ_self _, ⟨(w64 (x111 + 1)), _, ht81, (hS.pickB [] 1 rfl rfl), f109, f110, rfl⟩, Sub.cons rfl (Sub.cons rfl (Sub.cons rfl (Sub.cons rfl (Sub.nil _))))⟩
  · replace ho81 := (if_neg (not_true hc138)).symm.trans ho81
    refine e_exit ?_
    obtain rfl := Option.some.inj ho81
    obtain rfl := Option.some.inj ht81
    exact hX81_0  _ _ _ h hS  (Sub.nil _)
theorem Clone_Lab_w {F R : Nat → Prop} {w : World} {fuel : Nat} {a0 : List Lab} {v1 : Value} {r : List Lab} (hS : Sep F R R w w []) (f1 : IsSlice labTy w R v1 a0) (h : Clone_Lab fuel a0 = some r) :
    Gives Try.prog 108 [v1] w fun u w1 => ∃ (v2 : Value), ∃ (R1 : Nat → Prop), u = v2 ∧ Sep F R R1 w w1 [HP.own labTy (fun _ => False) 60 v2 r] := by
  unfold Clone_Lab at h
  have hx0 := f1
  obtain ⟨ad, c, rfl, hc0, hnil, -, -⟩ := hx0
  refine fn_of Try.func108 rfl Try.ntmps108 (Nat.le_of_ble_eq_true rfl) ?_
  refine e_seq fun K hK => ?_
  refine e_region_text rfl ?_
  refine q_assign rfl rfl ?_
  refine eseq_nil ?_
  refine hK _ _ ?_; clear hK
  refine e_seq fun K hK => ?_
  refine e_seq fun K hK => ?_
  refine e_region_text rfl ?_
  refine q_move rfl rfl ?_
  refine q_eqlNil rfl rfl rfl ?_
  refine eseq_nil ?_
  refine hK _ _ ?_; clear hK
  refine e_cond rfl (fun hb => ?_) (fun hb => ?_)
  · have e1 : ad = none := by simpa using hb
    have e2 := hnil e1
    have e3 : a0 = [] := List.eq_nil_of_length_eq_zero (by omega)
    subst e3
    obtain rfl := (catL_eq h).2
    refine e_seq fun K hK => ?_
    refine e_region_text rfl ?_
    refine q_assign rfl rfl ?_
    refine eseq_nil ?_
    refine hK _ _ ?_; clear hK
    refine e_ret ?_
    exact ⟨_, res1 rfl rfl, _, R, rfl, hS.nilOwn0 labTy 60⟩
  refine e_skip ?_
  refine hK _ _ ?_; clear hK
  refine e_seq fun K hK => ?_
  refine e_region_text rfl ?_
  refine q_slice0 rfl fun wz bz hgz hbz hBz => ?_
  replace f1 := f1.ext hBz
  replace hS := hS.newOwnS hBz (Own.empty labTy (S := (fun _ => False)) hbz (Nat.zero_le _)) (fun k hk => by cases hk; exact hgz) (fun _ h => h.elim)
  refine q_move rfl rfl ?_
  refine q_catE (T := labTy) rfl rfl rfl rfl (hS.own 0 rfl) rfl f1 h (Nat.zero_le _) rfl (fun h => by cases h) fun v7 w1 hw1 hgr1 hnw1 => ?_
  replace hS := hS.setOwn 0 rfl hw1 hgr1 hnw1; simp only [List.set] at hS
  refine q_assign rfl rfl ?_
  refine eseq_nil ?_
  refine hK _ _ ?_; clear hK
  refine e_ret ?_
  exact ⟨_, res1 rfl rfl, _, R, rfl, hS⟩
theorem reach_d {fuel : Nat} : ∀ (d_ : Nat) {F R : Nat → Prop} {w : World} {a1 : Int} {a2 : Int} {c0_0 : (List (List Evt))} {c0_1 : (List (List (List Lab)))} {c0_2 : (List Bool)} {B0 : Nat} {v2 : Value} {v3 : Value} {v4 : List Value} {v5 : Value} {r : (Bool × (List (List (List Lab))) × (List Bool))} (hS : Sep F R R w w [HP.blk B0 [v2, v3, v5] 124, HP.own Ty.raw (fun _ => False) 66 v3 v4, HP.famS (Ty.slice labTy) R 68 v4 c0_1, HP.own Ty.bool (fun _ => False) 4 v5 c0_2]) (f2 : IsSlice (Ty.slice evtTy) w R v2 c0_0) (h : reach_R fuel d_ a1 a2 c0_0 c0_1 c0_2 = some r),
    Gives Try.prog 67 [.pointer (some ⟨B0, 0, none⟩), .int .i64 a1, .int .i64 a2] w fun u w1 => ∃ (v716 : Value), ∃ (v717 : List Value), ∃ (v718 : Value), ∃ (R1 : Nat → Prop), u = .bool r.1 ∧ Sep F R R1 w w1 [HP.blk B0 [v2, v716, v718] 124, HP.own Ty.raw (fun _ => False) 66 v716 v717, HP.famS (Ty.slice labTy) R1 68 v717 r.2.1, HP.own Ty.bool (fun _ => False) 4 v718 r.2.2] := by
  intro d_
  induction d_ with
  | zero => intro F R w a1 a2 c0_0 c0_1 c0_2 B0 v2 v3 v4 v5 r hS f2 h; cases h
  | succ d_ ih =>
    intro F R w a1 a2 c0_0 c0_1 c0_2 B0 v2 v3 v4 v5 r hS f2 h
    replace h : reach_F fuel (reach_R fuel d_) a1 a2 c0_0 c0_1 c0_2 = some r := h
    generalize reach_R fuel d_ = rec_ at h ih
    refine fn_of Try.func67 rfl Try.ntmps67 (Nat.le_of_ble_eq_true rfl) ?_
    unfold reach_F at h
    refine e_seq fun K719 hK719 => ?_
    refine e_region_text rfl ?_
    refine q_assign rfl rfl ?_
    refine eseq_nil ?_
    refine hK719 _ _ ?_
    refine e_seq fun K720 hK720 => ?_
    refine e_seq fun K721 hK721 => ?_
    refine e_region_text rfl ?_
    refine q_move rfl rfl ?_
    refine q_move rfl rfl ?_
    refine q_nilCheck rfl rfl ?_
    refine q_field rfl rfl ?_
    refine q_load rfl (Blk.cell (hS.blk 0 rfl) rfl) rfl ?_
    refine q_move rfl rfl ?_
    obtain ⟨x722, hx722, h⟩ := Option.of_bind h
    have hax722 := ati_nth (hS.famLen 2 rfl) hx722
    refine q_indexO (T := Ty.raw) (by infer_instance) rfl (hS.own 1 rfl) rfl hax722 rfl ?_
    refine q_load rfl (Elt.rawCell ((hS.own 1 rfl).elt hax722)) rfl ?_
    refine q_lenS rfl (hS.famI 2 rfl hx722) rfl ?_
    refine q_lss rfl rfl rfl ?_
    refine eseq_nil ?_
    refine hK721 _ _ ?_
    refine e_cond rfl (fun hc723 => ?_) (fun hc723 => ?_)
    · replace h := (if_pos hc723).symm.trans h
      refine e_seq fun K724 hK724 => ?_
      refine e_region_text rfl ?_
      refine q_assign rfl rfl ?_
      refine eseq_nil ?_
      refine hK724 _ _ ?_
      refine e_ret ?_
      obtain rfl := Option.some.inj h
      exact ⟨_, res1 rfl rfl, v3, v4, v5, _, rfl, hS⟩
    · replace h := (if_neg (not_true hc723)).symm.trans h
      refine e_skip ?_
      refine hK720 _ _ ?_
      refine e_seq fun K725 hK725 => ?_
      refine e_seq fun K726 hK726 => ?_
      refine e_region_text rfl ?_
      refine q_move rfl rfl ?_
      refine q_nilCheck rfl rfl ?_
      refine q_field rfl rfl ?_
      refine q_load rfl (Blk.cell (hS.blk 0 rfl) rfl) rfl ?_
      refine q_move rfl rfl ?_
      obtain ⟨x727, hx727, h⟩ := Option.of_bind h
      refine q_indexO (by infer_instance) rfl (hS.own 3 rfl) rfl hx727 rfl ?_
      have f728 := (hS.ownR 3 rfl).elt hx727
      refine q_load rfl (Elt.boolCell f728) rfl ?_
      refine eseq_nil ?_
      refine hK726 _ _ ?_
      refine e_cond rfl (fun hc729 => ?_) (fun hc729 => ?_)
      · replace h := (if_pos hc729).symm.trans h
        refine e_seq fun K730 hK730 => ?_
        refine e_region_text rfl ?_
        refine q_assign rfl rfl ?_
        refine eseq_nil ?_
        refine hK730 _ _ ?_
        refine e_ret ?_
        obtain rfl := Option.some.inj h
        exact ⟨_, res1 rfl rfl, v3, v4, v5, _, rfl, hS⟩
      · replace h := (if_neg (not_true hc729)).symm.trans h
        refine e_skip ?_
        refine hK725 _ _ ?_
        refine e_seq fun K731 hK731 => ?_
        refine e_region_text rfl ?_
        refine q_move rfl rfl ?_
        refine q_nilCheck rfl rfl ?_
        refine q_field rfl rfl ?_
        refine q_load rfl (Blk.cell (hS.blk 0 rfl) rfl) rfl ?_
        refine q_move rfl rfl ?_
        obtain ⟨x732, hx732, h⟩ := Option.of_bind h
        refine q_indexO (by infer_instance) rfl (hS.own 3 rfl) rfl hx732 rfl ?_
        obtain ⟨x734, hx734, h⟩ := Option.of_bind h
        refine q_storeO (T := Ty.bool) (j := 0) rfl rfl (hS.own 3 rfl) hx732 hx734 rfl rfl rfl (Enc.setL rfl) fun w733 ho733 hO733 => ?_
        have hk733 := hS.keptO 3 rfl hx732 hO733
        replace f2 := f2.kept hk733
        replace hS := hS.putO 3 rfl hx732 ho733 hO733; simp only [List.set] at hS
        refine eseq_nil ?_
        refine hK731 _ _ ?_
        refine e_seq fun K735 hK735 => ?_
        refine e_seq fun K736 hK736 => ?_
        refine e_region_text rfl ?_
        refine q_move rfl rfl ?_
        refine q_nilCheck rfl rfl ?_
        refine q_field rfl rfl ?_
        refine q_load rfl (Blk.cell (hS.blk 0 rfl) rfl) rfl ?_
        refine q_move rfl rfl ?_
        obtain ⟨x737, hx737, h⟩ := Option.of_bind h
        have hax737 := ati_nth (hS.famLen 2 rfl) hx737
        refine q_indexO (T := Ty.raw) (by infer_instance) rfl (hS.own 1 rfl) rfl hax737 rfl ?_
        refine q_load rfl (Elt.rawCell ((hS.own 1 rfl).elt hax737)) rfl ?_
        refine q_lenS rfl (hS.famI 2 rfl hx737) rfl ?_
        refine q_assign rfl rfl ?_
        refine eseq_nil ?_
        refine hK736 _ _ ?_
        refine e_block ?_
        obtain ⟨tl738, ht738, h⟩ := Option.of_bind h
        have hX738_0 : ∀ (x984 : (List (List (List Lab)))) (x989 : (List Bool)) (v982 : Value) (v983 : List Value) (v988 : Value) (R979 : Nat → Prop) (w980 : World) (E_ : Env), reach_K1 fuel rec_ a1 x984 x989 = some r → Sep F R R979 w w980 [HP.blk B0 [v2, v982, v988] 124, HP.own Ty.raw (fun _ => False) 66 v982 v983, HP.famS (Ty.slice labTy) R979 68 v983 x984, HP.own Ty.bool (fun _ => False) 4 v988 x989] → IsSlice (Ty.slice evtTy) w980 R979 v2 c0_0 → Sub [(0, .pointer (some ⟨B0, 0, none⟩)), (1, .int .i64 a1)] E_ → K735 E_ w980 := by
          intro x984 x989 v982 v983 v988 R979 w980 E_ h hS f981 hsub
          refine hK735 _ _ (e_sub hsub ?_); clear hsub
          unfold reach_K1 at h
          refine e_seq fun K990 hK990 => ?_
          refine e_region_text rfl ?_
          refine q_move rfl rfl ?_
          refine q_nilCheck rfl rfl ?_
          refine q_field rfl rfl ?_
          refine q_load rfl (Blk.cell (hS.blk 0 rfl) rfl) rfl ?_
          refine q_move rfl rfl ?_
          obtain ⟨x991, hx991, h⟩ := Option.of_bind h
          refine q_indexO (by infer_instance) rfl (hS.own 3 rfl) rfl hx991 rfl ?_
          obtain ⟨x993, hx993, h⟩ := Option.of_bind h
          refine q_storeO (T := Ty.bool) (j := 0) rfl rfl (hS.own 3 rfl) hx991 hx993 rfl rfl rfl (Enc.setL rfl) fun w992 ho992 hO992 => ?_
          have hk992 := hS.keptO 3 rfl hx991 hO992
          replace f981 := f981.kept hk992
          replace hS := hS.putO 3 rfl hx991 ho992 hO992; simp only [List.set] at hS
          refine eseq_nil ?_
          refine hK990 _ _ ?_
          refine e_seq fun K994 hK994 => ?_
          refine e_region_text rfl ?_
          refine q_assign rfl rfl ?_
          refine eseq_nil ?_
          refine hK994 _ _ ?_
          refine e_ret ?_
          obtain rfl := Option.some.inj h
          exact ⟨_, res1 rfl rfl, v982, v983, v988, _, rfl, hS⟩
        refine e_loop (fun m_ E_ w857 => ∃ (x861 : (List (List (List Lab)))), ∃ (x866 : (List Bool)), ∃ (x867 : Int), ∃ (v859 : Value), ∃ (v860 : List Value), ∃ (v865 : Value), ∃ (R856 : Nat → Prop), iter (fun s => reach_B1 fuel rec_ a2 c0_0 a1 s.1 s.2.1 s.2.2) m_ (x861, x866, x867) = some tl738 ∧ Sep F R R856 w w857 [HP.blk B0 [v2, v859, v865] 124, HP.own Ty.raw (fun _ => False) 66 v859 v860, HP.famS (Ty.slice labTy) R856 68 v860 x861, HP.own Ty.bool (fun _ => False) 4 v865 x866] ∧ IsSlice (Ty.slice evtTy) w857 R856 v2 c0_0 ∧ E_ = [(0, .pointer (some ⟨B0, 0, none⟩)), (1, .int .i64 a1), (2, .int .i64 a2), (7, .int .i64 x867)]) _ ⟨_, ⟨c0_1, x734, (x737.length : Int), v3, v4, v5, _, ht738, hS, f2, rfl⟩, Sub.cons rfl (Sub.cons rfl (Sub.cons rfl (Sub.cons rfl (Sub.nil _))))⟩ ?_
        clear ht738 hS
        rintro m738 _ w857 ⟨x861, x866, x867, v859, v860, v865, R856, ht738, hS, f858, rfl⟩
        obtain ⟨m738, rfl, o738, ho738, ht738⟩ := iter_some ht738
        replace ho738 : reach_B1 fuel rec_ a2 c0_0 a1 x861 x866 x867 = some o738 := ho738
        unfold reach_B1 at ho738
        refine e_seq fun K995 hK995 => ?_
        refine e_seq fun K996 hK996 => ?_
        refine e_region_text rfl ?_
        refine q_move rfl rfl ?_
        refine q_move rfl rfl ?_
        refine q_leq rfl rfl rfl ?_
        refine eseq_nil ?_
        refine hK996 _ _ ?_
        refine e_cond rfl (fun hc997 => ?_) (fun hc997 => ?_)
        · replace ho738 := (if_pos hc997).symm.trans ho738
          refine e_skip ?_
          refine hK995 _ _ ?_
          refine e_seq fun K998 hK998 => ?_
          refine e_block ?_
          refine e_seq fun K999 hK999 => ?_
          refine e_region_text rfl ?_
          refine q_move rfl rfl ?_
          refine q_nilCheck rfl rfl ?_
          refine q_field rfl rfl ?_
          refine q_load rfl (Blk.cell (hS.blk 0 rfl) rfl) rfl ?_
          refine q_move rfl rfl ?_
          obtain ⟨x1000, hx1000, ho738⟩ := Option.of_bind ho738
          refine q_atS (by infer_instance) rfl f858 rfl hx1000 rfl fun b1001 o1001 hm1001 f1001 => ?_
          refine q_loadE rfl f1001 rfl (fun v1002 f1002 => ?_)
          refine q_move rfl rfl ?_
          refine q_subW rfl rfl rfl ?_
          obtain ⟨x1003, hx1003, ho738⟩ := Option.of_bind ho738
          refine q_atS (by infer_instance) rfl f1002 rfl hx1003 rfl fun b1004 o1004 hm1004 f1004 => ?_
          have hc1005 := Evt_open f1004
          refine q_loadAgg rfl hc1005 rfl rfl ?_
          refine q_allocB rfl fun w1006 bl1006 hg1006 hb1006 hB1006 => ?_
          replace f858 := f858.ext hB1006
          replace hS := hS.newBlk hB1006 hg1006 hb1006
          refine q_storeAgg rfl rfl (hS.blk 0 rfl) rfl (Nat.le_of_ble_eq_true rfl) (all_cons rfl (all_cons rfl (all_cons rfl (all_cons rfl (all_cons rfl (all_cons rfl (all_cons rfl (all_nil)))))))) rfl rfl fun w1008 hb1008 hO1008 => ?_
          simp only [setN, List.set, List.take, List.drop] at hb1008
          have hk1008 := hS.keptBlk 0 rfl hO1008
          replace f858 := f858.kept hk1008
          replace hS := hS.setBlk 0 rfl hb1008 hO1008; simp only [List.set] at hS
          refine eseq_nil ?_
          refine hK999 _ _ ?_
          refine e_seq fun K1009 hK1009 => ?_
          refine e_region_text rfl ?_
          refine q_move rfl rfl ?_
          refine q_nilCheck rfl rfl ?_
          refine q_field rfl rfl ?_
          refine q_load rfl (Blk.cell (hS.blk 1 rfl) rfl) rfl ?_
          refine q_move rfl rfl ?_
          obtain ⟨x1010, hx1010, ho738⟩ := Option.of_bind ho738
          have hax1010 := ati_nth (hS.famLen 3 rfl) hx1010
          refine q_indexO (T := Ty.raw) (by infer_instance) rfl (hS.own 2 rfl) rfl hax1010 rfl ?_
          refine q_load rfl (Elt.rawCell ((hS.own 2 rfl).elt hax1010)) rfl ?_
          refine q_move rfl rfl ?_
          refine q_subW rfl rfl rfl ?_
          obtain ⟨x1011, hx1011, ho738⟩ := Option.of_bind ho738
          refine q_indexO (by infer_instance) rfl (hS.famO 3 rfl hx1010) rfl hx1011 rfl ?_
          have f1012 := (hS.famOR 3 rfl hx1010).elt hx1011
          refine q_loadE rfl f1012 rfl (fun v1013 f1013 => ?_)
          obtain ⟨r1015, hr1015, ho738⟩ := Option.of_bind ho738
          refine q_call rfl (Clone_Lab_w (Sep.enter (As := []) hS) f1013 hr1015) rfl ?_
          rintro v1016 w1014 ⟨_, R1014, rfl, hC1014⟩
          have hB1014 : Below (World.heap w1008).size w1008 w1014 := hC1014.stepB0
          refine ⟨fun _ => .of_below hB1014, ?_⟩
          replace f858 := (f858.ext hB1014).mono fun k hk _ => hC1014.ro0 k hk
          replace f1013 := (f1013.ext hB1014).mono fun k hk _ => hC1014.ro0 k hk
          replace hS := Sep.leave (As := []) hS hC1014; simp only [List.cons_append, List.nil_append] at hS
          refine q_assign rfl rfl ?_
          refine eseq_nil ?_
          refine hK1009 _ _ ?_
          refine e_seq fun K1017 hK1017 => ?_
          refine e_region_text rfl ?_
          refine q_move rfl rfl ?_
          refine q_move rfl rfl ?_
          refine q_field rfl rfl ?_
          refine q_load rfl (Blk.cell (hS.blk 1 rfl) rfl) rfl ?_
          refine q_move rfl rfl ?_
          refine q_build (Parts.cons rfl rfl (Parts.cons rfl rfl Parts.nil)) rfl rfl ?_
          obtain ⟨x1018, hx1018, ho738⟩ := Option.of_bind ho738
          refine q_indexO (by infer_instance) rfl (hS.own 0 rfl) rfl hx1018 rfl ?_
          obtain ⟨x1020, hx1020, ho738⟩ := Option.of_bind ho738
          refine q_storeOA (T := labTy) (j := 0) rfl rfl (hS.own 0 rfl) hx1018 hx1020 rfl rfl (all_cons rfl (all_cons rfl (all_nil))) rfl (Enc.setNL rfl) fun w1019 ho1019 hO1019 => ?_
          have hk1019 := hS.keptO 0 rfl hx1018 hO1019
          replace f858 := f858.kept hk1019
          replace hS := hS.putO 0 rfl hx1018 ho1019 hO1019; simp only [List.set] at hS
          refine eseq_nil ?_
          refine hK1017 _ _ ?_
          refine e_seq fun K1021 hK1021 => ?_
          have hJ1021 : ∀ (x1045 : (List (List (List Lab)))) (x1050 : (List Bool)) (x1053 : (List Lab)) (v1043 : Value) (v1044 : List Value) (v1049 : Value) (v1052 : Value) (R1040 : Nat → Prop) (w1041 : World) (E_ : Env), reach_J1 fuel rec_ a1 x867 x1045 x1050 x1053 = some o738 → Sep F R R1040 w w1041 [HP.blk B0 [v2, v1043, v1049] 124, HP.own Ty.raw (fun _ => False) 66 v1043 v1044, HP.famS (Ty.slice labTy) R1040 68 v1044 x1045, HP.own Ty.bool (fun _ => False) 4 v1049 x1050, HP.own labTy (fun _ => False) 60 v1052 x1053] → IsSlice (Ty.slice evtTy) w1041 R1040 v2 c0_0 → Sub [(0, .pointer (some ⟨B0, 0, none⟩)), (1, .int .i64 a1), (2, .int .i64 a2), (7, .int .i64 x867), (9, v1052)] E_ → K1021 E_ w1041 := by
            intro x1045 x1050 x1053 v1043 v1044 v1049 v1052 R1040 w1041 E_ ho738 hS f1042 hsub
            refine hK1021 _ _ (e_sub hsub ?_); clear hsub
            unfold reach_J1 at ho738
            refine e_region_draw mixed (fun k => (nth v1044 (a1).toNat).ownBlock = some k) [0, 1, 3, 7, 0, 0, 32, 96, 224, 0, 992, 2016, 0, 4096, 16352, 32767, 65535] [13, 14] [0, 1, 2, 3, 4, 5, 6, 7, 8, 9, 10, 11, 12, 13, 14, 15, 16] (by kernel_rfl) ?_
            refine q_move rfl rfl ?_
            refine q_nilCheck rfl rfl ?_
            refine q_field rfl rfl ?_
            refine q_load rfl (Blk.cell (hS.blk 0 rfl) rfl) rfl ?_ (hX := fun hx_ => hS.apart 0 2 rfl rfl (by decide) _ rfl (hS.famRowFoot 2 rfl _ _ hx_))
            refine q_move rfl rfl ?_
            refine q_move rfl rfl ?_
            refine q_nilCheck rfl rfl ?_
            refine q_field rfl rfl ?_
            refine q_load rfl (Blk.cell (hS.blk 0 rfl) rfl) rfl ?_ (hX := fun hx_ => hS.apart 0 2 rfl rfl (by decide) _ rfl (hS.famRowFoot 2 rfl _ _ hx_))
            refine q_move rfl rfl ?_
            obtain ⟨x1065, hx1065, ho738⟩ := Option.of_bind ho738
            have hax1065 := ati_nth (hS.famLen 2 rfl) hx1065
            refine q_indexO (T := Ty.raw) (by infer_instance) rfl (hS.own 1 rfl) rfl hax1065 rfl ?_
            refine q_load rfl (Elt.rawCell ((hS.own 1 rfl).elt hax1065)) rfl ?_ (hX := fun hx_ => hS.apart 1 2 rfl rfl (by decide) _ ((hS.own 1 rfl).vblk hax1065) (hS.famRowFoot 2 rfl _ _ hx_))
            refine q_move rfl rfl ?_
            refine q_litO (T := Ty.raw) (S := (fun _ => False)) (cells := [[v1052]]) (ys := [v1052]) ((Parts.cons rfl (cells_one (hS.own 4 rfl).one) Parts.nil)) rfl rfl rfl rfl rfl rfl rfl (fun w1 hB => ⟨⟨rfl, (hS.own 4 rfl).one⟩, trivial⟩) (fun _ h => h.elim) rfl fun w1066 v1066 ho1066 hv1066 hB1066 => ?_
            replace f1042 := f1042.ext hB1066
            replace hS := hS.newOwnS hB1066 ho1066 hv1066 (fun _ h => h.elim)
            replace hS := hS.pickB [5, 0, 1, 2, 3, 4] 6 rfl rfl; simp only [List.map_cons, List.map_nil, List.getD_cons_zero, List.getD_cons_succ] at hS
            replace hS := hS.famOne
            replace hS := hS.pickB [1, 0, 2, 3, 4, 5] 6 rfl rfl; simp only [List.map_cons, List.map_nil, List.getD_cons_zero, List.getD_cons_succ] at hS
            obtain ⟨R1070, hS, hm1070⟩ := hS.rowsFreeze
            replace f1042 := f1042.mono fun k hk _ => hm1070 k hk
            replace hS := hS.famMono 3 rfl; simp only [List.set] at hS
            obtain ⟨x1072, hx1072, ho738⟩ := Option.of_bind ho738
            obtain ⟨x1073, hx1073, ho738⟩ := Option.of_bind ho738
            refine q_catOwn (T := (Ty.slice labTy)) rfl rfl rfl rfl (hS.famO 3 rfl hx1065) rfl (hS.own 0 rfl) (hS.famOff 3 rfl hx1065) hx1072 (Nat.zero_le _) rfl (fun _ k hk => hk) fun v1069 w1069 hw1069 hgr1069 hnw1069 => ?_
            have hk1069 := hS.famKeptM 3 rfl hx1065 hgr1069
            replace f1042 := f1042.kept hk1069
            replace hS := hS.famSetM 3 rfl hx1065 hx1073 hw1069 hgr1069 hnw1069; simp only [List.set] at hS
            obtain ⟨x1074, hx1074, ho738⟩ := Option.of_bind ho738
            have hax1074 := ati_nth (show v1044.length = _ by simpa using hS.famLen 3 rfl) hx1074
            refine q_indexO (T := Ty.raw) (by infer_instance) rfl (hS.own 2 rfl) rfl hax1074 rfl ?_
            refine q_storeO (T := Ty.raw) (j := 0) rfl rfl (hS.own 2 rfl) hax1074 (seti_ok hax1074) rfl hw1069.one rfl (rawSet hw1069.one) fun w1075 ho1075 hO1075 => ?_
            have hk1075 := hS.keptO 2 rfl hax1074 hO1075
            replace f1042 := f1042.kept hk1075
            replace hS := hS.putO 2 rfl hax1074 ho1075 hO1075; simp only [List.set] at hS
            refine eseq_nil ?_
            refine hK998 _ _ ?_
            refine e_region_text rfl ?_
            refine q_move rfl rfl ?_
            refine q_addW rfl rfl rfl ?_
            refine q_assign rfl rfl ?_
            refine eseq_nil ?_
            obtain rfl := Option.some.inj ho738
            exact ⟨m738, _, Nat.lt_succ_self _, ⟨x1073, x1050, (w64 (x867 + 1)), v1043, (v1044.set (a1).toNat v1069), v1049, _, ht738, (hS.pickB [1, 2, 3, 4] 5 rfl rfl), f1042, rfl⟩, Sub.cons rfl (Sub.cons rfl (Sub.cons rfl (Sub.cons rfl (Sub.nil _))))⟩
          refine e_seq fun K1076 hK1076 => ?_
          refine e_region_text rfl ?_
          refine q_field rfl rfl ?_
          refine q_load rfl (Blk.cell (hS.blk 1 rfl) rfl) rfl ?_
          refine q_eql rfl rfl rfl ?_
          refine eseq_nil ?_
          refine hK1076 _ _ ?_
          refine e_cond rfl (fun hc1077 => ?_) (fun hc1077 => ?_)
          · replace ho738 := (if_pos hc1077).symm.trans ho738
            refine e_seq fun K1078 hK1078 => ?_
            refine e_seq fun K1079 hK1079 => ?_
            refine e_region_text rfl ?_
            refine q_move rfl rfl ?_
            refine q_field rfl rfl ?_
            refine q_load rfl (Blk.cell (hS.blk 1 rfl) rfl) rfl ?_
            refine q_field rfl rfl ?_
            refine q_field rfl rfl ?_
            refine q_load rfl (Blk.cell (hS.blk 1 rfl) rfl) rfl ?_
            replace hS := hS.famMono 4 rfl; simp only [List.set] at hS
            obtain ⟨r1081, hr1081, ho738⟩ := Option.of_bind ho738
            replace hS := hS.pickB [2, 3, 4, 5, 0, 1] 6 rfl rfl; simp only [List.map_cons, List.map_nil, List.getD_cons_zero, List.getD_cons_succ] at hS
            refine q_call rfl (ih (Sep.enter (As := [_, _, _, _]) hS) f858 hr1081) rfl ?_
            rintro _ w1080 ⟨v1082, v1083, v1084, R1080, rfl, hC1080⟩
            refine ⟨(fun h => by cases h), ?_⟩
            have hk1080 := hC1080.keptR (Sep.offFeet (As := [_, _, _, _]) hS)
            replace f858 := (f858.kept hk1080).mono fun k hk _ => hC1080.ro0 k hk
            replace hS := Sep.leave (As := [_, _, _, _]) hS hC1080; simp only [List.cons_append, List.nil_append] at hS
            refine q_not rfl rfl ?_
            refine eseq_nil ?_
            refine hK1079 _ _ ?_
            refine e_cond rfl (fun hc1085 => ?_) (fun hc1085 => ?_)
            · replace ho738 := (if_pos hc1085).symm.trans ho738
              refine e_seq fun K1086 hK1086 => ?_
              refine e_region_text rfl ?_
              refine q_assign rfl rfl ?_
              refine eseq_nil ?_
              refine hK1086 _ _ ?_
              refine e_ret ?_
              obtain rfl := Option.some.inj ho738
              obtain rfl := Option.some.inj ht738
              obtain rfl := Option.some.inj h
              exact ⟨_, res1 rfl rfl, v1082, v1083, v1084, _, rfl, (hS.pickB [0, 1, 2, 3] 6 rfl rfl)⟩
            · replace ho738 := (if_neg (not_true hc1085)).symm.trans ho738
              refine e_skip ?_
              refine hK1078 _ _ ?_
              refine e_region_draw mixed (fun _ => False) [0, 0, 2, 6, 14, 0, 32, 126, 254, 0, 512, 1536, 4094, 8190, 16383, 32767] [] [0, 1, 2, 3, 4, 5, 6, 7, 8, 9, 10, 11, 12, 13, 14, 15] (by kernel_rfl) ?_
              refine q_move rfl rfl ?_
              refine q_move rfl rfl ?_
              refine q_nilCheck rfl rfl ?_
              refine q_field rfl rfl ?_
              refine q_load rfl (Blk.cell (hS.blk 0 rfl) rfl) rfl ?_
              refine q_field rfl rfl ?_
              refine q_load rfl (Blk.cell (hS.blk 5 rfl) rfl) rfl ?_
              obtain ⟨x1087, hx1087, ho738⟩ := Option.of_bind ho738
              have hax1087 := ati_nth (hS.famLen 2 rfl) hx1087
              refine q_indexO (T := Ty.raw) (by infer_instance) rfl (hS.own 1 rfl) rfl hax1087 rfl ?_
              refine q_load rfl (Elt.rawCell ((hS.own 1 rfl).elt hax1087)) rfl ?_
              refine q_field rfl rfl ?_
              refine q_field rfl rfl ?_
              refine q_load rfl (Blk.cell (hS.blk 5 rfl) rfl) rfl ?_
              obtain ⟨x1088, hx1088, ho738⟩ := Option.of_bind ho738
              refine q_indexO (by infer_instance) rfl (hS.famO 2 rfl hx1087) rfl hx1088 rfl ?_
              have f1089 := (hS.famOR 2 rfl hx1087).elt hx1088
              refine q_loadE rfl f1089 rfl (fun v1090 f1090 => ?_)
              obtain ⟨r1092, hr1092, ho738⟩ := Option.of_bind ho738
              refine q_call rfl (orphan_Merge_w (Sep.all w1080) ((hS.isl 4 rfl)).old (f1090).old hr1092) rfl ?_
              rintro v1093 w1091 ⟨_, R1091, rfl, hC1091⟩
              have hB1091 : Below (World.heap w1080).size w1080 w1091 := hC1091.stepBF
              refine ⟨fun _ => .of_below hB1091, ?_⟩
              replace f858 := f858.ext hB1091
              replace f1090 := f1090.ext hB1091
              replace hS := hS.newOwnS hB1091 (hC1091.own 0 rfl) (hC1091.fresh 0 rfl) (fun _ h => h.elim)
              refine q_assign rfl rfl ?_
              refine eseq_nil ?_
              exact hJ1021 r1081.2.1 r1081.2.2 r1092 v1082 v1083 v1084 v1093 _ _ _ ho738 (hS.pickB [1, 2, 3, 4, 0] 7 rfl rfl) f858 (Sub.cons rfl (Sub.cons rfl (Sub.cons rfl (Sub.cons rfl (Sub.cons rfl (Sub.nil _))))))
          · replace ho738 := (if_neg (not_true hc1077)).symm.trans ho738
            refine e_skip ?_
            replace hS := hS.famMono 4 rfl; simp only [List.set] at hS
            exact hJ1021 x861 x866 x1020 v859 v860 v865 v1016 _ _ _ ho738 (hS.pickB [2, 3, 4, 5, 0] 6 rfl rfl) f858 (Sub.cons rfl (Sub.cons rfl (Sub.cons rfl (Sub.cons rfl (Sub.cons rfl (Sub.nil _))))))
        · replace ho738 := (if_neg (not_true hc997)).symm.trans ho738
          refine e_exit ?_
          obtain rfl := Option.some.inj ho738
          obtain rfl := Option.some.inj ht738
          exact hX738_0 x861 x866 v859 v860 v865 _ _ _ h hS f858 (Sub.cons rfl (Sub.cons rfl (Sub.nil _)))
theorem reach_w {F R : Nat → Prop} {w : World} {fuel : Nat} {a1 : Int} {a2 : Int} {c0_0 : (List (List Evt))} {c0_1 : (List (List (List Lab)))} {c0_2 : (List Bool)} {B0 : Nat} {v2 : Value} {v3 : Value} {v4 : List Value} {v5 : Value} {r : (Bool × (List (List (List Lab))) × (List Bool))} (hS : Sep F R R w w [HP.blk B0 [v2, v3, v5] 124, HP.own Ty.raw (fun _ => False) 66 v3 v4, HP.famS (Ty.slice labTy) R 68 v4 c0_1, HP.own Ty.bool (fun _ => False) 4 v5 c0_2]) (f2 : IsSlice (Ty.slice evtTy) w R v2 c0_0) (h : reach fuel a1 a2 c0_0 c0_1 c0_2 = some r) :
    Gives Try.prog 67 [.pointer (some ⟨B0, 0, none⟩), .int .i64 a1, .int .i64 a2] w fun u w1 => ∃ (v716 : Value), ∃ (v717 : List Value), ∃ (v718 : Value), ∃ (R1 : Nat → Prop), u = .bool r.1 ∧ Sep F R R1 w w1 [HP.blk B0 [v2, v716, v718] 124, HP.own Ty.raw (fun _ => False) 66 v716 v717, HP.famS (Ty.slice labTy) R1 68 v717 r.2.1, HP.own Ty.bool (fun _ => False) 4 v718 r.2.2] :=
  reach_d fuel hS f2 h
theorem Track_w {F R : Nat → Prop} {w : World} {fuel : Nat} {a0 : (List (List Evt))} {v1 : Value} {r : ((List (List (List Lab))) × Bool)} (hS : Sep F R R w w []) (f1 : IsSlice (Ty.slice evtTy) w R v1 a0) (h : Track fuel a0 = some r) :
    Gives Try.prog 32 [v1] w fun u w1 => ∃ (v309 : Value), ∃ (v310 : List Value), ∃ (R1 : Nat → Prop), u = .tuple #[v309, .bool r.2] ∧ Sep F R R1 w w1 [HP.own Ty.raw (fun _ => False) 66 v309 v310, HP.famS (Ty.slice labTy) R1 68 v310 r.1] := by
  refine fn_of Try.func32 rfl Try.ntmps32 (Nat.le_of_ble_eq_true rfl) ?_
  unfold Track at h
  refine e_seq fun K311 hK311 => ?_
  refine e_region_text rfl ?_
  refine q_assign rfl rfl ?_
  refine q_assign rfl rfl ?_
  refine eseq_nil ?_
  refine hK311 _ _ ?_
  refine e_seq fun K312 hK312 => ?_
  refine e_seq fun K313 hK313 => ?_
  refine e_region_text rfl ?_
  refine q_move rfl rfl ?_
  refine q_move rfl rfl ?_
  obtain ⟨r315, hr315, h⟩ := Option.of_bind h
  refine q_call rfl (orphan_all_w (Sep.enter (As := []) hS) f1 hr315) rfl ?_
  rintro v316 w314 ⟨_, R314, rfl, hC314⟩
  have hB314 : Below (World.heap w).size w w314 := hC314.stepB0
  refine ⟨fun _ => .of_below hB314, ?_⟩
  replace f1 := (f1.ext hB314).mono fun k hk _ => hC314.ro0 k hk
  replace hS := Sep.leave (As := []) hS hC314; simp only [List.cons_append, List.nil_append] at hS
  obtain ⟨r318, hr318, h⟩ := Option.of_bind h
  refine q_call rfl (orphan_Consistent_w (Sep.all w314) (f1).old ((hS.isl 0 rfl)).old hr318) rfl ?_
  rintro _ w317 ⟨R317, rfl, hC317⟩
  have hB317 : Below (World.heap w314).size w314 w317 := hC317.stepBF
  refine ⟨fun _ => .of_below hB317, ?_⟩
  replace f1 := f1.ext hB317
  replace hS := hS.below hB317
  refine q_not rfl rfl ?_
  refine eseq_nil ?_
  refine hK313 _ _ ?_
  refine e_cond rfl (fun hc319 => ?_) (fun hc319 => ?_)
  · replace h := (if_pos hc319).symm.trans h
    refine e_seq fun K320 hK320 => ?_
    refine e_region_text rfl ?_
    refine q_assign rfl rfl ?_
    refine q_assign rfl rfl ?_
    refine eseq_nil ?_
    refine hK320 _ _ ?_
    refine e_ret ?_
    replace hS := hS.nilRows (Ty.slice labTy) 68 66
    obtain rfl := Option.some.inj h
    exact ⟨_, res2 rfl rfl rfl, (.slice none 0 0), ([] : List Value), _, rfl, (hS.pickB [0, 1] 3 rfl rfl)⟩
  · replace h := (if_neg (not_true hc319)).symm.trans h
    refine e_skip ?_
    refine hK312 _ _ ?_
    refine e_seq fun K323 hK323 => ?_
    have hJt361 : ∀ (x355 : (List (List (List Lab)))) (x360 : (List Bool)) (B351 : Nat) (v353 : Value) (v354 : List Value) (v359 : Value) (R347 : Nat → Prop) (w348 : World) (E_ : Env), Track_J1 fuel a0 x355 x360 = some r → Sep F R R347 w w348 [HP.blk B351 [v1, v353, v359] 124, HP.own Ty.raw (fun _ => False) 66 v353 v354, HP.famS (Ty.slice labTy) R347 68 v354 x355, HP.own Ty.bool (fun _ => False) 4 v359 x360] → IsSlice (Ty.slice evtTy) w348 R347 v1 a0 → IsSlice (Ty.slice evtTy) w348 R347 v1 a0 → Sub [(0, v1), (4, .pointer (some ⟨B351, 0, none⟩))] E_ → K323 E_ w348 := by
      intro x355 x360 B351 v353 v354 v359 R347 w348 E_ h hS f349 f352 hsub
      refine hK323 _ _ (e_sub hsub ?_); clear hsub
      unfold Track_J1 at h
      refine e_seq fun K362 hK362 => ?_
      refine e_seq fun K363 hK363 => ?_
      refine e_region_text rfl ?_
      refine q_move rfl rfl ?_
      refine q_lenS rfl f349 rfl ?_
      refine q_move rfl rfl ?_
      refine eseq_nil ?_
      refine hK363 _ _ ?_
      refine e_block ?_
      obtain ⟨tl364, ht364, h⟩ := Option.of_bind h
      have hX364_0 : ∀ (x465 : (List (List (List Lab)))) (v463 : Value) (v464 : List Value) (R459 : Nat → Prop) (w460 : World) (E_ : Env), Track_K1 fuel a0 x360 x465 = some r → Sep F R R459 w w460 [HP.blk B351 [v1, v463, v359] 124, HP.own Ty.raw (fun _ => False) 66 v463 v464, HP.famS (Ty.slice labTy) R459 68 v464 x465, HP.own Ty.bool (fun _ => False) 4 v359 x360] → IsSlice (Ty.slice evtTy) w460 R459 v1 a0 → IsSlice (Ty.slice evtTy) w460 R459 v1 a0 → Sub [(0, v1), (4, .pointer (some ⟨B351, 0, none⟩))] E_ → K362 E_ w460 := by
        intro x465 v463 v464 R459 w460 E_ h hS f461 f462 hsub
        refine hK362 _ _ (e_sub hsub ?_); clear hsub
        unfold Track_K1 at h
        refine e_seq fun K469 hK469 => ?_
        refine e_seq fun K470 hK470 => ?_
        refine e_region_text rfl ?_
        refine q_move rfl rfl ?_
        refine q_lenS rfl f461 rfl ?_
        refine q_move rfl rfl ?_
        refine eseq_nil ?_
        refine hK470 _ _ ?_
        refine e_block ?_
        obtain ⟨tl471, ht471, h⟩ := Option.of_bind h
        have hX471_2 : ∀ (x555 : (List (List (List Lab)))) (x560 : (List Bool)) (v553 : Value) (v554 : List Value) (v559 : Value) (R550 : Nat → Prop) (w551 : World) (E_ : Env), Track_K2 fuel x555 x560 = some r → Sep F R R550 w w551 [HP.blk B351 [v1, v553, v559] 124, HP.own Ty.raw (fun _ => False) 66 v553 v554, HP.famS (Ty.slice labTy) R550 68 v554 x555, HP.own Ty.bool (fun _ => False) 4 v559 x560] → IsSlice (Ty.slice evtTy) w551 R550 v1 a0 → Sub [(4, .pointer (some ⟨B351, 0, none⟩))] E_ → K469 E_ w551 := by
          intro x555 x560 v553 v554 v559 R550 w551 E_ h hS f552 hsub
          refine hK469 _ _ (e_sub hsub ?_); clear hsub
          unfold Track_K2 at h
          refine e_seq fun K561 hK561 => ?_
          refine e_region_text rfl ?_
          refine q_move rfl rfl ?_
          refine q_nilCheck rfl rfl ?_
          refine q_field rfl rfl ?_
          refine q_load rfl (Blk.cell (hS.blk 0 rfl) rfl) rfl ?_
          refine q_assign rfl rfl ?_
          refine q_assign rfl rfl ?_
          refine eseq_nil ?_
          refine hK561 _ _ ?_
          refine e_ret ?_
          obtain rfl := Option.some.inj h
          exact ⟨_, res2 rfl rfl rfl, v553, v554, _, rfl, (hS.pickB [1, 2] 4 rfl rfl)⟩
        refine e_loop (fun m_ E_ w509 => ∃ (x513 : (List (List (List Lab)))), ∃ (x518 : (List Bool)), ∃ (x520 : Int), ∃ (v511 : Value), ∃ (v512 : List Value), ∃ (v517 : Value), ∃ (R508 : Nat → Prop), iter (fun s => Track_B1 fuel a0 s.1 s.2.1 s.2.2) m_ (x513, x518, x520) = some tl471 ∧ Sep F R R508 w w509 [HP.blk B351 [v1, v511, v517] 124, HP.own Ty.raw (fun _ => False) 66 v511 v512, HP.famS (Ty.slice labTy) R508 68 v512 x513, HP.own Ty.bool (fun _ => False) 4 v517 x518] ∧ IsSlice (Ty.slice evtTy) w509 R508 v1 a0 ∧ IsSlice (Ty.slice evtTy) w509 R508 v1 a0 ∧ E_ = [(4, .pointer (some ⟨B351, 0, none⟩)), (38, v1), (39, .int .i64 (a0.length : Int)), (40, .int .i64 x520)]) _ ⟨_, ⟨x465, x360, 0, v463, v464, v359, _, ht471, hS, f462, f461, rfl⟩, Sub.cons rfl (Sub.cons rfl (Sub.cons rfl (Sub.cons rfl (Sub.nil _))))⟩ ?_
        clear ht471 hS
        rintro m471 _ w509 ⟨x513, x518, x520, v511, v512, v517, R508, ht471, hS, f510, f519, rfl⟩
        obtain ⟨m471, rfl, o471, ho471, ht471⟩ := iter_some ht471
        replace ho471 : Track_B1 fuel a0 x513 x518 x520 = some o471 := ho471
        unfold Track_B1 at ho471
        refine e_seq fun K562 hK562 => ?_
        refine e_region_text rfl ?_
        refine q_lss rfl rfl rfl ?_
        refine eseq_nil ?_
        refine hK562 _ _ ?_
        refine e_seq fun K563 hK563 => ?_
        refine e_cond rfl (fun hc564 => ?_) (fun hc564 => ?_)
        · replace ho471 := (if_pos hc564).symm.trans ho471
          refine e_skip ?_
          refine hK563 _ _ ?_
          refine e_seq fun K565 hK565 => ?_
          refine e_block ?_
          refine e_seq fun K566 hK566 => ?_
          refine e_region_text rfl ?_
          refine q_move rfl rfl ?_
          obtain ⟨x567, hx567, ho471⟩ := Option.of_bind ho471
          refine q_atS (by infer_instance) rfl f519 rfl hx567 rfl fun b568 o568 hm568 f568 => ?_
          refine q_loadE rfl f568 rfl (fun v569 f569 => ?_)
          refine q_assign rfl rfl ?_
          refine q_assign rfl rfl ?_
          refine eseq_nil ?_
          refine hK566 _ _ ?_
          refine e_seq fun K570 hK570 => ?_
          refine e_region_text rfl ?_
          refine q_move rfl rfl ?_
          refine q_move rfl rfl ?_
          refine q_move rfl rfl ?_
          refine q_lenS rfl f569 rfl ?_
          obtain ⟨r572, hr572, ho471⟩ := Option.of_bind ho471
          refine q_call rfl (reach_w (Sep.enter (As := [_, _, _, _]) hS) f510 hr572) rfl ?_
          rintro _ w571 ⟨v573, v574, v575, R571, rfl, hC571⟩
          refine ⟨(fun h => by cases h), ?_⟩
          have hk571 := hC571.keptR (Sep.offFeet (As := [_, _, _, _]) hS)
          replace f510 := (f510.kept hk571).mono fun k hk _ => hC571.ro0 k hk
          replace f519 := (f519.kept hk571).mono fun k hk _ => hC571.ro0 k hk
          replace hS := Sep.leave (As := [_, _, _, _]) hS hC571; simp only [List.cons_append, List.nil_append] at hS
          refine q_not rfl rfl ?_
          refine eseq_nil ?_
          refine hK570 _ _ ?_
          refine e_cond rfl (fun hc576 => ?_) (fun hc576 => ?_)
          · replace ho471 := (if_pos hc576).symm.trans ho471
            refine e_seq fun K577 hK577 => ?_
            refine e_region_text rfl ?_
            refine q_assign rfl rfl ?_
            refine q_assign rfl rfl ?_
            refine eseq_nil ?_
            refine hK577 _ _ ?_
            refine e_ret ?_
            replace hS := hS.nilRows (Ty.slice labTy) 68 66
            obtain rfl := Option.some.inj ho471
            obtain rfl := Option.some.inj ht471
            obtain rfl := Option.some.inj h
            exact ⟨_, res2 rfl rfl rfl, (.slice none 0 0), ([] : List Value), _, rfl, (hS.pickB [0, 1] 6 rfl rfl)⟩
          · replace ho471 := (if_neg (not_true hc576)).symm.trans ho471
            refine e_skip ?_
            refine hK565 _ _ ?_
            refine e_region_text rfl ?_
            refine q_addW rfl rfl rfl ?_
            refine q_move rfl rfl ?_
            refine eseq_nil ?_
            obtain rfl := Option.some.inj ho471
            exact ⟨m471, _, Nat.lt_succ_self _, ⟨r572.2.1, r572.2.2, (w64 (x520 + 1)), v573, v574, v575, _, ht471, hS, f510, f519, rfl⟩, Sub.cons rfl (Sub.cons rfl (Sub.cons rfl (Sub.cons rfl (Sub.nil _))))⟩
        · replace ho471 := (if_neg (not_true hc564)).symm.trans ho471
          refine e_exit ?_
          obtain rfl := Option.some.inj ho471
          obtain rfl := Option.some.inj ht471
          exact hX471_2 x513 x518 v511 v512 v517 _ _ _ h hS f510 (Sub.cons rfl (Sub.nil _))
      refine e_loop (fun m_ E_ w411 => ∃ (x416 : (List (List (List Lab)))), ∃ (x420 : Int), ∃ (v414 : Value), ∃ (v415 : List Value), ∃ (R410 : Nat → Prop), iter (fun s => Track_B2 fuel a0 s.1 s.2) m_ (x416, x420) = some tl364 ∧ Sep F R R410 w w411 [HP.blk B351 [v1, v414, v359] 124, HP.own Ty.raw (fun _ => False) 66 v414 v415, HP.famS (Ty.slice labTy) R410 68 v415 x416, HP.own Ty.bool (fun _ => False) 4 v359 x360] ∧ IsSlice (Ty.slice evtTy) w411 R410 v1 a0 ∧ IsSlice (Ty.slice evtTy) w411 R410 v1 a0 ∧ E_ = [(0, v1), (4, .pointer (some ⟨B351, 0, none⟩)), (23, .int .i64 (a0.length : Int)), (24, .int .i64 x420)]) _ ⟨_, ⟨x355, 0, v353, v354, _, ht364, hS, f349, f352, rfl⟩, Sub.cons rfl (Sub.cons rfl (Sub.cons rfl (Sub.cons rfl (Sub.nil _))))⟩ ?_
      clear ht364 hS
      rintro m364 _ w411 ⟨x416, x420, v414, v415, R410, ht364, hS, f412, f413, rfl⟩
      obtain ⟨m364, rfl, o364, ho364, ht364⟩ := iter_some ht364
      replace ho364 : Track_B2 fuel a0 x416 x420 = some o364 := ho364
      unfold Track_B2 at ho364
      refine e_seq fun K580 hK580 => ?_
      refine e_region_text rfl ?_
      refine q_lss rfl rfl rfl ?_
      refine eseq_nil ?_
      refine hK580 _ _ ?_
      refine e_seq fun K581 hK581 => ?_
      refine e_cond rfl (fun hc582 => ?_) (fun hc582 => ?_)
      · replace ho364 := (if_pos hc582).symm.trans ho364
        refine e_skip ?_
        refine hK581 _ _ ?_
        refine e_seq fun K583 hK583 => ?_
        refine e_block ?_
        refine e_seq fun K584 hK584 => ?_
        refine e_region_text rfl ?_
        refine q_move rfl rfl ?_
        refine q_assign rfl rfl ?_
        refine eseq_nil ?_
        refine hK584 _ _ ?_
        refine e_region_draw mixed (fun _ => False) [0, 1, 3, 7, 0, 0, 32, 96, 224, 511, 1023] [7, 8] [0, 1, 2, 3, 4, 5, 6, 7, 8, 9, 10] (by kernel_rfl) ?_
        refine q_move rfl rfl ?_
        refine q_nilCheck rfl rfl ?_
        refine q_field rfl rfl ?_
        refine q_load rfl (Blk.cell (hS.blk 0 rfl) rfl) rfl ?_
        refine q_move rfl rfl ?_
        refine q_move rfl rfl ?_
        refine q_lenS rfl f412 rfl ?_
        obtain ⟨x596, hx596, ho364⟩ := Option.of_bind ho364
        refine q_makeO (T := labTy) (S := (fun _ => False)) rfl rfl rfl hx596 (fun _ h => h.elim) rfl fun w597 v597 ho597 hv597 hB597 => ?_
        replace f412 := f412.ext hB597
        replace f413 := f413.ext hB597
        replace hS := hS.newOwnS hB597 ho597 hv597 (fun _ h => h.elim)
        refine q_litO (T := Ty.raw) (S := (fun _ => False)) (cells := [[v597]]) (ys := [v597]) ((Parts.cons rfl (cells_one (hS.own 0 rfl).one) Parts.nil)) rfl rfl rfl rfl rfl rfl rfl (fun w1 hB => ⟨⟨rfl, (hS.own 0 rfl).one⟩, trivial⟩) (fun _ h => h.elim) rfl fun w599 v599 ho599 hv599 hB599 => ?_
        replace f412 := f412.ext hB599
        replace f413 := f413.ext hB599
        replace hS := hS.newOwnS hB599 ho599 hv599 (fun _ h => h.elim)
        replace hS := hS.pickB [1, 0, 2, 3, 4, 5] 6 rfl rfl; simp only [List.map_cons, List.map_nil, List.getD_cons_zero, List.getD_cons_succ] at hS
        replace hS := hS.famOne
        obtain ⟨x602, hx602, ho364⟩ := Option.of_bind ho364
        have hax602 := ati_nth (hS.famLen 4 rfl) hx602
        refine q_indexO (T := Ty.raw) (by infer_instance) rfl (hS.own 3 rfl) rfl hax602 rfl ?_
        replace hS := hS.pickB [1, 0, 2, 3, 4, 5] 6 rfl rfl; simp only [List.map_cons, List.map_nil, List.getD_cons_zero, List.getD_cons_succ] at hS
        obtain ⟨R604, hS, hm604⟩ := hS.rowsFreeze
        replace f412 := f412.mono fun k hk _ => hm604 k hk
        replace f413 := f413.mono fun k hk _ => hm604 k hk
        replace hS := hS.famMono 3 rfl; simp only [List.set] at hS
        obtain ⟨x606, hx606, ho364⟩ := Option.of_bind ho364
        replace hS := hS.pickB [3, 0, 1, 2, 4] 5 rfl rfl; simp only [List.map_cons, List.map_nil, List.getD_cons_zero, List.getD_cons_succ] at hS
        have hone603 := (hS.own 1 rfl).one
        replace hS := hS.famTake hx602 hx606
        refine q_storeO (T := Ty.raw) (j := 0) rfl rfl (hS.own 2 rfl) hax602 (seti_ok hax602) rfl hone603 rfl (rawSet hone603) fun w603 ho603 hO603 => ?_
        have hk603 := hS.keptO 2 rfl hax602 hO603
        replace f412 := f412.kept hk603
        replace f413 := f413.kept hk603
        replace hS := hS.putO 2 rfl hax602 ho603 hO603; simp only [List.set] at hS
        refine eseq_nil ?_
        refine hK583 _ _ ?_
        refine e_region_text rfl ?_
        refine q_addW rfl rfl rfl ?_
        refine q_move rfl rfl ?_
        refine eseq_nil ?_
        obtain rfl := Option.some.inj ho364
        exact ⟨m364, _, Nat.lt_succ_self _, ⟨x606, (w64 (x420 + 1)), v414, (v415.set (x420).toNat v599), _, ht364, (hS.pickB [1, 2, 0, 3] 4 rfl rfl), f412, f413, rfl⟩, Sub.cons rfl (Sub.cons rfl (Sub.cons rfl (Sub.cons rfl (Sub.nil _))))⟩
      · replace ho364 := (if_neg (not_true hc582)).symm.trans ho364
        refine e_exit ?_
        obtain rfl := Option.some.inj ho364
        obtain rfl := Option.some.inj ht364
        exact hX364_0 x416 v414 v415 _ _ _ h hS f412 f413 (Sub.cons rfl (Sub.cons rfl (Sub.nil _)))
    obtain ⟨x324, hx324, h⟩ := Option.of_bind h
    obtain ⟨x328, hx328, h⟩ := Option.of_bind h
    refine e_region_T mixed (fun _ => False) [0, 0, 2, 6, 0, 16, 48, 127, 255, 511] [] (QT.op 0 (QT.op 1 (QT.op 2 (QT.op 4 (QT.op 5 (QT.alt (QT.op 3 (QT.op 6 (QT.op 7 (QT.op 8 (QT.op 9 QT.fin))))) (QT.op 6 (QT.op 3 (QT.op 7 (QT.op 8 (QT.op 9 QT.fin))))))))))) (by kernel_rfl) ?_
    refine t_op ?_
    refine q_move rfl rfl ?_
    refine eseq_nil ?_
    refine t_op ?_
    refine q_move rfl rfl ?_
    refine eseq_nil ?_
    refine t_op ?_
    refine q_lenS rfl f1 rfl ?_
    refine eseq_nil ?_
    refine t_op ?_
    refine q_move rfl rfl ?_
    refine eseq_nil ?_
    refine t_op ?_
    refine q_lenS rfl f1 rfl ?_
    refine eseq_nil ?_
    refine t_alt ?_ ?_
    · skip
      refine t_op ?_
      refine q_makeO (T := Ty.raw) (S := (fun _ => False)) rfl rfl rfl (mkL_raw hx324) (fun _ h => h.elim) rfl fun w607 v607 ho607 hv607 hB607 => ?_
      replace f1 := f1.ext hB607
      replace hS := (hS.famNilsM (Ty.slice labTy) 68 (fun _ h => h) hx324).newOwnS hB607 ho607 hv607 (fun _ h => h.elim)
      refine eseq_nil ?_
      refine t_op ?_
      refine q_makeO (T := Ty.bool) (S := (fun _ => False)) rfl rfl rfl hx328 (fun _ h => h.elim) rfl fun w610 v610 ho610 hv610 hB610 => ?_
      replace f1 := f1.ext hB610
      replace hS := hS.newOwnS hB610 ho610 hv610 (fun _ h => h.elim)
      refine eseq_nil ?_
      refine t_op ?_
      refine q_build (Parts.cons rfl (cells_one f1.one) (Parts.cons rfl (cells_one (hS.own 1 rfl).one) (Parts.cons rfl (cells_one (hS.own 0 rfl).one) Parts.nil))) rfl rfl ?_
      refine eseq_nil ?_
      refine t_op ?_
      refine q_boxB rfl rfl rfl fun w612 bl612 hg612 hb612 hB612 => ?_
      replace f1 := f1.ext hB612
      replace hS := hS.newBlk hB612 hg612 hb612
      refine eseq_nil ?_
      refine t_op ?_
      refine q_assign rfl rfl ?_
      refine eseq_nil ?_
      refine t_fin ?_
      exact hJt361 x324 x328 bl612 v607 (List.replicate ((a0.length : Int)).toNat (.slice none 0 0)) v610 _ _ _ h (hS.pickB [0, 2, 3, 1] 5 rfl rfl) f1 f1 (Sub.cons rfl (Sub.cons rfl (Sub.nil _)))
    · skip
      refine t_op ?_
      refine q_makeO (T := Ty.bool) (S := (fun _ => False)) rfl rfl rfl hx328 (fun _ h => h.elim) rfl fun w614 v614 ho614 hv614 hB614 => ?_
      replace f1 := f1.ext hB614
      replace hS := hS.newOwnS hB614 ho614 hv614 (fun _ h => h.elim)
      refine eseq_nil ?_
      refine t_op ?_
      refine q_makeO (T := Ty.raw) (S := (fun _ => False)) rfl rfl rfl (mkL_raw hx324) (fun _ h => h.elim) rfl fun w616 v616 ho616 hv616 hB616 => ?_
      replace f1 := f1.ext hB616
      replace hS := (hS.famNilsM (Ty.slice labTy) 68 (fun _ h => h) hx324).newOwnS hB616 ho616 hv616 (fun _ h => h.elim)
      refine eseq_nil ?_
      refine t_op ?_
      refine q_build (Parts.cons rfl (cells_one f1.one) (Parts.cons rfl (cells_one (hS.own 0 rfl).one) (Parts.cons rfl (cells_one (hS.own 2 rfl).one) Parts.nil))) rfl rfl ?_
      refine eseq_nil ?_
      refine t_op ?_
      refine q_boxB rfl rfl rfl fun w619 bl619 hg619 hb619 hB619 => ?_
      replace f1 := f1.ext hB619
      replace hS := hS.newBlk hB619 hg619 hb619
      refine eseq_nil ?_
      refine t_op ?_
      refine q_assign rfl rfl ?_
      refine eseq_nil ?_
      refine t_fin ?_
      exact hJt361 x324 x328 bl619 v616 (List.replicate ((a0.length : Int)).toNat (.slice none 0 0)) v614 _ _ _ h (hS.pickB [0, 1, 2, 3] 5 rfl rfl) f1 f1 (Sub.cons rfl (Sub.cons rfl (Sub.nil _)))
theorem law32_awake_w {F R : Nat → Prop} {w : World} {fuel : Nat} {r : (Bool)} (hS : Sep F R R w w []) (h : law32_awake fuel = some r) :
    Gives Try.prog 29 [] w fun u w1 => ∃ (R1 : Nat → Prop), u = .bool r ∧ Sep F R R1 w w1 [] := by
  refine fn_of Try.func29 rfl Try.ntmps29 (Nat.le_of_ble_eq_true rfl) ?_
  unfold law32_awake at h
  refine e_seq fun K93 hK93 => ?_
  refine e_region_text rfl ?_
  refine q_assign rfl rfl ?_
  refine eseq_nil ?_
  refine hK93 _ _ ?_
  refine e_seq fun K94 hK94 => ?_
  refine e_region_text rfl ?_
  refine q_build (Parts.cons rfl rfl Parts.nil) rfl rfl ?_
  refine q_build (Parts.cons rfl rfl Parts.nil) rfl rfl ?_
  refine q_litO (T := evtTy) (S := (fun _ => False)) (cells := [[.int .i64 2, .int .i64 0, .int .i64 0, .int .i64 0, .int .i64 0, .int .i64 0, .int .i64 0], [.int .i64 2, .int .i64 0, .int .i64 0, .int .i64 0, .int .i64 0, .int .i64 0, .int .i64 0]]) (ys := [(⟨2, 0, 0, (⟨0, 0⟩ : Lab), 0, 0⟩ : Evt), (⟨2, 0, 0, (⟨0, 0⟩ : Lab), 0, 0⟩ : Evt)]) ((Parts.cons rfl rfl (Parts.cons rfl rfl Parts.nil))) rfl rfl rfl rfl rfl rfl rfl (fun w1 hB => ⟨⟨[_], _, rfl, rfl, ⟨[_], _, rfl, rfl, ⟨[_], _, rfl, rfl, ⟨[_, _], _, rfl, ⟨[_], _, rfl, rfl, rfl⟩, ⟨[_], _, rfl, rfl, rfl⟩⟩⟩⟩⟩, ⟨[_], _, rfl, rfl, ⟨[_], _, rfl, rfl, ⟨[_], _, rfl, rfl, ⟨[_, _], _, rfl, ⟨[_], _, rfl, rfl, rfl⟩, ⟨[_], _, rfl, rfl, rfl⟩⟩⟩⟩⟩, trivial⟩) (fun _ h => h.elim) rfl fun w95 v95 ho95 hv95 hB95 => ?_
  replace hS := hS.newOwnS hB95 ho95 hv95 (fun _ h => h.elim)
  refine q_build (Parts.cons rfl rfl Parts.nil) rfl rfl ?_
  refine q_build (Parts.cons rfl rfl (Parts.cons rfl rfl (Parts.cons rfl rfl Parts.nil))) rfl rfl ?_
  refine q_litO (T := evtTy) (S := (fun _ => False)) (cells := [[.int .i64 1, .int .i64 0, .int .i64 0, .int .i64 0, .int .i64 2, .int .i64 0, .int .i64 0]]) (ys := [(⟨1, 0, 0, (⟨0, 2⟩ : Lab), 0, 0⟩ : Evt)]) ((Parts.cons rfl rfl Parts.nil)) rfl rfl rfl rfl rfl rfl rfl (fun w1 hB => ⟨⟨[_], _, rfl, rfl, ⟨[_], _, rfl, rfl, ⟨[_], _, rfl, rfl, ⟨[_, _], _, rfl, ⟨[_], _, rfl, rfl, rfl⟩, ⟨[_], _, rfl, rfl, rfl⟩⟩⟩⟩⟩, trivial⟩) (fun _ h => h.elim) rfl fun w97 v97 ho97 hv97 hB97 => ?_
  replace hS := hS.newOwnS hB97 ho97 hv97 (fun _ h => h.elim)
  refine q_litO (T := Ty.raw) (S := (fun _ => False)) (cells := [[v95], [v97]]) (ys := [v95, v97]) ((Parts.cons rfl (cells_one (hS.own 1 rfl).one) (Parts.cons rfl (cells_one (hS.own 0 rfl).one) Parts.nil))) rfl rfl rfl rfl rfl rfl rfl (fun w1 hB => ⟨⟨rfl, (hS.own 1 rfl).one⟩, ⟨rfl, (hS.own 0 rfl).one⟩, trivial⟩) (fun _ h => h.elim) rfl fun w99 v99 ho99 hv99 hB99 => ?_
  replace hS := hS.newOwnS hB99 ho99 hv99 (fun _ h => h.elim)
  replace hS := hS.pickB [2, 0, 1] 3 rfl rfl; simp only [List.map_cons, List.map_nil, List.getD_cons_zero, List.getD_cons_succ] at hS
  replace hS := hS.famOne
  replace hS := hS.pickB [2, 0, 1] 3 rfl rfl; simp only [List.map_cons, List.map_nil, List.getD_cons_zero, List.getD_cons_succ] at hS
  replace hS := hS.famOne
  replace hS := hS.pickB [1, 0, 2] 3 rfl rfl; simp only [List.map_cons, List.map_nil, List.getD_cons_zero, List.getD_cons_succ] at hS
  replace hS := hS.famCat; simp only [List.cons_append, List.nil_append] at hS
  refine q_assign rfl rfl ?_
  refine eseq_nil ?_
  refine hK94 _ _ ?_
  refine e_seq fun K103 hK103 => ?_
  refine e_region_text rfl ?_
  refine q_move rfl rfl ?_
  replace hS := hS.pickB [1, 0] 2 rfl rfl; simp only [List.map_cons, List.map_nil, List.getD_cons_zero, List.getD_cons_succ] at hS
  obtain ⟨R105, hS, hm105⟩ := hS.rowsFreeze
  obtain ⟨R107, hS, hm107, f107⟩ := hS.freezeOwn 0 rfl; simp only [List.eraseIdx] at hS
  obtain ⟨r108, hr108, h⟩ := Option.of_bind h
  refine q_call rfl (Track_w (Sep.enter (As := []) hS) f107 hr108) rfl ?_
  rintro _ w104 ⟨v109, v110, R104, rfl, hC104⟩
  have hB104 : Below (World.heap w99).size w99 w104 := hC104.stepB0
  refine ⟨fun _ => .of_below hB104, ?_⟩
  replace f107 := (f107.ext hB104).mono fun k hk _ => hC104.ro0 k hk
  replace hS := Sep.leave (As := []) hS hC104; simp only [List.cons_append, List.nil_append] at hS
  refine q_move rfl rfl ?_
  refine q_extract rfl rfl rfl ?_
  refine q_extract rfl rfl rfl ?_
  refine q_assign rfl rfl ?_
  refine q_assign rfl rfl ?_
  refine eseq_nil ?_
  refine hK103 _ _ ?_
  refine e_seq fun K111 hK111 => ?_
  refine e_region_text rfl ?_
  refine q_move rfl rfl ?_
  refine q_move rfl rfl ?_
  obtain ⟨x115, hx114, h⟩ := Option.of_bind h
  refine g_andM 3 hx114 rfl trivial rfl rfl ?_ ?_ ?_
  · intro hg114 hx114
    clear h
    have hT114 := Below.refl (World.heap w104).size w104
    refine g_run rfl ?_; refine q_move rfl rfl ?_
    refine g_run rfl ?_; refine q_lenR rfl (hS.own 0 rfl) (hS.famLen 1 rfl) rfl ?_
    refine g_run rfl ?_; refine q_eql rfl rfl rfl ?_
    cases hx114
    exact eseq_nil ⟨hT114, Sub.set rfl (Sub.set rfl (Sub.set rfl (Sub.bool true rfl hg114))), rfl⟩
  · intro hg114
    refine g_skip rfl rfl rfl ?_
    refine g_skip rfl rfl rfl ?_
    refine g_skip rfl rfl rfl ?_
    exact eseq_nil ⟨rfl, Sub.set rfl (Sub.set rfl (Sub.set rfl (Sub.bool false rfl hg114)))⟩
  intro wm114 hBm114; clear hx114
  replace hS := hS.below hBm114
  replace f107 := f107.ext hBm114
  refine q_move rfl rfl ?_
  obtain ⟨x120, hx119, h⟩ := Option.of_bind h
  refine g_andM 5 hx119 rfl trivial rfl rfl ?_ ?_ ?_
  · intro hg119 hx119
    clear h
    have hT119 := Below.refl (World.heap wm114).size wm114
    refine g_run rfl ?_; refine q_move rfl rfl ?_
    obtain ⟨x121, hx121, hx119⟩ := Option.of_bind hx119
    have hax121 := ati_nth (hS.famLen 1 rfl) hx121
    refine g_run rfl ?_; refine q_indexO (T := Ty.raw) (by infer_instance) rfl (hS.own 0 rfl) rfl hax121 rfl ?_
    refine g_run rfl ?_; refine q_load rfl (Elt.rawCell ((hS.own 0 rfl).elt hax121)) rfl ?_
    refine g_run rfl ?_; refine q_lenS rfl (hS.famI 1 rfl hx121) rfl ?_
    refine g_run rfl ?_; refine q_eql rfl rfl rfl ?_
    cases hx119
    exact eseq_nil ⟨hT119, Sub.set rfl (Sub.set rfl (Sub.set rfl (Sub.set rfl (Sub.set rfl (Sub.bool true rfl hg119))))), rfl⟩
  · intro hg119
    refine g_skip rfl rfl rfl ?_
    refine g_skip rfl rfl rfl ?_
    refine g_skip rfl rfl rfl ?_
    refine g_skip rfl rfl rfl ?_
    refine g_skip rfl rfl rfl ?_
    exact eseq_nil ⟨rfl, Sub.set rfl (Sub.set rfl (Sub.set rfl (Sub.set rfl (Sub.set rfl (Sub.bool false rfl hg119)))))⟩
  intro wm119 hBm119; clear hx119
  replace hS := hS.below hBm119
  replace f107 := f107.ext hBm119
  refine q_move rfl rfl ?_
  obtain ⟨x133, hx132, h⟩ := Option.of_bind h
  refine g_andM 9 hx132 rfl trivial rfl rfl ?_ ?_ ?_
  · intro hg132 hx132
    clear h
    have hT132 := Below.refl (World.heap wm119).size wm119
    refine g_run rfl ?_; refine q_move rfl rfl ?_
    obtain ⟨x134, hx134, hx132⟩ := Option.of_bind hx132
    have hax134 := ati_nth (hS.famLen 1 rfl) hx134
    refine g_run rfl ?_; refine q_indexO (T := Ty.raw) (by infer_instance) rfl (hS.own 0 rfl) rfl hax134 rfl ?_
    refine g_run rfl ?_; refine q_load rfl (Elt.rawCell ((hS.own 0 rfl).elt hax134)) rfl ?_
    obtain ⟨x135, hx135, hx132⟩ := Option.of_bind hx132
    refine g_run rfl ?_; refine q_indexO (by infer_instance) rfl (hS.famO 1 rfl hx134) rfl hx135 rfl ?_
    have f136 := (hS.famOR 1 rfl hx134).elt hx135
    refine g_run rfl ?_; refine q_loadE rfl f136 rfl (fun v137 f137 => ?_)
    refine g_run rfl ?_; refine q_build (Parts.cons rfl rfl Parts.nil) rfl rfl ?_
    refine g_run rfl ?_; refine q_build (Parts.cons rfl rfl Parts.nil) rfl rfl ?_
    refine g_run rfl ?_; refine q_litO (T := labTy) (S := (fun _ => False)) (cells := [[.int .i64 0, .int .i64 2], [.int .i64 0, .int .i64 1]]) (ys := [(⟨0, 2⟩ : Lab), (⟨0, 1⟩ : Lab)]) ((Parts.cons rfl rfl (Parts.cons rfl rfl Parts.nil))) rfl rfl rfl rfl rfl rfl rfl (fun w1 hB => ⟨⟨[_], _, rfl, rfl, rfl⟩, ⟨[_], _, rfl, rfl, rfl⟩, trivial⟩) (fun _ h => h.elim) rfl fun w138 v138 ho138 hv138 hB138 => ?_
    replace f107 := f107.ext hB138
    replace f137 := f137.ext hB138
    replace hT132 := hT132.trans (Below.mono hB138 hT132.size)
    replace hS := hS.newOwnS hB138 ho138 hv138 (fun _ h => h.elim)
    obtain ⟨r141, hr141, hx132⟩ := Option.of_bind hx132
    refine g_run rfl ?_; refine q_call rfl (ref32_SameLabels_w (Sep.all w138) (f137).old ((hS.isl 0 rfl)).old hr141) rfl ?_
    rintro _ w140 ⟨R140, rfl, hC140⟩
    have hB140 : Below (World.heap w138).size w138 w140 := hC140.stepBF
    refine ⟨fun _ => .of_below hB140, ?_⟩
    replace f107 := f107.ext hB140
    replace f137 := f137.ext hB140
    replace hT132 := hT132.trans (Below.mono hB140 hT132.size)
    replace hS := hS.below hB140
    cases hx132
    exact eseq_nil ⟨hT132, Sub.set rfl (Sub.set rfl (Sub.set rfl (Sub.set rfl (Sub.set rfl (Sub.set rfl (Sub.set rfl (Sub.set rfl (Sub.set rfl (Sub.bool true rfl hg132))))))))), rfl⟩
  · intro hg132
    refine g_skip rfl rfl rfl ?_
    refine g_skip rfl rfl rfl ?_
    refine g_skip rfl rfl rfl ?_
    refine g_skip rfl rfl rfl ?_
    refine g_skip rfl rfl rfl ?_
    refine g_skip rfl rfl rfl ?_
    refine g_skip rfl rfl rfl ?_
    refine g_skip rfl rfl rfl ?_
    refine g_skip rfl rfl rfl ?_
    exact eseq_nil ⟨rfl, Sub.set rfl (Sub.set rfl (Sub.set rfl (Sub.set rfl (Sub.set rfl (Sub.set rfl (Sub.set rfl (Sub.set rfl (Sub.set rfl (Sub.bool false rfl hg132)))))))))⟩
  intro wm132 hBm132; clear hx132
  replace hS := hS.below hBm132
  replace f107 := f107.ext hBm132
  refine q_move rfl rfl ?_
  obtain ⟨x154, hx153, h⟩ := Option.of_bind h
  refine g_andM 5 hx153 rfl trivial rfl rfl ?_ ?_ ?_
  · intro hg153 hx153
    clear h
    have hT153 := Below.refl (World.heap wm132).size wm132
    refine g_run rfl ?_; refine q_move rfl rfl ?_
    refine g_run rfl ?_; refine q_litO (T := Ty.int) (S := (fun _ => False)) (cells := [[.int .i64 1], [.int .i64 1]]) (ys := [1, 1]) ((Parts.cons rfl rfl (Parts.cons rfl rfl Parts.nil))) rfl rfl rfl rfl rfl rfl rfl (fun w1 hB => ⟨rfl, rfl, trivial⟩) (fun _ h => h.elim) rfl fun w155 v155 ho155 hv155 hB155 => ?_
    replace f107 := f107.ext hB155
    replace hT153 := hT153.trans (Below.mono hB155 hT153.size)
    replace hS := hS.newOwnS hB155 ho155 hv155 (fun _ h => h.elim)
    obtain ⟨r158, hr158, hx153⟩ := Option.of_bind hx153
    refine g_run rfl ?_; refine q_call rfl (orphan_Lower_w (Sep.all w155) (f107).old ((hS.isl 0 rfl)).old hr158) rfl ?_
    rintro v159 w157 ⟨_, R157, rfl, hC157⟩
    have hB157 : Below (World.heap w155).size w155 w157 := hC157.stepBF
    refine ⟨fun _ => .of_below hB157, ?_⟩
    replace f107 := f107.ext hB157
    replace hT153 := hT153.trans (Below.mono hB157 hT153.size)
    replace hS := hS.newOwnS hB157 (hC157.own 0 rfl) (hC157.fresh 0 rfl) (fun _ h => h.elim)
    refine g_run rfl ?_; refine q_litO (T := Ty.int) (S := (fun _ => False)) (cells := [[.int .i64 1], [.int .i64 0]]) (ys := [1, 0]) ((Parts.cons rfl rfl (Parts.cons rfl rfl Parts.nil))) rfl rfl rfl rfl rfl rfl rfl (fun w1 hB => ⟨rfl, rfl, trivial⟩) (fun _ h => h.elim) rfl fun w160 v160 ho160 hv160 hB160 => ?_
    replace hT153 := hT153.trans (Below.mono hB160 hT153.size)
    replace hS := hS.newOwnS hB160 ho160 hv160 (fun _ h => h.elim)
    obtain ⟨r163, hr163, hx153⟩ := Option.of_bind hx153
    refine g_run rfl ?_; refine q_call rfl (ref23_SameInts_w (Sep.all w160) ((hS.isl 1 rfl)).old ((hS.isl 0 rfl)).old hr163) rfl ?_
    rintro _ w162 ⟨R162, rfl, hC162⟩
    have hB162 : Below (World.heap w160).size w160 w162 := hC162.stepBF
    refine ⟨fun _ => .of_below hB162, ?_⟩
    replace hT153 := hT153.trans (Below.mono hB162 hT153.size)
    replace hS := hS.below hB162
    cases hx153
    exact eseq_nil ⟨hT153, Sub.set rfl (Sub.set rfl (Sub.set rfl (Sub.set rfl (Sub.set rfl (Sub.bool true rfl hg153))))), rfl⟩
  · intro hg153
    refine g_skip rfl rfl rfl ?_
    refine g_skip rfl rfl rfl ?_
    refine g_skip rfl rfl rfl ?_
    refine g_skip rfl rfl rfl ?_
    refine g_skip rfl rfl rfl ?_
    exact eseq_nil ⟨rfl, Sub.set rfl (Sub.set rfl (Sub.set rfl (Sub.set rfl (Sub.set rfl (Sub.bool false rfl hg153)))))⟩
  intro wm153 hBm153; clear hx153
  replace hS := hS.below hBm153
  refine q_move rfl rfl ?_
  obtain ⟨x175, hx174, h⟩ := Option.of_bind h
  refine g_andM 8 hx174 rfl trivial rfl rfl ?_ ?_ ?_
  · intro hg174 hx174
    clear h
    have hT174 := Below.refl (World.heap wm153).size wm153
    refine g_run rfl ?_; refine q_build (Parts.cons rfl rfl Parts.nil) rfl rfl ?_
    refine g_run rfl ?_; refine q_litO (T := endITy) (S := (fun _ => False)) (cells := [[.int .i64 0, .int .i64 0, .int .i64 1]]) (ys := [(⟨0, 0, 1⟩ : EndI)]) ((Parts.cons rfl rfl Parts.nil)) rfl rfl rfl rfl rfl rfl rfl (fun w1 hB => ⟨⟨[_], _, rfl, rfl, ⟨[_], _, rfl, rfl, rfl⟩⟩, trivial⟩) (fun _ h => h.elim) rfl fun w176 v176 ho176 hv176 hB176 => ?_
    replace hT174 := hT174.trans (Below.mono hB176 hT174.size)
    replace hS := hS.newOwnS hB176 ho176 hv176 (fun _ h => h.elim)
    refine g_run rfl ?_; refine q_move rfl rfl ?_
    obtain ⟨x178, hx178, hx174⟩ := Option.of_bind hx174
    have hax178 := ati_nth (hS.famLen 2 rfl) hx178
    refine g_run rfl ?_; refine q_indexO (T := Ty.raw) (by infer_instance) rfl (hS.own 1 rfl) rfl hax178 rfl ?_
    refine g_run rfl ?_; refine q_load rfl (Elt.rawCell ((hS.own 1 rfl).elt hax178)) rfl ?_
    obtain ⟨x179, hx179, hx174⟩ := Option.of_bind hx174
    refine g_run rfl ?_; refine q_indexO (by infer_instance) rfl (hS.famO 2 rfl hx178) rfl hx179 rfl ?_
    have f180 := (hS.famOR 2 rfl hx178).elt hx179
    refine g_run rfl ?_; refine q_loadE rfl f180 rfl (fun v181 f181 => ?_)
    obtain ⟨r183, hr183, hx174⟩ := Option.of_bind hx174
    refine g_run rfl ?_; refine q_call rfl (orphan_Orphan_w (Sep.all w176) ((hS.isl 0 rfl)).old (f181).old hr183) rfl ?_
    rintro _ w182 ⟨R182, rfl, hC182⟩
    have hB182 : Below (World.heap w176).size w176 w182 := hC182.stepBF
    refine ⟨fun _ => .of_below hB182, ?_⟩
    replace f181 := f181.ext hB182
    replace hT174 := hT174.trans (Below.mono hB182 hT174.size)
    replace hS := hS.below hB182
    cases hx174
    exact eseq_nil ⟨hT174, Sub.set rfl (Sub.set rfl (Sub.set rfl (Sub.set rfl (Sub.set rfl (Sub.set rfl (Sub.set rfl (Sub.set rfl (Sub.bool true rfl hg174)))))))), rfl⟩
  · intro hg174
    refine g_skip rfl rfl rfl ?_
    refine g_skip rfl rfl rfl ?_
    refine g_skip rfl rfl rfl ?_
    refine g_skip rfl rfl rfl ?_
    refine g_skip rfl rfl rfl ?_
    refine g_skip rfl rfl rfl ?_
    refine g_skip rfl rfl rfl ?_
    refine g_skip rfl rfl rfl ?_
    exact eseq_nil ⟨rfl, Sub.set rfl (Sub.set rfl (Sub.set rfl (Sub.set rfl (Sub.set rfl (Sub.set rfl (Sub.set rfl (Sub.set rfl (Sub.bool false rfl hg174))))))))⟩
  intro wm174 hBm174; clear hx174
  replace hS := hS.below hBm174
  refine q_assign rfl rfl ?_
  refine eseq_nil ?_
  refine hK111 _ _ ?_
  refine e_ret ?_
  obtain rfl := Option.some.inj h
  exact ⟨_, res1 rfl rfl, _, rfl, (hS.pickB [] 2 rfl rfl)⟩
end Go.Proofs.Ytbmjcbhappjnaaa
