/- Printed walks: A32a. -/
import Derived.Test.YtghjjkdfjmnfeaaTypes
import Derived.Test.YtghjjkdfjmnfeaaAcdat
set_option linter.unusedVariables false
set_option linter.unusedSimpArgs false
namespace Go.Mine
open Go.RowKit
def make_New_J1 (fuel : Nat) (x31 : (List Int)) : Option ((List Int) × Int) :=
  some (x31, 0)
def make_New (fuel : Nat) (a0 : (List Int)) (a1 : Int) : Option ((List Int) × Int) :=
  (if (decide (a1 < (a0.length : Int))) = true then (takeL a0 a1).bind fun x39 => make_New_J1 fuel x39 else make_New_J1 fuel a0)
def make_Codes_Left (fuel : Nat) (c0_0 : (List Int)) (c0_1 : Int) : Option (Bool) :=
  some (decide (c0_1 < (c0_0.length : Int)))
def make_Codes_Next (fuel : Nat) (a1 : Int) (c0_0 : (List Int)) (c0_1 : Int) : Option (Int × Int) :=
  (make_Codes_Left fuel c0_0 c0_1).bind fun r20 => (if (!r20) = true then some (0, c0_1) else (ati c0_0 (w64 ((w64 (c0_1 + 1)) - 1))).bind fun x26 => (remI (w64 x26) a1).bind fun x28 => some (x28, w64 (c0_1 + 1)))
def orphan_Before (fuel : Nat) (a0 : Lab) (a1 : Lab) : Option (Bool) :=
  (orM (decide (a0.inc < a1.inc)) ((andM (a0.inc == a1.inc) (some (decide (a0.index < a1.index)))).bind fun x20 => some x20)).bind fun x18 => some x18
def orphan_Merge_K1 (fuel : Nat) (x292 : (List Lab)) : Option ((List Lab)) :=
  some x292
def orphan_Merge_J1 (fuel : Nat) (x237 : (List Lab)) (x238 : Int) (x313 : Int) (x314 : Int) : Option (((List Lab) × Int) ⊕ ((List Lab))) :=
  (ati x237 x238).bind fun x316 => (orphan_Before fuel x316 (⟨x313, x314⟩ : Lab)).bind fun r320 => (if r320 = true then (ati x237 x238).bind fun x322 => (seti x237 x238 (⟨x313, x314⟩ : Lab)).bind fun x324 => some (Sum.inl (x324, (w64 (x238 + 1)))) else some (Sum.inl (x237, (w64 (x238 + 1)))))
def orphan_Merge_B1 (fuel : Nat) (x175 : (List Lab)) (a1 : (List Lab)) (x237 : (List Lab)) (x238 : Int) : Option (((List Lab) × Int) ⊕ ((List Lab))) :=
  (if (decide (x238 < (x175.length : Int))) = true then (if (decide (x238 < (a1.length : Int))) = true then (ati a1 x238).bind fun x327 => orphan_Merge_J1 fuel x237 x238 x327.inc x327.index else orphan_Merge_J1 fuel x237 x238 0 0) else some (Sum.inr x237))
def orphan_Merge (fuel : Nat) (a0 : (List Lab)) (a1 : (List Lab)) : Option ((List Lab)) :=
  (mkL (max (a0.length : Int) (a1.length : Int)) (⟨(0 : Int), (0 : Int)⟩ : Lab)).bind fun x170 => (copyM x170 a0).bind fun x175 => (iter (fun s => orphan_Merge_B1 fuel x175 a1 s.1 s.2) fuel (x175, 0)).bind (fun t => orphan_Merge_K1 fuel t)
def ref32_SameLabels_K1 (fuel : Nat) : Option (Bool) :=
  some true
def ref32_SameLabels_B1 (fuel : Nat) (a0 : (List Lab)) (a1 : (List Lab)) (x107 : Int) : Option ((Int) ⊕ (Unit ⊕ (Bool))) :=
  (if (decide (x107 < (a0.length : Int))) = true then (ati a0 x107).bind fun x134 => (ati a1 x107).bind fun x137 => (if (!((x134.inc == x137.inc) && ((x134.index == x137.index) && true))) = true then some (Sum.inr (Sum.inr false)) else some (Sum.inl (w64 (x107 + 1)))) else some (Sum.inr (Sum.inl ())))
def ref32_SameLabels (fuel : Nat) (a0 : (List Lab)) (a1 : (List Lab)) : Option (Bool) :=
  (if ((a0.length : Int) != (a1.length : Int)) = true then some false else (iter (fun s => ref32_SameLabels_B1 fuel a0 a1 s) fuel 0).bind (fun t => Sum.elim (fun t => ref32_SameLabels_K1 fuel) (fun t => some t) t))
def orphan_label (fuel : Nat) (a0 : (List Evt)) (a1 : Int) : Option (Lab × Bool) :=
  (orM (decide (a1 < 0)) (some (decide ((a0.length : Int) < a1)))).bind fun x27 => (if x27 = true then some ((⟨0, 0⟩ : Lab), false) else (if (a1 == 0) = true then some ((⟨0, 0⟩ : Lab), true) else (ati a0 (w64 (a1 - 1))).bind fun x36 => some ((⟨x36.inc, a1⟩ : Lab), true)))
def orphan_fits_J1 (fuel : Nat) (r84 : (Lab × Bool)) (a3 : Evt) : Option (Bool) :=
  (andM r84.2 (some ((r84.1.inc == a3.sent.inc) && ((r84.1.index == a3.sent.index) && true)))).bind fun x105 => some x105
def orphan_fits (fuel : Nat) (a0 : (List (List Evt))) (a1 : (List Int)) (a2 : Int) (a3 : Evt) : Option (Bool) :=
  (if (a3.kind != 1) = true then some true else (orM (decide (a3.frm < 0)) (some (decide ((a0.length : Int) ≤ a3.frm)))).bind fun x70 => (orM x70 (some (a3.frm == a2))).bind fun x72 => (orM x72 ((ati a1 a3.frm).bind fun x75 => some (decide (x75 < a3.sent.index)))).bind fun x74 => (if x74 = true then some false else (ati a0 a3.frm).bind fun x80 => (orphan_label fuel x80 a3.sent.index).bind fun r84 => orphan_fits_J1 fuel r84 a3))
def orphan_Consistent_K2 (fuel : Nat) : Option (Bool) :=
  some true
def orphan_Consistent_K3 (fuel : Nat) (x583 : Int) : Option ((Int) ⊕ (Unit ⊕ (Bool))) :=
  some (Sum.inl (w64 (x583 + 1)))
def orphan_Consistent_B2 (fuel : Nat) (x699 : (List Evt)) (a0 : (List (List Evt))) (a1 : (List Int)) (x583 : Int) (x736 : Int) : Option ((Int) ⊕ (Unit ⊕ (Bool))) :=
  (if (decide (x736 < (x699.length : Int))) = true then (ati x699 x736).bind fun x770 => (orphan_fits fuel a0 a1 x583 (⟨x770.kind, x770.inc, x770.frm, (⟨x770.sent.inc, x770.sent.index⟩ : Lab), x770.ord, x770.value⟩ : Evt)).bind fun r778 => (if (!r778) = true then some (Sum.inr (Sum.inr false)) else some (Sum.inl (w64 (x736 + 1)))) else some (Sum.inr (Sum.inl ())))
def orphan_Consistent_B1 (fuel : Nat) (a0 : (List (List Evt))) (a1 : (List Int)) (x583 : Int) : Option ((Int) ⊕ (Unit ⊕ (Bool))) :=
  (if (decide (x583 < (a0.length : Int))) = true then (ati a0 x583).bind fun x692 => (ati a1 x583).bind fun x696 => (takeL x692 x696).bind fun x699 => (iter (fun s => orphan_Consistent_B2 fuel x699 a0 a1 x583 s) fuel 0).bind (fun t => Sum.elim (fun t => orphan_Consistent_K3 fuel x583) (fun t => some (Sum.inr (Sum.inr t))) t) else some (Sum.inr (Sum.inl ())))
def orphan_Consistent_K1 (fuel : Nat) (a0 : (List (List Evt))) (a1 : (List Int)) : Option (Bool) :=
  (iter (fun s => orphan_Consistent_B1 fuel a0 a1 s) fuel 0).bind (fun t => Sum.elim (fun t => orphan_Consistent_K2 fuel) (fun t => some t) t)
def orphan_Consistent_B3 (fuel : Nat) (a0 : (List (List Evt))) (a1 : (List Int)) (x442 : Int) : Option ((Int) ⊕ (Unit ⊕ (Bool))) :=
  (if (decide (x442 < (a0.length : Int))) = true then (ati a0 x442).bind fun x786 => (ati a1 x442).bind fun x790 => (orM (decide (x790 < 0)) ((ati a1 x442).bind fun x794 => some (decide ((x786.length : Int) < x794)))).bind fun x793 => (if x793 = true then some (Sum.inr (Sum.inr false)) else some (Sum.inl (w64 (x442 + 1)))) else some (Sum.inr (Sum.inl ())))
def orphan_Consistent (fuel : Nat) (a0 : (List (List Evt))) (a1 : (List Int)) : Option (Bool) :=
  (if ((a1.length : Int) != (a0.length : Int)) = true then some false else (iter (fun s => orphan_Consistent_B3 fuel a0 a1 s) fuel 0).bind (fun t => Sum.elim (fun t => orphan_Consistent_K1 fuel a0 a1) (fun t => some t) t))
def ref23_SameInts_K1 (fuel : Nat) : Option (Bool) :=
  some true
def ref23_SameInts_B1 (fuel : Nat) (a0 : (List Int)) (a1 : (List Int)) (x99 : Int) : Option ((Int) ⊕ (Unit ⊕ (Bool))) :=
  (if (decide (x99 < (a0.length : Int))) = true then (ati a0 x99).bind fun x124 => (ati a1 x99).bind fun x126 => (if (x124 != x126) = true then some (Sum.inr (Sum.inr false)) else some (Sum.inl (w64 (x99 + 1)))) else some (Sum.inr (Sum.inl ())))
def ref23_SameInts (fuel : Nat) (a0 : (List Int)) (a1 : (List Int)) : Option (Bool) :=
  (if ((a0.length : Int) != (a1.length : Int)) = true then some false else (iter (fun s => ref23_SameInts_B1 fuel a0 a1 s) fuel 0).bind (fun t => Sum.elim (fun t => ref23_SameInts_K1 fuel) (fun t => some t) t))
def orphan_Lower_1 (fuel : Nat) (a0 : Evt) (c1_0 : (List (List Evt))) (c2_0 : (List Int)) (c3_0 : Int) : Option (Bool) :=
  (orphan_fits fuel c1_0 c2_0 c3_0 (⟨a0.kind, a0.inc, a0.frm, (⟨a0.sent.inc, a0.sent.index⟩ : Lab), a0.ord, a0.value⟩ : Evt)).bind fun r17 => some (!r17)
def slices_IndexFunc_K1 (fuel : Nat) : Option (Int) :=
  some (-1)
def slices_IndexFunc_B1 (fuel : Nat) (a0 : (List Evt)) (c1a_0 : (List (List Evt))) (c1b_0 : (List Int)) (c1c_0 : Int) (x131 : Int) : Option ((Int) ⊕ (Unit ⊕ (Int))) :=
  (if (decide (x131 < (a0.length : Int))) = true then (ati a0 x131).bind fun x163 => (orphan_Lower_1 fuel x163 c1a_0 c1b_0 c1c_0).bind fun r167 => (if r167 = true then some (Sum.inr (Sum.inr x131)) else some (Sum.inl (w64 (x131 + 1)))) else some (Sum.inr (Sum.inl ())))
def slices_IndexFunc (fuel : Nat) (a0 : (List Evt)) (c1a_0 : (List (List Evt))) (c1b_0 : (List Int)) (c1c_0 : Int) : Option (Int) :=
  (iter (fun s => slices_IndexFunc_B1 fuel a0 c1a_0 c1b_0 c1c_0 s) fuel 0).bind (fun t => Sum.elim (fun t => slices_IndexFunc_K1 fuel) (fun t => some t) t)
def orphan_Lower_K2 (fuel : Nat) (x857 : (List Int)) : Option (((List Int)) ⊕ ((List Int))) :=
  some (Sum.inl x857)
def orphan_Lower_K3 (fuel : Nat) (x657 : (List Int)) : Option (((List Int)) ⊕ ((List Int))) :=
  some (Sum.inr x657)
def orphan_Lower_B2 (fuel : Nat) (a0 : (List (List Evt))) (x657 : (List Int)) (x821 : Int) : Option ((Int) ⊕ (((List Int)) ⊕ Unit)) :=
  (if (decide (x821 < (a0.length : Int))) = true then (ati a0 x821).bind fun x867 => (ati x657 x821).bind fun x874 => (takeL x867 x874).bind fun x877 => (slices_IndexFunc fuel x877 a0 x657 x821).bind fun r879 => (if (decide (0 ≤ r879)) = true then (ati x657 x821).bind fun x883 => (seti x657 x821 r879).bind fun x885 => some (Sum.inr (Sum.inl x885)) else some (Sum.inl (w64 (x821 + 1)))) else some (Sum.inr (Sum.inr ())))
def orphan_Lower_B1 (fuel : Nat) (a0 : (List (List Evt))) (x657 : (List Int)) : Option (((List Int)) ⊕ ((List Int))) :=
  (iter (fun s => orphan_Lower_B2 fuel a0 x657 s) fuel 0).bind (fun t => Sum.elim (fun t => orphan_Lower_K2 fuel t) (fun t => orphan_Lower_K3 fuel x657) t)
def orphan_Lower_K1 (fuel : Nat) (a0 : (List (List Evt))) (x525 : (List Int)) : Option ((List Int)) :=
  (iter (fun s => orphan_Lower_B1 fuel a0 s) fuel x525).bind (fun t => some t)
def orphan_Lower_B3 (fuel : Nat) (a0 : (List (List Evt))) (a1 : (List Int)) (x497 : (List Int)) (x498 : Int) : Option (((List Int) × Int) ⊕ ((List Int))) :=
  (if (decide (x498 < (min (a0.length : Int) (a1.length : Int)))) = true then (ati a1 x498).bind fun x891 => (ati a0 x498).bind fun x893 => (ati x497 x498).bind fun x896 => (seti x497 x498 (min (max x891 0) (x893.length : Int))).bind fun x898 => some (Sum.inl (x898, (w64 (x498 + 1)))) else some (Sum.inr x497))
def orphan_Lower (fuel : Nat) (a0 : (List (List Evt))) (a1 : (List Int)) : Option ((List Int)) :=
  (mkL (a0.length : Int) (0 : Int)).bind fun x456 => (iter (fun s => orphan_Lower_B3 fuel a0 a1 s.1 s.2) fuel (x456, 0)).bind (fun t => orphan_Lower_K1 fuel a0 t)
def orphan_all_K1 (fuel : Nat) (x135 : (List Int)) : Option ((List Int)) :=
  some x135
def orphan_all_B1 (fuel : Nat) (a0 : (List (List Evt))) (x110 : (List Int)) (x112 : Int) : Option (((List Int) × Int) ⊕ ((List Int))) :=
  (if (decide (x112 < (a0.length : Int))) = true then (ati a0 x112).bind fun x142 => (ati x110 x112).bind fun x145 => (seti x110 x112 (x142.length : Int)).bind fun x147 => some (Sum.inl (x147, (w64 (x112 + 1)))) else some (Sum.inr x110))
def orphan_all (fuel : Nat) (a0 : (List (List Evt))) : Option ((List Int)) :=
  (mkL (a0.length : Int) (0 : Int)).bind fun x78 => (iter (fun s => orphan_all_B1 fuel a0 s.1 s.2) fuel (x78, 0)).bind (fun t => orphan_all_K1 fuel t)
def incarnation_Undone_K1 (fuel : Nat) : Option (Bool) :=
  some false
def incarnation_Undone_B1 (fuel : Nat) (a0 : (List EndI)) (a1 : Int) (a2 : Lab) (x115 : Int) : Option ((Int) ⊕ (Unit ⊕ (Bool))) :=
  (if (decide (x115 < (a0.length : Int))) = true then (ati a0 x115).bind fun x146 => (andM (x146.proc == a1) (some (decide (a2.inc ≤ x146.inc)))).bind fun x154 => (andM x154 (some (decide (x146.index < a2.index)))).bind fun x156 => (if x156 = true then some (Sum.inr (Sum.inr true)) else some (Sum.inl (w64 (x115 + 1)))) else some (Sum.inr (Sum.inl ())))
def incarnation_Undone (fuel : Nat) (a0 : (List EndI)) (a1 : Int) (a2 : Lab) : Option (Bool) :=
  (iter (fun s => incarnation_Undone_B1 fuel a0 a1 a2 s) fuel 0).bind (fun t => Sum.elim (fun t => incarnation_Undone_K1 fuel) (fun t => some t) t)
def orphan_Orphan_K1 (fuel : Nat) : Option (Bool) :=
  some false
def orphan_Orphan_B1 (fuel : Nat) (a1 : (List Lab)) (a0 : (List EndI)) (x111 : Int) : Option ((Int) ⊕ (Unit ⊕ (Bool))) :=
  (if (decide (x111 < (a1.length : Int))) = true then (ati a1 x111).bind fun x141 => (incarnation_Undone fuel a0 x111 (⟨x141.inc, x141.index⟩ : Lab)).bind fun r149 => (if r149 = true then some (Sum.inr (Sum.inr true)) else some (Sum.inl (w64 (x111 + 1)))) else some (Sum.inr (Sum.inl ())))
def orphan_Orphan (fuel : Nat) (a0 : (List EndI)) (a1 : (List Lab)) : Option (Bool) :=
  (iter (fun s => orphan_Orphan_B1 fuel a1 a0 s) fuel 0).bind (fun t => Sum.elim (fun t => orphan_Orphan_K1 fuel) (fun t => some t) t)
def Clone_Lab (fuel : Nat) (a0 : List Lab) : Option (List Lab) := catL [] a0
def reach_K1 (fuel : Nat) (rec_ : Int → Int → (List (List Evt)) → (List (List (List Lab))) → (List Bool) → Option (Bool × (List (List (List Lab))) × (List Bool))) (a1 : Int) (x984 : (List (List (List Lab)))) (x989 : (List Bool)) : Option (Bool × (List (List (List Lab))) × (List Bool)) :=
  (ati x989 a1).bind fun x991 => (seti x989 a1 false).bind fun x993 => some (true, x984, x993)
def reach_J1 (fuel : Nat) (rec_ : Int → Int → (List (List Evt)) → (List (List (List Lab))) → (List Bool) → Option (Bool × (List (List (List Lab))) × (List Bool))) (a1 : Int) (x867 : Int) (x1045 : (List (List (List Lab)))) (x1050 : (List Bool)) (x1053 : (List Lab)) : Option (((List (List (List Lab))) × (List Bool) × Int) ⊕ (((List (List (List Lab))) × (List Bool)) ⊕ (Bool × (List (List (List Lab))) × (List Bool)))) :=
  (ati x1045 a1).bind fun x1065 => (catL x1065 ([x1053])).bind fun x1072 => (seti x1045 a1 x1072).bind fun x1073 => (ati x1073 a1).bind fun x1074 => some (Sum.inl (x1073, x1050, (w64 (x867 + 1))))
def reach_B1 (fuel : Nat) (rec_ : Int → Int → (List (List Evt)) → (List (List (List Lab))) → (List Bool) → Option (Bool × (List (List (List Lab))) × (List Bool))) (a2 : Int) (c0_0 : (List (List Evt))) (a1 : Int) (x861 : (List (List (List Lab)))) (x866 : (List Bool)) (x867 : Int) : Option (((List (List (List Lab))) × (List Bool) × Int) ⊕ (((List (List (List Lab))) × (List Bool)) ⊕ (Bool × (List (List (List Lab))) × (List Bool)))) :=
  (if (decide (x867 ≤ a2)) = true then (ati c0_0 a1).bind fun x1000 => (ati x1000 (w64 (x867 - 1))).bind fun x1003 => (ati x861 a1).bind fun x1010 => (ati x1010 (w64 (x867 - 1))).bind fun x1011 => (Clone_Lab fuel x1011).bind fun r1015 => (ati r1015 a1).bind fun x1018 => (seti r1015 a1 (⟨x1003.inc, x867⟩ : Lab)).bind fun x1020 => (if (x1003.kind == 1) = true then (rec_ x1003.frm x1003.sent.index c0_0 x861 x866).bind fun r1081 => (if (!r1081.1) = true then some (Sum.inr (Sum.inr (false, r1081.2.1, r1081.2.2))) else (ati r1081.2.1 x1003.frm).bind fun x1087 => (ati x1087 x1003.sent.index).bind fun x1088 => (orphan_Merge fuel x1020 x1088).bind fun r1092 => reach_J1 fuel rec_ a1 x867 r1081.2.1 r1081.2.2 r1092) else reach_J1 fuel rec_ a1 x867 x861 x866 x1020) else some (Sum.inr (Sum.inl (x861, x866))))
def reach_F (fuel : Nat) (rec_ : Int → Int → (List (List Evt)) → (List (List (List Lab))) → (List Bool) → Option (Bool × (List (List (List Lab))) × (List Bool))) (a1 : Int) (a2 : Int) (c0_0 : (List (List Evt))) (c0_1 : (List (List (List Lab)))) (c0_2 : (List Bool)) : Option (Bool × (List (List (List Lab))) × (List Bool)) :=
  (ati c0_1 a1).bind fun x722 => (if (decide (a2 < (x722.length : Int))) = true then some (true, c0_1, c0_2) else (ati c0_2 a1).bind fun x727 => (if x727 = true then some (false, c0_1, c0_2) else (ati c0_2 a1).bind fun x732 => (seti c0_2 a1 true).bind fun x734 => (ati c0_1 a1).bind fun x737 => (iter (fun s => reach_B1 fuel rec_ a2 c0_0 a1 s.1 s.2.1 s.2.2) fuel (c0_1, x734, (x737.length : Int))).bind (fun t => Sum.elim (fun t => reach_K1 fuel rec_ a1 t.1 t.2) (fun t => some t) t)))
def reach_R (fuel : Nat) : Nat → Int → Int → (List (List Evt)) → (List (List (List Lab))) → (List Bool) → Option (Bool × (List (List (List Lab))) × (List Bool))
  | 0 => fun _ _ _ _ _ => none
  | d_ + 1 => reach_F fuel (reach_R fuel d_)
def reach (fuel : Nat) (a1 : Int) (a2 : Int) (c0_0 : (List (List Evt))) (c0_1 : (List (List (List Lab)))) (c0_2 : (List Bool)) : Option (Bool × (List (List (List Lab))) × (List Bool)) := reach_R fuel fuel a1 a2 c0_0 c0_1 c0_2
def Track_K2 (fuel : Nat) (x555 : (List (List (List Lab)))) (x560 : (List Bool)) : Option ((List (List (List Lab))) × Bool) :=
  some (x555, true)
def Track_B1 (fuel : Nat) (a0 : (List (List Evt))) (x513 : (List (List (List Lab)))) (x518 : (List Bool)) (x520 : Int) : Option (((List (List (List Lab))) × (List Bool) × Int) ⊕ (((List (List (List Lab))) × (List Bool)) ⊕ ((List (List (List Lab))) × Bool))) :=
  (if (decide (x520 < (a0.length : Int))) = true then (ati a0 x520).bind fun x567 => (reach fuel x520 (x567.length : Int) a0 x513 x518).bind fun r572 => (if (!r572.1) = true then some (Sum.inr (Sum.inr (([] : List (List (List Lab))), false))) else some (Sum.inl (r572.2.1, r572.2.2, (w64 (x520 + 1))))) else some (Sum.inr (Sum.inl (x513, x518))))
def Track_K1 (fuel : Nat) (a0 : (List (List Evt))) (x360 : (List Bool)) (x465 : (List (List (List Lab)))) : Option ((List (List (List Lab))) × Bool) :=
  (iter (fun s => Track_B1 fuel a0 s.1 s.2.1 s.2.2) fuel (x465, x360, 0)).bind (fun t => Sum.elim (fun t => Track_K2 fuel t.1 t.2) (fun t => some t) t)
def Track_B2 (fuel : Nat) (a0 : (List (List Evt))) (x416 : (List (List (List Lab)))) (x420 : Int) : Option (((List (List (List Lab))) × Int) ⊕ ((List (List (List Lab))))) :=
  (if (decide (x420 < (a0.length : Int))) = true then (mkL (a0.length : Int) (⟨(0 : Int), (0 : Int)⟩ : Lab)).bind fun x596 => (ati x416 x420).bind fun x602 => (seti x416 x420 ([x596])).bind fun x606 => some (Sum.inl (x606, (w64 (x420 + 1)))) else some (Sum.inr x416))
def Track_J1 (fuel : Nat) (a0 : (List (List Evt))) (x355 : (List (List (List Lab)))) (x360 : (List Bool)) : Option ((List (List (List Lab))) × Bool) :=
  (iter (fun s => Track_B2 fuel a0 s.1 s.2) fuel (x355, 0)).bind (fun t => Track_K1 fuel a0 x360 t)
def Track (fuel : Nat) (a0 : (List (List Evt))) : Option ((List (List (List Lab))) × Bool) :=
  (orphan_all fuel a0).bind fun r315 => (orphan_Consistent fuel a0 r315).bind fun r318 => (if (!r318) = true then some (([] : List (List (List Lab))), false) else (mkL (a0.length : Int) ([] : List (List Lab))).bind fun x324 => (mkL (a0.length : Int) false).bind fun x328 => Track_J1 fuel a0 x324 x328)
def law32_awake (fuel : Nat) : Option (Bool) :=
  (Track fuel ([[(⟨2, 0, 0, (⟨0, 0⟩ : Lab), 0, 0⟩ : Evt), (⟨2, 0, 0, (⟨0, 0⟩ : Lab), 0, 0⟩ : Evt)], [(⟨1, 0, 0, (⟨0, 2⟩ : Lab), 0, 0⟩ : Evt)]])).bind fun r72 => (andM r72.2 (some ((r72.1.length : Int) == 2))).bind fun x77 => (andM x77 ((ati r72.1 1).bind fun x80 => some ((x80.length : Int) == 2))).bind fun x79 => (andM x79 ((ati r72.1 1).bind fun x83 => (ati x83 1).bind fun x84 => (ref32_SameLabels fuel x84 ([(⟨0, 2⟩ : Lab), (⟨0, 1⟩ : Lab)])).bind fun r90 => some r90)).bind fun x82 => (andM x82 ((orphan_Lower fuel ([[(⟨2, 0, 0, (⟨0, 0⟩ : Lab), 0, 0⟩ : Evt), (⟨2, 0, 0, (⟨0, 0⟩ : Lab), 0, 0⟩ : Evt)], [(⟨1, 0, 0, (⟨0, 2⟩ : Lab), 0, 0⟩ : Evt)]]) ([1, 1])).bind fun r96 => (ref23_SameInts fuel r96 ([1, 0])).bind fun r101 => some r101)).bind fun x92 => (andM x92 ((ati r72.1 1).bind fun x106 => (ati x106 1).bind fun x107 => (orphan_Orphan fuel ([(⟨0, 0, 1⟩ : EndI)]) x107).bind fun r111 => some r111)).bind fun x103 => some x103
end Go.Mine
namespace Go.Proofs.Ytghjjkdfjmnfeaa
open Go.RowKit Go.Mine
attribute [local irreducible] eseq ewp iter
theorem make_New_w {F R : Nat → Prop} {w : World} {fuel : Nat} {a0 : (List Int)} {a1 : Int} {v1 : Value} {r : ((List Int) × Int)} (hS : Sep F R R w w []) (f1 : IsSlice Ty.u8 w R v1 a0) (h : make_New fuel a0 a1 = some r) :
    Gives Try.prog 12 [v1, .int .i64 a1] w fun u w1 => ∃ (B20 : Nat), ∃ (v21 : Value), ∃ (R1 : Nat → Prop), u = .pointer (some ⟨B20, 0, none⟩) ∧ Sep F R R1 w w1 [HP.blk B20 [v21, .int .i64 r.2] 78] ∧ IsSlice Ty.u8 w1 R1 v21 r.1 := by
  refine fn_of Try.func12 rfl Try.ntmps12 (Nat.le_of_ble_eq_true rfl) ?_
  unfold make_New at h
  refine e_seq fun K22 hK22 => ?_
  refine e_region_text rfl ?_
  refine q_assign rfl rfl ?_
  refine eseq_nil ?_
  refine hK22 _ _ ?_
  refine e_seq fun K23 hK23 => ?_
  have hJ23 : ∀ (x31 : (List Int)) (v30 : Value) (R28 : Nat → Prop) (w29 : World) (E_ : Env), make_New_J1 fuel x31 = some r → Sep F R R28 w w29 [] → IsSlice Ty.u8 w29 R28 v30 x31 → Sub [(0, v30)] E_ → K23 E_ w29 := by
    intro x31 v30 R28 w29 E_ h hS f32 hsub
    refine hK23 _ _ (e_sub hsub ?_); clear hsub
    unfold make_New_J1 at h
    refine e_seq fun K33 hK33 => ?_
    refine e_region_text rfl ?_
    refine q_move rfl rfl ?_
    refine q_build (Parts.cons rfl (cells_one f32.one) Parts.nil) rfl rfl ?_
    refine q_boxB rfl rfl rfl fun w34 bl34 hg34 hb34 hB34 => ?_
    replace f32 := f32.ext hB34
    replace hS := hS.newBlk hB34 hg34 hb34
    refine q_assign rfl rfl ?_
    refine eseq_nil ?_
    refine hK33 _ _ ?_
    refine e_ret ?_
    obtain rfl := Option.some.inj h
    exact ⟨_, res1 rfl rfl, bl34, v30, _, rfl, hS, f32⟩
  refine e_seq fun K36 hK36 => ?_
  refine e_region_text rfl ?_
  refine q_move rfl rfl ?_
  refine q_lenS rfl f1 rfl ?_
  refine q_move rfl rfl ?_
  refine q_gtr rfl rfl rfl ?_
  refine eseq_nil ?_
  refine hK36 _ _ ?_
  refine e_cond rfl (fun hc37 => ?_) (fun hc37 => ?_)
  · replace h := (if_pos hc37).symm.trans h
    refine e_region_text rfl ?_
    refine q_move rfl rfl ?_
    refine q_move rfl rfl ?_
    obtain ⟨x39, hx39, h⟩ := Option.of_bind h
    refine q_takeS (by infer_instance) rfl f1 rfl hx39 rfl fun v38 f38 => ?_
    refine q_assign rfl rfl ?_
    refine eseq_nil ?_
    exact hJ23 x39 v38 _ _ _ h hS f38 (Sub.cons rfl (Sub.nil _))
  · replace h := (if_neg (not_true hc37)).symm.trans h
    refine e_skip ?_
    exact hJ23 a0 v1 _ _ _ h hS f1 (Sub.cons rfl (Sub.nil _))
theorem make_Codes_Left_w {F R : Nat → Prop} {w : World} {fuel : Nat} {c0_0 : (List Int)} {c0_1 : Int} {B0 : Nat} {v2 : Value} {r : (Bool)} (hS : Sep F R R w w []) (f1 : Lent w R B0 [v2, .int .i64 c0_1] 78) (f2 : IsSlice Ty.u8 w R v2 c0_0) (h : make_Codes_Left fuel c0_0 c0_1 = some r) :
    Gives Try.prog 47 [.pointer (some ⟨B0, 0, none⟩)] w fun u w1 => ∃ (R1 : Nat → Prop), u = .bool r ∧ Sep F R R1 w w1 [] := by
  refine fn_of Try.func47 rfl Try.ntmps47 (Nat.le_of_ble_eq_true rfl) ?_
  unfold make_Codes_Left at h
  refine e_seq fun K5 hK5 => ?_
  refine e_region_text rfl ?_
  refine q_assign rfl rfl ?_
  refine eseq_nil ?_
  refine hK5 _ _ ?_
  refine e_seq fun K6 hK6 => ?_
  refine e_region_draw mixed (fun _ => False) [0, 1, 3, 7, 0, 16, 48, 112, 240, 511, 1023] [] [0, 1, 2, 3, 4, 5, 6, 7, 8, 9, 10] (by kernel_rfl) ?_
  refine q_move rfl rfl ?_
  refine q_nilCheck rfl rfl ?_
  refine q_field rfl rfl ?_
  refine q_load rfl (Blk.cell f1.blk rfl) rfl ?_
  refine q_move rfl rfl ?_
  refine q_nilCheck rfl rfl ?_
  refine q_field rfl rfl ?_
  refine q_load rfl (Blk.cell f1.blk rfl) rfl ?_
  refine q_lenS rfl f2 rfl ?_
  refine q_lss rfl rfl rfl ?_
  refine q_assign rfl rfl ?_
  refine eseq_nil ?_
  refine hK6 _ _ ?_
  refine e_ret ?_
  obtain rfl := Option.some.inj h
  exact ⟨_, res1 rfl rfl, _, rfl, hS⟩
theorem make_Codes_Next_w {F R : Nat → Prop} {w : World} {fuel : Nat} {a1 : Int} {c0_0 : (List Int)} {c0_1 : Int} {B0 : Nat} {v2 : Value} {r : (Int × Int)} (hS : Sep F R R w w [HP.blk B0 [v2, .int .i64 c0_1] 78]) (f2 : IsSlice Ty.u8 w R v2 c0_0) (h : make_Codes_Next fuel a1 c0_0 c0_1 = some r) :
    Gives Try.prog 13 [.pointer (some ⟨B0, 0, none⟩), .int .i64 a1] w fun u w1 => ∃ (R1 : Nat → Prop), u = .int .i64 r.1 ∧ Sep F R R1 w w1 [HP.blk B0 [v2, .int .i64 r.2] 78] := by
  refine fn_of Try.func13 rfl Try.ntmps13 (Nat.le_of_ble_eq_true rfl) ?_
  unfold make_Codes_Next at h
  refine e_seq fun K16 hK16 => ?_
  refine e_region_text rfl ?_
  refine q_assign rfl rfl ?_
  refine eseq_nil ?_
  refine hK16 _ _ ?_
  refine e_seq fun K17 hK17 => ?_
  refine e_seq fun K18 hK18 => ?_
  refine e_region_text rfl ?_
  refine q_move rfl rfl ?_
  obtain ⟨r20, hr20, h⟩ := Option.of_bind h
  refine q_call rfl (make_Codes_Left_w (Sep.all w) (Lent.of (hS.blk 0 rfl)) (f2).old hr20) rfl ?_
  rintro _ w19 ⟨R19, rfl, hC19⟩
  have hB19 : Below (World.heap w).size w w19 := hC19.stepBF
  refine ⟨fun _ => .of_below hB19, ?_⟩
  replace f2 := f2.ext hB19
  replace hS := hS.below hB19
  refine q_not rfl rfl ?_
  refine eseq_nil ?_
  refine hK18 _ _ ?_
  refine e_cond rfl (fun hc21 => ?_) (fun hc21 => ?_)
  · replace h := (if_pos hc21).symm.trans h
    refine e_seq fun K22 hK22 => ?_
    refine e_region_text rfl ?_
    refine q_assign rfl rfl ?_
    refine eseq_nil ?_
    refine hK22 _ _ ?_
    refine e_ret ?_
    obtain rfl := Option.some.inj h
    exact ⟨_, res1 rfl rfl, _, rfl, hS⟩
  · replace h := (if_neg (not_true hc21)).symm.trans h
    refine e_skip ?_
    refine hK17 _ _ ?_
    refine e_seq fun K23 hK23 => ?_
    refine e_region_text rfl ?_
    refine q_move rfl rfl ?_
    refine q_nilCheck rfl rfl ?_
    refine q_field rfl rfl ?_
    refine q_load rfl (Blk.cell (hS.blk 0 rfl) rfl) rfl ?_
    refine q_addW rfl rfl rfl ?_
    refine q_nilCheck rfl rfl ?_
    refine q_field rfl rfl ?_
    refine q_store rfl rfl (hS.blk 0 rfl) (Nat.le_of_ble_eq_true rfl) rfl rfl rfl fun w24 hb24 hO24 => ?_
    have hk24 := hS.keptBlk 0 rfl hO24
    replace f2 := f2.kept hk24
    replace hS := hS.setBlk 0 rfl hb24 hO24; simp only [List.set] at hS
    refine eseq_nil ?_
    refine hK23 _ _ ?_
    refine e_seq fun K25 hK25 => ?_
    refine e_region_draw mixed (fun _ => False) [0, 1, 3, 7, 0, 16, 48, 112, 240, 511, 1023, 2047, 0, 8191, 16383] [] [0, 1, 2, 3, 4, 5, 6, 7, 8, 9, 10, 11, 12, 13, 14] (by kernel_rfl) ?_
    refine q_move rfl rfl ?_
    refine q_nilCheck rfl rfl ?_
    refine q_field rfl rfl ?_
    refine q_load rfl (Blk.cell (hS.blk 0 rfl) rfl) rfl ?_
    refine q_move rfl rfl ?_
    refine q_nilCheck rfl rfl ?_
    refine q_field rfl rfl ?_
    refine q_load rfl (Blk.cell (hS.blk 0 rfl) rfl) rfl ?_
    refine q_subW rfl rfl rfl ?_
    obtain ⟨x26, hx26, h⟩ := Option.of_bind h
    refine q_atS (by infer_instance) rfl f2 rfl hx26 rfl fun b27 o27 hm27 f27 => ?_
    refine q_load rfl (Elt.u8Cell f27) rfl ?_
    refine q_conv64 rfl rfl ?_
    refine q_move rfl rfl ?_
    obtain ⟨x28, hx28, h⟩ := Option.of_bind h
    refine q_remM rfl rfl hx28 rfl ?_
    refine q_assign rfl rfl ?_
    refine eseq_nil ?_
    refine hK25 _ _ ?_
    refine e_ret ?_
    obtain rfl := Option.some.inj h
    exact ⟨_, res1 rfl rfl, _, rfl, hS⟩
theorem orphan_Before_w {F R : Nat → Prop} {w : World} {fuel : Nat} {a0 : Lab} {a1 : Lab} {r : (Bool)} (hS : Sep F R R w w []) (h : orphan_Before fuel a0 a1 = some r) :
    Gives Try.prog 14 [.agg #[.int .i64 a0.inc, .int .i64 a0.index], .agg #[.int .i64 a1.inc, .int .i64 a1.index]] w fun u w1 => ∃ (R1 : Nat → Prop), u = .bool r ∧ Sep F R R1 w w1 [] := by
  refine fn_of Try.func14 rfl Try.ntmps14 (Nat.le_of_ble_eq_true rfl) ?_
  unfold orphan_Before at h
  refine e_seq fun K11 hK11 => ?_
  refine e_region_text rfl ?_
  refine q_boxB rfl rfl rfl fun w12 bl12 hg12 hb12 hB12 => ?_
  replace hS := hS.newBlk hB12 hg12 hb12
  refine q_boxB rfl rfl rfl fun w14 bl14 hg14 hb14 hB14 => ?_
  replace hS := hS.newBlk hB14 hg14 hb14
  refine q_assign rfl rfl ?_
  refine eseq_nil ?_
  refine hK11 _ _ ?_
  refine e_seq fun K16 hK16 => ?_
  refine e_region_text rfl ?_
  refine q_field rfl rfl ?_
  refine q_load rfl (Blk.cell (hS.blk 1 rfl) rfl) rfl ?_
  refine q_field rfl rfl ?_
  refine q_load rfl (Blk.cell (hS.blk 0 rfl) rfl) rfl ?_
  refine q_lss rfl rfl rfl ?_
  refine q_move rfl rfl ?_
  obtain ⟨x18, hx17, h⟩ := Option.of_bind h
  refine g_orM 12 hx17 rfl trivial rfl rfl ?_ ?_ ?_
  · intro hg17
    refine g_skip rfl rfl rfl ?_
    refine g_skip rfl rfl rfl ?_
    refine g_skip rfl rfl rfl ?_
    refine g_skip rfl rfl rfl ?_
    refine g_skip rfl rfl rfl ?_
    refine g_skip rfl rfl rfl ?_
    refine g_skipU rfl rfl ?_
    refine g_skipU rfl rfl ?_
    refine g_skipU rfl rfl ?_
    refine g_skipU rfl rfl ?_
    refine g_skipU rfl rfl ?_
    refine g_skip rfl rfl rfl ?_
    exact eseq_nil ⟨rfl, Sub.set rfl (Sub.set rfl (Sub.set rfl (Sub.set rfl (Sub.set rfl (Sub.set rfl (Sub.set rfl (Sub.set rfl (Sub.set rfl (Sub.set rfl (Sub.set rfl (Sub.set rfl (Sub.bool true rfl hg17))))))))))))⟩
  · intro hg17 hx17
    clear h
    have hT17 := Below.refl (World.heap w14).size w14
    refine g_run rfl ?_; refine q_field rfl rfl ?_
    refine g_run rfl ?_; refine q_load rfl (Blk.cell (hS.blk 1 rfl) rfl) rfl ?_
    refine g_run rfl ?_; refine q_field rfl rfl ?_
    refine g_run rfl ?_; refine q_load rfl (Blk.cell (hS.blk 0 rfl) rfl) rfl ?_
    refine g_run rfl ?_; refine q_eql rfl rfl rfl ?_
    refine g_run rfl ?_; refine q_move rfl rfl ?_
    obtain ⟨x20, hx19, hx17⟩ := Option.of_bind hx17
    refine g_andM 5 hx19 rfl rfl rfl rfl ?_ ?_ ?_
    · intro hg19 hx19
      clear hx17
      have hT19 := Below.refl (World.heap w14).size w14
      refine g_run rfl ?_; refine q_field rfl rfl ?_
      refine g_run rfl ?_; refine q_load rfl (Blk.cell (hS.blk 1 rfl) rfl) rfl ?_
      refine g_run rfl ?_; refine q_field rfl rfl ?_
      refine g_run rfl ?_; refine q_load rfl (Blk.cell (hS.blk 0 rfl) rfl) rfl ?_
      refine g_run rfl ?_; refine q_lss rfl rfl rfl ?_
      cases hx19
      exact eseq_nil ⟨hT19, Sub.set rfl (Sub.set rfl (Sub.set rfl (Sub.set rfl (Sub.set rfl (Sub.bool true rfl hg19))))), rfl⟩
    · intro hg19
      refine g_skip rfl rfl rfl ?_
      refine g_skip rfl rfl rfl ?_
      refine g_skip rfl rfl rfl ?_
      refine g_skip rfl rfl rfl ?_
      refine g_skip rfl rfl rfl ?_
      exact eseq_nil ⟨rfl, Sub.set rfl (Sub.set rfl (Sub.set rfl (Sub.set rfl (Sub.set rfl (Sub.bool false rfl hg19)))))⟩
    intro wm19 hBm19; clear hx19
    replace hS := hS.below hBm19
    replace hT17 := hT17.trans (Below.mono hBm19 hT17.size)
    cases hx17
    exact eseq_nil ⟨hT17, Sub.set rfl (Sub.set rfl (Sub.set rfl (Sub.set rfl (Sub.set rfl (Sub.set rfl (Sub.set rfl (Sub.bool false rfl hg17))))))), rfl⟩
  intro wm17 hBm17; clear hx17
  replace hS := hS.below hBm17
  refine q_assign rfl rfl ?_
  refine eseq_nil ?_
  refine hK16 _ _ ?_
  refine e_ret ?_
  obtain rfl := Option.some.inj h
  exact ⟨_, res1 rfl rfl, _, rfl, (hS.pickB [] 2 rfl rfl)⟩
theorem orphan_Merge_w {F R : Nat → Prop} {w : World} {fuel : Nat} {a0 : (List Lab)} {a1 : (List Lab)} {v1 : Value} {v2 : Value} {r : ((List Lab))} (hS : Sep F R R w w []) (f1 : IsSlice labTy w R v1 a0) (f2 : IsSlice labTy w R v2 a1) (h : orphan_Merge fuel a0 a1 = some r) :
    Gives Try.prog 16 [v1, v2] w fun u w1 => ∃ (v167 : Value), ∃ (R1 : Nat → Prop), u = v167 ∧ Sep F R R1 w w1 [HP.own labTy (fun _ => False) 29 v167 r] := by
  refine fn_of Try.func16 rfl Try.ntmps16 (Nat.le_of_ble_eq_true rfl) ?_
  unfold orphan_Merge at h
  refine e_seq fun K168 hK168 => ?_
  refine e_region_text rfl ?_
  refine q_assign rfl rfl ?_
  refine eseq_nil ?_
  refine hK168 _ _ ?_
  refine e_seq fun K169 hK169 => ?_
  refine e_region_text rfl ?_
  refine q_move rfl rfl ?_
  refine q_lenS rfl f1 rfl ?_
  refine q_move rfl rfl ?_
  refine q_lenS rfl f2 rfl ?_
  refine q_max rfl rfl rfl ?_
  obtain ⟨x170, hx170, h⟩ := Option.of_bind h
  refine q_makeO (T := labTy) (S := (fun _ => False)) rfl rfl rfl hx170 (fun _ h => h.elim) rfl fun w171 v171 ho171 hv171 hB171 => ?_
  replace f1 := f1.ext hB171
  replace f2 := f2.ext hB171
  replace hS := hS.newOwnS hB171 ho171 hv171 (fun _ h => h.elim)
  refine q_assign rfl rfl ?_
  refine eseq_nil ?_
  refine hK169 _ _ ?_
  refine e_seq fun K173 hK173 => ?_
  refine e_region_text rfl ?_
  refine q_move rfl rfl ?_
  refine q_move rfl rfl ?_
  obtain ⟨x175, hx175, h⟩ := Option.of_bind h
  refine q_copyO (T := labTy) rfl (hS.own 0 rfl) rfl f1 Enc.any rfl rfl fun w174 ho174 hst174 => ?_
  rw [copyM_eq hx175] at ho174
  have hk174 := hS.keptF 0 rfl hst174
  replace f2 := f2.kept hk174
  replace f1 := f1.kept hk174
  replace hS := hS.set 0 rfl hst174 (c' := HP.own _ _ _ _ _) ho174 (fun k hk => .inl hk) (fun k hk => hS.depR 0 rfl k hk); simp only [List.set] at hS
  refine eseq_nil ?_
  refine hK173 _ _ ?_
  refine e_seq fun K176 hK176 => ?_
  refine e_seq fun K177 hK177 => ?_
  refine e_region_text rfl ?_
  refine q_move rfl rfl ?_
  refine q_lenS rfl (hS.isl 0 rfl) rfl ?_
  refine q_move rfl rfl ?_
  refine eseq_nil ?_
  refine hK177 _ _ ?_
  refine e_block ?_
  obtain ⟨tl178, ht178, h⟩ := Option.of_bind h
  have hX178_0 : ∀ (x292 : (List Lab)) (v291 : Value) (R288 : Nat → Prop) (w289 : World) (E_ : Env), orphan_Merge_K1 fuel x292 = some r → Sep F R R288 w w289 [HP.own labTy (fun _ => False) 29 v291 x292] → Sub [(5, v291)] E_ → K176 E_ w289 := by
    intro x292 v291 R288 w289 E_ h hS  hsub
    refine hK176 _ _ (e_sub hsub ?_); clear hsub
    unfold orphan_Merge_K1 at h
    refine e_seq fun K293 hK293 => ?_
    refine e_region_text rfl ?_
    refine q_move rfl rfl ?_
    refine q_assign rfl rfl ?_
    refine eseq_nil ?_
    refine hK293 _ _ ?_
    refine e_ret ?_
    obtain rfl := Option.some.inj h
    exact ⟨_, res1 rfl rfl, v291, _, rfl, hS⟩
  refine e_loop (fun m_ E_ w233 => ∃ (x237 : (List Lab)), ∃ (x238 : Int), ∃ (v236 : Value), ∃ (R232 : Nat → Prop), iter (fun s => orphan_Merge_B1 fuel x175 a1 s.1 s.2) m_ (x237, x238) = some tl178 ∧ Sep F R R232 w w233 [HP.own labTy (fun _ => False) 29 v236 x237] ∧ IsSlice labTy w233 R232 v2 a1 ∧ E_ = [(1, v2), (5, v236), (18, .int .i64 (x175.length : Int)), (19, .int .i64 x238)]) _ ⟨_, ⟨x175, 0, v171, _, ht178, hS, f2, rfl⟩, Sub.cons rfl (Sub.cons rfl (Sub.cons rfl (Sub.cons rfl (Sub.nil _))))⟩ ?_
  clear ht178 hS
  rintro m178 _ w233 ⟨x237, x238, v236, R232, ht178, hS, f234, rfl⟩
  obtain ⟨m178, rfl, o178, ho178, ht178⟩ := iter_some ht178
  replace ho178 : orphan_Merge_B1 fuel x175 a1 x237 x238 = some o178 := ho178
  unfold orphan_Merge_B1 at ho178
  refine e_seq fun K294 hK294 => ?_
  refine e_region_text rfl ?_
  refine q_lss rfl rfl rfl ?_
  refine eseq_nil ?_
  refine hK294 _ _ ?_
  refine e_seq fun K295 hK295 => ?_
  refine e_cond rfl (fun hc296 => ?_) (fun hc296 => ?_)
  · replace ho178 := (if_pos hc296).symm.trans ho178
    refine e_skip ?_
    refine hK295 _ _ ?_
    refine e_seq fun K297 hK297 => ?_
    refine e_block ?_
    refine e_seq fun K298 hK298 => ?_
    refine e_region_text rfl ?_
    refine q_move rfl rfl ?_
    refine q_assign rfl rfl ?_
    refine eseq_nil ?_
    refine hK298 _ _ ?_
    refine e_seq fun K299 hK299 => ?_
    refine e_region_text rfl ?_
    refine q_allocB rfl fun w300 bl300 hg300 hb300 hB300 => ?_
    replace f234 := f234.ext hB300
    replace hS := hS.newBlk hB300 hg300 hb300
    refine eseq_nil ?_
    refine hK299 _ _ ?_
    refine e_seq fun K302 hK302 => ?_
    have hJ302 : ∀ (x313 : Int) (x314 : Int) (R309 : Nat → Prop) (w310 : World) (E_ : Env), orphan_Merge_J1 fuel x237 x238 x313 x314 = some o178 → Sep F R R309 w w310 [HP.own labTy (fun _ => False) 29 v236 x237, HP.blk bl300 [.int .i64 x313, .int .i64 x314] 29] → IsSlice labTy w310 R309 v2 a1 → Sub [(1, v2), (5, v236), (6, .int .i64 x238), (7, .pointer (some ⟨bl300, 0, none⟩)), (18, .int .i64 (x175.length : Int)), (19, .int .i64 x238)] E_ → K302 E_ w310 := by
      intro x313 x314 R309 w310 E_ ho178 hS f311 hsub
      refine hK302 _ _ (e_sub hsub ?_); clear hsub
      unfold orphan_Merge_J1 at ho178
      refine e_seq fun K315 hK315 => ?_
      refine e_region_draw mixed (fun _ => False) [0, 0, 3, 7, 0, 31] [] [0, 1, 2, 3, 4, 5] (by kernel_rfl) ?_
      refine q_move rfl rfl ?_
      refine q_move rfl rfl ?_
      obtain ⟨x316, hx316, ho178⟩ := Option.of_bind ho178
      refine q_indexO (by infer_instance) rfl (hS.own 0 rfl) rfl hx316 rfl ?_
      have f317 := (hS.ownR 0 rfl).elt hx316
      have hc318 := Lab_open f317
      refine q_loadAgg rfl hc318 rfl rfl ?_
      refine q_loadAgg rfl (Blk.cellsAt (hS.blk 1 rfl) 0 2 rfl) rfl rfl ?_
      obtain ⟨r320, hr320, ho178⟩ := Option.of_bind ho178
      refine q_call rfl (orphan_Before_w (a0 := x316) (a1 := (⟨x313, x314⟩ : Lab)) (Sep.enter (As := []) hS)  hr320) rfl ?_
      rintro _ w319 ⟨R319, rfl, hC319⟩
      have hB319 : Below (World.heap w310).size w310 w319 := hC319.stepB0
      refine ⟨fun _ => .of_below hB319, ?_⟩
      replace f311 := (f311.ext hB319).mono fun k hk _ => hC319.ro0 k hk
      replace hS := Sep.leave (As := []) hS hC319; simp only [List.cons_append, List.nil_append] at hS
      refine eseq_nil ?_
      refine hK315 _ _ ?_
      refine e_cond rfl (fun hc321 => ?_) (fun hc321 => ?_)
      · replace ho178 := (if_pos hc321).symm.trans ho178
        refine e_region_text rfl ?_
        refine q_move rfl rfl ?_
        refine q_move rfl rfl ?_
        refine q_loadAgg rfl (Blk.cellsAt (hS.blk 1 rfl) 0 2 rfl) rfl rfl ?_
        obtain ⟨x322, hx322, ho178⟩ := Option.of_bind ho178
        refine q_indexO (by infer_instance) rfl (hS.own 0 rfl) rfl hx322 rfl ?_
        obtain ⟨x324, hx324, ho178⟩ := Option.of_bind ho178
        refine q_storeOA (T := labTy) (j := 0) rfl rfl (hS.own 0 rfl) hx322 hx324 rfl rfl (all_cons rfl (all_cons rfl (all_nil))) rfl (Enc.setNL rfl) fun w323 ho323 hO323 => ?_
        have hk323 := hS.keptO 0 rfl hx322 hO323
        replace f311 := f311.kept hk323
        replace hS := hS.putO 0 rfl hx322 ho323 hO323; simp only [List.set] at hS
        refine eseq_nil ?_
        refine hK297 _ _ ?_
        refine e_region_text rfl ?_
        refine q_addW rfl rfl rfl ?_
        refine q_move rfl rfl ?_
        refine eseq_nil ?_
        obtain rfl := Option.some.inj ho178
        exact ⟨m178, _, Nat.lt_succ_self _, ⟨x324, (w64 (x238 + 1)), v236, _, ht178, (hS.pickB [0] 2 rfl rfl), f311, rfl⟩, Sub.cons rfl (Sub.cons rfl (Sub.cons rfl (Sub.cons rfl (Sub.nil _))))⟩
      · replace ho178 := (if_neg (not_true hc321)).symm.trans ho178
        refine e_skip ?_
        refine hK297 _ _ ?_
        refine e_region_text rfl ?_
        refine q_addW rfl rfl rfl ?_
        refine q_move rfl rfl ?_
        refine eseq_nil ?_
        obtain rfl := Option.some.inj ho178
        exact ⟨m178, _, Nat.lt_succ_self _, ⟨x237, (w64 (x238 + 1)), v236, _, ht178, (hS.pickB [0] 2 rfl rfl), f311, rfl⟩, Sub.cons rfl (Sub.cons rfl (Sub.cons rfl (Sub.cons rfl (Sub.nil _))))⟩
    refine e_seq fun K325 hK325 => ?_
    refine e_region_text rfl ?_
    refine q_move rfl rfl ?_
    refine q_move rfl rfl ?_
    refine q_lenS rfl f234 rfl ?_
    refine q_lss rfl rfl rfl ?_
    refine eseq_nil ?_
    refine hK325 _ _ ?_
    refine e_cond rfl (fun hc326 => ?_) (fun hc326 => ?_)
    · replace ho178 := (if_pos hc326).symm.trans ho178
      refine e_region_text rfl ?_
      refine q_move rfl rfl ?_
      refine q_move rfl rfl ?_
      obtain ⟨x327, hx327, ho178⟩ := Option.of_bind ho178
      refine q_atS (by infer_instance) rfl f234 rfl hx327 rfl fun b328 o328 hm328 f328 => ?_
      have hc329 := Lab_open f328
      refine q_loadAgg rfl hc329 rfl rfl ?_
      refine q_storeAgg rfl rfl (hS.blk 0 rfl) rfl (Nat.le_of_ble_eq_true rfl) (all_cons rfl (all_cons rfl (all_nil))) rfl rfl fun w330 hb330 hO330 => ?_
      simp only [setN, List.set, List.take, List.drop] at hb330
      have hk330 := hS.keptBlk 0 rfl hO330
      replace f234 := f234.kept hk330
      replace hS := hS.setBlk 0 rfl hb330 hO330; simp only [List.set] at hS
      refine eseq_nil ?_
      exact hJ302 x327.inc x327.index _ _ _ ho178 (hS.pickB [1, 0] 2 rfl rfl) f234 (Sub.cons rfl (Sub.cons rfl (Sub.cons rfl (Sub.cons rfl (Sub.cons rfl (Sub.cons rfl (Sub.nil _)))))))
    · replace ho178 := (if_neg (not_true hc326)).symm.trans ho178
      refine e_skip ?_
      exact hJ302 0 0 _ _ _ ho178 (hS.pickB [1, 0] 2 rfl rfl) f234 (Sub.cons rfl (Sub.cons rfl (Sub.cons rfl (Sub.cons rfl (Sub.cons rfl (Sub.cons rfl (Sub.nil _)))))))
  · replace ho178 := (if_neg (not_true hc296)).symm.trans ho178
    refine e_exit ?_
    obtain rfl := Option.some.inj ho178
    obtain rfl := Option.some.inj ht178
    exact hX178_0 x237 v236 _ _ _ h hS  (Sub.cons rfl (Sub.nil _))
theorem ref32_SameLabels_w {F R : Nat → Prop} {w : World} {fuel : Nat} {a0 : (List Lab)} {a1 : (List Lab)} {v1 : Value} {v2 : Value} {r : (Bool)} (hS : Sep F R R w w []) (f1 : IsSlice labTy w R v1 a0) (f2 : IsSlice labTy w R v2 a1) (h : ref32_SameLabels fuel a0 a1 = some r) :
    Gives Try.prog 17 [v1, v2] w fun u w1 => ∃ (R1 : Nat → Prop), u = .bool r ∧ Sep F R R1 w w1 [] := by
  refine fn_of Try.func17 rfl Try.ntmps17 (Nat.le_of_ble_eq_true rfl) ?_
  unfold ref32_SameLabels at h
  refine e_seq fun K73 hK73 => ?_
  refine e_region_text rfl ?_
  refine q_assign rfl rfl ?_
  refine eseq_nil ?_
  refine hK73 _ _ ?_
  refine e_seq fun K74 hK74 => ?_
  refine e_seq fun K75 hK75 => ?_
  refine e_region_text rfl ?_
  refine q_move rfl rfl ?_
  refine q_lenS rfl f1 rfl ?_
  refine q_move rfl rfl ?_
  refine q_lenS rfl f2 rfl ?_
  refine q_neq rfl rfl rfl ?_
  refine eseq_nil ?_
  refine hK75 _ _ ?_
  refine e_cond rfl (fun hc76 => ?_) (fun hc76 => ?_)
  · replace h := (if_pos hc76).symm.trans h
    refine e_seq fun K77 hK77 => ?_
    refine e_region_text rfl ?_
    refine q_assign rfl rfl ?_
    refine eseq_nil ?_
    refine hK77 _ _ ?_
    refine e_ret ?_
    obtain rfl := Option.some.inj h
    exact ⟨_, res1 rfl rfl, _, rfl, hS⟩
  · replace h := (if_neg (not_true hc76)).symm.trans h
    refine e_skip ?_
    refine hK74 _ _ ?_
    refine e_seq fun K78 hK78 => ?_
    refine e_seq fun K79 hK79 => ?_
    refine e_region_text rfl ?_
    refine q_assign rfl rfl ?_
    refine eseq_nil ?_
    refine hK79 _ _ ?_
    refine e_block ?_
    obtain ⟨tl80, ht80, h⟩ := Option.of_bind h
    have hX80_0 : ∀ (R126 : Nat → Prop) (w127 : World) (E_ : Env), ref32_SameLabels_K1 fuel = some r → Sep F R R126 w w127 [] → Sub [] E_ → K78 E_ w127 := by
      intro R126 w127 E_ h hS  hsub
      refine hK78 _ _ (e_sub hsub ?_); clear hsub
      unfold ref32_SameLabels_K1 at h
      refine e_seq fun K128 hK128 => ?_
      refine e_region_text rfl ?_
      refine q_assign rfl rfl ?_
      refine eseq_nil ?_
      refine hK128 _ _ ?_
      refine e_ret ?_
      obtain rfl := Option.some.inj h
      exact ⟨_, res1 rfl rfl, _, rfl, hS⟩
    refine e_loop (fun m_ E_ w104 => ∃ (x107 : Int), ∃ (R103 : Nat → Prop), iter (fun s => ref32_SameLabels_B1 fuel a0 a1 s) m_ x107 = some tl80 ∧ Sep F R R103 w w104 [] ∧ IsSlice labTy w104 R103 v1 a0 ∧ IsSlice labTy w104 R103 v2 a1 ∧ E_ = [(0, v1), (1, v2), (5, .int .i64 x107)]) _ ⟨_, ⟨0, _, ht80, hS, f1, f2, rfl⟩, Sub.cons rfl (Sub.cons rfl (Sub.cons rfl (Sub.nil _)))⟩ ?_
    clear ht80 hS
    rintro m80 _ w104 ⟨x107, R103, ht80, hS, f105, f106, rfl⟩
    obtain ⟨m80, rfl, o80, ho80, ht80⟩ := iter_some ht80
    replace ho80 : ref32_SameLabels_B1 fuel a0 a1 x107 = some o80 := ho80
    unfold ref32_SameLabels_B1 at ho80
    refine e_seq fun K129 hK129 => ?_
    refine e_seq fun K130 hK130 => ?_
    refine e_region_text rfl ?_
    refine q_move rfl rfl ?_
    refine q_move rfl rfl ?_
    refine q_lenS rfl f105 rfl ?_
    refine q_lss rfl rfl rfl ?_
    refine eseq_nil ?_
    refine hK130 _ _ ?_
    refine e_cond rfl (fun hc131 => ?_) (fun hc131 => ?_)
    · replace ho80 := (if_pos hc131).symm.trans ho80
      refine e_skip ?_
      refine hK129 _ _ ?_
      refine e_seq fun K132 hK132 => ?_
      refine e_block ?_
      refine e_seq fun K133 hK133 => ?_
      refine e_region_draw mixed (fun _ => False) [0, 0, 3, 7, 0, 0, 48, 112, 255] [] [0, 1, 2, 3, 4, 5, 6, 7, 8] (by kernel_rfl) ?_
      refine q_move rfl rfl ?_
      refine q_move rfl rfl ?_
      obtain ⟨x134, hx134, ho80⟩ := Option.of_bind ho80
      refine q_atS (by infer_instance) rfl f105 rfl hx134 rfl fun b135 o135 hm135 f135 => ?_
      have hc136 := Lab_open f135
      refine q_loadAgg rfl hc136 rfl rfl ?_
      refine q_move rfl rfl ?_
      refine q_move rfl rfl ?_
      obtain ⟨x137, hx137, ho80⟩ := Option.of_bind ho80
      refine q_atS (by infer_instance) rfl f106 rfl hx137 rfl fun b138 o138 hm138 f138 => ?_
      have hc139 := Lab_open f138
      refine q_loadAgg rfl hc139 rfl rfl ?_
      refine q_neqA eqT29 (by kernel_rfl) rfl rfl rfl ?_
      refine eseq_nil ?_
      refine hK133 _ _ ?_
      refine e_cond rfl (fun hc140 => ?_) (fun hc140 => ?_)
      · replace ho80 := (if_pos hc140).symm.trans ho80
        refine e_seq fun K141 hK141 => ?_
        refine e_region_text rfl ?_
        refine q_assign rfl rfl ?_
        refine eseq_nil ?_
        refine hK141 _ _ ?_
        refine e_ret ?_
        obtain rfl := Option.some.inj ho80
        obtain rfl := Option.some.inj ht80
        obtain rfl := Option.some.inj h
        exact ⟨_, res1 rfl rfl, _, rfl, hS⟩
      · replace ho80 := (if_neg (not_true hc140)).symm.trans ho80
        refine e_skip ?_
        refine hK132 _ _ ?_
        refine e_region_text rfl ?_
        refine q_move rfl rfl ?_
        refine q_addW rfl rfl rfl ?_
        refine q_assign rfl rfl ?_
        refine eseq_nil ?_
        obtain rfl := Option.some.inj ho80
        exact ⟨m80, _, Nat.lt_succ_self _, ⟨(w64 (x107 + 1)), _, ht80, hS, f105, f106, rfl⟩, Sub.cons rfl (Sub.cons rfl (Sub.cons rfl (Sub.nil _)))⟩
    · replace ho80 := (if_neg (not_true hc131)).symm.trans ho80
      refine e_exit ?_
      obtain rfl := Option.some.inj ho80
      obtain rfl := Option.some.inj ht80
      exact hX80_0  _ _ _ h hS  (Sub.nil _)
theorem orphan_label_w {F R : Nat → Prop} {w : World} {fuel : Nat} {a0 : (List Evt)} {a1 : Int} {v1 : Value} {r : (Lab × Bool)} (hS : Sep F R R w w []) (f1 : IsSlice evtTy w R v1 a0) (h : orphan_label fuel a0 a1 = some r) :
    Gives Try.prog 77 [v1, .int .i64 a1] w fun u w1 => ∃ (R1 : Nat → Prop), u = .tuple #[.agg #[.int .i64 r.1.inc, .int .i64 r.1.index], .bool r.2] ∧ Sep F R R1 w w1 [] := by
  refine fn_of Try.func77 rfl Try.ntmps77 (Nat.le_of_ble_eq_true rfl) ?_
  unfold orphan_label at h
  refine e_seq fun K21 hK21 => ?_
  refine e_region_text rfl ?_
  refine q_allocB rfl fun w22 bl22 hg22 hb22 hB22 => ?_
  replace f1 := f1.ext hB22
  replace hS := hS.newBlk hB22 hg22 hb22
  refine q_assign rfl rfl ?_
  refine eseq_nil ?_
  refine hK21 _ _ ?_
  refine e_seq fun K24 hK24 => ?_
  refine e_block ?_
  refine e_seq fun K25 hK25 => ?_
  refine e_region_text rfl ?_
  refine q_move rfl rfl ?_
  refine q_lss rfl rfl rfl ?_
  refine q_move rfl rfl ?_
  obtain ⟨x27, hx26, h⟩ := Option.of_bind h
  refine g_orM 4 hx26 rfl trivial rfl rfl ?_ ?_ ?_
  · intro hg26
    refine g_skip rfl rfl rfl ?_
    refine g_skip rfl rfl rfl ?_
    refine g_skip rfl rfl rfl ?_
    refine g_skip rfl rfl rfl ?_
    exact eseq_nil ⟨rfl, Sub.set rfl (Sub.set rfl (Sub.set rfl (Sub.set rfl (Sub.bool true rfl hg26))))⟩
  · intro hg26 hx26
    clear h
    have hT26 := Below.refl (World.heap w22).size w22
    refine g_run rfl ?_; refine q_move rfl rfl ?_
    refine g_run rfl ?_; refine q_move rfl rfl ?_
    refine g_run rfl ?_; refine q_lenS rfl f1 rfl ?_
    refine g_run rfl ?_; refine q_gtr rfl rfl rfl ?_
    cases hx26
    exact eseq_nil ⟨hT26, Sub.set rfl (Sub.set rfl (Sub.set rfl (Sub.set rfl (Sub.bool false rfl hg26)))), rfl⟩
  intro wm26 hBm26; clear hx26
  replace hS := hS.below hBm26
  replace f1 := f1.ext hBm26
  refine q_assign rfl rfl ?_
  refine eseq_nil ?_
  refine hK25 _ _ ?_
  refine e_cond rfl (fun hc28 => ?_) (fun hc28 => ?_)
  · replace h := (if_pos hc28).symm.trans h
    refine e_seq fun K29 hK29 => ?_
    refine e_region_text rfl ?_
    refine q_build Parts.nil rfl rfl ?_
    refine q_storeAgg rfl rfl (hS.blk 0 rfl) rfl (Nat.le_of_ble_eq_true rfl) (all_cons rfl (all_cons rfl (all_nil))) rfl rfl fun w30 hb30 hO30 => ?_
    simp only [setN, List.set, List.take, List.drop] at hb30
    have hk30 := hS.keptBlk 0 rfl hO30
    replace hS := hS.setBlk 0 rfl hb30 hO30; simp only [List.set] at hS
    refine q_assign rfl rfl ?_
    refine eseq_nil ?_
    refine hK29 _ _ ?_
    refine e_ret ?_
    obtain rfl := Option.some.inj h
    exact ⟨_, resCT rfl rfl ((hS.blk 0 rfl).cellsAt 0 2 rfl) rfl rfl, _, rfl, (hS.pickB [] 1 rfl rfl)⟩
  · replace h := (if_neg (not_true hc28)).symm.trans h
    refine e_seq fun K31 hK31 => ?_
    refine e_region_text rfl ?_
    refine q_move rfl rfl ?_
    refine q_eql rfl rfl rfl ?_
    refine q_assign rfl rfl ?_
    refine eseq_nil ?_
    refine hK31 _ _ ?_
    refine e_cond rfl (fun hc32 => ?_) (fun hc32 => ?_)
    · replace h := (if_pos hc32).symm.trans h
      refine e_seq fun K33 hK33 => ?_
      refine e_region_text rfl ?_
      refine q_build Parts.nil rfl rfl ?_
      refine q_storeAgg rfl rfl (hS.blk 0 rfl) rfl (Nat.le_of_ble_eq_true rfl) (all_cons rfl (all_cons rfl (all_nil))) rfl rfl fun w34 hb34 hO34 => ?_
      simp only [setN, List.set, List.take, List.drop] at hb34
      have hk34 := hS.keptBlk 0 rfl hO34
      replace hS := hS.setBlk 0 rfl hb34 hO34; simp only [List.set] at hS
      refine q_assign rfl rfl ?_
      refine eseq_nil ?_
      refine hK33 _ _ ?_
      refine e_ret ?_
      obtain rfl := Option.some.inj h
      exact ⟨_, resCT rfl rfl ((hS.blk 0 rfl).cellsAt 0 2 rfl) rfl rfl, _, rfl, (hS.pickB [] 1 rfl rfl)⟩
    · replace h := (if_neg (not_true hc32)).symm.trans h
      refine e_skip ?_
      refine hK24 _ _ ?_
      refine e_seq fun K35 hK35 => ?_
      refine e_region_text rfl ?_
      refine q_move rfl rfl ?_
      refine q_move rfl rfl ?_
      refine q_subW rfl rfl rfl ?_
      obtain ⟨x36, hx36, h⟩ := Option.of_bind h
      refine q_atS (by infer_instance) rfl f1 rfl hx36 rfl fun b37 o37 hm37 f37 => ?_
      refine q_field rfl rfl ?_
      have f38 := Evt_F1 f37
      refine q_load rfl (Elt.intCell f38) rfl ?_
      refine q_move rfl rfl ?_
      refine q_build (Parts.cons rfl rfl (Parts.cons rfl rfl Parts.nil)) rfl rfl ?_
      refine q_storeAgg rfl rfl (hS.blk 0 rfl) rfl (Nat.le_of_ble_eq_true rfl) (all_cons rfl (all_cons rfl (all_nil))) rfl rfl fun w39 hb39 hO39 => ?_
      simp only [setN, List.set, List.take, List.drop] at hb39
      have hk39 := hS.keptBlk 0 rfl hO39
      replace hS := hS.setBlk 0 rfl hb39 hO39; simp only [List.set] at hS
      refine q_assign rfl rfl ?_
      refine eseq_nil ?_
      refine hK35 _ _ ?_
      refine e_ret ?_
      obtain rfl := Option.some.inj h
      exact ⟨_, resCT rfl rfl ((hS.blk 0 rfl).cellsAt 0 2 rfl) rfl rfl, _, rfl, (hS.pickB [] 1 rfl rfl)⟩
theorem orphan_fits_w {F R : Nat → Prop} {w : World} {fuel : Nat} {a0 : (List (List Evt))} {a1 : (List Int)} {a2 : Int} {a3 : Evt} {v1 : Value} {v2 : Value} {r : (Bool)} (hS : Sep F R R w w []) (f1 : IsSlice (Ty.slice evtTy) w R v1 a0) (f2 : IsSlice Ty.int w R v2 a1) (h : orphan_fits fuel a0 a1 a2 a3 = some r) :
    Gives Try.prog 50 [v1, v2, .int .i64 a2, .agg #[.int .i64 a3.kind, .int .i64 a3.inc, .int .i64 a3.frm, .int .i64 a3.sent.inc, .int .i64 a3.sent.index, .int .i64 a3.ord, .int .i64 a3.value]] w fun u w1 => ∃ (R1 : Nat → Prop), u = .bool r ∧ Sep F R R1 w w1 [] := by
  refine fn_of Try.func50 rfl Try.ntmps50 (Nat.le_of_ble_eq_true rfl) ?_
  unfold orphan_fits at h
  refine e_seq fun K59 hK59 => ?_
  refine e_region_text rfl ?_
  refine q_boxB rfl rfl rfl fun w60 bl60 hg60 hb60 hB60 => ?_
  replace f1 := f1.ext hB60
  replace f2 := f2.ext hB60
  replace hS := hS.newBlk hB60 hg60 hb60
  refine q_assign rfl rfl ?_
  refine eseq_nil ?_
  refine hK59 _ _ ?_
  refine e_seq fun K62 hK62 => ?_
  refine e_seq fun K63 hK63 => ?_
  refine e_region_text rfl ?_
  refine q_field rfl rfl ?_
  refine q_load rfl (Blk.cell (hS.blk 0 rfl) rfl) rfl ?_
  refine q_neq rfl rfl rfl ?_
  refine eseq_nil ?_
  refine hK63 _ _ ?_
  refine e_cond rfl (fun hc65 => ?_) (fun hc65 => ?_)
  · replace h := (if_pos hc65).symm.trans h
    refine e_seq fun K66 hK66 => ?_
    refine e_region_text rfl ?_
    refine q_assign rfl rfl ?_
    refine eseq_nil ?_
    refine hK66 _ _ ?_
    refine e_ret ?_
    obtain rfl := Option.some.inj h
    exact ⟨_, res1 rfl rfl, _, rfl, (hS.pickB [] 1 rfl rfl)⟩
  · replace h := (if_neg (not_true hc65)).symm.trans h
    refine e_skip ?_
    refine hK62 _ _ ?_
    refine e_seq fun K67 hK67 => ?_
    refine e_seq fun K68 hK68 => ?_
    refine e_region_draw mixed (fun _ => False) [0, 1, 3, 7, 15, 31, 15, 79, 255, 511, 1023, 2047, 4095, 2047, 16383, 32767, 65535, 131071, 262143, 524287, 131071, 131071, 2228223, 7471103, 15859711, 33554431, 67108863] [] [0, 1, 2, 3, 4, 5, 6, 7, 8, 9, 10, 11, 12, 13, 14, 15, 16, 17, 18, 19, 20, 21, 22, 23, 24, 25, 26] (by kernel_rfl) ?_
    refine q_field rfl rfl ?_
    refine q_load rfl (Blk.cell (hS.blk 0 rfl) rfl) rfl ?_
    refine q_lss rfl rfl rfl ?_
    refine q_move rfl rfl ?_
    obtain ⟨x70, hx69, h⟩ := Option.of_bind h
    refine g_orM 5 hx69 rfl trivial rfl rfl ?_ ?_ ?_
    · intro hg69
      refine g_skip rfl rfl rfl ?_
      refine g_skip rfl rfl rfl ?_
      refine g_skip rfl rfl rfl ?_
      refine g_skip rfl rfl rfl ?_
      refine g_skip rfl rfl rfl ?_
      exact eseq_nil ⟨rfl, Sub.set rfl (Sub.set rfl (Sub.set rfl (Sub.set rfl (Sub.set rfl (Sub.bool true rfl hg69)))))⟩
    · intro hg69 hx69
      clear h
      have hT69 := Below.refl (World.heap w60).size w60
      refine g_run rfl ?_; refine q_field rfl rfl ?_
      refine g_run rfl ?_; refine q_load rfl (Blk.cell (hS.blk 0 rfl) rfl) rfl ?_
      refine g_run rfl ?_; refine q_move rfl rfl ?_
      refine g_run rfl ?_; refine q_lenS rfl f1 rfl ?_
      refine g_run rfl ?_; refine q_geq rfl rfl rfl ?_
      cases hx69
      exact eseq_nil ⟨hT69, Sub.set rfl (Sub.set rfl (Sub.set rfl (Sub.set rfl (Sub.set rfl (Sub.bool false rfl hg69))))), rfl⟩
    intro wm69 hBm69; clear hx69
    replace hS := hS.below hBm69
    replace f1 := f1.ext hBm69
    replace f2 := f2.ext hBm69
    refine q_move rfl rfl ?_
    obtain ⟨x72, hx71, h⟩ := Option.of_bind h
    refine g_orM 4 hx71 rfl trivial rfl rfl ?_ ?_ ?_
    · intro hg71
      refine g_skip rfl rfl rfl ?_
      refine g_skip rfl rfl rfl ?_
      refine g_skip rfl rfl rfl ?_
      refine g_skip rfl rfl rfl ?_
      exact eseq_nil ⟨rfl, Sub.set rfl (Sub.set rfl (Sub.set rfl (Sub.set rfl (Sub.bool true rfl hg71))))⟩
    · intro hg71 hx71
      clear h
      have hT71 := Below.refl (World.heap wm69).size wm69
      refine g_run rfl ?_; refine q_field rfl rfl ?_
      refine g_run rfl ?_; refine q_load rfl (Blk.cell (hS.blk 0 rfl) rfl) rfl ?_
      refine g_run rfl ?_; refine q_move rfl rfl ?_
      refine g_run rfl ?_; refine q_eql rfl rfl rfl ?_
      cases hx71
      exact eseq_nil ⟨hT71, Sub.set rfl (Sub.set rfl (Sub.set rfl (Sub.set rfl (Sub.bool false rfl hg71)))), rfl⟩
    intro wm71 hBm71; clear hx71
    replace hS := hS.below hBm71
    replace f1 := f1.ext hBm71
    replace f2 := f2.ext hBm71
    refine q_move rfl rfl ?_
    obtain ⟨x74, hx73, h⟩ := Option.of_bind h
    refine g_orM 9 hx73 rfl trivial rfl rfl ?_ ?_ ?_
    · intro hg73
      refine g_skip rfl rfl rfl ?_
      refine g_skip rfl rfl rfl ?_
      refine g_skip rfl rfl rfl ?_
      refine g_skip rfl rfl rfl ?_
      refine g_skip rfl rfl rfl ?_
      refine g_skip rfl rfl rfl ?_
      refine g_skip rfl rfl rfl ?_
      refine g_skip rfl rfl rfl ?_
      refine g_skip rfl rfl rfl ?_
      exact eseq_nil ⟨rfl, Sub.set rfl (Sub.set rfl (Sub.set rfl (Sub.set rfl (Sub.set rfl (Sub.set rfl (Sub.set rfl (Sub.set rfl (Sub.set rfl (Sub.bool true rfl hg73)))))))))⟩
    · intro hg73 hx73
      clear h
      have hT73 := Below.refl (World.heap wm71).size wm71
      refine g_run rfl ?_; refine q_field rfl rfl ?_
      refine g_run rfl ?_; refine q_field rfl rfl ?_
      refine g_run rfl ?_; refine q_load rfl (Blk.cell (hS.blk 0 rfl) rfl) rfl ?_
      refine g_run rfl ?_; refine q_move rfl rfl ?_
      refine g_run rfl ?_; refine q_field rfl rfl ?_
      refine g_run rfl ?_; refine q_load rfl (Blk.cell (hS.blk 0 rfl) rfl) rfl ?_
      obtain ⟨x75, hx75, hx73⟩ := Option.of_bind hx73
      refine g_run rfl ?_; refine q_atS (by infer_instance) rfl f2 rfl hx75 rfl fun b76 o76 hm76 f76 => ?_
      refine g_run rfl ?_; refine q_load rfl (Elt.intCell f76) rfl ?_
      refine g_run rfl ?_; refine q_gtr rfl rfl rfl ?_
      cases hx73
      exact eseq_nil ⟨hT73, Sub.set rfl (Sub.set rfl (Sub.set rfl (Sub.set rfl (Sub.set rfl (Sub.set rfl (Sub.set rfl (Sub.set rfl (Sub.set rfl (Sub.bool false rfl hg73))))))))), rfl⟩
    intro wm73 hBm73; clear hx73
    replace hS := hS.below hBm73
    replace f1 := f1.ext hBm73
    refine eseq_nil ?_
    refine hK68 _ _ ?_
    refine e_cond rfl (fun hc77 => ?_) (fun hc77 => ?_)
    · replace h := (if_pos hc77).symm.trans h
      refine e_seq fun K78 hK78 => ?_
      refine e_region_text rfl ?_
      refine q_assign rfl rfl ?_
      refine eseq_nil ?_
      refine hK78 _ _ ?_
      refine e_ret ?_
      obtain rfl := Option.some.inj h
      exact ⟨_, res1 rfl rfl, _, rfl, (hS.pickB [] 1 rfl rfl)⟩
    · replace h := (if_neg (not_true hc77)).symm.trans h
      refine e_skip ?_
      refine hK67 _ _ ?_
      refine e_seq fun K79 hK79 => ?_
      have hJt102 : ∀ (r84 : (Lab × Bool)) (B101 : Nat) (R98 : Nat → Prop) (w99 : World) (E_ : Env), orphan_fits_J1 fuel r84 a3 = some r → Sep F R R98 w w99 [HP.blk bl60 [.int .i64 a3.kind, .int .i64 a3.inc, .int .i64 a3.frm, .int .i64 a3.sent.inc, .int .i64 a3.sent.index, .int .i64 a3.ord, .int .i64 a3.value] 66, HP.blk B101 [.int .i64 r84.1.inc, .int .i64 r84.1.index] 29] → Sub [(7, .pointer (some ⟨bl60, 0, none⟩)), (9, .pointer (some ⟨B101, 0, none⟩)), (10, .bool r84.2)] E_ → K79 E_ w99 := by
        intro r84 B101 R98 w99 E_ h hS  hsub
        refine hK79 _ _ (e_sub hsub ?_); clear hsub
        unfold orphan_fits_J1 at h
        refine e_seq fun K103 hK103 => ?_
        refine e_region_text rfl ?_
        refine q_move rfl rfl ?_
        refine q_move rfl rfl ?_
        obtain ⟨x105, hx104, h⟩ := Option.of_bind h
        refine g_andM 4 hx104 rfl trivial rfl rfl ?_ ?_ ?_
        · intro hg104 hx104
          clear h
          have hT104 := Below.refl (World.heap w99).size w99
          refine g_run rfl ?_; refine q_loadAgg rfl (Blk.cellsAt (hS.blk 1 rfl) 0 2 rfl) rfl rfl ?_
          refine g_run rfl ?_; refine q_field rfl rfl ?_
          refine g_run rfl ?_; refine q_loadAgg rfl (Blk.cellsAt (hS.blk 0 rfl) 3 2 rfl) rfl rfl ?_
          refine g_run rfl ?_; refine q_eqlA eqT29 (by kernel_rfl) rfl rfl rfl ?_
          cases hx104
          exact eseq_nil ⟨hT104, Sub.set rfl (Sub.set rfl (Sub.set rfl (Sub.set rfl (Sub.bool true rfl hg104)))), rfl⟩
        · intro hg104
          refine g_skip rfl rfl rfl ?_
          refine g_skip rfl rfl rfl ?_
          refine g_skip rfl rfl rfl ?_
          refine g_skip rfl rfl rfl ?_
          exact eseq_nil ⟨rfl, Sub.set rfl (Sub.set rfl (Sub.set rfl (Sub.set rfl (Sub.bool false rfl hg104))))⟩
        intro wm104 hBm104; clear hx104
        replace hS := hS.below hBm104
        refine q_assign rfl rfl ?_
        refine eseq_nil ?_
        refine hK103 _ _ ?_
        refine e_ret ?_
        obtain rfl := Option.some.inj h
        exact ⟨_, res1 rfl rfl, _, rfl, (hS.pickB [] 2 rfl rfl)⟩
      obtain ⟨x80, hx80, h⟩ := Option.of_bind h
      obtain ⟨r84, hr84, h⟩ := Option.of_bind h
      refine e_region_T mixed (fun _ => False) [0, 0, 2, 7, 15, 0, 32, 96, 255, 511, 1023, 1023, 0, 6143, 16383] [12] (QT.op 0 (QT.op 1 (QT.op 2 (QT.op 3 (QT.op 4 (QT.op 5 (QT.op 6 (QT.op 7 (QT.alt (QT.op 8 (QT.op 9 (QT.op 10 (QT.op 11 (QT.op 12 (QT.op 13 (QT.op 14 QT.fin))))))) (QT.op 12 (QT.op 8 (QT.op 9 (QT.op 10 (QT.op 11 (QT.op 13 (QT.op 14 QT.fin)))))))))))))))) (by kernel_rfl) ?_
      refine t_op ?_
      refine q_move rfl rfl ?_
      refine eseq_nil ?_
      refine t_op ?_
      refine q_field rfl rfl ?_
      refine eseq_nil ?_
      refine t_op ?_
      refine q_load rfl (Blk.cell (hS.blk 0 rfl) rfl) rfl ?_
      refine eseq_nil ?_
      refine t_op ?_
      refine q_atS (by infer_instance) rfl f1 rfl hx80 rfl fun b106 o106 hm106 f106 => ?_
      refine eseq_nil ?_
      refine t_op ?_
      refine q_loadE rfl f106 rfl (fun v107 f107 => ?_)
      refine eseq_nil ?_
      refine t_op ?_
      refine q_field rfl rfl ?_
      refine eseq_nil ?_
      refine t_op ?_
      refine q_field rfl rfl ?_
      refine eseq_nil ?_
      refine t_op ?_
      refine q_load rfl (Blk.cell (hS.blk 0 rfl) rfl) rfl ?_
      refine eseq_nil ?_
      refine t_alt ?_ ?_
      · skip
        refine t_op ?_
        refine q_call rfl (orphan_label_w (Sep.enter (As := []) hS) f107 hr84) rfl ?_
        rintro _ w108 ⟨R108, rfl, hC108⟩
        have hB108 : Below (World.heap wm73).size wm73 w108 := hC108.stepB0
        refine ⟨fun _ => .of_below hB108, ?_⟩
        replace f1 := (f1.ext hB108).mono fun k hk _ => hC108.ro0 k hk
        replace f107 := (f107.ext hB108).mono fun k hk _ => hC108.ro0 k hk
        replace f106 := (f106.ext hB108).mono fun k hk _ => hC108.ro0 k hk
        replace hS := Sep.leave (As := []) hS hC108; simp only [List.cons_append, List.nil_append] at hS
        refine eseq_nil ?_
        refine t_op ?_
        refine q_move rfl rfl ?_
        refine eseq_nil ?_
        refine t_op ?_
        refine q_extract rfl rfl rfl ?_
        refine eseq_nil ?_
        refine t_op ?_
        refine q_extract rfl rfl rfl ?_
        refine eseq_nil ?_
        refine t_op ?_
        refine q_allocB rfl fun w109 bl109 hg109 hb109 hB109 => ?_
        replace f1 := f1.ext hB109
        replace f107 := f107.ext hB109
        replace f106 := f106.ext hB109
        replace hS := hS.newBlk hB109 hg109 hb109
        refine eseq_nil ?_
        refine t_op ?_
        refine q_storeAgg rfl rfl (hS.blk 0 rfl) rfl (Nat.le_of_ble_eq_true rfl) (all_cons rfl (all_cons rfl (all_nil))) rfl rfl fun w111 hb111 hO111 => ?_
        simp only [setN, List.set, List.take, List.drop] at hb111
        have hk111 := hS.keptBlk 0 rfl hO111
        replace f1 := f1.kept hk111
        replace f107 := f107.kept hk111
        replace hS := hS.setBlk 0 rfl hb111 hO111; simp only [List.set] at hS
        refine eseq_nil ?_
        refine t_op ?_
        refine q_assign rfl rfl ?_
        refine eseq_nil ?_
        refine t_fin ?_
        exact hJt102 r84 bl109 _ _ _ h (hS.pickB [1, 0] 2 rfl rfl)  (Sub.cons rfl (Sub.cons rfl (Sub.cons rfl (Sub.nil _))))
      · skip
        refine t_op ?_
        refine q_allocB rfl fun w112 bl112 hg112 hb112 hB112 => ?_
        replace f1 := f1.ext hB112
        replace f107 := f107.ext hB112
        replace f106 := f106.ext hB112
        replace hS := hS.newBlk hB112 hg112 hb112
        refine eseq_nil ?_
        refine t_op ?_
        refine q_call rfl (orphan_label_w (Sep.enter (As := []) hS) f107 hr84) rfl ?_
        rintro _ w114 ⟨R114, rfl, hC114⟩
        have hB114 : Below (World.heap w112).size w112 w114 := hC114.stepB0
        refine ⟨fun _ => .of_below hB114, ?_⟩
        replace f1 := (f1.ext hB114).mono fun k hk _ => hC114.ro0 k hk
        replace f107 := (f107.ext hB114).mono fun k hk _ => hC114.ro0 k hk
        replace f106 := (f106.ext hB114).mono fun k hk _ => hC114.ro0 k hk
        replace hS := Sep.leave (As := []) hS hC114; simp only [List.cons_append, List.nil_append] at hS
        refine eseq_nil ?_
        refine t_op ?_
        refine q_move rfl rfl ?_
        refine eseq_nil ?_
        refine t_op ?_
        refine q_extract rfl rfl rfl ?_
        refine eseq_nil ?_
        refine t_op ?_
        refine q_extract rfl rfl rfl ?_
        refine eseq_nil ?_
        refine t_op ?_
        refine q_storeAgg rfl rfl (hS.blk 0 rfl) rfl (Nat.le_of_ble_eq_true rfl) (all_cons rfl (all_cons rfl (all_nil))) rfl rfl fun w115 hb115 hO115 => ?_
        simp only [setN, List.set, List.take, List.drop] at hb115
        have hk115 := hS.keptBlk 0 rfl hO115
        replace f1 := f1.kept hk115
        replace f107 := f107.kept hk115
        replace hS := hS.setBlk 0 rfl hb115 hO115; simp only [List.set] at hS
        refine eseq_nil ?_
        refine t_op ?_
        refine q_assign rfl rfl ?_
        refine eseq_nil ?_
        refine t_fin ?_
        exact hJt102 r84 bl112 _ _ _ h (hS.pickB [1, 0] 2 rfl rfl)  (Sub.cons rfl (Sub.cons rfl (Sub.cons rfl (Sub.nil _))))
theorem orphan_Consistent_w {F R : Nat → Prop} {w : World} {fuel : Nat} {a0 : (List (List Evt))} {a1 : (List Int)} {v1 : Value} {v2 : Value} {r : (Bool)} (hS : Sep F R R w w []) (f1 : IsSlice (Ty.slice evtTy) w R v1 a0) (f2 : IsSlice Ty.int w R v2 a1) (h : orphan_Consistent fuel a0 a1 = some r) :
    Gives Try.prog 21 [v1, v2] w fun u w1 => ∃ (R1 : Nat → Prop), u = .bool r ∧ Sep F R R1 w w1 [] := by
  refine fn_of Try.func21 rfl Try.ntmps21 (Nat.le_of_ble_eq_true rfl) ?_
  unfold orphan_Consistent at h
  refine e_seq fun K401 hK401 => ?_
  refine e_region_text rfl ?_
  refine q_assign rfl rfl ?_
  refine eseq_nil ?_
  refine hK401 _ _ ?_
  refine e_seq fun K402 hK402 => ?_
  refine e_seq fun K403 hK403 => ?_
  refine e_region_text rfl ?_
  refine q_move rfl rfl ?_
  refine q_lenS rfl f2 rfl ?_
  refine q_move rfl rfl ?_
  refine q_lenS rfl f1 rfl ?_
  refine q_neq rfl rfl rfl ?_
  refine eseq_nil ?_
  refine hK403 _ _ ?_
  refine e_cond rfl (fun hc404 => ?_) (fun hc404 => ?_)
  · replace h := (if_pos hc404).symm.trans h
    refine e_seq fun K405 hK405 => ?_
    refine e_region_text rfl ?_
    refine q_assign rfl rfl ?_
    refine eseq_nil ?_
    refine hK405 _ _ ?_
    refine e_ret ?_
    obtain rfl := Option.some.inj h
    exact ⟨_, res1 rfl rfl, _, rfl, hS⟩
  · replace h := (if_neg (not_true hc404)).symm.trans h
    refine e_skip ?_
    refine hK402 _ _ ?_
    refine e_seq fun K406 hK406 => ?_
    refine e_seq fun K407 hK407 => ?_
    refine e_region_text rfl ?_
    refine q_move rfl rfl ?_
    refine q_lenS rfl f1 rfl ?_
    refine q_move rfl rfl ?_
    refine eseq_nil ?_
    refine hK407 _ _ ?_
    refine e_block ?_
    obtain ⟨tl408, ht408, h⟩ := Option.of_bind h
    have hX408_0 : ∀ (R466 : Nat → Prop) (w467 : World) (E_ : Env), orphan_Consistent_K1 fuel a0 a1 = some r → Sep F R R466 w w467 [] → IsSlice (Ty.slice evtTy) w467 R466 v1 a0 → IsSlice Ty.int w467 R466 v2 a1 → Sub [(0, v1), (1, v2)] E_ → K406 E_ w467 := by
      intro R466 w467 E_ h hS f468 f469 hsub
      refine hK406 _ _ (e_sub hsub ?_); clear hsub
      unfold orphan_Consistent_K1 at h
      refine e_seq fun K470 hK470 => ?_
      refine e_seq fun K471 hK471 => ?_
      refine e_region_text rfl ?_
      refine q_move rfl rfl ?_
      refine q_lenS rfl f468 rfl ?_
      refine q_move rfl rfl ?_
      refine eseq_nil ?_
      refine hK471 _ _ ?_
      refine e_block ?_
      obtain ⟨tl472, ht472, h⟩ := Option.of_bind h
      have hX472_2 : ∀ (R684 : Nat → Prop) (w685 : World) (E_ : Env), orphan_Consistent_K2 fuel = some r → Sep F R R684 w w685 [] → Sub [] E_ → K470 E_ w685 := by
        intro R684 w685 E_ h hS  hsub
        refine hK470 _ _ (e_sub hsub ?_); clear hsub
        unfold orphan_Consistent_K2 at h
        refine e_seq fun K686 hK686 => ?_
        refine e_region_text rfl ?_
        refine q_assign rfl rfl ?_
        refine eseq_nil ?_
        refine hK686 _ _ ?_
        refine e_ret ?_
        obtain rfl := Option.some.inj h
        exact ⟨_, res1 rfl rfl, _, rfl, hS⟩
      refine e_loop (fun m_ E_ w579 => ∃ (x583 : Int), ∃ (R578 : Nat → Prop), iter (fun s => orphan_Consistent_B1 fuel a0 a1 s) m_ x583 = some tl472 ∧ Sep F R R578 w w579 [] ∧ IsSlice (Ty.slice evtTy) w579 R578 v1 a0 ∧ IsSlice Ty.int w579 R578 v2 a1 ∧ IsSlice (Ty.slice evtTy) w579 R578 v1 a0 ∧ E_ = [(0, v1), (1, v2), (38, v1), (39, .int .i64 (a0.length : Int)), (40, .int .i64 x583)]) _ ⟨_, ⟨0, _, ht472, hS, f468, f469, f468, rfl⟩, Sub.cons rfl (Sub.cons rfl (Sub.cons rfl (Sub.cons rfl (Sub.cons rfl (Sub.nil _)))))⟩ ?_
      clear ht472 hS
      rintro m472 _ w579 ⟨x583, R578, ht472, hS, f580, f581, f582, rfl⟩
      obtain ⟨m472, rfl, o472, ho472, ht472⟩ := iter_some ht472
      replace ho472 : orphan_Consistent_B1 fuel a0 a1 x583 = some o472 := ho472
      unfold orphan_Consistent_B1 at ho472
      refine e_seq fun K687 hK687 => ?_
      refine e_region_text rfl ?_
      refine q_lss rfl rfl rfl ?_
      refine eseq_nil ?_
      refine hK687 _ _ ?_
      refine e_seq fun K688 hK688 => ?_
      refine e_cond rfl (fun hc689 => ?_) (fun hc689 => ?_)
      · replace ho472 := (if_pos hc689).symm.trans ho472
        refine e_skip ?_
        refine hK688 _ _ ?_
        refine e_seq fun K690 hK690 => ?_
        refine e_block ?_
        refine e_seq fun K691 hK691 => ?_
        refine e_region_text rfl ?_
        refine q_move rfl rfl ?_
        obtain ⟨x692, hx692, ho472⟩ := Option.of_bind ho472
        refine q_atS (by infer_instance) rfl f582 rfl hx692 rfl fun b693 o693 hm693 f693 => ?_
        refine q_loadE rfl f693 rfl (fun v694 f694 => ?_)
        refine q_assign rfl rfl ?_
        refine q_assign rfl rfl ?_
        refine eseq_nil ?_
        refine hK691 _ _ ?_
        refine e_seq fun K695 hK695 => ?_
        refine e_region_text rfl ?_
        refine q_move rfl rfl ?_
        refine q_move rfl rfl ?_
        refine q_move rfl rfl ?_
        obtain ⟨x696, hx696, ho472⟩ := Option.of_bind ho472
        refine q_atS (by infer_instance) rfl f581 rfl hx696 rfl fun b697 o697 hm697 f697 => ?_
        refine q_load rfl (Elt.intCell f697) rfl ?_
        obtain ⟨x699, hx699, ho472⟩ := Option.of_bind ho472
        refine q_takeS (by infer_instance) rfl f694 rfl hx699 rfl fun v698 f698 => ?_
        refine q_lenS rfl f698 rfl ?_
        refine q_move rfl rfl ?_
        refine eseq_nil ?_
        refine hK695 _ _ ?_
        refine e_block ?_
        obtain ⟨tl700, ht700, ho472⟩ := Option.of_bind ho472
        have hX700_4 : ∀ (R760 : Nat → Prop) (w761 : World) (E_ : Env), orphan_Consistent_K3 fuel x583 = some o472 → Sep F R R760 w w761 [] → IsSlice (Ty.slice evtTy) w761 R760 v1 a0 → IsSlice Ty.int w761 R760 v2 a1 → IsSlice (Ty.slice evtTy) w761 R760 v1 a0 → Sub [(0, v1), (1, v2), (38, v1), (39, .int .i64 (a0.length : Int)), (40, .int .i64 x583)] E_ → K690 E_ w761 := by
          intro R760 w761 E_ ho472 hS f762 f763 f764 hsub
          refine hK690 _ _ (e_sub hsub ?_); clear hsub
          unfold orphan_Consistent_K3 at ho472
          refine e_region_text rfl ?_
          refine q_addW rfl rfl rfl ?_
          refine q_move rfl rfl ?_
          refine eseq_nil ?_
          obtain rfl := Option.some.inj ho472
          exact ⟨m472, _, Nat.lt_succ_self _, ⟨(w64 (x583 + 1)), _, ht472, hS, f762, f763, f764, rfl⟩, Sub.cons rfl (Sub.cons rfl (Sub.cons rfl (Sub.cons rfl (Sub.cons rfl (Sub.nil _)))))⟩
        refine e_loop (fun m_ E_ w731 => ∃ (x736 : Int), ∃ (R730 : Nat → Prop), iter (fun s => orphan_Consistent_B2 fuel x699 a0 a1 x583 s) m_ x736 = some tl700 ∧ Sep F R R730 w w731 [] ∧ IsSlice (Ty.slice evtTy) w731 R730 v1 a0 ∧ IsSlice Ty.int w731 R730 v2 a1 ∧ IsSlice (Ty.slice evtTy) w731 R730 v1 a0 ∧ IsSlice evtTy w731 R730 v698 x699 ∧ E_ = [(0, v1), (1, v2), (7, .int .i64 x583), (38, v1), (39, .int .i64 (a0.length : Int)), (40, .int .i64 x583), (50, v698), (51, .int .i64 (x699.length : Int)), (52, .int .i64 x736)]) _ ⟨_, ⟨0, _, ht700, hS, f580, f581, f582, f698, rfl⟩, Sub.cons rfl (Sub.cons rfl (Sub.cons rfl (Sub.cons rfl (Sub.cons rfl (Sub.cons rfl (Sub.cons rfl (Sub.cons rfl (Sub.cons rfl (Sub.nil _)))))))))⟩ ?_
        clear ht700 hS
        rintro m700 _ w731 ⟨x736, R730, ht700, hS, f732, f733, f734, f735, rfl⟩
        obtain ⟨m700, rfl, o700, ho700, ht700⟩ := iter_some ht700
        replace ho700 : orphan_Consistent_B2 fuel x699 a0 a1 x583 x736 = some o700 := ho700
        unfold orphan_Consistent_B2 at ho700
        refine e_seq fun K765 hK765 => ?_
        refine e_region_text rfl ?_
        refine q_lss rfl rfl rfl ?_
        refine eseq_nil ?_
        refine hK765 _ _ ?_
        refine e_seq fun K766 hK766 => ?_
        refine e_cond rfl (fun hc767 => ?_) (fun hc767 => ?_)
        · replace ho700 := (if_pos hc767).symm.trans ho700
          refine e_skip ?_
          refine hK766 _ _ ?_
          refine e_seq fun K768 hK768 => ?_
          refine e_block ?_
          refine e_seq fun K769 hK769 => ?_
          refine e_region_text rfl ?_
          obtain ⟨x770, hx770, ho700⟩ := Option.of_bind ho700
          refine q_atS (by infer_instance) rfl f735 rfl hx770 rfl fun b771 o771 hm771 f771 => ?_
          have hc772 := Evt_open f771
          refine q_loadAgg rfl hc772 rfl rfl ?_
          refine q_allocB rfl fun w773 bl773 hg773 hb773 hB773 => ?_
          replace f732 := f732.ext hB773
          replace f733 := f733.ext hB773
          replace f734 := f734.ext hB773
          replace f735 := f735.ext hB773
          replace hS := hS.newBlk hB773 hg773 hb773
          refine q_storeAgg rfl rfl (hS.blk 0 rfl) rfl (Nat.le_of_ble_eq_true rfl) (all_cons rfl (all_cons rfl (all_cons rfl (all_cons rfl (all_cons rfl (all_cons rfl (all_cons rfl (all_nil)))))))) rfl rfl fun w775 hb775 hO775 => ?_
          simp only [setN, List.set, List.take, List.drop] at hb775
          have hk775 := hS.keptBlk 0 rfl hO775
          replace f732 := f732.kept hk775
          replace f733 := f733.kept hk775
          replace f734 := f734.kept hk775
          replace f735 := f735.kept hk775
          replace hS := hS.setBlk 0 rfl hb775 hO775; simp only [List.set] at hS
          refine eseq_nil ?_
          refine hK769 _ _ ?_
          refine e_seq fun K776 hK776 => ?_
          refine e_region_text rfl ?_
          refine q_move rfl rfl ?_
          refine q_move rfl rfl ?_
          refine q_move rfl rfl ?_
          refine q_loadAgg rfl (Blk.cellsAt (hS.blk 0 rfl) 0 7 rfl) rfl rfl ?_
          obtain ⟨r778, hr778, ho700⟩ := Option.of_bind ho700
          refine q_call rfl (orphan_fits_w (a3 := (⟨x770.kind, x770.inc, x770.frm, (⟨x770.sent.inc, x770.sent.index⟩ : Lab), x770.ord, x770.value⟩ : Evt)) (Sep.enter (As := []) hS) f732 f733 hr778) rfl ?_
          rintro _ w777 ⟨R777, rfl, hC777⟩
          have hB777 : Below (World.heap w775).size w775 w777 := hC777.stepB0
          refine ⟨fun _ => .of_below hB777, ?_⟩
          replace f732 := (f732.ext hB777).mono fun k hk _ => hC777.ro0 k hk
          replace f733 := (f733.ext hB777).mono fun k hk _ => hC777.ro0 k hk
          replace f734 := (f734.ext hB777).mono fun k hk _ => hC777.ro0 k hk
          replace f735 := (f735.ext hB777).mono fun k hk _ => hC777.ro0 k hk
          replace hS := Sep.leave (As := []) hS hC777; simp only [List.cons_append, List.nil_append] at hS
          refine q_not rfl rfl ?_
          refine eseq_nil ?_
          refine hK776 _ _ ?_
          refine e_cond rfl (fun hc779 => ?_) (fun hc779 => ?_)
          · replace ho700 := (if_pos hc779).symm.trans ho700
            refine e_seq fun K780 hK780 => ?_
            refine e_region_text rfl ?_
            refine q_assign rfl rfl ?_
            refine eseq_nil ?_
            refine hK780 _ _ ?_
            refine e_ret ?_
            obtain rfl := Option.some.inj ho700
            obtain rfl := Option.some.inj ht700
            obtain rfl := Option.some.inj ho472
            obtain rfl := Option.some.inj ht472
            obtain rfl := Option.some.inj h
            exact ⟨_, res1 rfl rfl, _, rfl, (hS.pickB [] 1 rfl rfl)⟩
          · replace ho700 := (if_neg (not_true hc779)).symm.trans ho700
            refine e_skip ?_
            refine hK768 _ _ ?_
            refine e_region_text rfl ?_
            refine q_addW rfl rfl rfl ?_
            refine q_move rfl rfl ?_
            refine eseq_nil ?_
            obtain rfl := Option.some.inj ho700
            exact ⟨m700, _, Nat.lt_succ_self _, ⟨(w64 (x736 + 1)), _, ht700, (hS.pickB [] 1 rfl rfl), f732, f733, f734, f735, rfl⟩, Sub.cons rfl (Sub.cons rfl (Sub.cons rfl (Sub.cons rfl (Sub.cons rfl (Sub.cons rfl (Sub.cons rfl (Sub.cons rfl (Sub.cons rfl (Sub.nil _)))))))))⟩
        · replace ho700 := (if_neg (not_true hc767)).symm.trans ho700
          refine e_exit ?_
          obtain rfl := Option.some.inj ho700
          obtain rfl := Option.some.inj ht700
          exact hX700_4  _ _ _ ho472 hS f732 f733 f734 (Sub.cons rfl (Sub.cons rfl (Sub.cons rfl (Sub.cons rfl (Sub.cons rfl (Sub.nil _))))))
      · replace ho472 := (if_neg (not_true hc689)).symm.trans ho472
        refine e_exit ?_
        obtain rfl := Option.some.inj ho472
        obtain rfl := Option.some.inj ht472
        exact hX472_2  _ _ _ h hS  (Sub.nil _)
    refine e_loop (fun m_ E_ w438 => ∃ (x442 : Int), ∃ (R437 : Nat → Prop), iter (fun s => orphan_Consistent_B3 fuel a0 a1 s) m_ x442 = some tl408 ∧ Sep F R R437 w w438 [] ∧ IsSlice (Ty.slice evtTy) w438 R437 v1 a0 ∧ IsSlice Ty.int w438 R437 v2 a1 ∧ IsSlice (Ty.slice evtTy) w438 R437 v1 a0 ∧ E_ = [(0, v1), (1, v2), (16, v1), (17, .int .i64 (a0.length : Int)), (18, .int .i64 x442)]) _ ⟨_, ⟨0, _, ht408, hS, f1, f2, f1, rfl⟩, Sub.cons rfl (Sub.cons rfl (Sub.cons rfl (Sub.cons rfl (Sub.cons rfl (Sub.nil _)))))⟩ ?_
    clear ht408 hS
    rintro m408 _ w438 ⟨x442, R437, ht408, hS, f439, f440, f441, rfl⟩
    obtain ⟨m408, rfl, o408, ho408, ht408⟩ := iter_some ht408
    replace ho408 : orphan_Consistent_B3 fuel a0 a1 x442 = some o408 := ho408
    unfold orphan_Consistent_B3 at ho408
    refine e_seq fun K781 hK781 => ?_
    refine e_region_text rfl ?_
    refine q_lss rfl rfl rfl ?_
    refine eseq_nil ?_
    refine hK781 _ _ ?_
    refine e_seq fun K782 hK782 => ?_
    refine e_cond rfl (fun hc783 => ?_) (fun hc783 => ?_)
    · replace ho408 := (if_pos hc783).symm.trans ho408
      refine e_skip ?_
      refine hK782 _ _ ?_
      refine e_seq fun K784 hK784 => ?_
      refine e_block ?_
      refine e_seq fun K785 hK785 => ?_
      refine e_region_text rfl ?_
      refine q_move rfl rfl ?_
      obtain ⟨x786, hx786, ho408⟩ := Option.of_bind ho408
      refine q_atS (by infer_instance) rfl f441 rfl hx786 rfl fun b787 o787 hm787 f787 => ?_
      refine q_loadE rfl f787 rfl (fun v788 f788 => ?_)
      refine q_assign rfl rfl ?_
      refine q_assign rfl rfl ?_
      refine eseq_nil ?_
      refine hK785 _ _ ?_
      refine e_seq fun K789 hK789 => ?_
      refine e_region_text rfl ?_
      refine q_move rfl rfl ?_
      refine q_move rfl rfl ?_
      obtain ⟨x790, hx790, ho408⟩ := Option.of_bind ho408
      refine q_atS (by infer_instance) rfl f440 rfl hx790 rfl fun b791 o791 hm791 f791 => ?_
      refine q_load rfl (Elt.intCell f791) rfl ?_
      refine q_lss rfl rfl rfl ?_
      refine q_move rfl rfl ?_
      obtain ⟨x793, hx792, ho408⟩ := Option.of_bind ho408
      refine g_orM 7 hx792 rfl trivial rfl rfl ?_ ?_ ?_
      · intro hg792
        refine g_skip rfl rfl rfl ?_
        refine g_skip rfl rfl rfl ?_
        refine g_skip rfl rfl rfl ?_
        refine g_skip rfl rfl rfl ?_
        refine g_skip rfl rfl rfl ?_
        refine g_skip rfl rfl rfl ?_
        refine g_skip rfl rfl rfl ?_
        exact eseq_nil ⟨rfl, Sub.set rfl (Sub.set rfl (Sub.set rfl (Sub.set rfl (Sub.set rfl (Sub.set rfl (Sub.set rfl (Sub.bool true rfl hg792)))))))⟩
      · intro hg792 hx792
        clear ho408
        have hT792 := Below.refl (World.heap w438).size w438
        refine g_run rfl ?_; refine q_move rfl rfl ?_
        refine g_run rfl ?_; refine q_move rfl rfl ?_
        obtain ⟨x794, hx794, hx792⟩ := Option.of_bind hx792
        refine g_run rfl ?_; refine q_atS (by infer_instance) rfl f440 rfl hx794 rfl fun b795 o795 hm795 f795 => ?_
        refine g_run rfl ?_; refine q_load rfl (Elt.intCell f795) rfl ?_
        refine g_run rfl ?_; refine q_move rfl rfl ?_
        refine g_run rfl ?_; refine q_lenS rfl f788 rfl ?_
        refine g_run rfl ?_; refine q_gtr rfl rfl rfl ?_
        cases hx792
        exact eseq_nil ⟨hT792, Sub.set rfl (Sub.set rfl (Sub.set rfl (Sub.set rfl (Sub.set rfl (Sub.set rfl (Sub.set rfl (Sub.bool false rfl hg792))))))), rfl⟩
      intro wm792 hBm792; clear hx792
      replace hS := hS.below hBm792
      replace f439 := f439.ext hBm792
      replace f440 := f440.ext hBm792
      replace f441 := f441.ext hBm792
      refine eseq_nil ?_
      refine hK789 _ _ ?_
      refine e_cond rfl (fun hc796 => ?_) (fun hc796 => ?_)
      · replace ho408 := (if_pos hc796).symm.trans ho408
        refine e_seq fun K797 hK797 => ?_
        refine e_region_text rfl ?_
        refine q_assign rfl rfl ?_
        refine eseq_nil ?_
        refine hK797 _ _ ?_
        refine e_ret ?_
        obtain rfl := Option.some.inj ho408
        obtain rfl := Option.some.inj ht408
        obtain rfl := Option.some.inj h
        exact ⟨_, res1 rfl rfl, _, rfl, hS⟩
      · replace ho408 := (if_neg (not_true hc796)).symm.trans ho408
        refine e_skip ?_
        refine hK784 _ _ ?_
        refine e_region_text rfl ?_
        refine q_addW rfl rfl rfl ?_
        refine q_move rfl rfl ?_
        refine eseq_nil ?_
        obtain rfl := Option.some.inj ho408
        exact ⟨m408, _, Nat.lt_succ_self _, ⟨(w64 (x442 + 1)), _, ht408, hS, f439, f440, f441, rfl⟩, Sub.cons rfl (Sub.cons rfl (Sub.cons rfl (Sub.cons rfl (Sub.cons rfl (Sub.nil _)))))⟩
    · replace ho408 := (if_neg (not_true hc783)).symm.trans ho408
      refine e_exit ?_
      obtain rfl := Option.some.inj ho408
      obtain rfl := Option.some.inj ht408
      exact hX408_0  _ _ _ h hS f439 f440 (Sub.cons rfl (Sub.cons rfl (Sub.nil _)))
theorem ref23_SameInts_w {F R : Nat → Prop} {w : World} {fuel : Nat} {a0 : (List Int)} {a1 : (List Int)} {v1 : Value} {v2 : Value} {r : (Bool)} (hS : Sep F R R w w []) (f1 : IsSlice Ty.int w R v1 a0) (f2 : IsSlice Ty.int w R v2 a1) (h : ref23_SameInts fuel a0 a1 = some r) :
    Gives Try.prog 23 [v1, v2] w fun u w1 => ∃ (R1 : Nat → Prop), u = .bool r ∧ Sep F R R1 w w1 [] := by
  refine fn_of Try.func23 rfl Try.ntmps23 (Nat.le_of_ble_eq_true rfl) ?_
  unfold ref23_SameInts at h
  refine e_seq fun K67 hK67 => ?_
  refine e_region_text rfl ?_
  refine q_assign rfl rfl ?_
  refine eseq_nil ?_
  refine hK67 _ _ ?_
  refine e_seq fun K68 hK68 => ?_
  refine e_seq fun K69 hK69 => ?_
  refine e_region_text rfl ?_
  refine q_move rfl rfl ?_
  refine q_lenS rfl f1 rfl ?_
  refine q_move rfl rfl ?_
  refine q_lenS rfl f2 rfl ?_
  refine q_neq rfl rfl rfl ?_
  refine eseq_nil ?_
  refine hK69 _ _ ?_
  refine e_cond rfl (fun hc70 => ?_) (fun hc70 => ?_)
  · replace h := (if_pos hc70).symm.trans h
    refine e_seq fun K71 hK71 => ?_
    refine e_region_text rfl ?_
    refine q_assign rfl rfl ?_
    refine eseq_nil ?_
    refine hK71 _ _ ?_
    refine e_ret ?_
    obtain rfl := Option.some.inj h
    exact ⟨_, res1 rfl rfl, _, rfl, hS⟩
  · replace h := (if_neg (not_true hc70)).symm.trans h
    refine e_skip ?_
    refine hK68 _ _ ?_
    refine e_seq fun K72 hK72 => ?_
    refine e_seq fun K73 hK73 => ?_
    refine e_region_text rfl ?_
    refine q_assign rfl rfl ?_
    refine eseq_nil ?_
    refine hK73 _ _ ?_
    refine e_block ?_
    obtain ⟨tl74, ht74, h⟩ := Option.of_bind h
    have hX74_0 : ∀ (R116 : Nat → Prop) (w117 : World) (E_ : Env), ref23_SameInts_K1 fuel = some r → Sep F R R116 w w117 [] → Sub [] E_ → K72 E_ w117 := by
      intro R116 w117 E_ h hS  hsub
      refine hK72 _ _ (e_sub hsub ?_); clear hsub
      unfold ref23_SameInts_K1 at h
      refine e_seq fun K118 hK118 => ?_
      refine e_region_text rfl ?_
      refine q_assign rfl rfl ?_
      refine eseq_nil ?_
      refine hK118 _ _ ?_
      refine e_ret ?_
      obtain rfl := Option.some.inj h
      exact ⟨_, res1 rfl rfl, _, rfl, hS⟩
    refine e_loop (fun m_ E_ w96 => ∃ (x99 : Int), ∃ (R95 : Nat → Prop), iter (fun s => ref23_SameInts_B1 fuel a0 a1 s) m_ x99 = some tl74 ∧ Sep F R R95 w w96 [] ∧ IsSlice Ty.int w96 R95 v1 a0 ∧ IsSlice Ty.int w96 R95 v2 a1 ∧ E_ = [(0, v1), (1, v2), (5, .int .i64 x99)]) _ ⟨_, ⟨0, _, ht74, hS, f1, f2, rfl⟩, Sub.cons rfl (Sub.cons rfl (Sub.cons rfl (Sub.nil _)))⟩ ?_
    clear ht74 hS
    rintro m74 _ w96 ⟨x99, R95, ht74, hS, f97, f98, rfl⟩
    obtain ⟨m74, rfl, o74, ho74, ht74⟩ := iter_some ht74
    replace ho74 : ref23_SameInts_B1 fuel a0 a1 x99 = some o74 := ho74
    unfold ref23_SameInts_B1 at ho74
    refine e_seq fun K119 hK119 => ?_
    refine e_seq fun K120 hK120 => ?_
    refine e_region_text rfl ?_
    refine q_move rfl rfl ?_
    refine q_move rfl rfl ?_
    refine q_lenS rfl f97 rfl ?_
    refine q_lss rfl rfl rfl ?_
    refine eseq_nil ?_
    refine hK120 _ _ ?_
    refine e_cond rfl (fun hc121 => ?_) (fun hc121 => ?_)
    · replace ho74 := (if_pos hc121).symm.trans ho74
      refine e_skip ?_
      refine hK119 _ _ ?_
      refine e_seq fun K122 hK122 => ?_
      refine e_block ?_
      refine e_seq fun K123 hK123 => ?_
      refine e_region_draw mixed (fun _ => False) [0, 0, 3, 7, 0, 0, 48, 112, 255] [] [0, 1, 2, 3, 4, 5, 6, 7, 8] (by kernel_rfl) ?_
      refine q_move rfl rfl ?_
      refine q_move rfl rfl ?_
      obtain ⟨x124, hx124, ho74⟩ := Option.of_bind ho74
      refine q_atS (by infer_instance) rfl f97 rfl hx124 rfl fun b125 o125 hm125 f125 => ?_
      refine q_load rfl (Elt.intCell f125) rfl ?_
      refine q_move rfl rfl ?_
      refine q_move rfl rfl ?_
      obtain ⟨x126, hx126, ho74⟩ := Option.of_bind ho74
      refine q_atS (by infer_instance) rfl f98 rfl hx126 rfl fun b127 o127 hm127 f127 => ?_
      refine q_load rfl (Elt.intCell f127) rfl ?_
      refine q_neq rfl rfl rfl ?_
      refine eseq_nil ?_
      refine hK123 _ _ ?_
      refine e_cond rfl (fun hc128 => ?_) (fun hc128 => ?_)
      · replace ho74 := (if_pos hc128).symm.trans ho74
        refine e_seq fun K129 hK129 => ?_
        refine e_region_text rfl ?_
        refine q_assign rfl rfl ?_
        refine eseq_nil ?_
        refine hK129 _ _ ?_
        refine e_ret ?_
        obtain rfl := Option.some.inj ho74
        obtain rfl := Option.some.inj ht74
        obtain rfl := Option.some.inj h
        exact ⟨_, res1 rfl rfl, _, rfl, hS⟩
      · replace ho74 := (if_neg (not_true hc128)).symm.trans ho74
        refine e_skip ?_
        refine hK122 _ _ ?_
        refine e_region_text rfl ?_
        refine q_move rfl rfl ?_
        refine q_addW rfl rfl rfl ?_
        refine q_assign rfl rfl ?_
        refine eseq_nil ?_
        obtain rfl := Option.some.inj ho74
        exact ⟨m74, _, Nat.lt_succ_self _, ⟨(w64 (x99 + 1)), _, ht74, hS, f97, f98, rfl⟩, Sub.cons rfl (Sub.cons rfl (Sub.cons rfl (Sub.nil _)))⟩
    · replace ho74 := (if_neg (not_true hc121)).symm.trans ho74
      refine e_exit ?_
      obtain rfl := Option.some.inj ho74
      obtain rfl := Option.some.inj ht74
      exact hX74_0  _ _ _ h hS  (Sub.nil _)
theorem orphan_Lower_1_w {F R : Nat → Prop} {w : World} {fuel : Nat} {a0 : Evt} {c1_0 : (List (List Evt))} {c2_0 : (List Int)} {c3_0 : Int} {B1 : Nat} {v2 : Value} {B2 : Nat} {v4 : Value} {B3 : Nat} {r : (Bool)} (hS : Sep F R R w w []) (f1 : Lent w R B1 [v2] 34) (f2 : IsSlice (Ty.slice evtTy) w R v2 c1_0) (f3 : Lent w R B2 [v4] 35) (f4 : IsSlice Ty.int w R v4 c2_0) (f5 : Lent w R B3 [.int .i64 c3_0] 3) (h : orphan_Lower_1 fuel a0 c1_0 c2_0 c3_0 = some r) :
    Gives Try.prog 53 [.agg #[.int .i64 a0.kind, .int .i64 a0.inc, .int .i64 a0.frm, .int .i64 a0.sent.inc, .int .i64 a0.sent.index, .int .i64 a0.ord, .int .i64 a0.value], .pointer (some ⟨B1, 0, none⟩), .pointer (some ⟨B2, 0, none⟩), .pointer (some ⟨B3, 0, none⟩)] w fun u w1 => ∃ (R1 : Nat → Prop), u = .bool r ∧ Sep F R R1 w w1 [] := by
  refine fn_of Try.func53 rfl Try.ntmps53 (Nat.le_of_ble_eq_true rfl) ?_
  unfold orphan_Lower_1 at h
  refine e_seq fun K12 hK12 => ?_
  refine e_region_text rfl ?_
  refine q_boxB rfl rfl rfl fun w13 bl13 hg13 hb13 hB13 => ?_
  replace f1 := f1.ext hB13
  replace f2 := f2.ext hB13
  replace f3 := f3.ext hB13
  replace f4 := f4.ext hB13
  replace f5 := f5.ext hB13
  replace hS := hS.newBlk hB13 hg13 hb13
  refine q_assign rfl rfl ?_
  refine eseq_nil ?_
  refine hK12 _ _ ?_
  refine e_seq fun K15 hK15 => ?_
  refine e_region_text rfl ?_
  refine q_load rfl (Blk.cell f1.blk rfl) rfl ?_
  refine q_load rfl (Blk.cell f3.blk rfl) rfl ?_
  refine q_load rfl (Blk.cell f5.blk rfl) rfl ?_
  refine q_loadAgg rfl (Blk.cellsAt (hS.blk 0 rfl) 0 7 rfl) rfl rfl ?_
  obtain ⟨r17, hr17, h⟩ := Option.of_bind h
  refine q_call rfl (orphan_fits_w (a3 := (⟨a0.kind, a0.inc, a0.frm, (⟨a0.sent.inc, a0.sent.index⟩ : Lab), a0.ord, a0.value⟩ : Evt)) (Sep.enter (As := []) hS) f2 f4 hr17) rfl ?_
  rintro _ w16 ⟨R16, rfl, hC16⟩
  have hB16 : Below (World.heap w13).size w13 w16 := hC16.stepB0
  refine ⟨fun _ => .of_below hB16, ?_⟩
  replace f2 := (f2.ext hB16).mono fun k hk _ => hC16.ro0 k hk
  replace f4 := (f4.ext hB16).mono fun k hk _ => hC16.ro0 k hk
  replace hS := Sep.leave (As := []) hS hC16; simp only [List.cons_append, List.nil_append] at hS
  refine q_not rfl rfl ?_
  refine q_assign rfl rfl ?_
  refine eseq_nil ?_
  refine hK15 _ _ ?_
  refine e_ret ?_
  obtain rfl := Option.some.inj h
  exact ⟨_, res1 rfl rfl, _, rfl, (hS.pickB [] 1 rfl rfl)⟩
theorem slices_IndexFunc_w {F R : Nat → Prop} {w : World} {fuel : Nat} {a0 : (List Evt)} {c1a_0 : (List (List Evt))} {c1b_0 : (List Int)} {c1c_0 : Int} {v1 : Value} {B1_0 : Nat} {v3 : Value} {B1_1 : Nat} {v5 : Value} {B1_2 : Nat} {r : (Int)} (hS : Sep F R R w w []) (f1 : IsSlice evtTy w R v1 a0) (f2 : Lent w R B1_0 [v3] 34) (f3 : IsSlice (Ty.slice evtTy) w R v3 c1a_0) (f4 : Lent w R B1_1 [v5] 35) (f5 : IsSlice Ty.int w R v5 c1b_0) (f6 : Lent w R B1_2 [.int .i64 c1c_0] 3) (h : slices_IndexFunc fuel a0 c1a_0 c1b_0 c1c_0 = some r) :
    Gives Try.prog 52 [v1, .func (.func 53) #[] #[.pointer (some ⟨B1_0, 0, none⟩), .pointer (some ⟨B1_1, 0, none⟩), .pointer (some ⟨B1_2, 0, none⟩)]] w fun u w1 => ∃ (R1 : Nat → Prop), u = .int .i64 r ∧ Sep F R R1 w w1 [] := by
  refine fn_of Try.func52 rfl Try.ntmps52 (Nat.le_of_ble_eq_true rfl) ?_
  unfold slices_IndexFunc at h
  refine e_seq fun K89 hK89 => ?_
  refine e_region_text rfl ?_
  refine q_assign rfl rfl ?_
  refine eseq_nil ?_
  refine hK89 _ _ ?_
  refine e_seq fun K90 hK90 => ?_
  refine e_seq fun K91 hK91 => ?_
  refine e_region_text rfl ?_
  refine q_move rfl rfl ?_
  refine q_lenS rfl f1 rfl ?_
  refine q_move rfl rfl ?_
  refine eseq_nil ?_
  refine hK91 _ _ ?_
  refine e_block ?_
  obtain ⟨tl92, ht92, h⟩ := Option.of_bind h
  have hX92_0 : ∀ (R154 : Nat → Prop) (w155 : World) (E_ : Env), slices_IndexFunc_K1 fuel = some r → Sep F R R154 w w155 [] → Sub [] E_ → K90 E_ w155 := by
    intro R154 w155 E_ h hS  hsub
    refine hK90 _ _ (e_sub hsub ?_); clear hsub
    unfold slices_IndexFunc_K1 at h
    refine e_seq fun K156 hK156 => ?_
    refine e_region_text rfl ?_
    refine q_assign rfl rfl ?_
    refine eseq_nil ?_
    refine hK156 _ _ ?_
    refine e_ret ?_
    obtain rfl := Option.some.inj h
    exact ⟨_, res1 rfl rfl, _, rfl, hS⟩
  refine e_loop (fun m_ E_ w124 => ∃ (x131 : Int), ∃ (R123 : Nat → Prop), iter (fun s => slices_IndexFunc_B1 fuel a0 c1a_0 c1b_0 c1c_0 s) m_ x131 = some tl92 ∧ Sep F R R123 w w124 [] ∧ IsSlice evtTy w124 R123 v1 a0 ∧ IsSlice (Ty.slice evtTy) w124 R123 v3 c1a_0 ∧ Lent w124 R123 B1_0 [v3] 34 ∧ IsSlice Ty.int w124 R123 v5 c1b_0 ∧ Lent w124 R123 B1_1 [v5] 35 ∧ Lent w124 R123 B1_2 [.int .i64 c1c_0] 3 ∧ E_ = [(0, v1), (1, .func (.func 53) #[] #[.pointer (some ⟨B1_0, 0, none⟩), .pointer (some ⟨B1_1, 0, none⟩), .pointer (some ⟨B1_2, 0, none⟩)]), (7, .int .i64 (a0.length : Int)), (8, .int .i64 x131)]) _ ⟨_, ⟨0, _, ht92, hS, f1, f3, f2, f5, f4, f6, rfl⟩, Sub.cons rfl (Sub.cons rfl (Sub.cons rfl (Sub.cons rfl (Sub.nil _))))⟩ ?_
  clear ht92 hS
  rintro m92 _ w124 ⟨x131, R123, ht92, hS, f125, f127, f126, f129, f128, f130, rfl⟩
  obtain ⟨m92, rfl, o92, ho92, ht92⟩ := iter_some ht92
  replace ho92 : slices_IndexFunc_B1 fuel a0 c1a_0 c1b_0 c1c_0 x131 = some o92 := ho92
  unfold slices_IndexFunc_B1 at ho92
  refine e_seq fun K157 hK157 => ?_
  refine e_region_text rfl ?_
  refine q_lss rfl rfl rfl ?_
  refine eseq_nil ?_
  refine hK157 _ _ ?_
  refine e_seq fun K158 hK158 => ?_
  refine e_cond rfl (fun hc159 => ?_) (fun hc159 => ?_)
  · replace ho92 := (if_pos hc159).symm.trans ho92
    refine e_skip ?_
    refine hK158 _ _ ?_
    refine e_seq fun K160 hK160 => ?_
    refine e_block ?_
    refine e_seq fun K161 hK161 => ?_
    refine e_region_text rfl ?_
    refine q_move rfl rfl ?_
    refine q_assign rfl rfl ?_
    refine eseq_nil ?_
    refine hK161 _ _ ?_
    refine e_seq fun K162 hK162 => ?_
    refine e_region_text rfl ?_
    refine q_move rfl rfl ?_
    refine q_move rfl rfl ?_
    refine q_move rfl rfl ?_
    obtain ⟨x163, hx163, ho92⟩ := Option.of_bind ho92
    refine q_atS (by infer_instance) rfl f125 rfl hx163 rfl fun b164 o164 hm164 f164 => ?_
    have hc165 := Evt_open f164
    refine q_loadAgg rfl hc165 rfl rfl ?_
    obtain ⟨r167, hr167, ho92⟩ := Option.of_bind ho92
    refine q_callC rfl rfl (orphan_Lower_1_w (a0 := x163) (Sep.enter (As := []) hS) f126 f127 f128 f129 f130 hr167) rfl ?_
    rintro _ w166 ⟨R166, rfl, hC166⟩
    have hB166 : Below (World.heap w124).size w124 w166 := hC166.stepB0
    refine ⟨fun _ => .of_below hB166, ?_⟩
    replace f125 := (f125.ext hB166).mono fun k hk _ => hC166.ro0 k hk
    replace f126 := (f126.ext hB166).mono fun k hk _ => hC166.ro0 k hk
    replace f127 := (f127.ext hB166).mono fun k hk _ => hC166.ro0 k hk
    replace f128 := (f128.ext hB166).mono fun k hk _ => hC166.ro0 k hk
    replace f129 := (f129.ext hB166).mono fun k hk _ => hC166.ro0 k hk
    replace f130 := (f130.ext hB166).mono fun k hk _ => hC166.ro0 k hk
    replace hS := Sep.leave (As := []) hS hC166; simp only [List.cons_append, List.nil_append] at hS
    refine eseq_nil ?_
    refine hK162 _ _ ?_
    refine e_cond rfl (fun hc168 => ?_) (fun hc168 => ?_)
    · replace ho92 := (if_pos hc168).symm.trans ho92
      refine e_seq fun K169 hK169 => ?_
      refine e_region_text rfl ?_
      refine q_move rfl rfl ?_
      refine q_assign rfl rfl ?_
      refine eseq_nil ?_
      refine hK169 _ _ ?_
      refine e_ret ?_
      obtain rfl := Option.some.inj ho92
      obtain rfl := Option.some.inj ht92
      obtain rfl := Option.some.inj h
      exact ⟨_, res1 rfl rfl, _, rfl, hS⟩
    · replace ho92 := (if_neg (not_true hc168)).symm.trans ho92
      refine e_skip ?_
      refine hK160 _ _ ?_
      refine e_region_text rfl ?_
      refine q_addW rfl rfl rfl ?_
      refine q_move rfl rfl ?_
      refine eseq_nil ?_
      obtain rfl := Option.some.inj ho92
      exact ⟨m92, _, Nat.lt_succ_self _, ⟨(w64 (x131 + 1)), _, ht92, hS, f125, f127, f126, f129, f128, f130, rfl⟩, Sub.cons rfl (Sub.cons rfl (Sub.cons rfl (Sub.cons rfl (Sub.nil _))))⟩
  · replace ho92 := (if_neg (not_true hc159)).symm.trans ho92
    refine e_exit ?_
    obtain rfl := Option.some.inj ho92
    obtain rfl := Option.some.inj ht92
    exact hX92_0  _ _ _ h hS  (Sub.nil _)
theorem orphan_Lower_w {F R : Nat → Prop} {w : World} {fuel : Nat} {a0 : (List (List Evt))} {a1 : (List Int)} {v1 : Value} {v2 : Value} {r : ((List Int))} (hS : Sep F R R w w []) (f1 : IsSlice (Ty.slice evtTy) w R v1 a0) (f2 : IsSlice Ty.int w R v2 a1) (h : orphan_Lower fuel a0 a1 = some r) :
    Gives Try.prog 24 [v1, v2] w fun u w1 => ∃ (v451 : Value), ∃ (R1 : Nat → Prop), u = v451 ∧ Sep F R R1 w w1 [HP.own Ty.int (fun _ => False) 3 v451 r] := by
  refine fn_of Try.func24 rfl Try.ntmps24 (Nat.le_of_ble_eq_true rfl) ?_
  unfold orphan_Lower at h
  refine e_seq fun K452 hK452 => ?_
  refine e_region_text rfl ?_
  refine q_boxB rfl (cells_one f1.one) rfl fun w453 bl453 hg453 hb453 hB453 => ?_
  replace f1 := f1.ext hB453
  replace f2 := f2.ext hB453
  replace hS := hS.newBlk hB453 hg453 hb453
  refine q_assign rfl rfl ?_
  refine eseq_nil ?_
  refine hK452 _ _ ?_
  refine e_scope ?_
  refine e_seq fun K455 hK455 => ?_
  refine e_region_text rfl ?_
  refine q_load rfl (Blk.cell (hS.blk 0 rfl) rfl) rfl ?_
  refine q_lenS rfl f1 rfl ?_
  obtain ⟨x456, hx456, h⟩ := Option.of_bind h
  refine q_makeO (T := Ty.int) (S := (fun _ => False)) rfl rfl rfl hx456 (fun _ h => h.elim) rfl fun w457 v457 ho457 hv457 hB457 => ?_
  replace f2 := f2.ext hB457
  replace f1 := f1.ext hB457
  replace hS := hS.newOwnS hB457 ho457 hv457 (fun _ h => h.elim)
  refine q_allocB rfl fun w459 bl459 hg459 hb459 hB459 => ?_
  replace f2 := f2.ext hB459
  replace f1 := f1.ext hB459
  replace hS := hS.newBlk hB459 hg459 hb459
  refine q_store rfl rfl (hS.blk 0 rfl) (Nat.le_of_ble_eq_true rfl) (hS.own 1 rfl).one rfl rfl fun w461 hb461 hO461 => ?_
  have hk461 := hS.keptBlk 0 rfl hO461
  replace f2 := f2.kept hk461
  replace f1 := f1.kept hk461
  replace hS := hS.setBlk 0 rfl hb461 hO461; simp only [List.set] at hS
  refine eseq_nil ?_
  refine hK455 _ _ ?_
  refine e_seq fun K462 hK462 => ?_
  refine e_seq fun K463 hK463 => ?_
  refine e_region_text rfl ?_
  refine q_load rfl (Blk.cell (hS.blk 2 rfl) rfl) rfl ?_
  refine q_lenS rfl f1 rfl ?_
  refine q_move rfl rfl ?_
  refine q_lenS rfl f2 rfl ?_
  refine q_min rfl rfl rfl ?_
  refine q_move rfl rfl ?_
  refine eseq_nil ?_
  refine hK463 _ _ ?_
  refine e_block ?_
  obtain ⟨tl464, ht464, h⟩ := Option.of_bind h
  have hX464_0 : ∀ (x525 : (List Int)) (v524 : Value) (R520 : Nat → Prop) (w521 : World) (E_ : Env), orphan_Lower_K1 fuel a0 x525 = some r → Sep F R R520 w w521 [HP.blk bl453 [v1] 34, HP.blk bl459 [v524] 35, HP.own Ty.int (fun _ => False) 3 v524 x525] → IsSlice (Ty.slice evtTy) w521 R520 v1 a0 → Sub [(2, .pointer (some ⟨bl453, 0, none⟩)), (5, .pointer (some ⟨bl459, 0, none⟩))] E_ → K462 E_ w521 := by
    intro x525 v524 R520 w521 E_ h hS f522 hsub
    refine hK462 _ _ (e_sub hsub ?_); clear hsub
    unfold orphan_Lower_K1 at h
    refine e_seq fun K526 hK526 => ?_
    refine e_label ?_
    refine hK526 _ _ ?_
    refine e_block ?_
    obtain ⟨tl527, ht527, h⟩ := Option.of_bind h
    refine e_loop (fun m_ E_ w653 => ∃ (x657 : (List Int)), ∃ (v656 : Value), ∃ (R652 : Nat → Prop), iter (fun s => orphan_Lower_B1 fuel a0 s) m_ x657 = some tl527 ∧ Sep F R R652 w w653 [HP.blk bl453 [v1] 34, HP.blk bl459 [v656] 35, HP.own Ty.int (fun _ => False) 3 v656 x657] ∧ IsSlice (Ty.slice evtTy) w653 R652 v1 a0 ∧ E_ = [(2, .pointer (some ⟨bl453, 0, none⟩)), (5, .pointer (some ⟨bl459, 0, none⟩))]) _ ⟨_, ⟨x525, v524, _, ht527, hS, f522, rfl⟩, Sub.cons rfl (Sub.cons rfl (Sub.nil _))⟩ ?_
    clear ht527 hS
    rintro m527 _ w653 ⟨x657, v656, R652, ht527, hS, f654, rfl⟩
    obtain ⟨m527, rfl, o527, ho527, ht527⟩ := iter_some ht527
    replace ho527 : orphan_Lower_B1 fuel a0 x657 = some o527 := ho527
    unfold orphan_Lower_B1 at ho527
    refine e_block ?_
    refine e_seq fun K778 hK778 => ?_
    refine e_seq fun K779 hK779 => ?_
    refine e_region_text rfl ?_
    refine q_load rfl (Blk.cell (hS.blk 0 rfl) rfl) rfl ?_
    refine q_lenS rfl f654 rfl ?_
    refine q_move rfl rfl ?_
    refine eseq_nil ?_
    refine hK779 _ _ ?_
    refine e_block ?_
    obtain ⟨tl780, ht780, ho527⟩ := Option.of_bind ho527
    have hX780_4 : ∀ (R858 : Nat → Prop) (w859 : World) (E_ : Env), orphan_Lower_K3 fuel x657 = some o527 → Sep F R R858 w w859 [HP.blk bl459 [v656] 35, HP.own Ty.int (fun _ => False) 3 v656 x657] → Sub [(5, .pointer (some ⟨bl459, 0, none⟩))] E_ → K778 E_ w859 := by
      intro R858 w859 E_ ho527 hS  hsub
      refine hK778 _ _ (e_sub hsub ?_); clear hsub
      unfold orphan_Lower_K3 at ho527
      refine e_seq fun K861 hK861 => ?_
      refine e_region_text rfl ?_
      refine q_load rfl (Blk.cell (hS.blk 0 rfl) rfl) rfl ?_
      refine q_assign rfl rfl ?_
      refine eseq_nil ?_
      refine hK861 _ _ ?_
      refine e_ret ?_
      obtain rfl := Option.some.inj ho527
      obtain rfl := Option.some.inj ht527
      obtain rfl := Option.some.inj h
      exact ⟨_, res1 rfl rfl, v656, _, rfl, (hS.pickB [1] 2 rfl rfl)⟩
    refine e_loop (fun m_ E_ w817 => ∃ (x821 : Int), ∃ (R816 : Nat → Prop), iter (fun s => orphan_Lower_B2 fuel a0 x657 s) m_ x821 = some tl780 ∧ Sep F R R816 w w817 [HP.blk bl453 [v1] 34, HP.blk bl459 [v656] 35, HP.own Ty.int (fun _ => False) 3 v656 x657] ∧ IsSlice (Ty.slice evtTy) w817 R816 v1 a0 ∧ IsSlice (Ty.slice evtTy) w817 R816 v1 a0 ∧ E_ = [(2, .pointer (some ⟨bl453, 0, none⟩)), (5, .pointer (some ⟨bl459, 0, none⟩)), (36, v1), (37, .int .i64 (a0.length : Int)), (38, .int .i64 x821)]) _ ⟨_, ⟨0, _, ht780, hS, f654, f654, rfl⟩, Sub.cons rfl (Sub.cons rfl (Sub.cons rfl (Sub.cons rfl (Sub.cons rfl (Sub.nil _)))))⟩ ?_
    clear ht780 hS
    rintro m780 _ w817 ⟨x821, R816, ht780, hS, f818, f820, rfl⟩
    obtain ⟨m780, rfl, o780, ho780, ht780⟩ := iter_some ht780
    replace ho780 : orphan_Lower_B2 fuel a0 x657 x821 = some o780 := ho780
    unfold orphan_Lower_B2 at ho780
    refine e_seq fun K862 hK862 => ?_
    refine e_region_text rfl ?_
    refine q_lss rfl rfl rfl ?_
    refine eseq_nil ?_
    refine hK862 _ _ ?_
    refine e_seq fun K863 hK863 => ?_
    refine e_cond rfl (fun hc864 => ?_) (fun hc864 => ?_)
    · replace ho780 := (if_pos hc864).symm.trans ho780
      refine e_skip ?_
      refine hK863 _ _ ?_
      refine e_seq fun K865 hK865 => ?_
      refine e_block ?_
      refine e_seq fun K866 hK866 => ?_
      refine e_region_text rfl ?_
      refine q_move rfl rfl ?_
      obtain ⟨x867, hx867, ho780⟩ := Option.of_bind ho780
      refine q_atS (by infer_instance) rfl f820 rfl hx867 rfl fun b868 o868 hm868 f868 => ?_
      refine q_loadE rfl f868 rfl (fun v869 f869 => ?_)
      refine q_allocB rfl fun w870 bl870 hg870 hb870 hB870 => ?_
      replace f818 := f818.ext hB870
      replace f820 := f820.ext hB870
      replace f869 := f869.ext hB870
      replace hS := hS.newBlk hB870 hg870 hb870
      refine q_store rfl rfl (hS.blk 0 rfl) (Nat.le_of_ble_eq_true rfl) rfl rfl rfl fun w872 hb872 hO872 => ?_
      have hk872 := hS.keptBlk 0 rfl hO872
      replace f818 := f818.kept hk872
      replace f820 := f820.kept hk872
      replace f869 := f869.kept hk872
      replace hS := hS.setBlk 0 rfl hb872 hO872; simp only [List.set] at hS
      refine q_assign rfl rfl ?_
      refine eseq_nil ?_
      refine hK866 _ _ ?_
      refine e_seq fun K873 hK873 => ?_
      refine e_region_text rfl ?_
      refine q_move rfl rfl ?_
      refine q_load rfl (Blk.cell (hS.blk 2 rfl) rfl) rfl ?_
      refine q_load rfl (Blk.cell (hS.blk 0 rfl) rfl) rfl ?_
      obtain ⟨x874, hx874, ho780⟩ := Option.of_bind ho780
      refine q_indexO (by infer_instance) rfl (hS.own 3 rfl) rfl hx874 rfl ?_
      have f875 := (hS.ownR 3 rfl).elt hx874
      refine q_load rfl (Elt.intCell f875) rfl ?_
      obtain ⟨x877, hx877, ho780⟩ := Option.of_bind ho780
      refine q_takeS (by infer_instance) rfl f869 rfl hx877 rfl fun v876 f876 => ?_
      refine q_makeFunc rfl rfl ?_
      obtain ⟨r879, hr879, ho780⟩ := Option.of_bind ho780
      refine q_call rfl (slices_IndexFunc_w (Sep.all w872) (f876).old (Lent.of (hS.blk 1 rfl)) (f818).old (Lent.of (hS.blk 2 rfl)) ((hS.isl 3 rfl)).old (Lent.of (hS.blk 0 rfl)) hr879) rfl ?_
      rintro _ w878 ⟨R878, rfl, hC878⟩
      have hB878 : Below (World.heap w872).size w872 w878 := hC878.stepBF
      refine ⟨fun _ => .of_below hB878, ?_⟩
      replace f818 := f818.ext hB878
      replace f820 := f820.ext hB878
      replace f876 := f876.ext hB878
      replace hS := hS.below hB878
      refine q_assign rfl rfl ?_
      refine eseq_nil ?_
      refine hK873 _ _ ?_
      refine e_seq fun K880 hK880 => ?_
      refine e_region_text rfl ?_
      refine q_move rfl rfl ?_
      refine q_geq rfl rfl rfl ?_
      refine eseq_nil ?_
      refine hK880 _ _ ?_
      refine e_cond rfl (fun hc881 => ?_) (fun hc881 => ?_)
      · replace ho780 := (if_pos hc881).symm.trans ho780
        refine e_seq fun K882 hK882 => ?_
        refine e_region_text rfl ?_
        refine q_load rfl (Blk.cell (hS.blk 2 rfl) rfl) rfl ?_
        refine q_load rfl (Blk.cell (hS.blk 0 rfl) rfl) rfl ?_
        refine q_move rfl rfl ?_
        obtain ⟨x883, hx883, ho780⟩ := Option.of_bind ho780
        refine q_indexO (by infer_instance) rfl (hS.own 3 rfl) rfl hx883 rfl ?_
        obtain ⟨x885, hx885, ho780⟩ := Option.of_bind ho780
        refine q_storeO (T := Ty.int) (j := 0) rfl rfl (hS.own 3 rfl) hx883 hx885 rfl rfl rfl (Enc.setL rfl) fun w884 ho884 hO884 => ?_
        have hk884 := hS.keptO 3 rfl hx883 hO884
        replace f818 := f818.kept hk884
        replace hS := hS.putO 3 rfl hx883 ho884 hO884; simp only [List.set] at hS
        refine eseq_nil ?_
        refine hK882 _ _ ?_
        refine e_exit ?_
        obtain rfl := Option.some.inj ho780
        obtain rfl := Option.some.inj ht780
        replace ho527 : orphan_Lower_K2 fuel x885 = some o527 := ho527
        unfold orphan_Lower_K2 at ho527
        obtain rfl := Option.some.inj ho527
        exact ⟨m527, _, Nat.lt_succ_self _, ⟨x885, v656, _, ht527, (hS.pickB [1, 2, 3] 4 rfl rfl), f818, rfl⟩, Sub.cons rfl (Sub.cons rfl (Sub.nil _))⟩
      · replace ho780 := (if_neg (not_true hc881)).symm.trans ho780
        refine e_skip ?_
        refine hK865 _ _ ?_
        refine e_region_text rfl ?_
        refine q_addW rfl rfl rfl ?_
        refine q_move rfl rfl ?_
        refine eseq_nil ?_
        obtain rfl := Option.some.inj ho780
        exact ⟨m780, _, Nat.lt_succ_self _, ⟨(w64 (x821 + 1)), _, ht780, (hS.pickB [1, 2, 3] 4 rfl rfl), f818, f820, rfl⟩, Sub.cons rfl (Sub.cons rfl (Sub.cons rfl (Sub.cons rfl (Sub.cons rfl (Sub.nil _)))))⟩
    · replace ho780 := (if_neg (not_true hc864)).symm.trans ho780
      refine e_exit ?_
      obtain rfl := Option.some.inj ho780
      obtain rfl := Option.some.inj ht780
      exact hX780_4  _ _ _ ho527 (hS.pickB [1, 2] 3 rfl rfl)  (Sub.cons rfl (Sub.nil _))
  refine e_loop (fun m_ E_ w492 => ∃ (x497 : (List Int)), ∃ (x498 : Int), ∃ (v496 : Value), ∃ (R491 : Nat → Prop), iter (fun s => orphan_Lower_B3 fuel a0 a1 s.1 s.2) m_ (x497, x498) = some tl464 ∧ Sep F R R491 w w492 [HP.blk bl453 [v1] 34, HP.blk bl459 [v496] 35, HP.own Ty.int (fun _ => False) 3 v496 x497] ∧ IsSlice Ty.int w492 R491 v2 a1 ∧ IsSlice (Ty.slice evtTy) w492 R491 v1 a0 ∧ E_ = [(1, v2), (2, .pointer (some ⟨bl453, 0, none⟩)), (5, .pointer (some ⟨bl459, 0, none⟩)), (17, .int .i64 (min (a0.length : Int) (a1.length : Int))), (18, .int .i64 x498)]) _ ⟨_, ⟨x456, 0, v457, _, ht464, (hS.pickB [2, 0, 1] 3 rfl rfl), f2, f1, rfl⟩, Sub.cons rfl (Sub.cons rfl (Sub.cons rfl (Sub.cons rfl (Sub.cons rfl (Sub.nil _)))))⟩ ?_
  clear ht464 hS
  rintro m464 _ w492 ⟨x497, x498, v496, R491, ht464, hS, f493, f494, rfl⟩
  obtain ⟨m464, rfl, o464, ho464, ht464⟩ := iter_some ht464
  replace ho464 : orphan_Lower_B3 fuel a0 a1 x497 x498 = some o464 := ho464
  unfold orphan_Lower_B3 at ho464
  refine e_seq fun K886 hK886 => ?_
  refine e_region_text rfl ?_
  refine q_lss rfl rfl rfl ?_
  refine eseq_nil ?_
  refine hK886 _ _ ?_
  refine e_seq fun K887 hK887 => ?_
  refine e_cond rfl (fun hc888 => ?_) (fun hc888 => ?_)
  · replace ho464 := (if_pos hc888).symm.trans ho464
    refine e_skip ?_
    refine hK887 _ _ ?_
    refine e_seq fun K889 hK889 => ?_
    refine e_block ?_
    refine e_seq fun K890 hK890 => ?_
    refine e_region_text rfl ?_
    refine q_move rfl rfl ?_
    refine q_assign rfl rfl ?_
    refine eseq_nil ?_
    refine hK890 _ _ ?_
    refine e_region_draw mixed (fun _ => False) [0, 0, 0, 0, 12, 28, 60, 0, 0, 384, 896, 1920, 4092, 8191, 16383] [] [0, 1, 2, 3, 4, 5, 6, 7, 8, 9, 10, 11, 12, 13, 14] (by kernel_rfl) ?_
    refine q_load rfl (Blk.cell (hS.blk 1 rfl) rfl) rfl ?_
    refine q_move rfl rfl ?_
    refine q_move rfl rfl ?_
    refine q_move rfl rfl ?_
    obtain ⟨x891, hx891, ho464⟩ := Option.of_bind ho464
    refine q_atS (by infer_instance) rfl f493 rfl hx891 rfl fun b892 o892 hm892 f892 => ?_
    refine q_load rfl (Elt.intCell f892) rfl ?_
    refine q_max rfl rfl rfl ?_
    refine q_load rfl (Blk.cell (hS.blk 0 rfl) rfl) rfl ?_
    refine q_move rfl rfl ?_
    obtain ⟨x893, hx893, ho464⟩ := Option.of_bind ho464
    refine q_atS (by infer_instance) rfl f494 rfl hx893 rfl fun b894 o894 hm894 f894 => ?_
    refine q_loadE rfl f894 rfl (fun v895 f895 => ?_)
    refine q_lenS rfl f895 rfl ?_
    refine q_min rfl rfl rfl ?_
    obtain ⟨x896, hx896, ho464⟩ := Option.of_bind ho464
    refine q_indexO (by infer_instance) rfl (hS.own 2 rfl) rfl hx896 rfl ?_
    obtain ⟨x898, hx898, ho464⟩ := Option.of_bind ho464
    refine q_storeO (T := Ty.int) (j := 0) rfl rfl (hS.own 2 rfl) hx896 hx898 rfl rfl rfl (Enc.setL rfl) fun w897 ho897 hO897 => ?_
    have hk897 := hS.keptO 2 rfl hx896 hO897
    replace f493 := f493.kept hk897
    replace f494 := f494.kept hk897
    replace hS := hS.putO 2 rfl hx896 ho897 hO897; simp only [List.set] at hS
    refine eseq_nil ?_
    refine hK889 _ _ ?_
    refine e_region_text rfl ?_
    refine q_addW rfl rfl rfl ?_
    refine q_move rfl rfl ?_
    refine eseq_nil ?_
    obtain rfl := Option.some.inj ho464
    exact ⟨m464, _, Nat.lt_succ_self _, ⟨x898, (w64 (x498 + 1)), v496, _, ht464, hS, f493, f494, rfl⟩, Sub.cons rfl (Sub.cons rfl (Sub.cons rfl (Sub.cons rfl (Sub.cons rfl (Sub.nil _)))))⟩
  · replace ho464 := (if_neg (not_true hc888)).symm.trans ho464
    refine e_exit ?_
    obtain rfl := Option.some.inj ho464
    obtain rfl := Option.some.inj ht464
    exact hX464_0 x497 v496 _ _ _ h hS f494 (Sub.cons rfl (Sub.cons rfl (Sub.nil _)))
theorem orphan_all_w {F R : Nat → Prop} {w : World} {fuel : Nat} {a0 : (List (List Evt))} {v1 : Value} {r : ((List Int))} (hS : Sep F R R w w []) (f1 : IsSlice (Ty.slice evtTy) w R v1 a0) (h : orphan_all fuel a0 = some r) :
    Gives Try.prog 57 [v1] w fun u w1 => ∃ (v75 : Value), ∃ (R1 : Nat → Prop), u = v75 ∧ Sep F R R1 w w1 [HP.own Ty.int (fun _ => False) 3 v75 r] := by
  refine fn_of Try.func57 rfl Try.ntmps57 (Nat.le_of_ble_eq_true rfl) ?_
  unfold orphan_all at h
  refine e_seq fun K76 hK76 => ?_
  refine e_region_text rfl ?_
  refine q_assign rfl rfl ?_
  refine eseq_nil ?_
  refine hK76 _ _ ?_
  refine e_seq fun K77 hK77 => ?_
  refine e_region_text rfl ?_
  refine q_move rfl rfl ?_
  refine q_lenS rfl f1 rfl ?_
  obtain ⟨x78, hx78, h⟩ := Option.of_bind h
  refine q_makeO (T := Ty.int) (S := (fun _ => False)) rfl rfl rfl hx78 (fun _ h => h.elim) rfl fun w79 v79 ho79 hv79 hB79 => ?_
  replace f1 := f1.ext hB79
  replace hS := hS.newOwnS hB79 ho79 hv79 (fun _ h => h.elim)
  refine q_assign rfl rfl ?_
  refine eseq_nil ?_
  refine hK77 _ _ ?_
  refine e_seq fun K81 hK81 => ?_
  refine e_seq fun K82 hK82 => ?_
  refine e_region_text rfl ?_
  refine q_move rfl rfl ?_
  refine q_lenS rfl f1 rfl ?_
  refine q_move rfl rfl ?_
  refine eseq_nil ?_
  refine hK82 _ _ ?_
  refine e_block ?_
  obtain ⟨tl83, ht83, h⟩ := Option.of_bind h
  have hX83_0 : ∀ (x135 : (List Int)) (v134 : Value) (R131 : Nat → Prop) (w132 : World) (E_ : Env), orphan_all_K1 fuel x135 = some r → Sep F R R131 w w132 [HP.own Ty.int (fun _ => False) 3 v134 x135] → Sub [(3, v134)] E_ → K81 E_ w132 := by
    intro x135 v134 R131 w132 E_ h hS  hsub
    refine hK81 _ _ (e_sub hsub ?_); clear hsub
    unfold orphan_all_K1 at h
    refine e_seq fun K136 hK136 => ?_
    refine e_region_text rfl ?_
    refine q_move rfl rfl ?_
    refine q_assign rfl rfl ?_
    refine eseq_nil ?_
    refine hK136 _ _ ?_
    refine e_ret ?_
    obtain rfl := Option.some.inj h
    exact ⟨_, res1 rfl rfl, v134, _, rfl, hS⟩
  refine e_loop (fun m_ E_ w107 => ∃ (x110 : (List Int)), ∃ (x112 : Int), ∃ (v109 : Value), ∃ (R106 : Nat → Prop), iter (fun s => orphan_all_B1 fuel a0 s.1 s.2) m_ (x110, x112) = some tl83 ∧ Sep F R R106 w w107 [HP.own Ty.int (fun _ => False) 3 v109 x110] ∧ IsSlice (Ty.slice evtTy) w107 R106 v1 a0 ∧ E_ = [(3, v109), (9, v1), (10, .int .i64 (a0.length : Int)), (11, .int .i64 x112)]) _ ⟨_, ⟨x78, 0, v79, _, ht83, hS, f1, rfl⟩, Sub.cons rfl (Sub.cons rfl (Sub.cons rfl (Sub.cons rfl (Sub.nil _))))⟩ ?_
  clear ht83 hS
  rintro m83 _ w107 ⟨x110, x112, v109, R106, ht83, hS, f111, rfl⟩
  obtain ⟨m83, rfl, o83, ho83, ht83⟩ := iter_some ht83
  replace ho83 : orphan_all_B1 fuel a0 x110 x112 = some o83 := ho83
  unfold orphan_all_B1 at ho83
  refine e_seq fun K137 hK137 => ?_
  refine e_region_text rfl ?_
  refine q_lss rfl rfl rfl ?_
  refine eseq_nil ?_
  refine hK137 _ _ ?_
  refine e_seq fun K138 hK138 => ?_
  refine e_cond rfl (fun hc139 => ?_) (fun hc139 => ?_)
  · replace ho83 := (if_pos hc139).symm.trans ho83
    refine e_skip ?_
    refine hK138 _ _ ?_
    refine e_seq fun K140 hK140 => ?_
    refine e_block ?_
    refine e_seq fun K141 hK141 => ?_
    refine e_region_text rfl ?_
    refine q_move rfl rfl ?_
    obtain ⟨x142, hx142, ho83⟩ := Option.of_bind ho83
    refine q_atS (by infer_instance) rfl f111 rfl hx142 rfl fun b143 o143 hm143 f143 => ?_
    refine q_loadE rfl f143 rfl (fun v144 f144 => ?_)
    refine q_assign rfl rfl ?_
    refine q_assign rfl rfl ?_
    refine eseq_nil ?_
    refine hK141 _ _ ?_
    refine e_region_text rfl ?_
    refine q_move rfl rfl ?_
    refine q_move rfl rfl ?_
    refine q_move rfl rfl ?_
    refine q_lenS rfl f144 rfl ?_
    obtain ⟨x145, hx145, ho83⟩ := Option.of_bind ho83
    refine q_indexO (by infer_instance) rfl (hS.own 0 rfl) rfl hx145 rfl ?_
    obtain ⟨x147, hx147, ho83⟩ := Option.of_bind ho83
    refine q_storeO (T := Ty.int) (j := 0) rfl rfl (hS.own 0 rfl) hx145 hx147 rfl rfl rfl (Enc.setL rfl) fun w146 ho146 hO146 => ?_
    have hk146 := hS.keptO 0 rfl hx145 hO146
    replace f111 := f111.kept hk146
    replace hS := hS.putO 0 rfl hx145 ho146 hO146; simp only [List.set] at hS
    refine eseq_nil ?_
    refine hK140 _ _ ?_
    refine e_region_text rfl ?_
    refine q_addW rfl rfl rfl ?_
    refine q_move rfl rfl ?_
    refine eseq_nil ?_
    obtain rfl := Option.some.inj ho83
    exact ⟨m83, _, Nat.lt_succ_self _, ⟨x147, (w64 (x112 + 1)), v109, _, ht83, hS, f111, rfl⟩, Sub.cons rfl (Sub.cons rfl (Sub.cons rfl (Sub.cons rfl (Sub.nil _))))⟩
  · replace ho83 := (if_neg (not_true hc139)).symm.trans ho83
    refine e_exit ?_
    obtain rfl := Option.some.inj ho83
    obtain rfl := Option.some.inj ht83
    exact hX83_0 x110 v109 _ _ _ h hS  (Sub.cons rfl (Sub.nil _))
theorem incarnation_Undone_w {F R : Nat → Prop} {w : World} {fuel : Nat} {a0 : (List EndI)} {a1 : Int} {a2 : Lab} {v1 : Value} {r : (Bool)} (hS : Sep F R R w w []) (f1 : IsSlice endITy w R v1 a0) (h : incarnation_Undone fuel a0 a1 a2 = some r) :
    Gives Try.prog 61 [v1, .int .i64 a1, .agg #[.int .i64 a2.inc, .int .i64 a2.index]] w fun u w1 => ∃ (R1 : Nat → Prop), u = .bool r ∧ Sep F R R1 w w1 [] := by
  refine fn_of Try.func61 rfl Try.ntmps61 (Nat.le_of_ble_eq_true rfl) ?_
  unfold incarnation_Undone at h
  refine e_seq fun K81 hK81 => ?_
  refine e_region_text rfl ?_
  refine q_boxB rfl rfl rfl fun w82 bl82 hg82 hb82 hB82 => ?_
  replace f1 := f1.ext hB82
  replace hS := hS.newBlk hB82 hg82 hb82
  refine q_assign rfl rfl ?_
  refine eseq_nil ?_
  refine hK81 _ _ ?_
  refine e_seq fun K84 hK84 => ?_
  refine e_seq fun K85 hK85 => ?_
  refine e_region_text rfl ?_
  refine q_move rfl rfl ?_
  refine q_lenS rfl f1 rfl ?_
  refine q_move rfl rfl ?_
  refine eseq_nil ?_
  refine hK85 _ _ ?_
  refine e_block ?_
  obtain ⟨tl86, ht86, h⟩ := Option.of_bind h
  have hX86_0 : ∀ (R138 : Nat → Prop) (w139 : World) (E_ : Env), incarnation_Undone_K1 fuel = some r → Sep F R R138 w w139 [] → Sub [] E_ → K84 E_ w139 := by
    intro R138 w139 E_ h hS  hsub
    refine hK84 _ _ (e_sub hsub ?_); clear hsub
    unfold incarnation_Undone_K1 at h
    refine e_seq fun K140 hK140 => ?_
    refine e_region_text rfl ?_
    refine q_assign rfl rfl ?_
    refine eseq_nil ?_
    refine hK140 _ _ ?_
    refine e_ret ?_
    obtain rfl := Option.some.inj h
    exact ⟨_, res1 rfl rfl, _, rfl, hS⟩
  refine e_loop (fun m_ E_ w113 => ∃ (x115 : Int), ∃ (R112 : Nat → Prop), iter (fun s => incarnation_Undone_B1 fuel a0 a1 a2 s) m_ x115 = some tl86 ∧ Sep F R R112 w w113 [HP.blk bl82 [.int .i64 a2.inc, .int .i64 a2.index] 29] ∧ IsSlice endITy w113 R112 v1 a0 ∧ E_ = [(1, .int .i64 a1), (5, .pointer (some ⟨bl82, 0, none⟩)), (9, v1), (10, .int .i64 (a0.length : Int)), (11, .int .i64 x115)]) _ ⟨_, ⟨0, _, ht86, hS, f1, rfl⟩, Sub.cons rfl (Sub.cons rfl (Sub.cons rfl (Sub.cons rfl (Sub.cons rfl (Sub.nil _)))))⟩ ?_
  clear ht86 hS
  rintro m86 _ w113 ⟨x115, R112, ht86, hS, f114, rfl⟩
  obtain ⟨m86, rfl, o86, ho86, ht86⟩ := iter_some ht86
  replace ho86 : incarnation_Undone_B1 fuel a0 a1 a2 x115 = some o86 := ho86
  unfold incarnation_Undone_B1 at ho86
  refine e_seq fun K141 hK141 => ?_
  refine e_region_text rfl ?_
  refine q_lss rfl rfl rfl ?_
  refine eseq_nil ?_
  refine hK141 _ _ ?_
  refine e_seq fun K142 hK142 => ?_
  refine e_cond rfl (fun hc143 => ?_) (fun hc143 => ?_)
  · replace ho86 := (if_pos hc143).symm.trans ho86
    refine e_skip ?_
    refine hK142 _ _ ?_
    refine e_seq fun K144 hK144 => ?_
    refine e_block ?_
    refine e_seq fun K145 hK145 => ?_
    refine e_region_text rfl ?_
    obtain ⟨x146, hx146, ho86⟩ := Option.of_bind ho86
    refine q_atS (by infer_instance) rfl f114 rfl hx146 rfl fun b147 o147 hm147 f147 => ?_
    have hc148 := EndI_open f147
    refine q_loadAgg rfl hc148 rfl rfl ?_
    refine q_allocB rfl fun w149 bl149 hg149 hb149 hB149 => ?_
    replace f114 := f114.ext hB149
    replace hS := hS.newBlk hB149 hg149 hb149
    refine q_storeAgg rfl rfl (hS.blk 0 rfl) rfl (Nat.le_of_ble_eq_true rfl) (all_cons rfl (all_cons rfl (all_cons rfl (all_nil)))) rfl rfl fun w151 hb151 hO151 => ?_
    simp only [setN, List.set, List.take, List.drop] at hb151
    have hk151 := hS.keptBlk 0 rfl hO151
    replace f114 := f114.kept hk151
    replace hS := hS.setBlk 0 rfl hb151 hO151; simp only [List.set] at hS
    refine eseq_nil ?_
    refine hK145 _ _ ?_
    refine e_seq fun K152 hK152 => ?_
    refine e_region_text rfl ?_
    refine q_field rfl rfl ?_
    refine q_load rfl (Blk.cell (hS.blk 0 rfl) rfl) rfl ?_
    refine q_move rfl rfl ?_
    refine q_eql rfl rfl rfl ?_
    refine q_move rfl rfl ?_
    obtain ⟨x154, hx153, ho86⟩ := Option.of_bind ho86
    refine g_andM 5 hx153 rfl trivial rfl rfl ?_ ?_ ?_
    · intro hg153 hx153
      clear ho86
      have hT153 := Below.refl (World.heap w151).size w151
      refine g_run rfl ?_; refine q_field rfl rfl ?_
      refine g_run rfl ?_; refine q_load rfl (Blk.cell (hS.blk 0 rfl) rfl) rfl ?_
      refine g_run rfl ?_; refine q_field rfl rfl ?_
      refine g_run rfl ?_; refine q_load rfl (Blk.cell (hS.blk 1 rfl) rfl) rfl ?_
      refine g_run rfl ?_; refine q_geq rfl rfl rfl ?_
      cases hx153
      exact eseq_nil ⟨hT153, Sub.set rfl (Sub.set rfl (Sub.set rfl (Sub.set rfl (Sub.set rfl (Sub.bool true rfl hg153))))), rfl⟩
    · intro hg153
      refine g_skip rfl rfl rfl ?_
      refine g_skip rfl rfl rfl ?_
      refine g_skip rfl rfl rfl ?_
      refine g_skip rfl rfl rfl ?_
      refine g_skip rfl rfl rfl ?_
      exact eseq_nil ⟨rfl, Sub.set rfl (Sub.set rfl (Sub.set rfl (Sub.set rfl (Sub.set rfl (Sub.bool false rfl hg153)))))⟩
    intro wm153 hBm153; clear hx153
    replace hS := hS.below hBm153
    replace f114 := f114.ext hBm153
    refine q_move rfl rfl ?_
    obtain ⟨x156, hx155, ho86⟩ := Option.of_bind ho86
    refine g_andM 5 hx155 rfl trivial rfl rfl ?_ ?_ ?_
    · intro hg155 hx155
      clear ho86
      have hT155 := Below.refl (World.heap wm153).size wm153
      refine g_run rfl ?_; refine q_field rfl rfl ?_
      refine g_run rfl ?_; refine q_load rfl (Blk.cell (hS.blk 0 rfl) rfl) rfl ?_
      refine g_run rfl ?_; refine q_field rfl rfl ?_
      refine g_run rfl ?_; refine q_load rfl (Blk.cell (hS.blk 1 rfl) rfl) rfl ?_
      refine g_run rfl ?_; refine q_lss rfl rfl rfl ?_
      cases hx155
      exact eseq_nil ⟨hT155, Sub.set rfl (Sub.set rfl (Sub.set rfl (Sub.set rfl (Sub.set rfl (Sub.bool true rfl hg155))))), rfl⟩
    · intro hg155
      refine g_skip rfl rfl rfl ?_
      refine g_skip rfl rfl rfl ?_
      refine g_skip rfl rfl rfl ?_
      refine g_skip rfl rfl rfl ?_
      refine g_skip rfl rfl rfl ?_
      exact eseq_nil ⟨rfl, Sub.set rfl (Sub.set rfl (Sub.set rfl (Sub.set rfl (Sub.set rfl (Sub.bool false rfl hg155)))))⟩
    intro wm155 hBm155; clear hx155
    replace hS := hS.below hBm155
    replace f114 := f114.ext hBm155
    refine eseq_nil ?_
    refine hK152 _ _ ?_
    refine e_cond rfl (fun hc157 => ?_) (fun hc157 => ?_)
    · replace ho86 := (if_pos hc157).symm.trans ho86
      refine e_seq fun K158 hK158 => ?_
      refine e_region_text rfl ?_
      refine q_assign rfl rfl ?_
      refine eseq_nil ?_
      refine hK158 _ _ ?_
      refine e_ret ?_
      obtain rfl := Option.some.inj ho86
      obtain rfl := Option.some.inj ht86
      obtain rfl := Option.some.inj h
      exact ⟨_, res1 rfl rfl, _, rfl, (hS.pickB [] 2 rfl rfl)⟩
    · replace ho86 := (if_neg (not_true hc157)).symm.trans ho86
      refine e_skip ?_
      refine hK144 _ _ ?_
      refine e_region_text rfl ?_
      refine q_addW rfl rfl rfl ?_
      refine q_move rfl rfl ?_
      refine eseq_nil ?_
      obtain rfl := Option.some.inj ho86
      exact ⟨m86, _, Nat.lt_succ_self _, ⟨(w64 (x115 + 1)), _, ht86, (hS.pickB [1] 2 rfl rfl), f114, rfl⟩, Sub.cons rfl (Sub.cons rfl (Sub.cons rfl (Sub.cons rfl (Sub.cons rfl (Sub.nil _)))))⟩
  · replace ho86 := (if_neg (not_true hc143)).symm.trans ho86
    refine e_exit ?_
    obtain rfl := Option.some.inj ho86
    obtain rfl := Option.some.inj ht86
    exact hX86_0  _ _ _ h (hS.pickB [] 1 rfl rfl)  (Sub.nil _)
theorem orphan_Orphan_w {F R : Nat → Prop} {w : World} {fuel : Nat} {a0 : (List EndI)} {a1 : (List Lab)} {v1 : Value} {v2 : Value} {r : (Bool)} (hS : Sep F R R w w []) (f1 : IsSlice endITy w R v1 a0) (f2 : IsSlice labTy w R v2 a1) (h : orphan_Orphan fuel a0 a1 = some r) :
    Gives Try.prog 36 [v1, v2] w fun u w1 => ∃ (R1 : Nat → Prop), u = .bool r ∧ Sep F R R1 w w1 [] := by
  refine fn_of Try.func36 rfl Try.ntmps36 (Nat.le_of_ble_eq_true rfl) ?_
  unfold orphan_Orphan at h
  refine e_seq fun K78 hK78 => ?_
  refine e_region_text rfl ?_
  refine q_assign rfl rfl ?_
  refine eseq_nil ?_
  refine hK78 _ _ ?_
  refine e_seq fun K79 hK79 => ?_
  refine e_seq fun K80 hK80 => ?_
  refine e_region_text rfl ?_
  refine q_move rfl rfl ?_
  refine q_lenS rfl f2 rfl ?_
  refine q_move rfl rfl ?_
  refine eseq_nil ?_
  refine hK80 _ _ ?_
  refine e_block ?_
  obtain ⟨tl81, ht81, h⟩ := Option.of_bind h
  have hX81_0 : ∀ (R133 : Nat → Prop) (w134 : World) (E_ : Env), orphan_Orphan_K1 fuel = some r → Sep F R R133 w w134 [] → Sub [] E_ → K79 E_ w134 := by
    intro R133 w134 E_ h hS  hsub
    refine hK79 _ _ (e_sub hsub ?_); clear hsub
    unfold orphan_Orphan_K1 at h
    refine e_seq fun K135 hK135 => ?_
    refine e_region_text rfl ?_
    refine q_assign rfl rfl ?_
    refine eseq_nil ?_
    refine hK135 _ _ ?_
    refine e_ret ?_
    obtain rfl := Option.some.inj h
    exact ⟨_, res1 rfl rfl, _, rfl, hS⟩
  refine e_loop (fun m_ E_ w108 => ∃ (x111 : Int), ∃ (R107 : Nat → Prop), iter (fun s => orphan_Orphan_B1 fuel a1 a0 s) m_ x111 = some tl81 ∧ Sep F R R107 w w108 [] ∧ IsSlice endITy w108 R107 v1 a0 ∧ IsSlice labTy w108 R107 v2 a1 ∧ E_ = [(0, v1), (7, v2), (8, .int .i64 (a1.length : Int)), (9, .int .i64 x111)]) _ ⟨_, ⟨0, _, ht81, hS, f1, f2, rfl⟩, Sub.cons rfl (Sub.cons rfl (Sub.cons rfl (Sub.cons rfl (Sub.nil _))))⟩ ?_
  clear ht81 hS
  rintro m81 _ w108 ⟨x111, R107, ht81, hS, f109, f110, rfl⟩
  obtain ⟨m81, rfl, o81, ho81, ht81⟩ := iter_some ht81
  replace ho81 : orphan_Orphan_B1 fuel a1 a0 x111 = some o81 := ho81
  unfold orphan_Orphan_B1 at ho81
  refine e_seq fun K136 hK136 => ?_
  refine e_region_text rfl ?_
  refine q_lss rfl rfl rfl ?_
  refine eseq_nil ?_
  refine hK136 _ _ ?_
  refine e_seq fun K137 hK137 => ?_
  refine e_cond rfl (fun hc138 => ?_) (fun hc138 => ?_)
  · replace ho81 := (if_pos hc138).symm.trans ho81
    refine e_skip ?_
    refine hK137 _ _ ?_
    refine e_seq fun K139 hK139 => ?_
    refine e_block ?_
    refine e_seq fun K140 hK140 => ?_
    refine e_region_text rfl ?_
    refine q_move rfl rfl ?_
    obtain ⟨x141, hx141, ho81⟩ := Option.of_bind ho81
    refine q_atS (by infer_instance) rfl f110 rfl hx141 rfl fun b142 o142 hm142 f142 => ?_
    have hc143 := Lab_open f142
    refine q_loadAgg rfl hc143 rfl rfl ?_
    refine q_allocB rfl fun w144 bl144 hg144 hb144 hB144 => ?_
    replace f109 := f109.ext hB144
    replace f110 := f110.ext hB144
    replace hS := hS.newBlk hB144 hg144 hb144
    refine q_assign rfl rfl ?_
    refine q_storeAgg rfl rfl (hS.blk 0 rfl) rfl (Nat.le_of_ble_eq_true rfl) (all_cons rfl (all_cons rfl (all_nil))) rfl rfl fun w146 hb146 hO146 => ?_
    simp only [setN, List.set, List.take, List.drop] at hb146
    have hk146 := hS.keptBlk 0 rfl hO146
    replace f109 := f109.kept hk146
    replace f110 := f110.kept hk146
    replace hS := hS.setBlk 0 rfl hb146 hO146; simp only [List.set] at hS
    refine eseq_nil ?_
    refine hK140 _ _ ?_
    refine e_seq fun K147 hK147 => ?_
    refine e_region_text rfl ?_
    refine q_move rfl rfl ?_
    refine q_move rfl rfl ?_
    refine q_loadAgg rfl (Blk.cellsAt (hS.blk 0 rfl) 0 2 rfl) rfl rfl ?_
    obtain ⟨r149, hr149, ho81⟩ := Option.of_bind ho81
    refine q_call rfl (incarnation_Undone_w (a2 := (⟨x141.inc, x141.index⟩ : Lab)) (Sep.enter (As := []) hS) f109 hr149) rfl ?_
    rintro _ w148 ⟨R148, rfl, hC148⟩
    have hB148 : Below (World.heap w146).size w146 w148 := hC148.stepB0
    refine ⟨fun _ => .of_below hB148, ?_⟩
    replace f109 := (f109.ext hB148).mono fun k hk _ => hC148.ro0 k hk
    replace f110 := (f110.ext hB148).mono fun k hk _ => hC148.ro0 k hk
    replace hS := Sep.leave (As := []) hS hC148; simp only [List.cons_append, List.nil_append] at hS
    refine eseq_nil ?_
    refine hK147 _ _ ?_
    refine e_cond rfl (fun hc150 => ?_) (fun hc150 => ?_)
    · replace ho81 := (if_pos hc150).symm.trans ho81
      refine e_seq fun K151 hK151 => ?_
      refine e_region_text rfl ?_
      refine q_assign rfl rfl ?_
      refine eseq_nil ?_
      refine hK151 _ _ ?_
      refine e_ret ?_
      obtain rfl := Option.some.inj ho81
      obtain rfl := Option.some.inj ht81
      obtain rfl := Option.some.inj h
      exact ⟨_, res1 rfl rfl, _, rfl, (hS.pickB [] 1 rfl rfl)⟩
    · replace ho81 := (if_neg (not_true hc150)).symm.trans ho81
      refine e_skip ?_
      refine hK139 _ _ ?_
      refine e_region_text rfl ?_
      refine q_addW rfl rfl rfl ?_
      refine q_move rfl rfl ?_
      refine eseq_nil ?_
      obtain rfl := Option.some.inj ho81
      exact ⟨m81, _, Nat.lt_succ_self _, ⟨(w64 (x111 + 1)), _, ht81, (hS.pickB [] 1 rfl rfl), f109, f110, rfl⟩, Sub.cons rfl (Sub.cons rfl (Sub.cons rfl (Sub.cons rfl (Sub.nil _))))⟩
  · replace ho81 := (if_neg (not_true hc138)).symm.trans ho81
    refine e_exit ?_
    obtain rfl := Option.some.inj ho81
    obtain rfl := Option.some.inj ht81
    exact hX81_0  _ _ _ h hS  (Sub.nil _)
theorem Clone_Lab_w {F R : Nat → Prop} {w : World} {fuel : Nat} {a0 : List Lab} {v1 : Value} {r : List Lab} (hS : Sep F R R w w []) (f1 : IsSlice labTy w R v1 a0) (h : Clone_Lab fuel a0 = some r) :
    Gives Try.prog 81 [v1] w fun u w1 => ∃ (v2 : Value), ∃ (R1 : Nat → Prop), u = v2 ∧ Sep F R R1 w w1 [HP.own labTy (fun _ => False) 29 v2 r] := by
  unfold Clone_Lab at h
  have hx0 := f1
  obtain ⟨ad, c, rfl, hc0, hnil, -, -⟩ := hx0
  refine fn_of Try.func81 rfl Try.ntmps81 (Nat.le_of_ble_eq_true rfl) ?_
  refine e_seq fun K hK => ?_
  refine e_region_text rfl ?_
  refine q_assign rfl rfl ?_
  refine eseq_nil ?_
  refine hK _ _ ?_; clear hK
  refine e_seq fun K hK => ?_
  refine e_seq fun K hK => ?_
  refine e_region_text rfl ?_
  refine q_move rfl rfl ?_
  refine q_eqlNil rfl rfl rfl ?_
  refine eseq_nil ?_
  refine hK _ _ ?_; clear hK
  refine e_cond rfl (fun hb => ?_) (fun hb => ?_)
  · have e1 : ad = none := by simpa using hb
    have e2 := hnil e1
    have e3 : a0 = [] := List.eq_nil_of_length_eq_zero (by omega)
    subst e3
    obtain rfl := (catL_eq h).2
    refine e_seq fun K hK => ?_
    refine e_region_text rfl ?_
    refine q_assign rfl rfl ?_
    refine eseq_nil ?_
    refine hK _ _ ?_; clear hK
    refine e_ret ?_
    exact ⟨_, res1 rfl rfl, _, R, rfl, hS.nilOwn0 labTy 29⟩
  refine e_skip ?_
  refine hK _ _ ?_; clear hK
  refine e_seq fun K hK => ?_
  refine e_region_text rfl ?_
  refine q_slice0 rfl fun wz bz hgz hbz hBz => ?_
  replace f1 := f1.ext hBz
  replace hS := hS.newOwnS hBz (Own.empty labTy (S := (fun _ => False)) hbz (Nat.zero_le _)) (fun k hk => by cases hk; exact hgz) (fun _ h => h.elim)
  refine q_move rfl rfl ?_
  refine q_catE (T := labTy) rfl rfl rfl rfl (hS.own 0 rfl) rfl f1 h (Nat.zero_le _) rfl (fun h => by cases h) fun v7 w1 hw1 hgr1 hnw1 => ?_
  replace hS := hS.setOwn 0 rfl hw1 hgr1 hnw1; simp only [List.set] at hS
  refine q_assign rfl rfl ?_
  refine eseq_nil ?_
  refine hK _ _ ?_; clear hK
  refine e_ret ?_
  exact ⟨_, res1 rfl rfl, _, R, rfl, hS⟩
theorem reach_d {fuel : Nat} : ∀ (d_ : Nat) {F R : Nat → Prop} {w : World} {a1 : Int} {a2 : Int} {c0_0 : (List (List Evt))} {c0_1 : (List (List (List Lab)))} {c0_2 : (List Bool)} {B0 : Nat} {v2 : Value} {v3 : Value} {v4 : List Value} {v5 : Value} {r : (Bool × (List (List (List Lab))) × (List Bool))} (hS : Sep F R R w w [HP.blk B0 [v2, v3, v5] 94, HP.own Ty.raw (fun _ => False) 67 v3 v4, HP.famS (Ty.slice labTy) R 22 v4 c0_1, HP.own Ty.bool (fun _ => False) 4 v5 c0_2]) (f2 : IsSlice (Ty.slice evtTy) w R v2 c0_0) (h : reach_R fuel d_ a1 a2 c0_0 c0_1 c0_2 = some r),
    Gives Try.prog 58 [.pointer (some ⟨B0, 0, none⟩), .int .i64 a1, .int .i64 a2] w fun u w1 => ∃ (v716 : Value), ∃ (v717 : List Value), ∃ (v718 : Value), ∃ (R1 : Nat → Prop), u = .bool r.1 ∧ Sep F R R1 w w1 [HP.blk B0 [v2, v716, v718] 94, HP.own Ty.raw (fun _ => False) 67 v716 v717, HP.famS (Ty.slice labTy) R1 22 v717 r.2.1, HP.own Ty.bool (fun _ => False) 4 v718 r.2.2] := by
  intro d_
  induction d_ with
  | zero => intro F R w a1 a2 c0_0 c0_1 c0_2 B0 v2 v3 v4 v5 r hS f2 h; cases h
  | succ d_ ih =>
    intro F R w a1 a2 c0_0 c0_1 c0_2 B0 v2 v3 v4 v5 r hS f2 h
    replace h : reach_F fuel (reach_R fuel d_) a1 a2 c0_0 c0_1 c0_2 = some r := h
    generalize reach_R fuel d_ = rec_ at h ih
    refine fn_of Try.func58 rfl Try.ntmps58 (Nat.le_of_ble_eq_true rfl) ?_
    unfold reach_F at h
    refine e_seq fun K719 hK719 => ?_
    refine e_region_text rfl ?_
    refine q_assign rfl rfl ?_
    refine eseq_nil ?_
    refine hK719 _ _ ?_
    refine e_seq fun K720 hK720 => ?_
    refine e_seq fun K721 hK721 => ?_
    refine e_region_text rfl ?_
    refine q_move rfl rfl ?_
    refine q_move rfl rfl ?_
    refine q_nilCheck rfl rfl ?_
    refine q_field rfl rfl ?_
    refine q_load rfl (Blk.cell (hS.blk 0 rfl) rfl) rfl ?_
    refine q_move rfl rfl ?_
    obtain ⟨x722, hx722, h⟩ := Option.of_bind h
    have hax722 := ati_nth (hS.famLen 2 rfl) hx722
    refine q_indexO (T := Ty.raw) (by infer_instance) rfl (hS.own 1 rfl) rfl hax722 rfl ?_
    refine q_load rfl (Elt.rawCell ((hS.own 1 rfl).elt hax722)) rfl ?_
    refine q_lenS rfl (hS.famI 2 rfl hx722) rfl ?_
    refine q_lss rfl rfl rfl ?_
    refine eseq_nil ?_
    refine hK721 _ _ ?_
    refine e_cond rfl (fun hc723 => ?_) (fun hc723 => ?_)
    · replace h := (if_pos hc723).symm.trans h
      refine e_seq fun K724 hK724 => ?_
      refine e_region_text rfl ?_
      refine q_assign rfl rfl ?_
      refine eseq_nil ?_
      refine hK724 _ _ ?_
      refine e_ret ?_
      obtain rfl := Option.some.inj h
      exact ⟨_, res1 rfl rfl, v3, v4, v5, _, rfl, hS⟩
    · replace h := (if_neg (not_true hc723)).symm.trans h
      refine e_skip ?_
      refine hK720 _ _ ?_
      refine e_seq fun K725 hK725 => ?_
      refine e_seq fun K726 hK726 => ?_
      refine e_region_text rfl ?_
      refine q_move rfl rfl ?_
      refine q_nilCheck rfl rfl ?_
      refine q_field rfl rfl ?_
      refine q_load rfl (Blk.cell (hS.blk 0 rfl) rfl) rfl ?_
      refine q_move rfl rfl ?_
      obtain ⟨x727, hx727, h⟩ := Option.of_bind h
      refine q_indexO (by infer_instance) rfl (hS.own 3 rfl) rfl hx727 rfl ?_
      have f728 := (hS.ownR 3 rfl).elt hx727
      refine q_load rfl (Elt.boolCell f728) rfl ?_
      refine eseq_nil ?_
      refine hK726 _ _ ?_
      refine e_cond rfl (fun hc729 => ?_) (fun hc729 => ?_)
      · replace h := (if_pos hc729).symm.trans h
        refine e_seq fun K730 hK730 => ?_
        refine e_region_text rfl ?_
        refine q_assign rfl rfl ?_
        refine eseq_nil ?_
        refine hK730 _ _ ?_
        refine e_ret ?_
        obtain rfl := Option.some.inj h
        exact ⟨_, res1 rfl rfl, v3, v4, v5, _, rfl, hS⟩
      · replace h := (if_neg (not_true hc729)).symm.trans h
        refine e_skip ?_
        refine hK725 _ _ ?_
        refine e_seq fun K731 hK731 => ?_
        refine e_region_text rfl ?_
        refine q_move rfl rfl ?_
        refine q_nilCheck rfl rfl ?_
        refine q_field rfl rfl ?_
        refine q_load rfl (Blk.cell (hS.blk 0 rfl) rfl) rfl ?_
        refine q_move rfl rfl ?_
        obtain ⟨x732, hx732, h⟩ := Option.of_bind h
        refine q_indexO (by infer_instance) rfl (hS.own 3 rfl) rfl hx732 rfl ?_
        obtain ⟨x734, hx734, h⟩ := Option.of_bind h
        refine q_storeO (T := Ty.bool) (j := 0) rfl rfl (hS.own 3 rfl) hx732 hx734 rfl rfl rfl (Enc.setL rfl) fun w733 ho733 hO733 => ?_
        have hk733 := hS.keptO 3 rfl hx732 hO733
        replace f2 := f2.kept hk733
        replace hS := hS.putO 3 rfl hx732 ho733 hO733; simp only [List.set] at hS
        refine eseq_nil ?_
        refine hK731 _ _ ?_
        refine e_seq fun K735 hK735 => ?_
        refine e_seq fun K736 hK736 => ?_
        refine e_region_text rfl ?_
        refine q_move rfl rfl ?_
        refine q_nilCheck rfl rfl ?_
        refine q_field rfl rfl ?_
        refine q_load rfl (Blk.cell (hS.blk 0 rfl) rfl) rfl ?_
        refine q_move rfl rfl ?_
        obtain ⟨x737, hx737, h⟩ := Option.of_bind h
        have hax737 := ati_nth (hS.famLen 2 rfl) hx737
        refine q_indexO (T := Ty.raw) (by infer_instance) rfl (hS.own 1 rfl) rfl hax737 rfl ?_
        refine q_load rfl (Elt.rawCell ((hS.own 1 rfl).elt hax737)) rfl ?_
        refine q_lenS rfl (hS.famI 2 rfl hx737) rfl ?_
        refine q_assign rfl rfl ?_
        refine eseq_nil ?_
        refine hK736 _ _ ?_
        refine e_block ?_
        obtain ⟨tl738, ht738, h⟩ := Option.of_bind h
        have hX738_0 : ∀ (x984 : (List (List (List Lab)))) (x989 : (List Bool)) (v982 : Value) (v983 : List Value) (v988 : Value) (R979 : Nat → Prop) (w980 : World) (E_ : Env), reach_K1 fuel rec_ a1 x984 x989 = some r → Sep F R R979 w w980 [HP.blk B0 [v2, v982, v988] 94, HP.own Ty.raw (fun _ => False) 67 v982 v983, HP.famS (Ty.slice labTy) R979 22 v983 x984, HP.own Ty.bool (fun _ => False) 4 v988 x989] → IsSlice (Ty.slice evtTy) w980 R979 v2 c0_0 → Sub [(0, .pointer (some ⟨B0, 0, none⟩)), (1, .int .i64 a1)] E_ → K735 E_ w980 := by
          intro x984 x989 v982 v983 v988 R979 w980 E_ h hS f981 hsub
          refine hK735 _ _ (e_sub hsub ?_); clear hsub
          unfold reach_K1 at h
          refine e_seq fun K990 hK990 => ?_
          refine e_region_text rfl ?_
          refine q_move rfl rfl ?_
          refine q_nilCheck rfl rfl ?_
          refine q_field rfl rfl ?_
          refine q_load rfl (Blk.cell (hS.blk 0 rfl) rfl) rfl ?_
          refine q_move rfl rfl ?_
          obtain ⟨x991, hx991, h⟩ := Option.of_bind h
          refine q_indexO (by infer_instance) rfl (hS.own 3 rfl) rfl hx991 rfl ?_
          obtain ⟨x993, hx993, h⟩ := Option.of_bind h
          refine q_storeO (T := Ty.bool) (j := 0) rfl rfl (hS.own 3 rfl) hx991 hx993 rfl rfl rfl (Enc.setL rfl) fun w992 ho992 hO992 => ?_
          have hk992 := hS.keptO 3 rfl hx991 hO992
          replace f981 := f981.kept hk992
          replace hS := hS.putO 3 rfl hx991 ho992 hO992; simp only [List.set] at hS
          refine eseq_nil ?_
          refine hK990 _ _ ?_
          refine e_seq fun K994 hK994 => ?_
          refine e_region_text rfl ?_
          refine q_assign rfl rfl ?_
          refine eseq_nil ?_
          refine hK994 _ _ ?_
          refine e_ret ?_
          obtain rfl := Option.some.inj h
          exact ⟨_, res1 rfl rfl, v982, v983, v988, _, rfl, hS⟩
        refine e_loop (fun m_ E_ w857 => ∃ (x861 : (List (List (List Lab)))), ∃ (x866 : (List Bool)), ∃ (x867 : Int), ∃ (v859 : Value), ∃ (v860 : List Value), ∃ (v865 : Value), ∃ (R856 : Nat → Prop), iter (fun s => reach_B1 fuel rec_ a2 c0_0 a1 s.1 s.2.1 s.2.2) m_ (x861, x866, x867) = some tl738 ∧ Sep F R R856 w w857 [HP.blk B0 [v2, v859, v865] 94, HP.own Ty.raw (fun _ => False) 67 v859 v860, HP.famS (Ty.slice labTy) R856 22 v860 x861, HP.own Ty.bool (fun _ => False) 4 v865 x866] ∧ IsSlice (Ty.slice evtTy) w857 R856 v2 c0_0 ∧ E_ = [(0, .pointer (some ⟨B0, 0, none⟩)), (1, .int .i64 a1), (2, .int .i64 a2), (7, .int .i64 x867)]) _ ⟨_, ⟨c0_1, x734, (x737.length : Int), v3, v4, v5, _, ht738, hS, f2, rfl⟩, Sub.cons rfl (Sub.cons rfl (Sub.cons rfl (Sub.cons rfl (Sub.nil _))))⟩ ?_
        clear ht738 hS
        rintro m738 _ w857 ⟨x861, x866, x867, v859, v860, v865, R856, ht738, hS, f858, rfl⟩
        obtain ⟨m738, rfl, o738, ho738, ht738⟩ := iter_some ht738
        replace ho738 : reach_B1 fuel rec_ a2 c0_0 a1 x861 x866 x867 = some o738 := ho738
        unfold reach_B1 at ho738
        refine e_seq fun K995 hK995 => ?_
        refine e_seq fun K996 hK996 => ?_
        refine e_region_text rfl ?_
        refine q_move rfl rfl ?_
        refine q_move rfl rfl ?_
        refine q_leq rfl rfl rfl ?_
        refine eseq_nil ?_
        refine hK996 _ _ ?_
        refine e_cond rfl (fun hc997 => ?_) (fun hc997 => ?_)
        · replace ho738 := (if_pos hc997).symm.trans ho738
          refine e_skip ?_
          refine hK995 _ _ ?_
          refine e_seq fun K998 hK998 => ?_
          refine e_block ?_
          refine e_seq fun K999 hK999 => ?_
          refine e_region_text rfl ?_
          refine q_move rfl rfl ?_
          refine q_nilCheck rfl rfl ?_
          refine q_field rfl rfl ?_
          refine q_load rfl (Blk.cell (hS.blk 0 rfl) rfl) rfl ?_
          refine q_move rfl rfl ?_
          obtain ⟨x1000, hx1000, ho738⟩ := Option.of_bind ho738
          refine q_atS (by infer_instance) rfl f858 rfl hx1000 rfl fun b1001 o1001 hm1001 f1001 => ?_
          refine q_loadE rfl f1001 rfl (fun v1002 f1002 => ?_)
          refine q_move rfl rfl ?_
          refine q_subW rfl rfl rfl ?_
          obtain ⟨x1003, hx1003, ho738⟩ := Option.of_bind ho738
          refine q_atS (by infer_instance) rfl f1002 rfl hx1003 rfl fun b1004 o1004 hm1004 f1004 => ?_
          have hc1005 := Evt_open f1004
          refine q_loadAgg rfl hc1005 rfl rfl ?_
          refine q_allocB rfl fun w1006 bl1006 hg1006 hb1006 hB1006 => ?_
          replace f858 := f858.ext hB1006
          replace hS := hS.newBlk hB1006 hg1006 hb1006
          refine q_storeAgg rfl rfl (hS.blk 0 rfl) rfl (Nat.le_of_ble_eq_true rfl) (all_cons rfl (all_cons rfl (all_cons rfl (all_cons rfl (all_cons rfl (all_cons rfl (all_cons rfl (all_nil)))))))) rfl rfl fun w1008 hb1008 hO1008 => ?_
          simp only [setN, List.set, List.take, List.drop] at hb1008
          have hk1008 := hS.keptBlk 0 rfl hO1008
          replace f858 := f858.kept hk1008
          replace hS := hS.setBlk 0 rfl hb1008 hO1008; simp only [List.set] at hS
          refine eseq_nil ?_
          refine hK999 _ _ ?_
          refine e_seq fun K1009 hK1009 => ?_
          refine e_region_text rfl ?_
          refine q_move rfl rfl ?_
          refine q_nilCheck rfl rfl ?_
          refine q_field rfl rfl ?_
          refine q_load rfl (Blk.cell (hS.blk 1 rfl) rfl) rfl ?_
          refine q_move rfl rfl ?_
          obtain ⟨x1010, hx1010, ho738⟩ := Option.of_bind ho738
          have hax1010 := ati_nth (hS.famLen 3 rfl) hx1010
          refine q_indexO (T := Ty.raw) (by infer_instance) rfl (hS.own 2 rfl) rfl hax1010 rfl ?_
          refine q_load rfl (Elt.rawCell ((hS.own 2 rfl).elt hax1010)) rfl ?_
          refine q_move rfl rfl ?_
          refine q_subW rfl rfl rfl ?_
          obtain ⟨x1011, hx1011, ho738⟩ := Option.of_bind ho738
          refine q_indexO (by infer_instance) rfl (hS.famO 3 rfl hx1010) rfl hx1011 rfl ?_
          have f1012 := (hS.famOR 3 rfl hx1010).elt hx1011
          refine q_loadE rfl f1012 rfl (fun v1013 f1013 => ?_)
          obtain ⟨r1015, hr1015, ho738⟩ := Option.of_bind ho738
          refine q_call rfl (Clone_Lab_w (Sep.enter (As := []) hS) f1013 hr1015) rfl ?_
          rintro v1016 w1014 ⟨_, R1014, rfl, hC1014⟩
          have hB1014 : Below (World.heap w1008).size w1008 w1014 := hC1014.stepB0
          refine ⟨fun _ => .of_below hB1014, ?_⟩
          replace f858 := (f858.ext hB1014).mono fun k hk _ => hC1014.ro0 k hk
          replace f1013 := (f1013.ext hB1014).mono fun k hk _ => hC1014.ro0 k hk
          replace hS := Sep.leave (As := []) hS hC1014; simp only [List.cons_append, List.nil_append] at hS
          refine q_assign rfl rfl ?_
          refine eseq_nil ?_
          refine hK1009 _ _ ?_
          refine e_seq fun K1017 hK1017 => ?_
          refine e_region_text rfl ?_
          refine q_move rfl rfl ?_
          refine q_move rfl rfl ?_
          refine q_field rfl rfl ?_
          refine q_load rfl (Blk.cell (hS.blk 1 rfl) rfl) rfl ?_
          refine q_move rfl rfl ?_
          refine q_build (Parts.cons rfl rfl (Parts.cons rfl rfl Parts.nil)) rfl rfl ?_
          obtain ⟨x1018, hx1018, ho738⟩ := Option.of_bind ho738
          refine q_indexO (by infer_instance) rfl (hS.own 0 rfl) rfl hx1018 rfl ?_
          obtain ⟨x1020, hx1020, ho738⟩ := Option.of_bind ho738
          refine q_storeOA (T := labTy) (j := 0) rfl rfl (hS.own 0 rfl) hx1018 hx1020 rfl rfl (all_cons rfl (all_cons rfl (all_nil))) rfl (Enc.setNL rfl) fun w1019 ho1019 hO1019 => ?_
          have hk1019 := hS.keptO 0 rfl hx1018 hO1019
          replace f858 := f858.kept hk1019
          replace hS := hS.putO 0 rfl hx1018 ho1019 hO1019; simp only [List.set] at hS
          refine eseq_nil ?_
          refine hK1017 _ _ ?_
          refine e_seq fun K1021 hK1021 => ?_
          have hJ1021 : ∀ (x1045 : (List (List (List Lab)))) (x1050 : (List Bool)) (x1053 : (List Lab)) (v1043 : Value) (v1044 : List Value) (v1049 : Value) (v1052 : Value) (R1040 : Nat → Prop) (w1041 : World) (E_ : Env), reach_J1 fuel rec_ a1 x867 x1045 x1050 x1053 = some o738 → Sep F R R1040 w w1041 [HP.blk B0 [v2, v1043, v1049] 94, HP.own Ty.raw (fun _ => False) 67 v1043 v1044, HP.famS (Ty.slice labTy) R1040 22 v1044 x1045, HP.own Ty.bool (fun _ => False) 4 v1049 x1050, HP.own labTy (fun _ => False) 29 v1052 x1053] → IsSlice (Ty.slice evtTy) w1041 R1040 v2 c0_0 → Sub [(0, .pointer (some ⟨B0, 0, none⟩)), (1, .int .i64 a1), (2, .int .i64 a2), (7, .int .i64 x867), (9, v1052)] E_ → K1021 E_ w1041 := by
            intro x1045 x1050 x1053 v1043 v1044 v1049 v1052 R1040 w1041 E_ ho738 hS f1042 hsub
            refine hK1021 _ _ (e_sub hsub ?_); clear hsub
            unfold reach_J1 at ho738
            refine e_region_draw mixed (fun k => (nth v1044 (a1).toNat).ownBlock = some k) [0, 1, 3, 7, 0, 0, 32, 96, 224, 0, 992, 2016, 0, 4096, 16352, 32767, 65535] [13, 14] [0, 1, 2, 3, 4, 5, 6, 7, 8, 9, 10, 11, 12, 13, 14, 15, 16] (by kernel_rfl) ?_
            refine q_move rfl rfl ?_
            refine q_nilCheck rfl rfl ?_
            refine q_field rfl rfl ?_
            refine q_load rfl (Blk.cell (hS.blk 0 rfl) rfl) rfl ?_ (hX := fun hx_ => hS.apart 0 2 rfl rfl (by decide) _ rfl (hS.famRowFoot 2 rfl _ _ hx_))
            refine q_move rfl rfl ?_
            refine q_move rfl rfl ?_
            refine q_nilCheck rfl rfl ?_
            refine q_field rfl rfl ?_
            refine q_load rfl (Blk.cell (hS.blk 0 rfl) rfl) rfl ?_ (hX := fun hx_ => hS.apart 0 2 rfl rfl (by decide) _ rfl (hS.famRowFoot 2 rfl _ _ hx_))
            refine q_move rfl rfl ?_
            obtain ⟨x1065, hx1065, ho738⟩ := Option.of_bind ho738
            have hax1065 := ati_nth (hS.famLen 2 rfl) hx1065
            refine q_indexO (T := Ty.raw) (by infer_instance) rfl (hS.own 1 rfl) rfl hax1065 rfl ?_
            refine q_load rfl (Elt.rawCell ((hS.own 1 rfl).elt hax1065)) rfl ?_ (hX := fun hx_ => hS.apart 1 2 rfl rfl (by decide) _ ((hS.own 1 rfl).vblk hax1065) (hS.famRowFoot 2 rfl _ _ hx_))
            refine q_move rfl rfl ?_
            refine q_litO (T := Ty.raw) (S := (fun _ => False)) (cells := [[v1052]]) (ys := [v1052]) ((Parts.cons rfl (cells_one (hS.own 4 rfl).one) Parts.nil)) rfl rfl rfl rfl rfl rfl rfl (fun w1 hB => ⟨⟨rfl, (hS.own 4 rfl).one⟩, trivial⟩) (fun _ h => h.elim) rfl fun w1066 v1066 ho1066 hv1066 hB1066 => ?_
            replace f1042 := f1042.ext hB1066
            replace hS := hS.newOwnS hB1066 ho1066 hv1066 (fun _ h => h.elim)
            replace hS := hS.pickB [5, 0, 1, 2, 3, 4] 6 rfl rfl; simp only [List.map_cons, List.map_nil, List.getD_cons_zero, List.getD_cons_succ] at hS
            replace hS := hS.famOne
            replace hS := hS.pickB [1, 0, 2, 3, 4, 5] 6 rfl rfl; simp only [List.map_cons, List.map_nil, List.getD_cons_zero, List.getD_cons_succ] at hS
            obtain ⟨R1070, hS, hm1070⟩ := hS.rowsFreeze
            replace f1042 := f1042.mono fun k hk _ => hm1070 k hk
            replace hS := hS.famMono 3 rfl; simp only [List.set] at hS
            obtain ⟨x1072, hx1072, ho738⟩ := Option.of_bind ho738
            obtain ⟨x1073, hx1073, ho738⟩ := Option.of_bind ho738
            refine q_catOwn (T := (Ty.slice labTy)) rfl rfl rfl rfl (hS.famO 3 rfl hx1065) rfl (hS.own 0 rfl) (hS.famOff 3 rfl hx1065) hx1072 (Nat.zero_le _) rfl (fun _ k hk => hk) fun v1069 w1069 hw1069 hgr1069 hnw1069 => ?_
            have hk1069 := hS.famKeptM 3 rfl hx1065 hgr1069
            replace f1042 := f1042.kept hk1069
            replace hS := hS.famSetM 3 rfl hx1065 hx1073 hw1069 hgr1069 hnw1069; simp only [List.set] at hS
            obtain ⟨x1074, hx1074, ho738⟩ := Option.of_bind ho738
            have hax1074 := ati_nth (by simpa using hS.famLen 3 rfl) hx1074
            refine q_indexO (T := Ty.raw) (by infer_instance) rfl (hS.own 2 rfl) rfl hax1074 rfl ?_
            refine q_storeO (T := Ty.raw) (j := 0) rfl rfl (hS.own 2 rfl) hax1074 (seti_ok hax1074) rfl hw1069.one rfl (rawSet hw1069.one) fun w1075 ho1075 hO1075 => ?_
            have hk1075 := hS.keptO 2 rfl hax1074 hO1075
            replace f1042 := f1042.kept hk1075
            replace hS := hS.putO 2 rfl hax1074 ho1075 hO1075; simp only [List.set] at hS
            refine eseq_nil ?_
            refine hK998 _ _ ?_
            refine e_region_text rfl ?_
            refine q_move rfl rfl ?_
            refine q_addW rfl rfl rfl ?_
            refine q_assign rfl rfl ?_
            refine eseq_nil ?_
            obtain rfl := Option.some.inj ho738
            exact ⟨m738, _, Nat.lt_succ_self _, ⟨x1073, x1050, (w64 (x867 + 1)), v1043, (v1044.set (a1).toNat v1069), v1049, _, ht738, (hS.pickB [1, 2, 3, 4] 5 rfl rfl), f1042, rfl⟩, Sub.cons rfl (Sub.cons rfl (Sub.cons rfl (Sub.cons rfl (Sub.nil _))))⟩
          refine e_seq fun K1076 hK1076 => ?_
          refine e_region_text rfl ?_
          refine q_field rfl rfl ?_
          refine q_load rfl (Blk.cell (hS.blk 1 rfl) rfl) rfl ?_
          refine q_eql rfl rfl rfl ?_
          refine eseq_nil ?_
          refine hK1076 _ _ ?_
          refine e_cond rfl (fun hc1077 => ?_) (fun hc1077 => ?_)
          · replace ho738 := (if_pos hc1077).symm.trans ho738
            refine e_seq fun K1078 hK1078 => ?_
            refine e_seq fun K1079 hK1079 => ?_
            refine e_region_text rfl ?_
            refine q_move rfl rfl ?_
            refine q_field rfl rfl ?_
            refine q_load rfl (Blk.cell (hS.blk 1 rfl) rfl) rfl ?_
            refine q_field rfl rfl ?_
            refine q_field rfl rfl ?_
            refine q_load rfl (Blk.cell (hS.blk 1 rfl) rfl) rfl ?_
            replace hS := hS.famMono 4 rfl; simp only [List.set] at hS
            obtain ⟨r1081, hr1081, ho738⟩ := Option.of_bind ho738
            replace hS := hS.pickB [2, 3, 4, 5, 0, 1] 6 rfl rfl; simp only [List.map_cons, List.map_nil, List.getD_cons_zero, List.getD_cons_succ] at hS
            refine q_call rfl (ih (Sep.enter (As := [_, _, _, _]) hS) f858 hr1081) rfl ?_
            rintro _ w1080 ⟨v1082, v1083, v1084, R1080, rfl, hC1080⟩
            refine ⟨(fun h => by cases h), ?_⟩
            have hk1080 := hC1080.keptR (Sep.offFeet (As := [_, _, _, _]) hS)
            replace f858 := (f858.kept hk1080).mono fun k hk _ => hC1080.ro0 k hk
            replace hS := Sep.leave (As := [_, _, _, _]) hS hC1080; simp only [List.cons_append, List.nil_append] at hS
            refine q_not rfl rfl ?_
            refine eseq_nil ?_
            refine hK1079 _ _ ?_
            refine e_cond rfl (fun hc1085 => ?_) (fun hc1085 => ?_)
            · replace ho738 := (if_pos hc1085).symm.trans ho738
              refine e_seq fun K1086 hK1086 => ?_
              refine e_region_text rfl ?_
              refine q_assign rfl rfl ?_
              refine eseq_nil ?_
              refine hK1086 _ _ ?_
              refine e_ret ?_
              obtain rfl := Option.some.inj ho738
              obtain rfl := Option.some.inj ht738
              obtain rfl := Option.some.inj h
              exact ⟨_, res1 rfl rfl, v1082, v1083, v1084, _, rfl, (hS.pickB [0, 1, 2, 3] 6 rfl rfl)⟩
            · replace ho738 := (if_neg (not_true hc1085)).symm.trans ho738
              refine e_skip ?_
              refine hK1078 _ _ ?_
              refine e_region_draw mixed (fun _ => False) [0, 0, 2, 6, 14, 0, 32, 126, 254, 0, 512, 1536, 4094, 8190, 16383, 32767] [] [0, 1, 2, 3, 4, 5, 6, 7, 8, 9, 10, 11, 12, 13, 14, 15] (by kernel_rfl) ?_
              refine q_move rfl rfl ?_
              refine q_move rfl rfl ?_
              refine q_nilCheck rfl rfl ?_
              refine q_field rfl rfl ?_
              refine q_load rfl (Blk.cell (hS.blk 0 rfl) rfl) rfl ?_
              refine q_field rfl rfl ?_
              refine q_load rfl (Blk.cell (hS.blk 5 rfl) rfl) rfl ?_
              obtain ⟨x1087, hx1087, ho738⟩ := Option.of_bind ho738
              have hax1087 := ati_nth (hS.famLen 2 rfl) hx1087
              refine q_indexO (T := Ty.raw) (by infer_instance) rfl (hS.own 1 rfl) rfl hax1087 rfl ?_
              refine q_load rfl (Elt.rawCell ((hS.own 1 rfl).elt hax1087)) rfl ?_
              refine q_field rfl rfl ?_
              refine q_field rfl rfl ?_
              refine q_load rfl (Blk.cell (hS.blk 5 rfl) rfl) rfl ?_
              obtain ⟨x1088, hx1088, ho738⟩ := Option.of_bind ho738
              refine q_indexO (by infer_instance) rfl (hS.famO 2 rfl hx1087) rfl hx1088 rfl ?_
              have f1089 := (hS.famOR 2 rfl hx1087).elt hx1088
              refine q_loadE rfl f1089 rfl (fun v1090 f1090 => ?_)
              obtain ⟨r1092, hr1092, ho738⟩ := Option.of_bind ho738
              refine q_call rfl (orphan_Merge_w (Sep.all w1080) ((hS.isl 4 rfl)).old (f1090).old hr1092) rfl ?_
              rintro v1093 w1091 ⟨_, R1091, rfl, hC1091⟩
              have hB1091 : Below (World.heap w1080).size w1080 w1091 := hC1091.stepBF
              refine ⟨fun _ => .of_below hB1091, ?_⟩
              replace f858 := f858.ext hB1091
              replace f1090 := f1090.ext hB1091
              replace hS := hS.newOwnS hB1091 (hC1091.own 0 rfl) (hC1091.fresh 0 rfl) (fun _ h => h.elim)
              refine q_assign rfl rfl ?_
              refine eseq_nil ?_
              exact hJ1021 r1081.2.1 r1081.2.2 r1092 v1082 v1083 v1084 v1093 _ _ _ ho738 (hS.pickB [1, 2, 3, 4, 0] 7 rfl rfl) f858 (Sub.cons rfl (Sub.cons rfl (Sub.cons rfl (Sub.cons rfl (Sub.cons rfl (Sub.nil _))))))
          · replace ho738 := (if_neg (not_true hc1077)).symm.trans ho738
            refine e_skip ?_
            replace hS := hS.famMono 4 rfl; simp only [List.set] at hS
            exact hJ1021 x861 x866 x1020 v859 v860 v865 v1016 _ _ _ ho738 (hS.pickB [2, 3, 4, 5, 0] 6 rfl rfl) f858 (Sub.cons rfl (Sub.cons rfl (Sub.cons rfl (Sub.cons rfl (Sub.cons rfl (Sub.nil _))))))
        · replace ho738 := (if_neg (not_true hc997)).symm.trans ho738
          refine e_exit ?_
          obtain rfl := Option.some.inj ho738
          obtain rfl := Option.some.inj ht738
          exact hX738_0 x861 x866 v859 v860 v865 _ _ _ h hS f858 (Sub.cons rfl (Sub.cons rfl (Sub.nil _)))
theorem reach_w {F R : Nat → Prop} {w : World} {fuel : Nat} {a1 : Int} {a2 : Int} {c0_0 : (List (List Evt))} {c0_1 : (List (List (List Lab)))} {c0_2 : (List Bool)} {B0 : Nat} {v2 : Value} {v3 : Value} {v4 : List Value} {v5 : Value} {r : (Bool × (List (List (List Lab))) × (List Bool))} (hS : Sep F R R w w [HP.blk B0 [v2, v3, v5] 94, HP.own Ty.raw (fun _ => False) 67 v3 v4, HP.famS (Ty.slice labTy) R 22 v4 c0_1, HP.own Ty.bool (fun _ => False) 4 v5 c0_2]) (f2 : IsSlice (Ty.slice evtTy) w R v2 c0_0) (h : reach fuel a1 a2 c0_0 c0_1 c0_2 = some r) :
    Gives Try.prog 58 [.pointer (some ⟨B0, 0, none⟩), .int .i64 a1, .int .i64 a2] w fun u w1 => ∃ (v716 : Value), ∃ (v717 : List Value), ∃ (v718 : Value), ∃ (R1 : Nat → Prop), u = .bool r.1 ∧ Sep F R R1 w w1 [HP.blk B0 [v2, v716, v718] 94, HP.own Ty.raw (fun _ => False) 67 v716 v717, HP.famS (Ty.slice labTy) R1 22 v717 r.2.1, HP.own Ty.bool (fun _ => False) 4 v718 r.2.2] :=
  reach_d fuel hS f2 h
theorem Track_w {F R : Nat → Prop} {w : World} {fuel : Nat} {a0 : (List (List Evt))} {v1 : Value} {r : ((List (List (List Lab))) × Bool)} (hS : Sep F R R w w []) (f1 : IsSlice (Ty.slice evtTy) w R v1 a0) (h : Track fuel a0 = some r) :
    Gives Try.prog 29 [v1] w fun u w1 => ∃ (v309 : Value), ∃ (v310 : List Value), ∃ (R1 : Nat → Prop), u = .tuple #[v309, .bool r.2] ∧ Sep F R R1 w w1 [HP.own Ty.raw (fun _ => False) 67 v309 v310, HP.famS (Ty.slice labTy) R1 22 v310 r.1] := by
  refine fn_of Try.func29 rfl Try.ntmps29 (Nat.le_of_ble_eq_true rfl) ?_
  unfold Track at h
  refine e_seq fun K311 hK311 => ?_
  refine e_region_text rfl ?_
  refine q_assign rfl rfl ?_
  refine q_assign rfl rfl ?_
  refine eseq_nil ?_
  refine hK311 _ _ ?_
  refine e_seq fun K312 hK312 => ?_
  refine e_seq fun K313 hK313 => ?_
  refine e_region_text rfl ?_
  refine q_move rfl rfl ?_
  refine q_move rfl rfl ?_
  obtain ⟨r315, hr315, h⟩ := Option.of_bind h
  refine q_call rfl (orphan_all_w (Sep.enter (As := []) hS) f1 hr315) rfl ?_
  rintro v316 w314 ⟨_, R314, rfl, hC314⟩
  have hB314 : Below (World.heap w).size w w314 := hC314.stepB0
  refine ⟨fun _ => .of_below hB314, ?_⟩
  replace f1 := (f1.ext hB314).mono fun k hk _ => hC314.ro0 k hk
  replace hS := Sep.leave (As := []) hS hC314; simp only [List.cons_append, List.nil_append] at hS
  obtain ⟨r318, hr318, h⟩ := Option.of_bind h
  refine q_call rfl (orphan_Consistent_w (Sep.all w314) (f1).old ((hS.isl 0 rfl)).old hr318) rfl ?_
  rintro _ w317 ⟨R317, rfl, hC317⟩
  have hB317 : Below (World.heap w314).size w314 w317 := hC317.stepBF
  refine ⟨fun _ => .of_below hB317, ?_⟩
  replace f1 := f1.ext hB317
  replace hS := hS.below hB317
  refine q_not rfl rfl ?_
  refine eseq_nil ?_
  refine hK313 _ _ ?_
  refine e_cond rfl (fun hc319 => ?_) (fun hc319 => ?_)
  · replace h := (if_pos hc319).symm.trans h
    refine e_seq fun K320 hK320 => ?_
    refine e_region_text rfl ?_
    refine q_assign rfl rfl ?_
    refine q_assign rfl rfl ?_
    refine eseq_nil ?_
    refine hK320 _ _ ?_
    refine e_ret ?_
    replace hS := hS.nilRows (Ty.slice labTy) 22 67
    obtain rfl := Option.some.inj h
    exact ⟨_, res2 rfl rfl rfl, (.slice none 0 0), ([] : List Value), _, rfl, (hS.pickB [0, 1] 3 rfl rfl)⟩
  · replace h := (if_neg (not_true hc319)).symm.trans h
    refine e_skip ?_
    refine hK312 _ _ ?_
    refine e_seq fun K323 hK323 => ?_
    have hJt361 : ∀ (x355 : (List (List (List Lab)))) (x360 : (List Bool)) (B351 : Nat) (v353 : Value) (v354 : List Value) (v359 : Value) (R347 : Nat → Prop) (w348 : World) (E_ : Env), Track_J1 fuel a0 x355 x360 = some r → Sep F R R347 w w348 [HP.blk B351 [v1, v353, v359] 94, HP.own Ty.raw (fun _ => False) 67 v353 v354, HP.famS (Ty.slice labTy) R347 22 v354 x355, HP.own Ty.bool (fun _ => False) 4 v359 x360] → IsSlice (Ty.slice evtTy) w348 R347 v1 a0 → IsSlice (Ty.slice evtTy) w348 R347 v1 a0 → Sub [(0, v1), (4, .pointer (some ⟨B351, 0, none⟩))] E_ → K323 E_ w348 := by
      intro x355 x360 B351 v353 v354 v359 R347 w348 E_ h hS f349 f352 hsub
      refine hK323 _ _ (e_sub hsub ?_); clear hsub
      unfold Track_J1 at h
      refine e_seq fun K362 hK362 => ?_
      refine e_seq fun K363 hK363 => ?_
      refine e_region_text rfl ?_
      refine q_move rfl rfl ?_
      refine q_lenS rfl f349 rfl ?_
      refine q_move rfl rfl ?_
      refine eseq_nil ?_
      refine hK363 _ _ ?_
      refine e_block ?_
      obtain ⟨tl364, ht364, h⟩ := Option.of_bind h
      have hX364_0 : ∀ (x465 : (List (List (List Lab)))) (v463 : Value) (v464 : List Value) (R459 : Nat → Prop) (w460 : World) (E_ : Env), Track_K1 fuel a0 x360 x465 = some r → Sep F R R459 w w460 [HP.blk B351 [v1, v463, v359] 94, HP.own Ty.raw (fun _ => False) 67 v463 v464, HP.famS (Ty.slice labTy) R459 22 v464 x465, HP.own Ty.bool (fun _ => False) 4 v359 x360] → IsSlice (Ty.slice evtTy) w460 R459 v1 a0 → IsSlice (Ty.slice evtTy) w460 R459 v1 a0 → Sub [(0, v1), (4, .pointer (some ⟨B351, 0, none⟩))] E_ → K362 E_ w460 := by
        intro x465 v463 v464 R459 w460 E_ h hS f461 f462 hsub
        refine hK362 _ _ (e_sub hsub ?_); clear hsub
        unfold Track_K1 at h
        refine e_seq fun K469 hK469 => ?_
        refine e_seq fun K470 hK470 => ?_
        refine e_region_text rfl ?_
        refine q_move rfl rfl ?_
        refine q_lenS rfl f461 rfl ?_
        refine q_move rfl rfl ?_
        refine eseq_nil ?_
        refine hK470 _ _ ?_
        refine e_block ?_
        obtain ⟨tl471, ht471, h⟩ := Option.of_bind h
        have hX471_2 : ∀ (x555 : (List (List (List Lab)))) (x560 : (List Bool)) (v553 : Value) (v554 : List Value) (v559 : Value) (R550 : Nat → Prop) (w551 : World) (E_ : Env), Track_K2 fuel x555 x560 = some r → Sep F R R550 w w551 [HP.blk B351 [v1, v553, v559] 94, HP.own Ty.raw (fun _ => False) 67 v553 v554, HP.famS (Ty.slice labTy) R550 22 v554 x555, HP.own Ty.bool (fun _ => False) 4 v559 x560] → IsSlice (Ty.slice evtTy) w551 R550 v1 a0 → Sub [(4, .pointer (some ⟨B351, 0, none⟩))] E_ → K469 E_ w551 := by
          intro x555 x560 v553 v554 v559 R550 w551 E_ h hS f552 hsub
          refine hK469 _ _ (e_sub hsub ?_); clear hsub
          unfold Track_K2 at h
          refine e_seq fun K561 hK561 => ?_
          refine e_region_text rfl ?_
          refine q_move rfl rfl ?_
          refine q_nilCheck rfl rfl ?_
          refine q_field rfl rfl ?_
          refine q_load rfl (Blk.cell (hS.blk 0 rfl) rfl) rfl ?_
          refine q_assign rfl rfl ?_
          refine q_assign rfl rfl ?_
          refine eseq_nil ?_
          refine hK561 _ _ ?_
          refine e_ret ?_
          obtain rfl := Option.some.inj h
          exact ⟨_, res2 rfl rfl rfl, v553, v554, _, rfl, (hS.pickB [1, 2] 4 rfl rfl)⟩
        refine e_loop (fun m_ E_ w509 => ∃ (x513 : (List (List (List Lab)))), ∃ (x518 : (List Bool)), ∃ (x520 : Int), ∃ (v511 : Value), ∃ (v512 : List Value), ∃ (v517 : Value), ∃ (R508 : Nat → Prop), iter (fun s => Track_B1 fuel a0 s.1 s.2.1 s.2.2) m_ (x513, x518, x520) = some tl471 ∧ Sep F R R508 w w509 [HP.blk B351 [v1, v511, v517] 94, HP.own Ty.raw (fun _ => False) 67 v511 v512, HP.famS (Ty.slice labTy) R508 22 v512 x513, HP.own Ty.bool (fun _ => False) 4 v517 x518] ∧ IsSlice (Ty.slice evtTy) w509 R508 v1 a0 ∧ IsSlice (Ty.slice evtTy) w509 R508 v1 a0 ∧ E_ = [(4, .pointer (some ⟨B351, 0, none⟩)), (38, v1), (39, .int .i64 (a0.length : Int)), (40, .int .i64 x520)]) _ ⟨_, ⟨x465, x360, 0, v463, v464, v359, _, ht471, hS, f462, f461, rfl⟩, Sub.cons rfl (Sub.cons rfl (Sub.cons rfl (Sub.cons rfl (Sub.nil _))))⟩ ?_
        clear ht471 hS
        rintro m471 _ w509 ⟨x513, x518, x520, v511, v512, v517, R508, ht471, hS, f510, f519, rfl⟩
        obtain ⟨m471, rfl, o471, ho471, ht471⟩ := iter_some ht471
        replace ho471 : Track_B1 fuel a0 x513 x518 x520 = some o471 := ho471
        unfold Track_B1 at ho471
        refine e_seq fun K562 hK562 => ?_
        refine e_region_text rfl ?_
        refine q_lss rfl rfl rfl ?_
        refine eseq_nil ?_
        refine hK562 _ _ ?_
        refine e_seq fun K563 hK563 => ?_
        refine e_cond rfl (fun hc564 => ?_) (fun hc564 => ?_)
        · replace ho471 := (if_pos hc564).symm.trans ho471
          refine e_skip ?_
          refine hK563 _ _ ?_
          refine e_seq fun K565 hK565 => ?_
          refine e_block ?_
          refine e_seq fun K566 hK566 => ?_
          refine e_region_text rfl ?_
          refine q_move rfl rfl ?_
          obtain ⟨x567, hx567, ho471⟩ := Option.of_bind ho471
          refine q_atS (by infer_instance) rfl f519 rfl hx567 rfl fun b568 o568 hm568 f568 => ?_
          refine q_loadE rfl f568 rfl (fun v569 f569 => ?_)
          refine q_assign rfl rfl ?_
          refine q_assign rfl rfl ?_
          refine eseq_nil ?_
          refine hK566 _ _ ?_
          refine e_seq fun K570 hK570 => ?_
          refine e_region_text rfl ?_
          refine q_move rfl rfl ?_
          refine q_move rfl rfl ?_
          refine q_move rfl rfl ?_
          refine q_lenS rfl f569 rfl ?_
          obtain ⟨r572, hr572, ho471⟩ := Option.of_bind ho471
          refine q_call rfl (reach_w (Sep.enter (As := [_, _, _, _]) hS) f510 hr572) rfl ?_
          rintro _ w571 ⟨v573, v574, v575, R571, rfl, hC571⟩
          refine ⟨(fun h => by cases h), ?_⟩
          have hk571 := hC571.keptR (Sep.offFeet (As := [_, _, _, _]) hS)
          replace f510 := (f510.kept hk571).mono fun k hk _ => hC571.ro0 k hk
          replace f519 := (f519.kept hk571).mono fun k hk _ => hC571.ro0 k hk
          replace hS := Sep.leave (As := [_, _, _, _]) hS hC571; simp only [List.cons_append, List.nil_append] at hS
          refine q_not rfl rfl ?_
          refine eseq_nil ?_
          refine hK570 _ _ ?_
          refine e_cond rfl (fun hc576 => ?_) (fun hc576 => ?_)
          · replace ho471 := (if_pos hc576).symm.trans ho471
            refine e_seq fun K577 hK577 => ?_
            refine e_region_text rfl ?_
            refine q_assign rfl rfl ?_
            refine q_assign rfl rfl ?_
            refine eseq_nil ?_
            refine hK577 _ _ ?_
            refine e_ret ?_
            replace hS := hS.nilRows (Ty.slice labTy) 22 67
            obtain rfl := Option.some.inj ho471
            obtain rfl := Option.some.inj ht471
            obtain rfl := Option.some.inj h
            exact ⟨_, res2 rfl rfl rfl, (.slice none 0 0), ([] : List Value), _, rfl, (hS.pickB [0, 1] 6 rfl rfl)⟩
          · replace ho471 := (if_neg (not_true hc576)).symm.trans ho471
            refine e_skip ?_
            refine hK565 _ _ ?_
            refine e_region_text rfl ?_
            refine q_addW rfl rfl rfl ?_
            refine q_move rfl rfl ?_
            refine eseq_nil ?_
            obtain rfl := Option.some.inj ho471
            exact ⟨m471, _, Nat.lt_succ_self _, ⟨r572.2.1, r572.2.2, (w64 (x520 + 1)), v573, v574, v575, _, ht471, hS, f510, f519, rfl⟩, Sub.cons rfl (Sub.cons rfl (Sub.cons rfl (Sub.cons rfl (Sub.nil _))))⟩
        · replace ho471 := (if_neg (not_true hc564)).symm.trans ho471
          refine e_exit ?_
          obtain rfl := Option.some.inj ho471
          obtain rfl := Option.some.inj ht471
          exact hX471_2 x513 x518 v511 v512 v517 _ _ _ h hS f510 (Sub.cons rfl (Sub.nil _))
      refine e_loop (fun m_ E_ w411 => ∃ (x416 : (List (List (List Lab)))), ∃ (x420 : Int), ∃ (v414 : Value), ∃ (v415 : List Value), ∃ (R410 : Nat → Prop), iter (fun s => Track_B2 fuel a0 s.1 s.2) m_ (x416, x420) = some tl364 ∧ Sep F R R410 w w411 [HP.blk B351 [v1, v414, v359] 94, HP.own Ty.raw (fun _ => False) 67 v414 v415, HP.famS (Ty.slice labTy) R410 22 v415 x416, HP.own Ty.bool (fun _ => False) 4 v359 x360] ∧ IsSlice (Ty.slice evtTy) w411 R410 v1 a0 ∧ IsSlice (Ty.slice evtTy) w411 R410 v1 a0 ∧ E_ = [(0, v1), (4, .pointer (some ⟨B351, 0, none⟩)), (23, .int .i64 (a0.length : Int)), (24, .int .i64 x420)]) _ ⟨_, ⟨x355, 0, v353, v354, _, ht364, hS, f349, f352, rfl⟩, Sub.cons rfl (Sub.cons rfl (Sub.cons rfl (Sub.cons rfl (Sub.nil _))))⟩ ?_
      clear ht364 hS
      rintro m364 _ w411 ⟨x416, x420, v414, v415, R410, ht364, hS, f412, f413, rfl⟩
      obtain ⟨m364, rfl, o364, ho364, ht364⟩ := iter_some ht364
      replace ho364 : Track_B2 fuel a0 x416 x420 = some o364 := ho364
      unfold Track_B2 at ho364
      refine e_seq fun K580 hK580 => ?_
      refine e_region_text rfl ?_
      refine q_lss rfl rfl rfl ?_
      refine eseq_nil ?_
      refine hK580 _ _ ?_
      refine e_seq fun K581 hK581 => ?_
      refine e_cond rfl (fun hc582 => ?_) (fun hc582 => ?_)
      · replace ho364 := (if_pos hc582).symm.trans ho364
        refine e_skip ?_
        refine hK581 _ _ ?_
        refine e_seq fun K583 hK583 => ?_
        refine e_block ?_
        refine e_seq fun K584 hK584 => ?_
        refine e_region_text rfl ?_
        refine q_move rfl rfl ?_
        refine q_assign rfl rfl ?_
        refine eseq_nil ?_
        refine hK584 _ _ ?_
        refine e_region_draw mixed (fun _ => False) [0, 1, 3, 7, 0, 0, 32, 96, 224, 511, 1023] [7, 8] [0, 1, 2, 3, 4, 5, 6, 7, 8, 9, 10] (by kernel_rfl) ?_
        refine q_move rfl rfl ?_
        refine q_nilCheck rfl rfl ?_
        refine q_field rfl rfl ?_
        refine q_load rfl (Blk.cell (hS.blk 0 rfl) rfl) rfl ?_
        refine q_move rfl rfl ?_
        refine q_move rfl rfl ?_
        refine q_lenS rfl f412 rfl ?_
        obtain ⟨x596, hx596, ho364⟩ := Option.of_bind ho364
        refine q_makeO (T := labTy) (S := (fun _ => False)) rfl rfl rfl hx596 (fun _ h => h.elim) rfl fun w597 v597 ho597 hv597 hB597 => ?_
        replace f412 := f412.ext hB597
        replace f413 := f413.ext hB597
        replace hS := hS.newOwnS hB597 ho597 hv597 (fun _ h => h.elim)
        refine q_litO (T := Ty.raw) (S := (fun _ => False)) (cells := [[v597]]) (ys := [v597]) ((Parts.cons rfl (cells_one (hS.own 0 rfl).one) Parts.nil)) rfl rfl rfl rfl rfl rfl rfl (fun w1 hB => ⟨⟨rfl, (hS.own 0 rfl).one⟩, trivial⟩) (fun _ h => h.elim) rfl fun w599 v599 ho599 hv599 hB599 => ?_
        replace f412 := f412.ext hB599
        replace f413 := f413.ext hB599
        replace hS := hS.newOwnS hB599 ho599 hv599 (fun _ h => h.elim)
        replace hS := hS.pickB [1, 0, 2, 3, 4, 5] 6 rfl rfl; simp only [List.map_cons, List.map_nil, List.getD_cons_zero, List.getD_cons_succ] at hS
        replace hS := hS.famOne
        obtain ⟨x602, hx602, ho364⟩ := Option.of_bind ho364
        have hax602 := ati_nth (hS.famLen 4 rfl) hx602
        refine q_indexO (T := Ty.raw) (by infer_instance) rfl (hS.own 3 rfl) rfl hax602 rfl ?_
        replace hS := hS.pickB [1, 0, 2, 3, 4, 5] 6 rfl rfl; simp only [List.map_cons, List.map_nil, List.getD_cons_zero, List.getD_cons_succ] at hS
        obtain ⟨R604, hS, hm604⟩ := hS.rowsFreeze
        replace f412 := f412.mono fun k hk _ => hm604 k hk
        replace f413 := f413.mono fun k hk _ => hm604 k hk
        replace hS := hS.famMono 3 rfl; simp only [List.set] at hS
        obtain ⟨x606, hx606, ho364⟩ := Option.of_bind ho364
        replace hS := hS.pickB [3, 0, 1, 2, 4] 5 rfl rfl; simp only [List.map_cons, List.map_nil, List.getD_cons_zero, List.getD_cons_succ] at hS
        have hone603 := (hS.own 1 rfl).one
        replace hS := hS.famTake hx602 hx606
        refine q_storeO (T := Ty.raw) (j := 0) rfl rfl (hS.own 2 rfl) hax602 (seti_ok hax602) rfl hone603 rfl (rawSet hone603) fun w603 ho603 hO603 => ?_
        have hk603 := hS.keptO 2 rfl hax602 hO603
        replace f412 := f412.kept hk603
        replace f413 := f413.kept hk603
        replace hS := hS.putO 2 rfl hax602 ho603 hO603; simp only [List.set] at hS
        refine eseq_nil ?_
        refine hK583 _ _ ?_
        refine e_region_text rfl ?_
        refine q_addW rfl rfl rfl ?_
        refine q_move rfl rfl ?_
        refine eseq_nil ?_
        obtain rfl := Option.some.inj ho364
        exact ⟨m364, _, Nat.lt_succ_self _, ⟨x606, (w64 (x420 + 1)), v414, (v415.set (x420).toNat v599), _, ht364, (hS.pickB [1, 2, 0, 3] 4 rfl rfl), f412, f413, rfl⟩, Sub.cons rfl (Sub.cons rfl (Sub.cons rfl (Sub.cons rfl (Sub.nil _))))⟩
      · replace ho364 := (if_neg (not_true hc582)).symm.trans ho364
        refine e_exit ?_
        obtain rfl := Option.some.inj ho364
        obtain rfl := Option.some.inj ht364
        exact hX364_0 x416 v414 v415 _ _ _ h hS f412 f413 (Sub.cons rfl (Sub.cons rfl (Sub.nil _)))
    obtain ⟨x324, hx324, h⟩ := Option.of_bind h
    obtain ⟨x328, hx328, h⟩ := Option.of_bind h
    refine e_region_T mixed (fun _ => False) [0, 0, 2, 6, 0, 16, 48, 127, 255, 511] [] (QT.op 0 (QT.op 1 (QT.op 2 (QT.op 4 (QT.op 5 (QT.alt (QT.op 3 (QT.op 6 (QT.op 7 (QT.op 8 (QT.op 9 QT.fin))))) (QT.op 6 (QT.op 3 (QT.op 7 (QT.op 8 (QT.op 9 QT.fin))))))))))) (by kernel_rfl) ?_
    refine t_op ?_
    refine q_move rfl rfl ?_
    refine eseq_nil ?_
    refine t_op ?_
    refine q_move rfl rfl ?_
    refine eseq_nil ?_
    refine t_op ?_
    refine q_lenS rfl f1 rfl ?_
    refine eseq_nil ?_
    refine t_op ?_
    refine q_move rfl rfl ?_
    refine eseq_nil ?_
    refine t_op ?_
    refine q_lenS rfl f1 rfl ?_
    refine eseq_nil ?_
    refine t_alt ?_ ?_
    · skip
      refine t_op ?_
      refine q_makeO (T := Ty.raw) (S := (fun _ => False)) rfl rfl rfl (mkL_raw hx324) (fun _ h => h.elim) rfl fun w607 v607 ho607 hv607 hB607 => ?_
      replace f1 := f1.ext hB607
      replace hS := (hS.famNilsM (Ty.slice labTy) 22 (fun _ h => h) hx324).newOwnS hB607 ho607 hv607 (fun _ h => h.elim)
      refine eseq_nil ?_
      refine t_op ?_
      refine q_makeO (T := Ty.bool) (S := (fun _ => False)) rfl rfl rfl hx328 (fun _ h => h.elim) rfl fun w610 v610 ho610 hv610 hB610 => ?_
      replace f1 := f1.ext hB610
      replace hS := hS.newOwnS hB610 ho610 hv610 (fun _ h => h.elim)
      refine eseq_nil ?_
      refine t_op ?_
      refine q_build (Parts.cons rfl (cells_one f1.one) (Parts.cons rfl (cells_one (hS.own 1 rfl).one) (Parts.cons rfl (cells_one (hS.own 0 rfl).one) Parts.nil))) rfl rfl ?_
      refine eseq_nil ?_
      refine t_op ?_
      refine q_boxB rfl rfl rfl fun w612 bl612 hg612 hb612 hB612 => ?_
      replace f1 := f1.ext hB612
      replace hS := hS.newBlk hB612 hg612 hb612
      refine eseq_nil ?_
      refine t_op ?_
      refine q_assign rfl rfl ?_
      refine eseq_nil ?_
      refine t_fin ?_
      exact hJt361 x324 x328 bl612 v607 (List.replicate ((a0.length : Int)).toNat (.slice none 0 0)) v610 _ _ _ h (hS.pickB [0, 2, 3, 1] 5 rfl rfl) f1 f1 (Sub.cons rfl (Sub.cons rfl (Sub.nil _)))
    · skip
      refine t_op ?_
      refine q_makeO (T := Ty.bool) (S := (fun _ => False)) rfl rfl rfl hx328 (fun _ h => h.elim) rfl fun w614 v614 ho614 hv614 hB614 => ?_
      replace f1 := f1.ext hB614
      replace hS := hS.newOwnS hB614 ho614 hv614 (fun _ h => h.elim)
      refine eseq_nil ?_
      refine t_op ?_
      refine q_makeO (T := Ty.raw) (S := (fun _ => False)) rfl rfl rfl (mkL_raw hx324) (fun _ h => h.elim) rfl fun w616 v616 ho616 hv616 hB616 => ?_
      replace f1 := f1.ext hB616
      replace hS := (hS.famNilsM (Ty.slice labTy) 22 (fun _ h => h) hx324).newOwnS hB616 ho616 hv616 (fun _ h => h.elim)
      refine eseq_nil ?_
      refine t_op ?_
      refine q_build (Parts.cons rfl (cells_one f1.one) (Parts.cons rfl (cells_one (hS.own 0 rfl).one) (Parts.cons rfl (cells_one (hS.own 2 rfl).one) Parts.nil))) rfl rfl ?_
      refine eseq_nil ?_
      refine t_op ?_
      refine q_boxB rfl rfl rfl fun w619 bl619 hg619 hb619 hB619 => ?_
      replace f1 := f1.ext hB619
      replace hS := hS.newBlk hB619 hg619 hb619
      refine eseq_nil ?_
      refine t_op ?_
      refine q_assign rfl rfl ?_
      refine eseq_nil ?_
      refine t_fin ?_
      exact hJt361 x324 x328 bl619 v616 (List.replicate ((a0.length : Int)).toNat (.slice none 0 0)) v614 _ _ _ h (hS.pickB [0, 1, 2, 3] 5 rfl rfl) f1 f1 (Sub.cons rfl (Sub.cons rfl (Sub.nil _)))
theorem law32_awake_w {F R : Nat → Prop} {w : World} {fuel : Nat} {r : (Bool)} (hS : Sep F R R w w []) (h : law32_awake fuel = some r) :
    Gives Try.prog 11 [] w fun u w1 => ∃ (R1 : Nat → Prop), u = .bool r ∧ Sep F R R1 w w1 [] := by
  refine fn_of Try.func11 rfl Try.ntmps11 (Nat.le_of_ble_eq_true rfl) ?_
  unfold law32_awake at h
  refine e_seq fun K56 hK56 => ?_
  refine e_region_text rfl ?_
  refine q_assign rfl rfl ?_
  refine eseq_nil ?_
  refine hK56 _ _ ?_
  refine e_seq fun K57 hK57 => ?_
  refine e_region_text rfl ?_
  refine q_build (Parts.cons rfl rfl Parts.nil) rfl rfl ?_
  refine q_build (Parts.cons rfl rfl Parts.nil) rfl rfl ?_
  refine q_litO (T := evtTy) (S := (fun _ => False)) (cells := [[.int .i64 2, .int .i64 0, .int .i64 0, .int .i64 0, .int .i64 0, .int .i64 0, .int .i64 0], [.int .i64 2, .int .i64 0, .int .i64 0, .int .i64 0, .int .i64 0, .int .i64 0, .int .i64 0]]) (ys := [(⟨2, 0, 0, (⟨0, 0⟩ : Lab), 0, 0⟩ : Evt), (⟨2, 0, 0, (⟨0, 0⟩ : Lab), 0, 0⟩ : Evt)]) ((Parts.cons rfl rfl (Parts.cons rfl rfl Parts.nil))) rfl rfl rfl rfl rfl rfl rfl (fun w1 hB => ⟨⟨[_], _, rfl, rfl, ⟨[_], _, rfl, rfl, ⟨[_], _, rfl, rfl, ⟨[_, _], _, rfl, ⟨[_], _, rfl, rfl, rfl⟩, ⟨[_], _, rfl, rfl, rfl⟩⟩⟩⟩⟩, ⟨[_], _, rfl, rfl, ⟨[_], _, rfl, rfl, ⟨[_], _, rfl, rfl, ⟨[_, _], _, rfl, ⟨[_], _, rfl, rfl, rfl⟩, ⟨[_], _, rfl, rfl, rfl⟩⟩⟩⟩⟩, trivial⟩) (fun _ h => h.elim) rfl fun w58 v58 ho58 hv58 hB58 => ?_
  replace hS := hS.newOwnS hB58 ho58 hv58 (fun _ h => h.elim)
  refine q_build (Parts.cons rfl rfl Parts.nil) rfl rfl ?_
  refine q_build (Parts.cons rfl rfl (Parts.cons rfl rfl (Parts.cons rfl rfl Parts.nil))) rfl rfl ?_
  refine q_litO (T := evtTy) (S := (fun _ => False)) (cells := [[.int .i64 1, .int .i64 0, .int .i64 0, .int .i64 0, .int .i64 2, .int .i64 0, .int .i64 0]]) (ys := [(⟨1, 0, 0, (⟨0, 2⟩ : Lab), 0, 0⟩ : Evt)]) ((Parts.cons rfl rfl Parts.nil)) rfl rfl rfl rfl rfl rfl rfl (fun w1 hB => ⟨⟨[_], _, rfl, rfl, ⟨[_], _, rfl, rfl, ⟨[_], _, rfl, rfl, ⟨[_, _], _, rfl, ⟨[_], _, rfl, rfl, rfl⟩, ⟨[_], _, rfl, rfl, rfl⟩⟩⟩⟩⟩, trivial⟩) (fun _ h => h.elim) rfl fun w60 v60 ho60 hv60 hB60 => ?_
  replace hS := hS.newOwnS hB60 ho60 hv60 (fun _ h => h.elim)
  refine q_litO (T := Ty.raw) (S := (fun _ => False)) (cells := [[v58], [v60]]) (ys := [v58, v60]) ((Parts.cons rfl (cells_one (hS.own 1 rfl).one) (Parts.cons rfl (cells_one (hS.own 0 rfl).one) Parts.nil))) rfl rfl rfl rfl rfl rfl rfl (fun w1 hB => ⟨⟨rfl, (hS.own 1 rfl).one⟩, ⟨rfl, (hS.own 0 rfl).one⟩, trivial⟩) (fun _ h => h.elim) rfl fun w62 v62 ho62 hv62 hB62 => ?_
  replace hS := hS.newOwnS hB62 ho62 hv62 (fun _ h => h.elim)
  replace hS := hS.pickB [2, 0, 1] 3 rfl rfl; simp only [List.map_cons, List.map_nil, List.getD_cons_zero, List.getD_cons_succ] at hS
  replace hS := hS.famOne
  replace hS := hS.pickB [2, 0, 1] 3 rfl rfl; simp only [List.map_cons, List.map_nil, List.getD_cons_zero, List.getD_cons_succ] at hS
  replace hS := hS.famOne
  replace hS := hS.pickB [1, 0, 2] 3 rfl rfl; simp only [List.map_cons, List.map_nil, List.getD_cons_zero, List.getD_cons_succ] at hS
  replace hS := hS.famCat; simp only [List.cons_append, List.nil_append] at hS
  refine q_assign rfl rfl ?_
  refine eseq_nil ?_
  refine hK57 _ _ ?_
  refine e_seq fun K67 hK67 => ?_
  refine e_region_text rfl ?_
  refine q_move rfl rfl ?_
  replace hS := hS.pickB [1, 0] 2 rfl rfl; simp only [List.map_cons, List.map_nil, List.getD_cons_zero, List.getD_cons_succ] at hS
  obtain ⟨R69, hS, hm69⟩ := hS.rowsFreeze
  obtain ⟨R71, hS, hm71, f71⟩ := hS.freezeOwn 0 rfl; simp only [List.eraseIdx] at hS
  obtain ⟨r72, hr72, h⟩ := Option.of_bind h
  refine q_call rfl (Track_w (Sep.enter (As := []) hS) f71 hr72) rfl ?_
  rintro _ w68 ⟨v73, v74, R68, rfl, hC68⟩
  have hB68 : Below (World.heap w62).size w62 w68 := hC68.stepB0
  refine ⟨fun _ => .of_below hB68, ?_⟩
  replace f71 := (f71.ext hB68).mono fun k hk _ => hC68.ro0 k hk
  replace hS := Sep.leave (As := []) hS hC68; simp only [List.cons_append, List.nil_append] at hS
  refine q_move rfl rfl ?_
  refine q_extract rfl rfl rfl ?_
  refine q_extract rfl rfl rfl ?_
  refine q_assign rfl rfl ?_
  refine q_assign rfl rfl ?_
  refine eseq_nil ?_
  refine hK67 _ _ ?_
  refine e_seq fun K75 hK75 => ?_
  refine e_region_text rfl ?_
  refine q_move rfl rfl ?_
  refine q_move rfl rfl ?_
  obtain ⟨x77, hx76, h⟩ := Option.of_bind h
  refine g_andM 3 hx76 rfl trivial rfl rfl ?_ ?_ ?_
  · intro hg76 hx76
    clear h
    have hT76 := Below.refl (World.heap w68).size w68
    refine g_run rfl ?_; refine q_move rfl rfl ?_
    refine g_run rfl ?_; refine q_lenR rfl (hS.own 0 rfl) (hS.famLen 1 rfl) rfl ?_
    refine g_run rfl ?_; refine q_eql rfl rfl rfl ?_
    cases hx76
    exact eseq_nil ⟨hT76, Sub.set rfl (Sub.set rfl (Sub.set rfl (Sub.bool true rfl hg76))), rfl⟩
  · intro hg76
    refine g_skip rfl rfl rfl ?_
    refine g_skip rfl rfl rfl ?_
    refine g_skip rfl rfl rfl ?_
    exact eseq_nil ⟨rfl, Sub.set rfl (Sub.set rfl (Sub.set rfl (Sub.bool false rfl hg76)))⟩
  intro wm76 hBm76; clear hx76
  replace hS := hS.below hBm76
  replace f71 := f71.ext hBm76
  refine q_move rfl rfl ?_
  obtain ⟨x79, hx78, h⟩ := Option.of_bind h
  refine g_andM 5 hx78 rfl trivial rfl rfl ?_ ?_ ?_
  · intro hg78 hx78
    clear h
    have hT78 := Below.refl (World.heap wm76).size wm76
    refine g_run rfl ?_; refine q_move rfl rfl ?_
    obtain ⟨x80, hx80, hx78⟩ := Option.of_bind hx78
    have hax80 := ati_nth (hS.famLen 1 rfl) hx80
    refine g_run rfl ?_; refine q_indexO (T := Ty.raw) (by infer_instance) rfl (hS.own 0 rfl) rfl hax80 rfl ?_
    refine g_run rfl ?_; refine q_load rfl (Elt.rawCell ((hS.own 0 rfl).elt hax80)) rfl ?_
    refine g_run rfl ?_; refine q_lenS rfl (hS.famI 1 rfl hx80) rfl ?_
    refine g_run rfl ?_; refine q_eql rfl rfl rfl ?_
    cases hx78
    exact eseq_nil ⟨hT78, Sub.set rfl (Sub.set rfl (Sub.set rfl (Sub.set rfl (Sub.set rfl (Sub.bool true rfl hg78))))), rfl⟩
  · intro hg78
    refine g_skip rfl rfl rfl ?_
    refine g_skip rfl rfl rfl ?_
    refine g_skip rfl rfl rfl ?_
    refine g_skip rfl rfl rfl ?_
    refine g_skip rfl rfl rfl ?_
    exact eseq_nil ⟨rfl, Sub.set rfl (Sub.set rfl (Sub.set rfl (Sub.set rfl (Sub.set rfl (Sub.bool false rfl hg78)))))⟩
  intro wm78 hBm78; clear hx78
  replace hS := hS.below hBm78
  replace f71 := f71.ext hBm78
  refine q_move rfl rfl ?_
  obtain ⟨x82, hx81, h⟩ := Option.of_bind h
  refine g_andM 9 hx81 rfl trivial rfl rfl ?_ ?_ ?_
  · intro hg81 hx81
    clear h
    have hT81 := Below.refl (World.heap wm78).size wm78
    refine g_run rfl ?_; refine q_move rfl rfl ?_
    obtain ⟨x83, hx83, hx81⟩ := Option.of_bind hx81
    have hax83 := ati_nth (hS.famLen 1 rfl) hx83
    refine g_run rfl ?_; refine q_indexO (T := Ty.raw) (by infer_instance) rfl (hS.own 0 rfl) rfl hax83 rfl ?_
    refine g_run rfl ?_; refine q_load rfl (Elt.rawCell ((hS.own 0 rfl).elt hax83)) rfl ?_
    obtain ⟨x84, hx84, hx81⟩ := Option.of_bind hx81
    refine g_run rfl ?_; refine q_indexO (by infer_instance) rfl (hS.famO 1 rfl hx83) rfl hx84 rfl ?_
    have f85 := (hS.famOR 1 rfl hx83).elt hx84
    refine g_run rfl ?_; refine q_loadE rfl f85 rfl (fun v86 f86 => ?_)
    refine g_run rfl ?_; refine q_build (Parts.cons rfl rfl Parts.nil) rfl rfl ?_
    refine g_run rfl ?_; refine q_build (Parts.cons rfl rfl Parts.nil) rfl rfl ?_
    refine g_run rfl ?_; refine q_litO (T := labTy) (S := (fun _ => False)) (cells := [[.int .i64 0, .int .i64 2], [.int .i64 0, .int .i64 1]]) (ys := [(⟨0, 2⟩ : Lab), (⟨0, 1⟩ : Lab)]) ((Parts.cons rfl rfl (Parts.cons rfl rfl Parts.nil))) rfl rfl rfl rfl rfl rfl rfl (fun w1 hB => ⟨⟨[_], _, rfl, rfl, rfl⟩, ⟨[_], _, rfl, rfl, rfl⟩, trivial⟩) (fun _ h => h.elim) rfl fun w87 v87 ho87 hv87 hB87 => ?_
    replace f71 := f71.ext hB87
    replace f86 := f86.ext hB87
    replace hT81 := hT81.trans (Below.mono hB87 hT81.size)
    replace hS := hS.newOwnS hB87 ho87 hv87 (fun _ h => h.elim)
    obtain ⟨r90, hr90, hx81⟩ := Option.of_bind hx81
    refine g_run rfl ?_; refine q_call rfl (ref32_SameLabels_w (Sep.all w87) (f86).old ((hS.isl 0 rfl)).old hr90) rfl ?_
    rintro _ w89 ⟨R89, rfl, hC89⟩
    have hB89 : Below (World.heap w87).size w87 w89 := hC89.stepBF
    refine ⟨fun _ => .of_below hB89, ?_⟩
    replace f71 := f71.ext hB89
    replace f86 := f86.ext hB89
    replace hT81 := hT81.trans (Below.mono hB89 hT81.size)
    replace hS := hS.below hB89
    cases hx81
    exact eseq_nil ⟨hT81, Sub.set rfl (Sub.set rfl (Sub.set rfl (Sub.set rfl (Sub.set rfl (Sub.set rfl (Sub.set rfl (Sub.set rfl (Sub.set rfl (Sub.bool true rfl hg81))))))))), rfl⟩
  · intro hg81
    refine g_skip rfl rfl rfl ?_
    refine g_skip rfl rfl rfl ?_
    refine g_skip rfl rfl rfl ?_
    refine g_skip rfl rfl rfl ?_
    refine g_skip rfl rfl rfl ?_
    refine g_skip rfl rfl rfl ?_
    refine g_skip rfl rfl rfl ?_
    refine g_skip rfl rfl rfl ?_
    refine g_skip rfl rfl rfl ?_
    exact eseq_nil ⟨rfl, Sub.set rfl (Sub.set rfl (Sub.set rfl (Sub.set rfl (Sub.set rfl (Sub.set rfl (Sub.set rfl (Sub.set rfl (Sub.set rfl (Sub.bool false rfl hg81)))))))))⟩
  intro wm81 hBm81; clear hx81
  replace hS := hS.below hBm81
  replace f71 := f71.ext hBm81
  refine q_move rfl rfl ?_
  obtain ⟨x92, hx91, h⟩ := Option.of_bind h
  refine g_andM 5 hx91 rfl trivial rfl rfl ?_ ?_ ?_
  · intro hg91 hx91
    clear h
    have hT91 := Below.refl (World.heap wm81).size wm81
    refine g_run rfl ?_; refine q_move rfl rfl ?_
    refine g_run rfl ?_; refine q_litO (T := Ty.int) (S := (fun _ => False)) (cells := [[.int .i64 1], [.int .i64 1]]) (ys := [1, 1]) ((Parts.cons rfl rfl (Parts.cons rfl rfl Parts.nil))) rfl rfl rfl rfl rfl rfl rfl (fun w1 hB => ⟨rfl, rfl, trivial⟩) (fun _ h => h.elim) rfl fun w93 v93 ho93 hv93 hB93 => ?_
    replace f71 := f71.ext hB93
    replace hT91 := hT91.trans (Below.mono hB93 hT91.size)
    replace hS := hS.newOwnS hB93 ho93 hv93 (fun _ h => h.elim)
    obtain ⟨r96, hr96, hx91⟩ := Option.of_bind hx91
    refine g_run rfl ?_; refine q_call rfl (orphan_Lower_w (Sep.all w93) (f71).old ((hS.isl 0 rfl)).old hr96) rfl ?_
    rintro v97 w95 ⟨_, R95, rfl, hC95⟩
    have hB95 : Below (World.heap w93).size w93 w95 := hC95.stepBF
    refine ⟨fun _ => .of_below hB95, ?_⟩
    replace f71 := f71.ext hB95
    replace hT91 := hT91.trans (Below.mono hB95 hT91.size)
    replace hS := hS.newOwnS hB95 (hC95.own 0 rfl) (hC95.fresh 0 rfl) (fun _ h => h.elim)
    refine g_run rfl ?_; refine q_litO (T := Ty.int) (S := (fun _ => False)) (cells := [[.int .i64 1], [.int .i64 0]]) (ys := [1, 0]) ((Parts.cons rfl rfl (Parts.cons rfl rfl Parts.nil))) rfl rfl rfl rfl rfl rfl rfl (fun w1 hB => ⟨rfl, rfl, trivial⟩) (fun _ h => h.elim) rfl fun w98 v98 ho98 hv98 hB98 => ?_
    replace hT91 := hT91.trans (Below.mono hB98 hT91.size)
    replace hS := hS.newOwnS hB98 ho98 hv98 (fun _ h => h.elim)
    obtain ⟨r101, hr101, hx91⟩ := Option.of_bind hx91
    refine g_run rfl ?_; refine q_call rfl (ref23_SameInts_w (Sep.all w98) ((hS.isl 1 rfl)).old ((hS.isl 0 rfl)).old hr101) rfl ?_
    rintro _ w100 ⟨R100, rfl, hC100⟩
    have hB100 : Below (World.heap w98).size w98 w100 := hC100.stepBF
    refine ⟨fun _ => .of_below hB100, ?_⟩
    replace hT91 := hT91.trans (Below.mono hB100 hT91.size)
    replace hS := hS.below hB100
    cases hx91
    exact eseq_nil ⟨hT91, Sub.set rfl (Sub.set rfl (Sub.set rfl (Sub.set rfl (Sub.set rfl (Sub.bool true rfl hg91))))), rfl⟩
  · intro hg91
    refine g_skip rfl rfl rfl ?_
    refine g_skip rfl rfl rfl ?_
    refine g_skip rfl rfl rfl ?_
    refine g_skip rfl rfl rfl ?_
    refine g_skip rfl rfl rfl ?_
    exact eseq_nil ⟨rfl, Sub.set rfl (Sub.set rfl (Sub.set rfl (Sub.set rfl (Sub.set rfl (Sub.bool false rfl hg91)))))⟩
  intro wm91 hBm91; clear hx91
  replace hS := hS.below hBm91
  refine q_move rfl rfl ?_
  obtain ⟨x103, hx102, h⟩ := Option.of_bind h
  refine g_andM 8 hx102 rfl trivial rfl rfl ?_ ?_ ?_
  · intro hg102 hx102
    clear h
    have hT102 := Below.refl (World.heap wm91).size wm91
    refine g_run rfl ?_; refine q_build (Parts.cons rfl rfl Parts.nil) rfl rfl ?_
    refine g_run rfl ?_; refine q_litO (T := endITy) (S := (fun _ => False)) (cells := [[.int .i64 0, .int .i64 0, .int .i64 1]]) (ys := [(⟨0, 0, 1⟩ : EndI)]) ((Parts.cons rfl rfl Parts.nil)) rfl rfl rfl rfl rfl rfl rfl (fun w1 hB => ⟨⟨[_], _, rfl, rfl, ⟨[_], _, rfl, rfl, rfl⟩⟩, trivial⟩) (fun _ h => h.elim) rfl fun w104 v104 ho104 hv104 hB104 => ?_
    replace hT102 := hT102.trans (Below.mono hB104 hT102.size)
    replace hS := hS.newOwnS hB104 ho104 hv104 (fun _ h => h.elim)
    refine g_run rfl ?_; refine q_move rfl rfl ?_
    obtain ⟨x106, hx106, hx102⟩ := Option.of_bind hx102
    have hax106 := ati_nth (hS.famLen 2 rfl) hx106
    refine g_run rfl ?_; refine q_indexO (T := Ty.raw) (by infer_instance) rfl (hS.own 1 rfl) rfl hax106 rfl ?_
    refine g_run rfl ?_; refine q_load rfl (Elt.rawCell ((hS.own 1 rfl).elt hax106)) rfl ?_
    obtain ⟨x107, hx107, hx102⟩ := Option.of_bind hx102
    refine g_run rfl ?_; refine q_indexO (by infer_instance) rfl (hS.famO 2 rfl hx106) rfl hx107 rfl ?_
    have f108 := (hS.famOR 2 rfl hx106).elt hx107
    refine g_run rfl ?_; refine q_loadE rfl f108 rfl (fun v109 f109 => ?_)
    obtain ⟨r111, hr111, hx102⟩ := Option.of_bind hx102
    refine g_run rfl ?_; refine q_call rfl (orphan_Orphan_w (Sep.all w104) ((hS.isl 0 rfl)).old (f109).old hr111) rfl ?_
    rintro _ w110 ⟨R110, rfl, hC110⟩
    have hB110 : Below (World.heap w104).size w104 w110 := hC110.stepBF
    refine ⟨fun _ => .of_below hB110, ?_⟩
    replace f109 := f109.ext hB110
    replace hT102 := hT102.trans (Below.mono hB110 hT102.size)
    replace hS := hS.below hB110
    cases hx102
    exact eseq_nil ⟨hT102, Sub.set rfl (Sub.set rfl (Sub.set rfl (Sub.set rfl (Sub.set rfl (Sub.set rfl (Sub.set rfl (Sub.set rfl (Sub.bool true rfl hg102)))))))), rfl⟩
  · intro hg102
    refine g_skip rfl rfl rfl ?_
    refine g_skip rfl rfl rfl ?_
    refine g_skip rfl rfl rfl ?_
    refine g_skip rfl rfl rfl ?_
    refine g_skip rfl rfl rfl ?_
    refine g_skip rfl rfl rfl ?_
    refine g_skip rfl rfl rfl ?_
    refine g_skip rfl rfl rfl ?_
    exact eseq_nil ⟨rfl, Sub.set rfl (Sub.set rfl (Sub.set rfl (Sub.set rfl (Sub.set rfl (Sub.set rfl (Sub.set rfl (Sub.set rfl (Sub.bool false rfl hg102))))))))⟩
  intro wm102 hBm102; clear hx102
  replace hS := hS.below hBm102
  refine q_assign rfl rfl ?_
  refine eseq_nil ?_
  refine hK75 _ _ ?_
  refine e_ret ?_
  obtain rfl := Option.some.inj h
  exact ⟨_, res1 rfl rfl, _, rfl, (hS.pickB [] 2 rfl rfl)⟩
end Go.Proofs.Ytghjjkdfjmnfeaa
