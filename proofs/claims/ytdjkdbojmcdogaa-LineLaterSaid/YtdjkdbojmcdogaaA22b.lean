/- Printed walks: A22b. -/
import Derived.Test.YtdjkdbojmcdogaaA22a
import Derived.Test.YtdjkdbojmcdogaaApat
import Derived.Test.YtdjkdbojmcdogaaA18r
set_option linter.unusedVariables false
set_option linter.unusedSimpArgs false
namespace Go.Mine
open Go.RowKit
def make_Mod (fuel : Nat) (a0 : Int) (a1 : Int) : Option (Int) :=
  (remI a0 a1).bind fun x11 => (if (decide (x11 < 0)) = true then some (w64 (x11 + a1)) else some x11)
def make_Codes_Allowed_K1 (fuel : Nat) (x2355 : Int) (x2358 : (List (List Int))) : Option ((List (List Int)) × Int) :=
  some (x2358, x2355)
def make_Codes_Allowed_K2 (fuel : Nat) (x1872 : (List (List Int))) (x1875 : Int) (x2752 : Int) (x2760 : (List Int)) : Option ((Int × (List (List Int)) × Int) ⊕ (Int × (List (List Int)))) :=
  (snoc x1872 x2760).bind fun x2765 => some (Sum.inl (x2752, x2765, (w64 (x1875 + 1))))
def make_Codes_Allowed_B2 (fuel : Nat) (a1 : Pat) (x1875 : Int) (c0_0 : (List Int)) (x2561 : Int) (x2569 : (List Int)) (x2570 : Int) : Option ((Int × (List Int) × Int) ⊕ (Int × (List Int))) :=
  (ati a1.lens x1875).bind fun x2769 => (if (decide (x2570 ≤ x2769)) = true then (if (x2570 == 0) = true then (make_Codes_Next fuel 8 c0_0 x2561).bind fun r2780 => (if (r2780.1 != 7) = true then (if true = true then (snoc x2569 x2570).bind fun x2792 => some (Sum.inl (r2780.2, x2792, (w64 (x2570 + 1)))) else some (Sum.inl (r2780.2, x2569, (w64 (x2570 + 1))))) else (if (decide (0 < x2570)) = true then (make_Codes_Next fuel 3 c0_0 r2780.2).bind fun r2799 => (if (r2799.1 == 1) = true then (snoc x2569 x2570).bind fun x2804 => some (Sum.inl (r2799.2, x2804, (w64 (x2570 + 1)))) else some (Sum.inl (r2799.2, x2569, (w64 (x2570 + 1))))) else (if false = true then (snoc x2569 x2570).bind fun x2809 => some (Sum.inl (r2780.2, x2809, (w64 (x2570 + 1)))) else some (Sum.inl (r2780.2, x2569, (w64 (x2570 + 1))))))) else (if (decide (0 < x2570)) = true then (make_Codes_Next fuel 3 c0_0 x2561).bind fun r2816 => (if (r2816.1 == 1) = true then (snoc x2569 x2570).bind fun x2821 => some (Sum.inl (r2816.2, x2821, (w64 (x2570 + 1)))) else some (Sum.inl (r2816.2, x2569, (w64 (x2570 + 1))))) else (if false = true then (snoc x2569 x2570).bind fun x2826 => some (Sum.inl (x2561, x2826, (w64 (x2570 + 1)))) else some (Sum.inl (x2561, x2569, (w64 (x2570 + 1))))))) else some (Sum.inr (x2561, x2569)))
def make_Codes_Allowed_B1 (fuel : Nat) (a1 : Pat) (c0_0 : (List Int)) (x1866 : Int) (x1872 : (List (List Int))) (x1875 : Int) : Option ((Int × (List (List Int)) × Int) ⊕ (Int × (List (List Int)))) :=
  (if (decide (x1875 < (a1.lens.length : Int))) = true then (iter (fun s => make_Codes_Allowed_B2 fuel a1 x1875 c0_0 s.1 s.2.1 s.2.2) fuel (x1866, ([] : List Int), 0)).bind (fun t => make_Codes_Allowed_K2 fuel x1872 x1875 t.1 t.2) else some (Sum.inr (x1866, x1872)))
def make_Codes_Allowed (fuel : Nat) (a1 : Pat) (c0_0 : (List Int)) (c0_1 : Int) : Option ((List (List Int)) × Int) :=
  (iter (fun s => make_Codes_Allowed_B1 fuel a1 c0_0 s.1 s.2.1 s.2.2) fuel (c0_1, ([] : List (List Int)), 0)).bind (fun t => make_Codes_Allowed_K1 fuel t.1 t.2)
def make_Codes_Cut_K1 (fuel : Nat) (x236 : Int) (x239 : (List Int)) : Option ((List Int) × Int) :=
  some (x239, x236)
def make_Codes_Cut_B1 (fuel : Nat) (a1 : Pat) (c0_0 : (List Int)) (x190 : Int) (x196 : (List Int)) (x197 : Int) : Option ((Int × (List Int) × Int) ⊕ (Int × (List Int))) :=
  (if (decide (x197 < (a1.lens.length : Int))) = true then (ati a1.lens x197).bind fun x256 => (ati a1.lens x197).bind fun x258 => (make_Codes_Next fuel (w64 (x258 + 1)) c0_0 x190).bind fun r261 => (snoc x196 (w64 (x256 - r261.1))).bind fun x265 => some (Sum.inl (r261.2, x265, (w64 (x197 + 1)))) else some (Sum.inr (x190, x196)))
def make_Codes_Cut (fuel : Nat) (a1 : Pat) (c0_0 : (List Int)) (c0_1 : Int) : Option ((List Int) × Int) :=
  (iter (fun s => make_Codes_Cut_B1 fuel a1 c0_0 s.1 s.2.1 s.2.2) fuel (c0_1, ([] : List Int), 0)).bind (fun t => make_Codes_Cut_K1 fuel t.1 t.2)
def make_Codes_Procs_K1 (fuel : Nat) (x165 : Int) (x168 : (List Int)) : Option ((List Int) × Int) :=
  some (x168, x165)
def make_Codes_Procs_B1 (fuel : Nat) (a1 : Int) (c0_0 : (List Int)) (x131 : Int) (x134 : (List Int)) (x135 : Int) : Option ((Int × (List Int) × Int) ⊕ (Int × (List Int))) :=
  (if (decide (x135 < a1)) = true then (make_Codes_Next fuel 2 c0_0 x131).bind fun r177 => (if (r177.1 == 1) = true then (snoc x134 x135).bind fun x182 => some (Sum.inl (r177.2, x182, (w64 (x135 + 1)))) else some (Sum.inl (r177.2, x134, (w64 (x135 + 1))))) else some (Sum.inr (x131, x134)))
def make_Codes_Procs (fuel : Nat) (a1 : Int) (c0_0 : (List Int)) (c0_1 : Int) : Option ((List Int) × Int) :=
  (iter (fun s => make_Codes_Procs_B1 fuel a1 c0_0 s.1 s.2.1 s.2.2) fuel (c0_1, ([] : List Int), 0)).bind (fun t => make_Codes_Procs_K1 fuel t.1 t.2)
def ref03_SameInts_K1 (fuel : Nat) : Option (Bool) :=
  some true
def ref03_SameInts_B1 (fuel : Nat) (a0 : (List Int)) (a1 : (List Int)) (x99 : Int) : Option ((Int) ⊕ (Unit ⊕ (Bool))) :=
  (if (decide (x99 < (a0.length : Int))) = true then (ati a0 x99).bind fun x124 => (ati a1 x99).bind fun x126 => (if (x124 != x126) = true then some (Sum.inr (Sum.inr false)) else some (Sum.inl (w64 (x99 + 1)))) else some (Sum.inr (Sum.inl ())))
def ref03_SameInts (fuel : Nat) (a0 : (List Int)) (a1 : (List Int)) : Option (Bool) :=
  (if ((a0.length : Int) != (a1.length : Int)) = true then some false else (iter (fun s => ref03_SameInts_B1 fuel a0 a1 s) fuel 0).bind (fun t => Sum.elim (fun t => ref03_SameInts_K1 fuel) (fun t => some t) t))
def ref22_below_K1 (fuel : Nat) (x121 : Int) : Option (Int) :=
  some x121
def ref22_below_B1 (fuel : Nat) (a0 : (List Int)) (a1 : Int) (x98 : Int) (x99 : Int) : Option ((Int × Int) ⊕ (Int)) :=
  (if (decide (x99 < (a0.length : Int))) = true then (ati a0 x99).bind fun x128 => (if (decide (x128 < a1)) = true then (ati a0 x99).bind fun x131 => some (Sum.inl ((max x98 x131), (w64 (x99 + 1)))) else some (Sum.inl (x98, (w64 (x99 + 1))))) else some (Sum.inr x98))
def ref22_below (fuel : Nat) (a0 : (List Int)) (a1 : Int) : Option (Int) :=
  (iter (fun s => ref22_below_B1 fuel a0 a1 s.1 s.2) fuel ((-1), 0)).bind (fun t => ref22_below_K1 fuel t)
def ref22_above_K1 (fuel : Nat) (x181 : Int) : Option (Int) :=
  some x181
def ref22_above_B1 (fuel : Nat) (a0 : (List Int)) (a1 : Int) (x146 : Int) (x147 : Int) : Option ((Int × Int) ⊕ (Int)) :=
  (if (decide (x147 < (a0.length : Int))) = true then (ati a0 x147).bind fun x188 => (andM (decide (a1 ≤ x188)) ((orM (decide (x146 < 0)) ((ati a0 x147).bind fun x200 => some (decide (x200 < x146)))).bind fun x199 => some x199)).bind fun x197 => (if x197 = true then (ati a0 x147).bind fun x203 => some (Sum.inl (x203, (w64 (x147 + 1)))) else some (Sum.inl (x146, (w64 (x147 + 1))))) else some (Sum.inr x146))
def ref22_above (fuel : Nat) (a0 : (List Int)) (a1 : Int) : Option (Int) :=
  (iter (fun s => ref22_above_B1 fuel a0 a1 s.1 s.2) fuel ((-1), 0)).bind (fun t => ref22_above_K1 fuel t)
def ref22_in_K1 (fuel : Nat) : Option (Bool) :=
  some false
def ref22_in_B1 (fuel : Nat) (a0 : (List Int)) (a1 : Int) (x75 : Int) : Option ((Int) ⊕ (Unit ⊕ (Bool))) :=
  (if (decide (x75 < (a0.length : Int))) = true then (ati a0 x75).bind fun x97 => (if (x97 == a1) = true then some (Sum.inr (Sum.inr true)) else some (Sum.inl (w64 (x75 + 1)))) else some (Sum.inr (Sum.inl ())))
def ref22_in (fuel : Nat) (a0 : (List Int)) (a1 : Int) : Option (Bool) :=
  (iter (fun s => ref22_in_B1 fuel a0 a1 s) fuel 0).bind (fun t => Sum.elim (fun t => ref22_in_K1 fuel) (fun t => some t) t)
def ref22_Greatest_B1 (fuel : Nat) (a0 : Pat) (a1 : (List (List Int))) (x426 : (List Int)) : Option (((List Int)) ⊕ ((List Int) × Bool)) :=
  (ref18_Orphans fuel (⟨a0.lens, a0.ckpts, a0.arcs⟩ : Pat) x426).bind fun r476 => (if ((r476.length : Int) == 0) = true then some (Sum.inr (x426, true)) else (ati r476 0).bind fun x491 => (ati a0.arcs x491).bind fun x493 => (ati a1 x493.to).bind fun x500 => (ref22_below fuel x500 x493.rcv).bind fun r504 => (if (decide (r504 < 0)) = true then some (Sum.inr (([] : List Int), false)) else (ati x426 x493.to).bind fun x510 => (seti x426 x493.to r504).bind fun x512 => some (Sum.inl x512)))
def ref22_Greatest_K1 (fuel : Nat) (a0 : Pat) (a1 : (List (List Int))) (x362 : (List Int)) : Option ((List Int) × Bool) :=
  (iter (fun s => ref22_Greatest_B1 fuel a0 a1 s) fuel x362).bind (fun t => some t)
def ref22_Greatest_B2 (fuel : Nat) (a0 : Pat) (a1 : (List (List Int))) (x322 : (List Int)) (x323 : Int) : Option (((List Int) × Int) ⊕ (((List Int)) ⊕ ((List Int) × Bool))) :=
  (if (decide (x323 < (a0.lens.length : Int))) = true then (ati a1 x323).bind fun x519 => (ati a0.lens x323).bind fun x522 => (ref22_below fuel x519 (w64 (x522 + 1))).bind fun r525 => (if (decide (r525 < 0)) = true then some (Sum.inr (Sum.inr (([] : List Int), false))) else (snoc x322 r525).bind fun x534 => some (Sum.inl (x534, (w64 (x323 + 1))))) else some (Sum.inr (Sum.inl x322)))
def ref22_Greatest (fuel : Nat) (a0 : Pat) (a1 : (List (List Int))) : Option ((List Int) × Bool) :=
  (iter (fun s => ref22_Greatest_B2 fuel a0 a1 s.1 s.2) fuel (([] : List Int), 0)).bind (fun t => Sum.elim (fun t => ref22_Greatest_K1 fuel a0 a1 t) (fun t => some t) t)
def ref22_Least_B1 (fuel : Nat) (a0 : Pat) (a1 : (List (List Int))) (x435 : (List Int)) : Option (((List Int)) ⊕ ((List Int) × Bool)) :=
  (ref18_Orphans fuel (⟨a0.lens, a0.ckpts, a0.arcs⟩ : Pat) x435).bind fun r485 => (if ((r485.length : Int) == 0) = true then some (Sum.inr (x435, true)) else (ati r485 0).bind fun x500 => (ati a0.arcs x500).bind fun x502 => (ati a1 x502.fr).bind fun x509 => (ref22_above fuel x509 x502.ix).bind fun r513 => (if (decide (r513 < 0)) = true then some (Sum.inr (([] : List Int), false)) else (ati x435 x502.fr).bind fun x519 => (seti x435 x502.fr r513).bind fun x521 => some (Sum.inl x521)))
def ref22_Least_K1 (fuel : Nat) (a0 : Pat) (a1 : (List (List Int))) (x371 : (List Int)) : Option ((List Int) × Bool) :=
  (iter (fun s => ref22_Least_B1 fuel a0 a1 s) fuel x371).bind (fun t => some t)
def ref22_Least_B2 (fuel : Nat) (a0 : Pat) (a1 : (List (List Int))) (a2 : (List Int)) (x330 : (List Int)) (x331 : Int) : Option (((List Int) × Int) ⊕ (((List Int)) ⊕ ((List Int) × Bool))) :=
  (if (decide (x331 < (a0.lens.length : Int))) = true then (ati a1 x331).bind fun x528 => (ati a2 x331).bind fun x531 => (ref22_above fuel x528 x531).bind fun r534 => (if (decide (r534 < 0)) = true then some (Sum.inr (Sum.inr (([] : List Int), false))) else (snoc x330 r534).bind fun x543 => some (Sum.inl (x543, (w64 (x331 + 1))))) else some (Sum.inr (Sum.inl x330)))
def ref22_Least (fuel : Nat) (a0 : Pat) (a1 : (List (List Int))) (a2 : (List Int)) : Option ((List Int) × Bool) :=
  (iter (fun s => ref22_Least_B2 fuel a0 a1 a2 s.1 s.2) fuel (([] : List Int), 0)).bind (fun t => Sum.elim (fun t => ref22_Least_K1 fuel a0 a1 t) (fun t => some t) t)
def ref22_Allowed_K1 (fuel : Nat) (x480 : (List (List Int))) : Option ((List (List Int))) :=
  some x480
def ref22_Allowed_J1 (fuel : Nat) (x388 : (List (List Int))) (x391 : Int) (x530 : (List Int)) : Option (((List (List Int)) × Int) ⊕ ((List (List Int)))) :=
  (snoc x388 x530).bind fun x535 => some (Sum.inl (x535, (w64 (x391 + 1))))
def ref22_Allowed_B1 (fuel : Nat) (a0 : Pat) (a1 : (List Int)) (x388 : (List (List Int))) (x391 : Int) : Option (((List (List Int)) × Int) ⊕ ((List (List Int)))) :=
  (if (decide (x391 < (a0.lens.length : Int))) = true then (ati a0.ckpts x391).bind fun x491 => (catL ([] : List Int) x491).bind fun x496 => (ref22_in fuel a1 x391).bind fun r538 => (andM (!r538) ((ati a0.lens x391).bind fun x547 => (ref22_in fuel x496 x547).bind fun r550 => some (!r550))).bind fun x546 => (if x546 = true then (ati a0.lens x391).bind fun x552 => (snoc x496 x552).bind fun x557 => ref22_Allowed_J1 fuel x388 x391 x557 else ref22_Allowed_J1 fuel x388 x391 x496) else some (Sum.inr x388))
def ref22_Allowed (fuel : Nat) (a0 : Pat) (a1 : (List Int)) : Option ((List (List Int))) :=
  (iter (fun s => ref22_Allowed_B1 fuel a0 a1 s.1 s.2) fuel (([] : List (List Int)), 0)).bind (fun t => ref22_Allowed_K1 fuel t)
def ref22_Failure (fuel : Nat) (a0 : Pat) (a1 : (List Int)) : Option ((List Int)) :=
  (ref22_Allowed fuel (⟨a0.lens, a0.ckpts, a0.arcs⟩ : Pat) a1).bind fun r37 => (ref22_Greatest fuel (⟨a0.lens, a0.ckpts, a0.arcs⟩ : Pat) r37).bind fun r41 => some r41.1
def ref22_Sets_K1 (fuel : Nat) (x583 : (List (List Int))) : Option ((List (List Int))) :=
  some x583
def ref22_Sets_K2 (fuel : Nat) (a1 : Int) (x465 : (List (List Int))) (x468 : Int) (x666 : (List Int)) : Option (((List (List Int)) × Int) ⊕ ((List (List Int)))) :=
  (if (decide ((x666.length : Int) ≤ a1)) = true then (snoc x465 x666).bind fun x673 => some (Sum.inl (x673, (w64 (x468 + 1)))) else some (Sum.inl (x465, (w64 (x468 + 1)))))
def ref22_Sets_B2 (fuel : Nat) (a0 : Int) (x468 : Int) (x633 : (List Int)) (x634 : Int) : Option (((List Int) × Int) ⊕ ((List Int))) :=
  (if (decide (x634 < a0)) = true then (shrK .i64 x468 (wrK .u64 x634)).bind fun x680 => (if ((andK .i64 x680 1) == 1) = true then (snoc x633 x634).bind fun x685 => some (Sum.inl (x685, (w64 (x634 + 1)))) else some (Sum.inl (x633, (w64 (x634 + 1))))) else some (Sum.inr x633))
def ref22_Sets_B1 (fuel : Nat) (a0 : Int) (a1 : Int) (x465 : (List (List Int))) (x468 : Int) : Option (((List (List Int)) × Int) ⊕ ((List (List Int)))) :=
  (shlK .i64 1 (wrK .u64 a0)).bind fun x591 => (if (decide (x468 < x591)) = true then (iter (fun s => ref22_Sets_B2 fuel a0 x468 s.1 s.2) fuel (([] : List Int), 0)).bind (fun t => ref22_Sets_K2 fuel a1 x465 x468 t) else some (Sum.inr x465))
def ref22_Sets (fuel : Nat) (a0 : Int) (a1 : Int) : Option ((List (List Int))) :=
  (orM (decide (a0 < 0)) (some (decide (16 < a0)))).bind fun x350 => (orM x350 (some (decide (a1 < 0)))).bind fun x354 => (if x354 = true then some ([] : List (List Int)) else (iter (fun s => ref22_Sets_B1 fuel a0 a1 s.1 s.2) fuel (([] : List (List Int)), 0)).bind (fun t => ref22_Sets_K1 fuel t))
def ref22_Safe_K1 (fuel : Nat) (x197 : (List Int)) : Option ((List Int)) :=
  some x197
def ref22_Safe_B1 (fuel : Nat) (r113 : ((List (List Int)))) (a0 : Pat) (x169 : (List Int)) (x170 : Int) : Option (((List Int) × Int) ⊕ ((List Int))) :=
  (if (decide (x170 < (r113.length : Int))) = true then (ati r113 x170).bind fun x203 => (ref22_Failure fuel (⟨a0.lens, a0.ckpts, a0.arcs⟩ : Pat) x203).bind fun r205 => (ref18_Meet fuel x169 r205).bind fun r208 => some (Sum.inl (r208, (w64 (x170 + 1)))) else some (Sum.inr x169))
def ref22_Safe (fuel : Nat) (a0 : Pat) (a1 : Int) : Option ((List Int)) :=
  (ref22_Sets fuel (a0.lens.length : Int) a1).bind fun r113 => (if ((r113.length : Int) == 0) = true then (mkL (a0.lens.length : Int) (0 : Int)).bind fun x120 => some x120 else (catL ([] : List Int) a0.lens).bind fun x126 => (iter (fun s => ref22_Safe_B1 fuel r113 a0 s.1 s.2) fuel (x126, 0)).bind (fun t => ref22_Safe_K1 fuel t))
def ref22_SameLists_K1 (fuel : Nat) : Option (Bool) :=
  some true
def ref22_SameLists_K2 (fuel : Nat) (x451 : Int) : Option ((Int) ⊕ (Unit ⊕ (Bool))) :=
  some (Sum.inl (w64 (x451 + 1)))
def ref22_SameLists_B2 (fuel : Nat) (a0 : (List (List Int))) (x451 : Int) (a1 : (List (List Int))) (x608 : Int) : Option ((Int) ⊕ (Unit ⊕ (Bool))) :=
  (ati a0 x451).bind fun x640 => (if (decide (x608 < (x640.length : Int))) = true then (ati a0 x451).bind fun x646 => (ati x646 x608).bind fun x649 => (ati a1 x451).bind fun x651 => (ati x651 x608).bind fun x654 => (if (x649 != x654) = true then some (Sum.inr (Sum.inr false)) else some (Sum.inl (w64 (x608 + 1)))) else some (Sum.inr (Sum.inl ())))
def ref22_SameLists_B1 (fuel : Nat) (a0 : (List (List Int))) (a1 : (List (List Int))) (x451 : Int) : Option ((Int) ⊕ (Unit ⊕ (Bool))) :=
  (if (decide (x451 < (a0.length : Int))) = true then (ati a0 x451).bind fun x565 => (ati a1 x451).bind fun x568 => (if ((x565.length : Int) != (x568.length : Int)) = true then some (Sum.inr (Sum.inr false)) else (iter (fun s => ref22_SameLists_B2 fuel a0 x451 a1 s) fuel 0).bind (fun t => Sum.elim (fun t => ref22_SameLists_K2 fuel x451) (fun t => some (Sum.inr (Sum.inr t))) t)) else some (Sum.inr (Sum.inl ())))
def ref22_SameLists (fuel : Nat) (a0 : (List (List Int))) (a1 : (List (List Int))) : Option (Bool) :=
  (if ((a0.length : Int) != (a1.length : Int)) = true then some false else (iter (fun s => ref22_SameLists_B1 fuel a0 a1 s) fuel 0).bind (fun t => Sum.elim (fun t => ref22_SameLists_K1 fuel) (fun t => some t) t))
def law22_in_K1 (fuel : Nat) : Option (Bool) :=
  some false
def law22_in_B1 (fuel : Nat) (a0 : (List Int)) (a1 : Int) (x79 : Int) : Option ((Int) ⊕ (Unit ⊕ (Bool))) :=
  (if (decide (x79 < (a0.length : Int))) = true then (ati a0 x79).bind fun x103 => (if (x103 == a1) = true then some (Sum.inr (Sum.inr true)) else some (Sum.inl (w64 (x79 + 1)))) else some (Sum.inr (Sum.inl ())))
def law22_in (fuel : Nat) (a0 : (List Int)) (a1 : Int) : Option (Bool) :=
  (iter (fun s => law22_in_B1 fuel a0 a1 s) fuel 0).bind (fun t => Sum.elim (fun t => law22_in_K1 fuel) (fun t => some t) t)
end Go.Mine
namespace Go.Proofs.Ytdjkdbojmcdogaa
open Go.RowKit Go.Mine
attribute [local irreducible] eseq ewp iter
theorem make_Mod_w {F R : Nat → Prop} {w : World} {fuel : Nat} {a0 : Int} {a1 : Int} {r : (Int)} (hS : Sep F R R w w []) (h : make_Mod fuel a0 a1 = some r) :
    Gives Try.prog 12 [.int .i64 a0, .int .i64 a1] w fun u w1 => ∃ (R1 : Nat → Prop), u = .int .i64 r ∧ Sep F R R1 w w1 [] := by
  refine fn_of Try.func12 rfl Try.ntmps12 (Nat.le_of_ble_eq_true rfl) ?_
  unfold make_Mod at h
  refine e_seq fun K9 hK9 => ?_
  refine e_region_text rfl ?_
  refine q_assign rfl rfl ?_
  refine eseq_nil ?_
  refine hK9 _ _ ?_
  refine e_seq fun K10 hK10 => ?_
  refine e_region_text rfl ?_
  refine q_move rfl rfl ?_
  refine q_move rfl rfl ?_
  obtain ⟨x11, hx11, h⟩ := Option.of_bind h
  refine q_remM rfl rfl hx11 rfl ?_
  refine q_assign rfl rfl ?_
  refine eseq_nil ?_
  refine hK10 _ _ ?_
  refine e_seq fun K12 hK12 => ?_
  refine e_seq fun K13 hK13 => ?_
  refine e_region_text rfl ?_
  refine q_move rfl rfl ?_
  refine q_lss rfl rfl rfl ?_
  refine eseq_nil ?_
  refine hK13 _ _ ?_
  refine e_cond rfl (fun hc14 => ?_) (fun hc14 => ?_)
  · replace h := (if_pos hc14).symm.trans h
    refine e_region_text rfl ?_
    refine q_move rfl rfl ?_
    refine q_move rfl rfl ?_
    refine q_addW rfl rfl rfl ?_
    refine q_assign rfl rfl ?_
    refine eseq_nil ?_
    refine hK12 _ _ ?_
    refine e_seq fun K15 hK15 => ?_
    refine e_region_text rfl ?_
    refine q_move rfl rfl ?_
    refine q_assign rfl rfl ?_
    refine eseq_nil ?_
    refine hK15 _ _ ?_
    refine e_ret ?_
    obtain rfl := Option.some.inj h
    exact ⟨_, res1 rfl rfl, _, rfl, hS⟩
  · replace h := (if_neg (not_true hc14)).symm.trans h
    refine e_skip ?_
    refine hK12 _ _ ?_
    refine e_seq fun K16 hK16 => ?_
    refine e_region_text rfl ?_
    refine q_move rfl rfl ?_
    refine q_assign rfl rfl ?_
    refine eseq_nil ?_
    refine hK16 _ _ ?_
    refine e_ret ?_
    obtain rfl := Option.some.inj h
    exact ⟨_, res1 rfl rfl, _, rfl, hS⟩
theorem make_Codes_Allowed_w {F R : Nat → Prop} {w : World} {fuel : Nat} {a1 : Pat} {c0_0 : (List Int)} {c0_1 : Int} {v1 : Value} {v2 : Value} {v3 : Value} {B0 : Nat} {v5 : Value} {r : ((List (List Int)) × Int)} (hS : Sep F R R w w [HP.blk B0 [v5, .int .i64 c0_1] 62]) (f1 : IsSlice Ty.int w R v1 a1.lens) (f2 : IsSlice (Ty.slice Ty.int) w R v2 a1.ckpts) (f3 : IsSlice arcTy w R v3 a1.arcs) (f5 : IsSlice Ty.u8 w R v5 c0_0) (h : make_Codes_Allowed fuel a1 c0_0 c0_1 = some r) :
    Gives Try.prog 18 [.pointer (some ⟨B0, 0, none⟩), .agg #[v1, v2, v3]] w fun u w1 => ∃ (v1416 : Value), ∃ (v1417 : List Value), ∃ (R1 : Nat → Prop), u = v1416 ∧ Sep F R R1 w w1 [HP.blk B0 [v5, .int .i64 r.2] 62, HP.own Ty.raw (fun _ => False) 29 v1416 v1417, HP.famS Ty.int (fun _ => False) 3 v1417 r.1] := by
  refine fn_of Try.func18 rfl Try.ntmps18 (Nat.le_of_ble_eq_true rfl) ?_
  unfold make_Codes_Allowed at h
  refine e_seq fun K1418 hK1418 => ?_
  refine e_region_text rfl ?_
  refine q_boxB rfl rfl rfl fun w1419 bl1419 hg1419 hb1419 hB1419 => ?_
  replace f5 := f5.ext hB1419
  replace f1 := f1.ext hB1419
  replace f2 := f2.ext hB1419
  replace f3 := f3.ext hB1419
  replace hS := hS.newBlk hB1419 hg1419 hb1419
  refine q_assign rfl rfl ?_
  refine eseq_nil ?_
  refine hK1418 _ _ ?_
  refine e_seq fun K1421 hK1421 => ?_
  refine e_region_text rfl ?_
  refine q_assign rfl rfl ?_
  refine eseq_nil ?_
  refine hK1421 _ _ ?_
  refine e_seq fun K1422 hK1422 => ?_
  refine e_seq fun K1423 hK1423 => ?_
  refine e_region_text rfl ?_
  refine q_assign rfl rfl ?_
  refine eseq_nil ?_
  refine hK1423 _ _ ?_
  refine e_block ?_
  obtain ⟨tl1424, ht1424, h⟩ := Option.of_bind h
  have hX1424_0 : ∀ (x2355 : Int) (x2358 : (List (List Int))) (v2356 : Value) (v2357 : List Value) (R2352 : Nat → Prop) (w2353 : World) (E_ : Env), make_Codes_Allowed_K1 fuel x2355 x2358 = some r → Sep F R R2352 w w2353 [HP.blk B0 [v5, .int .i64 x2355] 62, HP.own Ty.raw (fun _ => False) 29 v2356 v2357, HP.famS Ty.int (fun _ => False) 3 v2357 x2358] → IsSlice Ty.u8 w2353 R2352 v5 c0_0 → Sub [(5, v2356)] E_ → K1422 E_ w2353 := by
    intro x2355 x2358 v2356 v2357 R2352 w2353 E_ h hS f2354 hsub
    refine hK1422 _ _ (e_sub hsub ?_); clear hsub
    unfold make_Codes_Allowed_K1 at h
    refine e_seq fun K2361 hK2361 => ?_
    refine e_region_text rfl ?_
    refine q_move rfl rfl ?_
    refine q_assign rfl rfl ?_
    refine eseq_nil ?_
    refine hK2361 _ _ ?_
    refine e_ret ?_
    obtain rfl := Option.some.inj h
    exact ⟨_, res1 rfl rfl, v2356, v2357, _, rfl, hS⟩
  replace hS := hS.nilRows0 Ty.int 3 29
  refine e_loop (fun m_ E_ w1864 => ∃ (x1866 : Int), ∃ (x1872 : (List (List Int))), ∃ (x1875 : Int), ∃ (v1870 : Value), ∃ (v1871 : List Value), ∃ (R1863 : Nat → Prop), iter (fun s => make_Codes_Allowed_B1 fuel a1 c0_0 s.1 s.2.1 s.2.2) m_ (x1866, x1872, x1875) = some tl1424 ∧ Sep F R R1863 w w1864 [HP.blk B0 [v5, .int .i64 x1866] 62, HP.blk bl1419 [v1, v2, v3] 32, HP.own Ty.raw (fun _ => False) 29 v1870 v1871, HP.famS Ty.int (fun _ => False) 3 v1871 x1872] ∧ IsSlice Ty.u8 w1864 R1863 v5 c0_0 ∧ IsSlice Ty.int w1864 R1863 v1 a1.lens ∧ IsSlice (Ty.slice Ty.int) w1864 R1863 v2 a1.ckpts ∧ IsSlice arcTy w1864 R1863 v3 a1.arcs ∧ E_ = [(0, .pointer (some ⟨B0, 0, none⟩)), (3, .pointer (some ⟨bl1419, 0, none⟩)), (5, v1870), (6, .int .i64 x1875)]) _ ⟨_, ⟨c0_1, ([] : List (List Int)), 0, (.slice none 0 0), ([] : List Value), _, ht1424, (hS.pickB [3, 2, 0, 1] 4 rfl rfl), f5, f1, f2, f3, rfl⟩, Sub.cons rfl (Sub.cons rfl (Sub.cons rfl (Sub.cons rfl (Sub.nil _))))⟩ ?_
  clear ht1424 hS
  rintro m1424 _ w1864 ⟨x1866, x1872, x1875, v1870, v1871, R1863, ht1424, hS, f1865, f1867, f1868, f1869, rfl⟩
  obtain ⟨m1424, rfl, o1424, ho1424, ht1424⟩ := iter_some ht1424
  replace ho1424 : make_Codes_Allowed_B1 fuel a1 c0_0 x1866 x1872 x1875 = some o1424 := ho1424
  unfold make_Codes_Allowed_B1 at ho1424
  refine e_seq fun K2364 hK2364 => ?_
  refine e_seq fun K2365 hK2365 => ?_
  refine e_region_text rfl ?_
  refine q_move rfl rfl ?_
  refine q_field rfl rfl ?_
  refine q_load rfl (Blk.cell (hS.blk 1 rfl) rfl) rfl ?_
  refine q_lenS rfl f1867 rfl ?_
  refine q_lss rfl rfl rfl ?_
  refine eseq_nil ?_
  refine hK2365 _ _ ?_
  refine e_cond rfl (fun hc2366 => ?_) (fun hc2366 => ?_)
  · replace ho1424 := (if_pos hc2366).symm.trans ho1424
    refine e_skip ?_
    refine hK2364 _ _ ?_
    refine e_seq fun K2367 hK2367 => ?_
    refine e_block ?_
    refine e_seq fun K2368 hK2368 => ?_
    refine e_region_text rfl ?_
    refine q_assign rfl rfl ?_
    refine eseq_nil ?_
    refine hK2368 _ _ ?_
    refine e_seq fun K2369 hK2369 => ?_
    refine e_seq fun K2370 hK2370 => ?_
    refine e_region_text rfl ?_
    refine q_assign rfl rfl ?_
    refine eseq_nil ?_
    refine hK2370 _ _ ?_
    refine e_block ?_
    obtain ⟨tl2371, ht2371, ho1424⟩ := Option.of_bind ho1424
    have hX2371_2 : ∀ (x2752 : Int) (x2760 : (List Int)) (v2759 : Value) (R2749 : Nat → Prop) (w2750 : World) (E_ : Env), make_Codes_Allowed_K2 fuel x1872 x1875 x2752 x2760 = some o1424 → Sep F R R2749 w w2750 [HP.blk B0 [v5, .int .i64 x2752] 62, HP.blk bl1419 [v1, v2, v3] 32, HP.own Ty.raw (fun _ => False) 29 v1870 v1871, HP.famS Ty.int (fun _ => False) 3 v1871 x1872, HP.own Ty.int (fun _ => False) 3 v2759 x2760] → IsSlice Ty.u8 w2750 R2749 v5 c0_0 → IsSlice Ty.int w2750 R2749 v1 a1.lens → IsSlice (Ty.slice Ty.int) w2750 R2749 v2 a1.ckpts → IsSlice arcTy w2750 R2749 v3 a1.arcs → Sub [(0, .pointer (some ⟨B0, 0, none⟩)), (3, .pointer (some ⟨bl1419, 0, none⟩)), (5, v1870), (6, .int .i64 x1875), (7, v2759)] E_ → K2369 E_ w2750 := by
      intro x2752 x2760 v2759 R2749 w2750 E_ ho1424 hS f2751 f2753 f2754 f2755 hsub
      refine hK2369 _ _ (e_sub hsub ?_); clear hsub
      unfold make_Codes_Allowed_K2 at ho1424
      refine e_region_text rfl ?_
      refine q_move rfl rfl ?_
      refine q_move rfl rfl ?_
      refine q_litO (T := Ty.raw) (S := (fun _ => False)) (cells := [[v2759]]) (ys := [v2759]) ((Parts.cons rfl (cells_one (hS.own 4 rfl).one) Parts.nil)) rfl rfl rfl rfl rfl rfl rfl (fun w1 hB => ⟨⟨rfl, (hS.own 4 rfl).one⟩, trivial⟩) (fun _ h => h.elim) rfl fun w2761 v2761 ho2761 hv2761 hB2761 => ?_
      replace f2751 := f2751.ext hB2761
      replace f2753 := f2753.ext hB2761
      replace f2754 := f2754.ext hB2761
      replace f2755 := f2755.ext hB2761
      replace hS := hS.newOwnS hB2761 ho2761 hv2761 (fun _ h => h.elim)
      replace hS := hS.pickB [5, 0, 1, 2, 3, 4] 6 rfl rfl; simp only [List.map_cons, List.map_nil, List.getD_cons_zero, List.getD_cons_succ] at hS
      replace hS := hS.famOne
      obtain ⟨x2765, hx2765, ho1424⟩ := Option.of_bind ho1424
      obtain ⟨hcr2764, hce2764⟩ := catL_raw (hS.famLen 5 rfl) (hS.famLen 0 rfl) (snoc_cat hx2765)
      refine q_catOwn (T := Ty.raw) rfl rfl rfl rfl (hS.own 4 rfl) rfl (hS.own 1 rfl) (fun _ h _ => h.elim) hcr2764 (Nat.zero_le _) rfl (fun h => by cases h) fun v2764 w2764 hw2764 hgr2764 hnw2764 => ?_
      have hk2764 := hS.keptOwn 4 rfl hgr2764
      replace f2751 := f2751.kept hk2764
      replace f2753 := f2753.kept hk2764
      replace f2754 := f2754.kept hk2764
      replace f2755 := f2755.kept hk2764
      replace hS := hS.setOwn 4 rfl hw2764 hgr2764 hnw2764; simp only [List.set] at hS
      replace hS := hS.pickB [5, 0, 1, 2, 3, 4] 6 rfl rfl; simp only [List.map_cons, List.map_nil, List.getD_cons_zero, List.getD_cons_succ] at hS
      replace hS := hS.famCat; rw [hce2764] at hS
      refine q_assign rfl rfl ?_
      refine eseq_nil ?_
      refine hK2367 _ _ ?_
      refine e_region_text rfl ?_
      refine q_move rfl rfl ?_
      refine q_addW rfl rfl rfl ?_
      refine q_assign rfl rfl ?_
      refine eseq_nil ?_
      obtain rfl := Option.some.inj ho1424
      exact ⟨m1424, _, Nat.lt_succ_self _, ⟨x2752, x2765, (w64 (x1875 + 1)), v2764, (v1871 ++ ([v2759])), _, ht1424, (hS.pickB [2, 3, 4, 0] 5 rfl rfl), f2751, f2753, f2754, f2755, rfl⟩, Sub.cons rfl (Sub.cons rfl (Sub.cons rfl (Sub.cons rfl (Sub.nil _))))⟩
    replace hS := hS.nilOwn0 Ty.int 3
    refine e_loop (fun m_ E_ w2559 => ∃ (x2561 : Int), ∃ (x2569 : (List Int)), ∃ (x2570 : Int), ∃ (v2568 : Value), ∃ (R2558 : Nat → Prop), iter (fun s => make_Codes_Allowed_B2 fuel a1 x1875 c0_0 s.1 s.2.1 s.2.2) m_ (x2561, x2569, x2570) = some tl2371 ∧ Sep F R R2558 w w2559 [HP.blk B0 [v5, .int .i64 x2561] 62, HP.blk bl1419 [v1, v2, v3] 32, HP.own Ty.raw (fun _ => False) 29 v1870 v1871, HP.famS Ty.int (fun _ => False) 3 v1871 x1872, HP.own Ty.int (fun _ => False) 3 v2568 x2569] ∧ IsSlice Ty.u8 w2559 R2558 v5 c0_0 ∧ IsSlice Ty.int w2559 R2558 v1 a1.lens ∧ IsSlice (Ty.slice Ty.int) w2559 R2558 v2 a1.ckpts ∧ IsSlice arcTy w2559 R2558 v3 a1.arcs ∧ E_ = [(0, .pointer (some ⟨B0, 0, none⟩)), (3, .pointer (some ⟨bl1419, 0, none⟩)), (5, v1870), (6, .int .i64 x1875), (7, v2568), (8, .int .i64 x2570)]) _ ⟨_, ⟨x1866, ([] : List Int), 0, (.slice none 0 0), _, ht2371, (hS.pickB [1, 2, 3, 4, 0] 5 rfl rfl), f1865, f1867, f1868, f1869, rfl⟩, Sub.cons rfl (Sub.cons rfl (Sub.cons rfl (Sub.cons rfl (Sub.cons rfl (Sub.cons rfl (Sub.nil _))))))⟩ ?_
    clear ht2371 hS
    rintro m2371 _ w2559 ⟨x2561, x2569, x2570, v2568, R2558, ht2371, hS, f2560, f2562, f2563, f2564, rfl⟩
    obtain ⟨m2371, rfl, o2371, ho2371, ht2371⟩ := iter_some ht2371
    replace ho2371 : make_Codes_Allowed_B2 fuel a1 x1875 c0_0 x2561 x2569 x2570 = some o2371 := ho2371
    unfold make_Codes_Allowed_B2 at ho2371
    refine e_seq fun K2767 hK2767 => ?_
    refine e_seq fun K2768 hK2768 => ?_
    refine e_region_text rfl ?_
    refine q_move rfl rfl ?_
    refine q_field rfl rfl ?_
    refine q_load rfl (Blk.cell (hS.blk 1 rfl) rfl) rfl ?_
    refine q_move rfl rfl ?_
    obtain ⟨x2769, hx2769, ho2371⟩ := Option.of_bind ho2371
    refine q_atS (by infer_instance) rfl f2562 rfl hx2769 rfl fun b2770 o2770 hm2770 f2770 => ?_
    refine q_load rfl (Elt.intCell f2770) rfl ?_
    refine q_leq rfl rfl rfl ?_
    refine eseq_nil ?_
    refine hK2768 _ _ ?_
    refine e_cond rfl (fun hc2771 => ?_) (fun hc2771 => ?_)
    · replace ho2371 := (if_pos hc2771).symm.trans ho2371
      refine e_skip ?_
      refine hK2767 _ _ ?_
      refine e_seq fun K2772 hK2772 => ?_
      refine e_block ?_
      refine e_seq fun K2773 hK2773 => ?_
      refine e_region_text rfl ?_
      refine q_move rfl rfl ?_
      refine q_eql rfl rfl rfl ?_
      refine q_move rfl rfl ?_
      refine g_split (s := 27) rfl (fun hc2778 => ?_) (fun hc2778 => ?_)
      · replace ho2371 := (if_pos hc2778).symm.trans ho2371
        refine g_run rfl ?_; refine q_move rfl rfl ?_
        obtain ⟨r2780, hr2780, ho2371⟩ := Option.of_bind ho2371
        refine g_run rfl ?_; refine q_call rfl (make_Codes_Next_w (Sep.enter (As := [_]) hS) f2560 hr2780) rfl ?_
        rintro _ w2779 ⟨R2779, rfl, hC2779⟩
        refine ⟨(fun h => by cases h), ?_⟩
        have hk2779 := hC2779.keptR (Sep.offFeet (As := [_]) hS)
        replace f2560 := (f2560.kept hk2779).mono fun k hk _ => hC2779.ro0 k hk
        replace f2562 := (f2562.kept hk2779).mono fun k hk _ => hC2779.ro0 k hk
        replace f2563 := (f2563.kept hk2779).mono fun k hk _ => hC2779.ro0 k hk
        replace f2564 := (f2564.kept hk2779).mono fun k hk _ => hC2779.ro0 k hk
        replace hS := Sep.leave (As := [_]) hS hC2779; simp only [List.cons_append, List.nil_append] at hS
        refine g_run rfl ?_; refine q_neq rfl rfl rfl ?_
        refine q_pick_true rfl rfl rfl ?_
        refine q_move rfl rfl ?_
        refine g_split (s := 32) rfl (fun hc2787 => ?_) (fun hc2787 => ?_)
        · replace ho2371 := (if_pos hc2787).symm.trans ho2371
          refine g_skip rfl rfl rfl ?_
          refine g_skip rfl rfl rfl ?_
          refine g_skip rfl rfl rfl ?_
          refine g_skipU rfl rfl ?_
          refine g_skipU rfl rfl ?_
          refine g_skipU rfl rfl ?_
          refine g_skip rfl rfl rfl ?_
          refine q_pick_true rfl rfl rfl ?_
          refine eseq_nil ?_
          refine hK2773 _ _ ?_
          refine e_cond rfl (fun hc2788 => ?_) (fun hc2788 => ?_)
          · replace ho2371 := (if_pos hc2788).symm.trans ho2371
            refine e_region_text rfl ?_
            refine q_move rfl rfl ?_
            refine q_move rfl rfl ?_
            refine q_litO (T := Ty.int) (S := (fun _ => False)) (cells := [[.int .i64 x2570]]) (ys := [x2570]) ((Parts.cons rfl rfl Parts.nil)) rfl rfl rfl rfl rfl rfl rfl (fun w1 hB => ⟨rfl, trivial⟩) (fun _ h => h.elim) rfl fun w2789 v2789 ho2789 hv2789 hB2789 => ?_
            replace f2560 := f2560.ext hB2789
            replace f2562 := f2562.ext hB2789
            replace f2563 := f2563.ext hB2789
            replace f2564 := f2564.ext hB2789
            replace hS := hS.newOwnS hB2789 ho2789 hv2789 (fun _ h => h.elim)
            obtain ⟨x2792, hx2792, ho2371⟩ := Option.of_bind ho2371
            refine q_catOwn (T := Ty.int) rfl rfl rfl rfl (hS.own 5 rfl) rfl (hS.own 0 rfl) (fun _ h _ => h.elim) (snoc_cat hx2792) (Nat.zero_le _) rfl (fun h => by cases h) fun v2791 w2791 hw2791 hgr2791 hnw2791 => ?_
            have hk2791 := hS.keptOwn 5 rfl hgr2791
            replace f2560 := f2560.kept hk2791
            replace f2562 := f2562.kept hk2791
            replace f2563 := f2563.kept hk2791
            replace f2564 := f2564.kept hk2791
            replace hS := hS.setOwn 5 rfl hw2791 hgr2791 hnw2791; simp only [List.set] at hS
            refine q_assign rfl rfl ?_
            refine eseq_nil ?_
            refine hK2772 _ _ ?_
            refine e_region_text rfl ?_
            refine q_move rfl rfl ?_
            refine q_addW rfl rfl rfl ?_
            refine q_assign rfl rfl ?_
            refine eseq_nil ?_
            obtain rfl := Option.some.inj ho2371
            exact ⟨m2371, _, Nat.lt_succ_self _, ⟨r2780.2, x2792, (w64 (x2570 + 1)), v2791, _, ht2371, (hS.pickB [1, 2, 3, 4, 5] 6 rfl rfl), f2560, f2562, f2563, f2564, rfl⟩, Sub.cons rfl (Sub.cons rfl (Sub.cons rfl (Sub.cons rfl (Sub.cons rfl (Sub.cons rfl (Sub.nil _))))))⟩
          · replace ho2371 := (if_neg (not_true hc2788)).symm.trans ho2371
            refine e_skip ?_
            refine hK2772 _ _ ?_
            refine e_region_text rfl ?_
            refine q_move rfl rfl ?_
            refine q_addW rfl rfl rfl ?_
            refine q_assign rfl rfl ?_
            refine eseq_nil ?_
            obtain rfl := Option.some.inj ho2371
            exact ⟨m2371, _, Nat.lt_succ_self _, ⟨r2780.2, x2569, (w64 (x2570 + 1)), v2568, _, ht2371, hS, f2560, f2562, f2563, f2564, rfl⟩, Sub.cons rfl (Sub.cons rfl (Sub.cons rfl (Sub.cons rfl (Sub.cons rfl (Sub.cons rfl (Sub.nil _))))))⟩
        · replace ho2371 := (if_neg (not_true hc2787)).symm.trans ho2371
          refine g_run rfl ?_; refine q_move rfl rfl ?_
          refine g_run rfl ?_; refine q_gtr rfl rfl rfl ?_
          refine g_run rfl ?_; refine q_move rfl rfl ?_
          refine g_split (s := 35) rfl (fun hc2797 => ?_) (fun hc2797 => ?_)
          · replace ho2371 := (if_pos hc2797).symm.trans ho2371
            refine g_run rfl ?_; refine q_move rfl rfl ?_
            obtain ⟨r2799, hr2799, ho2371⟩ := Option.of_bind ho2371
            refine g_run rfl ?_; refine q_call rfl (make_Codes_Next_w (Sep.enter (As := [_]) hS) f2560 hr2799) rfl ?_
            rintro _ w2798 ⟨R2798, rfl, hC2798⟩
            refine ⟨(fun h => by cases h), ?_⟩
            have hk2798 := hC2798.keptR (Sep.offFeet (As := [_]) hS)
            replace f2560 := (f2560.kept hk2798).mono fun k hk _ => hC2798.ro0 k hk
            replace f2562 := (f2562.kept hk2798).mono fun k hk _ => hC2798.ro0 k hk
            replace f2563 := (f2563.kept hk2798).mono fun k hk _ => hC2798.ro0 k hk
            replace f2564 := (f2564.kept hk2798).mono fun k hk _ => hC2798.ro0 k hk
            replace hS := Sep.leave (As := [_]) hS hC2798; simp only [List.cons_append, List.nil_append] at hS
            refine g_run rfl ?_; refine q_eql rfl rfl rfl ?_
            refine g_run rfl ?_; refine q_pick_true rfl rfl rfl ?_
            refine q_pick_false rfl rfl rfl ?_
            refine eseq_nil ?_
            refine hK2773 _ _ ?_
            refine e_cond rfl (fun hc2800 => ?_) (fun hc2800 => ?_)
            · replace ho2371 := (if_pos hc2800).symm.trans ho2371
              refine e_region_text rfl ?_
              refine q_move rfl rfl ?_
              refine q_move rfl rfl ?_
              refine q_litO (T := Ty.int) (S := (fun _ => False)) (cells := [[.int .i64 x2570]]) (ys := [x2570]) ((Parts.cons rfl rfl Parts.nil)) rfl rfl rfl rfl rfl rfl rfl (fun w1 hB => ⟨rfl, trivial⟩) (fun _ h => h.elim) rfl fun w2801 v2801 ho2801 hv2801 hB2801 => ?_
              replace f2560 := f2560.ext hB2801
              replace f2562 := f2562.ext hB2801
              replace f2563 := f2563.ext hB2801
              replace f2564 := f2564.ext hB2801
              replace hS := hS.newOwnS hB2801 ho2801 hv2801 (fun _ h => h.elim)
              obtain ⟨x2804, hx2804, ho2371⟩ := Option.of_bind ho2371
              refine q_catOwn (T := Ty.int) rfl rfl rfl rfl (hS.own 5 rfl) rfl (hS.own 0 rfl) (fun _ h _ => h.elim) (snoc_cat hx2804) (Nat.zero_le _) rfl (fun h => by cases h) fun v2803 w2803 hw2803 hgr2803 hnw2803 => ?_
              have hk2803 := hS.keptOwn 5 rfl hgr2803
              replace f2560 := f2560.kept hk2803
              replace f2562 := f2562.kept hk2803
              replace f2563 := f2563.kept hk2803
              replace f2564 := f2564.kept hk2803
              replace hS := hS.setOwn 5 rfl hw2803 hgr2803 hnw2803; simp only [List.set] at hS
              refine q_assign rfl rfl ?_
              refine eseq_nil ?_
              refine hK2772 _ _ ?_
              refine e_region_text rfl ?_
              refine q_move rfl rfl ?_
              refine q_addW rfl rfl rfl ?_
              refine q_assign rfl rfl ?_
              refine eseq_nil ?_
              obtain rfl := Option.some.inj ho2371
              exact ⟨m2371, _, Nat.lt_succ_self _, ⟨r2799.2, x2804, (w64 (x2570 + 1)), v2803, _, ht2371, (hS.pickB [1, 2, 3, 4, 5] 6 rfl rfl), f2560, f2562, f2563, f2564, rfl⟩, Sub.cons rfl (Sub.cons rfl (Sub.cons rfl (Sub.cons rfl (Sub.cons rfl (Sub.cons rfl (Sub.nil _))))))⟩
            · replace ho2371 := (if_neg (not_true hc2800)).symm.trans ho2371
              refine e_skip ?_
              refine hK2772 _ _ ?_
              refine e_region_text rfl ?_
              refine q_move rfl rfl ?_
              refine q_addW rfl rfl rfl ?_
              refine q_assign rfl rfl ?_
              refine eseq_nil ?_
              obtain rfl := Option.some.inj ho2371
              exact ⟨m2371, _, Nat.lt_succ_self _, ⟨r2799.2, x2569, (w64 (x2570 + 1)), v2568, _, ht2371, hS, f2560, f2562, f2563, f2564, rfl⟩, Sub.cons rfl (Sub.cons rfl (Sub.cons rfl (Sub.cons rfl (Sub.cons rfl (Sub.cons rfl (Sub.nil _))))))⟩
          · replace ho2371 := (if_neg (not_true hc2797)).symm.trans ho2371
            refine g_skip rfl rfl rfl ?_
            refine g_skip rfl rfl rfl ?_
            refine g_skip rfl rfl rfl ?_
            refine g_run rfl ?_; refine q_pick_false rfl rfl rfl ?_
            refine q_pick_false rfl rfl rfl ?_
            refine eseq_nil ?_
            refine hK2773 _ _ ?_
            refine e_cond rfl (fun hc2805 => ?_) (fun hc2805 => ?_)
            · replace ho2371 := (if_pos hc2805).symm.trans ho2371
              refine e_region_text rfl ?_
              refine q_move rfl rfl ?_
              refine q_move rfl rfl ?_
              refine q_litO (T := Ty.int) (S := (fun _ => False)) (cells := [[.int .i64 x2570]]) (ys := [x2570]) ((Parts.cons rfl rfl Parts.nil)) rfl rfl rfl rfl rfl rfl rfl (fun w1 hB => ⟨rfl, trivial⟩) (fun _ h => h.elim) rfl fun w2806 v2806 ho2806 hv2806 hB2806 => ?_
              replace f2560 := f2560.ext hB2806
              replace f2562 := f2562.ext hB2806
              replace f2563 := f2563.ext hB2806
              replace f2564 := f2564.ext hB2806
              replace hS := hS.newOwnS hB2806 ho2806 hv2806 (fun _ h => h.elim)
              obtain ⟨x2809, hx2809, ho2371⟩ := Option.of_bind ho2371
              refine q_catOwn (T := Ty.int) rfl rfl rfl rfl (hS.own 5 rfl) rfl (hS.own 0 rfl) (fun _ h _ => h.elim) (snoc_cat hx2809) (Nat.zero_le _) rfl (fun h => by cases h) fun v2808 w2808 hw2808 hgr2808 hnw2808 => ?_
              have hk2808 := hS.keptOwn 5 rfl hgr2808
              replace f2560 := f2560.kept hk2808
              replace f2562 := f2562.kept hk2808
              replace f2563 := f2563.kept hk2808
              replace f2564 := f2564.kept hk2808
              replace hS := hS.setOwn 5 rfl hw2808 hgr2808 hnw2808; simp only [List.set] at hS
              refine q_assign rfl rfl ?_
              refine eseq_nil ?_
              refine hK2772 _ _ ?_
              refine e_region_text rfl ?_
              refine q_move rfl rfl ?_
              refine q_addW rfl rfl rfl ?_
              refine q_assign rfl rfl ?_
              refine eseq_nil ?_
              obtain rfl := Option.some.inj ho2371
              exact ⟨m2371, _, Nat.lt_succ_self _, ⟨r2780.2, x2809, (w64 (x2570 + 1)), v2808, _, ht2371, (hS.pickB [1, 2, 3, 4, 5] 6 rfl rfl), f2560, f2562, f2563, f2564, rfl⟩, Sub.cons rfl (Sub.cons rfl (Sub.cons rfl (Sub.cons rfl (Sub.cons rfl (Sub.cons rfl (Sub.nil _))))))⟩
            · replace ho2371 := (if_neg (not_true hc2805)).symm.trans ho2371
              refine e_skip ?_
              refine hK2772 _ _ ?_
              refine e_region_text rfl ?_
              refine q_move rfl rfl ?_
              refine q_addW rfl rfl rfl ?_
              refine q_assign rfl rfl ?_
              refine eseq_nil ?_
              obtain rfl := Option.some.inj ho2371
              exact ⟨m2371, _, Nat.lt_succ_self _, ⟨r2780.2, x2569, (w64 (x2570 + 1)), v2568, _, ht2371, hS, f2560, f2562, f2563, f2564, rfl⟩, Sub.cons rfl (Sub.cons rfl (Sub.cons rfl (Sub.cons rfl (Sub.cons rfl (Sub.cons rfl (Sub.nil _))))))⟩
      · replace ho2371 := (if_neg (not_true hc2778)).symm.trans ho2371
        refine g_skip rfl rfl rfl ?_
        refine g_skip rfl rfl rfl ?_
        refine g_skip rfl rfl rfl ?_
        refine q_pick_false rfl rfl rfl ?_
        refine q_move rfl rfl ?_
        refine g_run rfl ?_; refine q_move rfl rfl ?_
        refine g_run rfl ?_; refine q_gtr rfl rfl rfl ?_
        refine g_run rfl ?_; refine q_move rfl rfl ?_
        refine g_split (s := 35) rfl (fun hc2814 => ?_) (fun hc2814 => ?_)
        · replace ho2371 := (if_pos hc2814).symm.trans ho2371
          refine g_run rfl ?_; refine q_move rfl rfl ?_
          obtain ⟨r2816, hr2816, ho2371⟩ := Option.of_bind ho2371
          refine g_run rfl ?_; refine q_call rfl (make_Codes_Next_w (Sep.enter (As := [_]) hS) f2560 hr2816) rfl ?_
          rintro _ w2815 ⟨R2815, rfl, hC2815⟩
          refine ⟨(fun h => by cases h), ?_⟩
          have hk2815 := hC2815.keptR (Sep.offFeet (As := [_]) hS)
          replace f2560 := (f2560.kept hk2815).mono fun k hk _ => hC2815.ro0 k hk
          replace f2562 := (f2562.kept hk2815).mono fun k hk _ => hC2815.ro0 k hk
          replace f2563 := (f2563.kept hk2815).mono fun k hk _ => hC2815.ro0 k hk
          replace f2564 := (f2564.kept hk2815).mono fun k hk _ => hC2815.ro0 k hk
          replace hS := Sep.leave (As := [_]) hS hC2815; simp only [List.cons_append, List.nil_append] at hS
          refine g_run rfl ?_; refine q_eql rfl rfl rfl ?_
          refine g_run rfl ?_; refine q_pick_true rfl rfl rfl ?_
          refine q_pick_false rfl rfl rfl ?_
          refine eseq_nil ?_
          refine hK2773 _ _ ?_
          refine e_cond rfl (fun hc2817 => ?_) (fun hc2817 => ?_)
          · replace ho2371 := (if_pos hc2817).symm.trans ho2371
            refine e_region_text rfl ?_
            refine q_move rfl rfl ?_
            refine q_move rfl rfl ?_
            refine q_litO (T := Ty.int) (S := (fun _ => False)) (cells := [[.int .i64 x2570]]) (ys := [x2570]) ((Parts.cons rfl rfl Parts.nil)) rfl rfl rfl rfl rfl rfl rfl (fun w1 hB => ⟨rfl, trivial⟩) (fun _ h => h.elim) rfl fun w2818 v2818 ho2818 hv2818 hB2818 => ?_
            replace f2560 := f2560.ext hB2818
            replace f2562 := f2562.ext hB2818
            replace f2563 := f2563.ext hB2818
            replace f2564 := f2564.ext hB2818
            replace hS := hS.newOwnS hB2818 ho2818 hv2818 (fun _ h => h.elim)
            obtain ⟨x2821, hx2821, ho2371⟩ := Option.of_bind ho2371
            refine q_catOwn (T := Ty.int) rfl rfl rfl rfl (hS.own 5 rfl) rfl (hS.own 0 rfl) (fun _ h _ => h.elim) (snoc_cat hx2821) (Nat.zero_le _) rfl (fun h => by cases h) fun v2820 w2820 hw2820 hgr2820 hnw2820 => ?_
            have hk2820 := hS.keptOwn 5 rfl hgr2820
            replace f2560 := f2560.kept hk2820
            replace f2562 := f2562.kept hk2820
            replace f2563 := f2563.kept hk2820
            replace f2564 := f2564.kept hk2820
            replace hS := hS.setOwn 5 rfl hw2820 hgr2820 hnw2820; simp only [List.set] at hS
            refine q_assign rfl rfl ?_
            refine eseq_nil ?_
            refine hK2772 _ _ ?_
            refine e_region_text rfl ?_
            refine q_move rfl rfl ?_
            refine q_addW rfl rfl rfl ?_
            refine q_assign rfl rfl ?_
            refine eseq_nil ?_
            obtain rfl := Option.some.inj ho2371
            exact ⟨m2371, _, Nat.lt_succ_self _, ⟨r2816.2, x2821, (w64 (x2570 + 1)), v2820, _, ht2371, (hS.pickB [1, 2, 3, 4, 5] 6 rfl rfl), f2560, f2562, f2563, f2564, rfl⟩, Sub.cons rfl (Sub.cons rfl (Sub.cons rfl (Sub.cons rfl (Sub.cons rfl (Sub.cons rfl (Sub.nil _))))))⟩
          · replace ho2371 := (if_neg (not_true hc2817)).symm.trans ho2371
            refine e_skip ?_
            refine hK2772 _ _ ?_
            refine e_region_text rfl ?_
            refine q_move rfl rfl ?_
            refine q_addW rfl rfl rfl ?_
            refine q_assign rfl rfl ?_
            refine eseq_nil ?_
            obtain rfl := Option.some.inj ho2371
            exact ⟨m2371, _, Nat.lt_succ_self _, ⟨r2816.2, x2569, (w64 (x2570 + 1)), v2568, _, ht2371, hS, f2560, f2562, f2563, f2564, rfl⟩, Sub.cons rfl (Sub.cons rfl (Sub.cons rfl (Sub.cons rfl (Sub.cons rfl (Sub.cons rfl (Sub.nil _))))))⟩
        · replace ho2371 := (if_neg (not_true hc2814)).symm.trans ho2371
          refine g_skip rfl rfl rfl ?_
          refine g_skip rfl rfl rfl ?_
          refine g_skip rfl rfl rfl ?_
          refine g_run rfl ?_; refine q_pick_false rfl rfl rfl ?_
          refine q_pick_false rfl rfl rfl ?_
          refine eseq_nil ?_
          refine hK2773 _ _ ?_
          refine e_cond rfl (fun hc2822 => ?_) (fun hc2822 => ?_)
          · replace ho2371 := (if_pos hc2822).symm.trans ho2371
            refine e_region_text rfl ?_
            refine q_move rfl rfl ?_
            refine q_move rfl rfl ?_
            refine q_litO (T := Ty.int) (S := (fun _ => False)) (cells := [[.int .i64 x2570]]) (ys := [x2570]) ((Parts.cons rfl rfl Parts.nil)) rfl rfl rfl rfl rfl rfl rfl (fun w1 hB => ⟨rfl, trivial⟩) (fun _ h => h.elim) rfl fun w2823 v2823 ho2823 hv2823 hB2823 => ?_
            replace f2560 := f2560.ext hB2823
            replace f2562 := f2562.ext hB2823
            replace f2563 := f2563.ext hB2823
            replace f2564 := f2564.ext hB2823
            replace hS := hS.newOwnS hB2823 ho2823 hv2823 (fun _ h => h.elim)
            obtain ⟨x2826, hx2826, ho2371⟩ := Option.of_bind ho2371
            refine q_catOwn (T := Ty.int) rfl rfl rfl rfl (hS.own 5 rfl) rfl (hS.own 0 rfl) (fun _ h _ => h.elim) (snoc_cat hx2826) (Nat.zero_le _) rfl (fun h => by cases h) fun v2825 w2825 hw2825 hgr2825 hnw2825 => ?_
            have hk2825 := hS.keptOwn 5 rfl hgr2825
            replace f2560 := f2560.kept hk2825
            replace f2562 := f2562.kept hk2825
            replace f2563 := f2563.kept hk2825
            replace f2564 := f2564.kept hk2825
            replace hS := hS.setOwn 5 rfl hw2825 hgr2825 hnw2825; simp only [List.set] at hS
            refine q_assign rfl rfl ?_
            refine eseq_nil ?_
            refine hK2772 _ _ ?_
            refine e_region_text rfl ?_
            refine q_move rfl rfl ?_
            refine q_addW rfl rfl rfl ?_
            refine q_assign rfl rfl ?_
            refine eseq_nil ?_
            obtain rfl := Option.some.inj ho2371
            exact ⟨m2371, _, Nat.lt_succ_self _, ⟨x2561, x2826, (w64 (x2570 + 1)), v2825, _, ht2371, (hS.pickB [1, 2, 3, 4, 5] 6 rfl rfl), f2560, f2562, f2563, f2564, rfl⟩, Sub.cons rfl (Sub.cons rfl (Sub.cons rfl (Sub.cons rfl (Sub.cons rfl (Sub.cons rfl (Sub.nil _))))))⟩
          · replace ho2371 := (if_neg (not_true hc2822)).symm.trans ho2371
            refine e_skip ?_
            refine hK2772 _ _ ?_
            refine e_region_text rfl ?_
            refine q_move rfl rfl ?_
            refine q_addW rfl rfl rfl ?_
            refine q_assign rfl rfl ?_
            refine eseq_nil ?_
            obtain rfl := Option.some.inj ho2371
            exact ⟨m2371, _, Nat.lt_succ_self _, ⟨x2561, x2569, (w64 (x2570 + 1)), v2568, _, ht2371, hS, f2560, f2562, f2563, f2564, rfl⟩, Sub.cons rfl (Sub.cons rfl (Sub.cons rfl (Sub.cons rfl (Sub.cons rfl (Sub.cons rfl (Sub.nil _))))))⟩
    · replace ho2371 := (if_neg (not_true hc2771)).symm.trans ho2371
      refine e_exit ?_
      obtain rfl := Option.some.inj ho2371
      obtain rfl := Option.some.inj ht2371
      exact hX2371_2 x2561 x2569 v2568 _ _ _ ho1424 hS f2560 f2562 f2563 f2564 (Sub.cons rfl (Sub.cons rfl (Sub.cons rfl (Sub.cons rfl (Sub.cons rfl (Sub.nil _))))))
  · replace ho1424 := (if_neg (not_true hc2366)).symm.trans ho1424
    refine e_exit ?_
    obtain rfl := Option.some.inj ho1424
    obtain rfl := Option.some.inj ht1424
    exact hX1424_0 x1866 x1872 v1870 v1871 _ _ _ h (hS.pickB [0, 2, 3] 4 rfl rfl) f1865 (Sub.cons rfl (Sub.nil _))
theorem make_Codes_Cut_w {F R : Nat → Prop} {w : World} {fuel : Nat} {a1 : Pat} {c0_0 : (List Int)} {c0_1 : Int} {v1 : Value} {v2 : Value} {v3 : Value} {B0 : Nat} {v5 : Value} {r : ((List Int) × Int)} (hS : Sep F R R w w [HP.blk B0 [v5, .int .i64 c0_1] 62]) (f1 : IsSlice Ty.int w R v1 a1.lens) (f2 : IsSlice (Ty.slice Ty.int) w R v2 a1.ckpts) (f3 : IsSlice arcTy w R v3 a1.arcs) (f5 : IsSlice Ty.u8 w R v5 c0_0) (h : make_Codes_Cut fuel a1 c0_0 c0_1 = some r) :
    Gives Try.prog 31 [.pointer (some ⟨B0, 0, none⟩), .agg #[v1, v2, v3]] w fun u w1 => ∃ (v136 : Value), ∃ (R1 : Nat → Prop), u = v136 ∧ Sep F R R1 w w1 [HP.blk B0 [v5, .int .i64 r.2] 62, HP.own Ty.int (fun _ => False) 3 v136 r.1] := by
  refine fn_of Try.func31 rfl Try.ntmps31 (Nat.le_of_ble_eq_true rfl) ?_
  unfold make_Codes_Cut at h
  refine e_seq fun K137 hK137 => ?_
  refine e_region_text rfl ?_
  refine q_boxB rfl rfl rfl fun w138 bl138 hg138 hb138 hB138 => ?_
  replace f5 := f5.ext hB138
  replace f1 := f1.ext hB138
  replace f2 := f2.ext hB138
  replace f3 := f3.ext hB138
  replace hS := hS.newBlk hB138 hg138 hb138
  refine q_assign rfl rfl ?_
  refine eseq_nil ?_
  refine hK137 _ _ ?_
  refine e_seq fun K140 hK140 => ?_
  refine e_region_text rfl ?_
  refine q_assign rfl rfl ?_
  refine eseq_nil ?_
  refine hK140 _ _ ?_
  refine e_seq fun K141 hK141 => ?_
  refine e_seq fun K142 hK142 => ?_
  refine e_region_text rfl ?_
  refine q_assign rfl rfl ?_
  refine eseq_nil ?_
  refine hK142 _ _ ?_
  refine e_block ?_
  obtain ⟨tl143, ht143, h⟩ := Option.of_bind h
  have hX143_0 : ∀ (x236 : Int) (x239 : (List Int)) (v238 : Value) (R233 : Nat → Prop) (w234 : World) (E_ : Env), make_Codes_Cut_K1 fuel x236 x239 = some r → Sep F R R233 w w234 [HP.blk B0 [v5, .int .i64 x236] 62, HP.own Ty.int (fun _ => False) 3 v238 x239] → IsSlice Ty.u8 w234 R233 v5 c0_0 → Sub [(5, v238)] E_ → K141 E_ w234 := by
    intro x236 x239 v238 R233 w234 E_ h hS f235 hsub
    refine hK141 _ _ (e_sub hsub ?_); clear hsub
    unfold make_Codes_Cut_K1 at h
    refine e_seq fun K240 hK240 => ?_
    refine e_region_text rfl ?_
    refine q_move rfl rfl ?_
    refine q_assign rfl rfl ?_
    refine eseq_nil ?_
    refine hK240 _ _ ?_
    refine e_ret ?_
    obtain rfl := Option.some.inj h
    exact ⟨_, res1 rfl rfl, v238, _, rfl, hS⟩
  replace hS := hS.nilOwn0 Ty.int 3
  refine e_loop (fun m_ E_ w188 => ∃ (x190 : Int), ∃ (x196 : (List Int)), ∃ (x197 : Int), ∃ (v195 : Value), ∃ (R187 : Nat → Prop), iter (fun s => make_Codes_Cut_B1 fuel a1 c0_0 s.1 s.2.1 s.2.2) m_ (x190, x196, x197) = some tl143 ∧ Sep F R R187 w w188 [HP.blk B0 [v5, .int .i64 x190] 62, HP.blk bl138 [v1, v2, v3] 32, HP.own Ty.int (fun _ => False) 3 v195 x196] ∧ IsSlice Ty.u8 w188 R187 v5 c0_0 ∧ IsSlice Ty.int w188 R187 v1 a1.lens ∧ IsSlice (Ty.slice Ty.int) w188 R187 v2 a1.ckpts ∧ IsSlice arcTy w188 R187 v3 a1.arcs ∧ E_ = [(0, .pointer (some ⟨B0, 0, none⟩)), (3, .pointer (some ⟨bl138, 0, none⟩)), (5, v195), (6, .int .i64 x197)]) _ ⟨_, ⟨c0_1, ([] : List Int), 0, (.slice none 0 0), _, ht143, (hS.pickB [2, 1, 0] 3 rfl rfl), f5, f1, f2, f3, rfl⟩, Sub.cons rfl (Sub.cons rfl (Sub.cons rfl (Sub.cons rfl (Sub.nil _))))⟩ ?_
  clear ht143 hS
  rintro m143 _ w188 ⟨x190, x196, x197, v195, R187, ht143, hS, f189, f191, f192, f193, rfl⟩
  obtain ⟨m143, rfl, o143, ho143, ht143⟩ := iter_some ht143
  replace ho143 : make_Codes_Cut_B1 fuel a1 c0_0 x190 x196 x197 = some o143 := ho143
  unfold make_Codes_Cut_B1 at ho143
  refine e_seq fun K242 hK242 => ?_
  refine e_seq fun K243 hK243 => ?_
  refine e_region_text rfl ?_
  refine q_move rfl rfl ?_
  refine q_field rfl rfl ?_
  refine q_load rfl (Blk.cell (hS.blk 1 rfl) rfl) rfl ?_
  refine q_lenS rfl f191 rfl ?_
  refine q_lss rfl rfl rfl ?_
  refine eseq_nil ?_
  refine hK243 _ _ ?_
  refine e_cond rfl (fun hc244 => ?_) (fun hc244 => ?_)
  · replace ho143 := (if_pos hc244).symm.trans ho143
    refine e_skip ?_
    refine hK242 _ _ ?_
    refine e_seq fun K245 hK245 => ?_
    refine e_block ?_
    refine e_region_draw mixed (fun k => k = B0) [0, 0, 2, 0, 14, 30, 0, 0, 128, 0, 896, 1920, 3968, 8128, 16382, 32766, 65535, 131071] [13] [0, 1, 2, 3, 4, 5, 6, 7, 8, 9, 10, 11, 12, 13, 14, 15, 16, 17] (by kernel_rfl) ?_
    refine q_move rfl rfl ?_
    refine q_field rfl rfl ?_
    refine q_load rfl (Blk.cell (hS.blk 1 rfl) rfl) rfl ?_ (hX := fun hx_ => hS.apart 1 0 rfl rfl (by decide) _ rfl hx_)
    refine q_move rfl rfl ?_
    obtain ⟨x256, hx256, ho143⟩ := Option.of_bind ho143
    refine q_atS (by infer_instance) rfl f191 rfl hx256 rfl fun b257 o257 hm257 f257 => ?_
    refine q_load rfl (Elt.intCell f257) rfl ?_ (hX := fun hx_ => hS.off 0 rfl _ hm257 hx_)
    refine q_move rfl rfl ?_
    refine q_field rfl rfl ?_
    refine q_load rfl (Blk.cell (hS.blk 1 rfl) rfl) rfl ?_ (hX := fun hx_ => hS.apart 1 0 rfl rfl (by decide) _ rfl hx_)
    refine q_move rfl rfl ?_
    obtain ⟨x258, hx258, ho143⟩ := Option.of_bind ho143
    refine q_atS (by infer_instance) rfl f191 rfl hx258 rfl fun b259 o259 hm259 f259 => ?_
    refine q_load rfl (Elt.intCell f259) rfl ?_ (hX := fun hx_ => hS.off 0 rfl _ hm259 hx_)
    refine q_addW rfl rfl rfl ?_
    obtain ⟨r261, hr261, ho143⟩ := Option.of_bind ho143
    refine q_call rfl (make_Codes_Next_w (Sep.enter (As := [_]) hS) f189 hr261) rfl ?_
    rintro _ w260 ⟨R260, rfl, hC260⟩
    refine ⟨fun _ => hC260.relX1, ?_⟩
    have hk260 := hC260.keptR (Sep.offFeet (As := [_]) hS)
    replace f189 := (f189.kept hk260).mono fun k hk _ => hC260.ro0 k hk
    replace f191 := (f191.kept hk260).mono fun k hk _ => hC260.ro0 k hk
    replace f192 := (f192.kept hk260).mono fun k hk _ => hC260.ro0 k hk
    replace f193 := (f193.kept hk260).mono fun k hk _ => hC260.ro0 k hk
    replace hS := Sep.leave (As := [_]) hS hC260; simp only [List.cons_append, List.nil_append] at hS
    refine q_subW rfl rfl rfl ?_
    refine q_litO (T := Ty.int) (S := (fun _ => False)) (cells := [[.int .i64 (w64 (x256 - r261.1))]]) (ys := [w64 (x256 - r261.1)]) ((Parts.cons rfl rfl Parts.nil)) rfl rfl rfl rfl rfl rfl rfl (fun w1 hB => ⟨rfl, trivial⟩) (fun _ h => h.elim) rfl fun w262 v262 ho262 hv262 hB262 => ?_
    replace f189 := f189.ext hB262
    replace f191 := f191.ext hB262
    replace f192 := f192.ext hB262
    replace f193 := f193.ext hB262
    replace hS := hS.newOwnS hB262 ho262 hv262 (fun _ h => h.elim)
    obtain ⟨x265, hx265, ho143⟩ := Option.of_bind ho143
    refine q_catOwn (T := Ty.int) rfl rfl rfl rfl (hS.own 3 rfl) rfl (hS.own 0 rfl) (fun _ h _ => h.elim) (snoc_cat hx265) (Nat.zero_le _) rfl (fun h => by cases h) fun v264 w264 hw264 hgr264 hnw264 => ?_
    have hk264 := hS.keptOwn 3 rfl hgr264
    replace f189 := f189.kept hk264
    replace f191 := f191.kept hk264
    replace f192 := f192.kept hk264
    replace f193 := f193.kept hk264
    replace hS := hS.setOwn 3 rfl hw264 hgr264 hnw264; simp only [List.set] at hS
    refine q_assign rfl rfl ?_
    refine eseq_nil ?_
    refine hK245 _ _ ?_
    refine e_region_text rfl ?_
    refine q_move rfl rfl ?_
    refine q_addW rfl rfl rfl ?_
    refine q_assign rfl rfl ?_
    refine eseq_nil ?_
    obtain rfl := Option.some.inj ho143
    exact ⟨m143, _, Nat.lt_succ_self _, ⟨r261.2, x265, (w64 (x197 + 1)), v264, _, ht143, (hS.pickB [1, 2, 3] 4 rfl rfl), f189, f191, f192, f193, rfl⟩, Sub.cons rfl (Sub.cons rfl (Sub.cons rfl (Sub.cons rfl (Sub.nil _))))⟩
  · replace ho143 := (if_neg (not_true hc244)).symm.trans ho143
    refine e_exit ?_
    obtain rfl := Option.some.inj ho143
    obtain rfl := Option.some.inj ht143
    exact hX143_0 x190 x196 v195 _ _ _ h (hS.pickB [0, 2] 3 rfl rfl) f189 (Sub.cons rfl (Sub.nil _))
theorem make_Codes_Procs_w {F R : Nat → Prop} {w : World} {fuel : Nat} {a1 : Int} {c0_0 : (List Int)} {c0_1 : Int} {B0 : Nat} {v2 : Value} {r : ((List Int) × Int)} (hS : Sep F R R w w [HP.blk B0 [v2, .int .i64 c0_1] 62]) (f2 : IsSlice Ty.u8 w R v2 c0_0) (h : make_Codes_Procs fuel a1 c0_0 c0_1 = some r) :
    Gives Try.prog 22 [.pointer (some ⟨B0, 0, none⟩), .int .i64 a1] w fun u w1 => ∃ (v93 : Value), ∃ (R1 : Nat → Prop), u = v93 ∧ Sep F R R1 w w1 [HP.blk B0 [v2, .int .i64 r.2] 62, HP.own Ty.int (fun _ => False) 3 v93 r.1] := by
  refine fn_of Try.func22 rfl Try.ntmps22 (Nat.le_of_ble_eq_true rfl) ?_
  unfold make_Codes_Procs at h
  refine e_seq fun K94 hK94 => ?_
  refine e_region_text rfl ?_
  refine q_assign rfl rfl ?_
  refine eseq_nil ?_
  refine hK94 _ _ ?_
  refine e_seq fun K95 hK95 => ?_
  refine e_region_text rfl ?_
  refine q_assign rfl rfl ?_
  refine eseq_nil ?_
  refine hK95 _ _ ?_
  refine e_seq fun K96 hK96 => ?_
  refine e_seq fun K97 hK97 => ?_
  refine e_region_text rfl ?_
  refine q_assign rfl rfl ?_
  refine eseq_nil ?_
  refine hK97 _ _ ?_
  refine e_block ?_
  obtain ⟨tl98, ht98, h⟩ := Option.of_bind h
  have hX98_0 : ∀ (x165 : Int) (x168 : (List Int)) (v167 : Value) (R162 : Nat → Prop) (w163 : World) (E_ : Env), make_Codes_Procs_K1 fuel x165 x168 = some r → Sep F R R162 w w163 [HP.blk B0 [v2, .int .i64 x165] 62, HP.own Ty.int (fun _ => False) 3 v167 x168] → IsSlice Ty.u8 w163 R162 v2 c0_0 → Sub [(5, v167)] E_ → K96 E_ w163 := by
    intro x165 x168 v167 R162 w163 E_ h hS f164 hsub
    refine hK96 _ _ (e_sub hsub ?_); clear hsub
    unfold make_Codes_Procs_K1 at h
    refine e_seq fun K169 hK169 => ?_
    refine e_region_text rfl ?_
    refine q_move rfl rfl ?_
    refine q_assign rfl rfl ?_
    refine eseq_nil ?_
    refine hK169 _ _ ?_
    refine e_ret ?_
    obtain rfl := Option.some.inj h
    exact ⟨_, res1 rfl rfl, v167, _, rfl, hS⟩
  replace hS := hS.nilOwn0 Ty.int 3
  refine e_loop (fun m_ E_ w129 => ∃ (x131 : Int), ∃ (x134 : (List Int)), ∃ (x135 : Int), ∃ (v133 : Value), ∃ (R128 : Nat → Prop), iter (fun s => make_Codes_Procs_B1 fuel a1 c0_0 s.1 s.2.1 s.2.2) m_ (x131, x134, x135) = some tl98 ∧ Sep F R R128 w w129 [HP.blk B0 [v2, .int .i64 x131] 62, HP.own Ty.int (fun _ => False) 3 v133 x134] ∧ IsSlice Ty.u8 w129 R128 v2 c0_0 ∧ E_ = [(0, .pointer (some ⟨B0, 0, none⟩)), (1, .int .i64 a1), (5, v133), (6, .int .i64 x135)]) _ ⟨_, ⟨c0_1, ([] : List Int), 0, (.slice none 0 0), _, ht98, (hS.pickB [1, 0] 2 rfl rfl), f2, rfl⟩, Sub.cons rfl (Sub.cons rfl (Sub.cons rfl (Sub.cons rfl (Sub.nil _))))⟩ ?_
  clear ht98 hS
  rintro m98 _ w129 ⟨x131, x134, x135, v133, R128, ht98, hS, f130, rfl⟩
  obtain ⟨m98, rfl, o98, ho98, ht98⟩ := iter_some ht98
  replace ho98 : make_Codes_Procs_B1 fuel a1 c0_0 x131 x134 x135 = some o98 := ho98
  unfold make_Codes_Procs_B1 at ho98
  refine e_seq fun K171 hK171 => ?_
  refine e_seq fun K172 hK172 => ?_
  refine e_region_text rfl ?_
  refine q_move rfl rfl ?_
  refine q_move rfl rfl ?_
  refine q_lss rfl rfl rfl ?_
  refine eseq_nil ?_
  refine hK172 _ _ ?_
  refine e_cond rfl (fun hc173 => ?_) (fun hc173 => ?_)
  · replace ho98 := (if_pos hc173).symm.trans ho98
    refine e_skip ?_
    refine hK171 _ _ ?_
    refine e_seq fun K174 hK174 => ?_
    refine e_block ?_
    refine e_seq fun K175 hK175 => ?_
    refine e_region_text rfl ?_
    refine q_move rfl rfl ?_
    obtain ⟨r177, hr177, ho98⟩ := Option.of_bind ho98
    refine q_call rfl (make_Codes_Next_w (Sep.enter (As := [_]) hS) f130 hr177) rfl ?_
    rintro _ w176 ⟨R176, rfl, hC176⟩
    refine ⟨(fun h => by cases h), ?_⟩
    have hk176 := hC176.keptR (Sep.offFeet (As := [_]) hS)
    replace f130 := (f130.kept hk176).mono fun k hk _ => hC176.ro0 k hk
    replace hS := Sep.leave (As := [_]) hS hC176; simp only [List.cons_append, List.nil_append] at hS
    refine q_eql rfl rfl rfl ?_
    refine eseq_nil ?_
    refine hK175 _ _ ?_
    refine e_cond rfl (fun hc178 => ?_) (fun hc178 => ?_)
    · replace ho98 := (if_pos hc178).symm.trans ho98
      refine e_region_text rfl ?_
      refine q_move rfl rfl ?_
      refine q_move rfl rfl ?_
      refine q_litO (T := Ty.int) (S := (fun _ => False)) (cells := [[.int .i64 x135]]) (ys := [x135]) ((Parts.cons rfl rfl Parts.nil)) rfl rfl rfl rfl rfl rfl rfl (fun w1 hB => ⟨rfl, trivial⟩) (fun _ h => h.elim) rfl fun w179 v179 ho179 hv179 hB179 => ?_
      replace f130 := f130.ext hB179
      replace hS := hS.newOwnS hB179 ho179 hv179 (fun _ h => h.elim)
      obtain ⟨x182, hx182, ho98⟩ := Option.of_bind ho98
      refine q_catOwn (T := Ty.int) rfl rfl rfl rfl (hS.own 2 rfl) rfl (hS.own 0 rfl) (fun _ h _ => h.elim) (snoc_cat hx182) (Nat.zero_le _) rfl (fun h => by cases h) fun v181 w181 hw181 hgr181 hnw181 => ?_
      have hk181 := hS.keptOwn 2 rfl hgr181
      replace f130 := f130.kept hk181
      replace hS := hS.setOwn 2 rfl hw181 hgr181 hnw181; simp only [List.set] at hS
      refine q_assign rfl rfl ?_
      refine eseq_nil ?_
      refine hK174 _ _ ?_
      refine e_region_text rfl ?_
      refine q_move rfl rfl ?_
      refine q_addW rfl rfl rfl ?_
      refine q_assign rfl rfl ?_
      refine eseq_nil ?_
      obtain rfl := Option.some.inj ho98
      exact ⟨m98, _, Nat.lt_succ_self _, ⟨r177.2, x182, (w64 (x135 + 1)), v181, _, ht98, (hS.pickB [1, 2] 3 rfl rfl), f130, rfl⟩, Sub.cons rfl (Sub.cons rfl (Sub.cons rfl (Sub.cons rfl (Sub.nil _))))⟩
    · replace ho98 := (if_neg (not_true hc178)).symm.trans ho98
      refine e_skip ?_
      refine hK174 _ _ ?_
      refine e_region_text rfl ?_
      refine q_move rfl rfl ?_
      refine q_addW rfl rfl rfl ?_
      refine q_assign rfl rfl ?_
      refine eseq_nil ?_
      obtain rfl := Option.some.inj ho98
      exact ⟨m98, _, Nat.lt_succ_self _, ⟨r177.2, x134, (w64 (x135 + 1)), v133, _, ht98, hS, f130, rfl⟩, Sub.cons rfl (Sub.cons rfl (Sub.cons rfl (Sub.cons rfl (Sub.nil _))))⟩
  · replace ho98 := (if_neg (not_true hc173)).symm.trans ho98
    refine e_exit ?_
    obtain rfl := Option.some.inj ho98
    obtain rfl := Option.some.inj ht98
    exact hX98_0 x131 x134 v133 _ _ _ h hS f130 (Sub.cons rfl (Sub.nil _))
theorem ref03_SameInts_w {F R : Nat → Prop} {w : World} {fuel : Nat} {a0 : (List Int)} {a1 : (List Int)} {v1 : Value} {v2 : Value} {r : (Bool)} (hS : Sep F R R w w []) (f1 : IsSlice Ty.int w R v1 a0) (f2 : IsSlice Ty.int w R v2 a1) (h : ref03_SameInts fuel a0 a1 = some r) :
    Gives Try.prog 25 [v1, v2] w fun u w1 => ∃ (R1 : Nat → Prop), u = .bool r ∧ Sep F R R1 w w1 [] := by
  refine fn_of Try.func25 rfl Try.ntmps25 (Nat.le_of_ble_eq_true rfl) ?_
  unfold ref03_SameInts at h
  refine e_seq fun K67 hK67 => ?_
  refine e_region_text rfl ?_
  refine q_assign rfl rfl ?_
  refine eseq_nil ?_
  refine hK67 _ _ ?_
  refine e_seq fun K68 hK68 => ?_
  refine e_seq fun K69 hK69 => ?_
  refine e_region_text rfl ?_
  refine q_move rfl rfl ?_
  refine q_lenS rfl f1 rfl ?_
  refine q_move rfl rfl ?_
  refine q_lenS rfl f2 rfl ?_
  refine q_neq rfl rfl rfl ?_
  refine eseq_nil ?_
  refine hK69 _ _ ?_
  refine e_cond rfl (fun hc70 => ?_) (fun hc70 => ?_)
  · replace h := (if_pos hc70).symm.trans h
    refine e_seq fun K71 hK71 => ?_
    refine e_region_text rfl ?_
    refine q_assign rfl rfl ?_
    refine eseq_nil ?_
    refine hK71 _ _ ?_
    refine e_ret ?_
    obtain rfl := Option.some.inj h
    exact ⟨_, res1 rfl rfl, _, rfl, hS⟩
  · replace h := (if_neg (not_true hc70)).symm.trans h
    refine e_skip ?_
    refine hK68 _ _ ?_
    refine e_seq fun K72 hK72 => ?_
    refine e_seq fun K73 hK73 => ?_
    refine e_region_text rfl ?_
    refine q_assign rfl rfl ?_
    refine eseq_nil ?_
    refine hK73 _ _ ?_
    refine e_block ?_
    obtain ⟨tl74, ht74, h⟩ := Option.of_bind h
    have hX74_0 : ∀ (R116 : Nat → Prop) (w117 : World) (E_ : Env), ref03_SameInts_K1 fuel = some r → Sep F R R116 w w117 [] → Sub [] E_ → K72 E_ w117 := by
      intro R116 w117 E_ h hS  hsub
      refine hK72 _ _ (e_sub hsub ?_); clear hsub
      unfold ref03_SameInts_K1 at h
      refine e_seq fun K118 hK118 => ?_
      refine e_region_text rfl ?_
      refine q_assign rfl rfl ?_
      refine eseq_nil ?_
      refine hK118 _ _ ?_
      refine e_ret ?_
      obtain rfl := Option.some.inj h
      exact ⟨_, res1 rfl rfl, _, rfl, hS⟩
    refine e_loop (fun m_ E_ w96 => ∃ (x99 : Int), ∃ (R95 : Nat → Prop), iter (fun s => ref03_SameInts_B1 fuel a0 a1 s) m_ x99 = some tl74 ∧ Sep F R R95 w w96 [] ∧ IsSlice Ty.int w96 R95 v1 a0 ∧ IsSlice Ty.int w96 R95 v2 a1 ∧ E_ = [(0, v1), (1, v2), (5, .int .i64 x99)]) _ ⟨_, ⟨0, _, ht74, hS, f1, f2, rfl⟩, Sub.cons rfl (Sub.cons rfl (Sub.cons rfl (Sub.nil _)))⟩ ?_
    clear ht74 hS
    rintro m74 _ w96 ⟨x99, R95, ht74, hS, f97, f98, rfl⟩
    obtain ⟨m74, rfl, o74, ho74, ht74⟩ := iter_some ht74
    replace ho74 : ref03_SameInts_B1 fuel a0 a1 x99 = some o74 := ho74
    unfold ref03_SameInts_B1 at ho74
    refine e_seq fun K119 hK119 => ?_
    refine e_seq fun K120 hK120 => ?_
    refine e_region_text rfl ?_
    refine q_move rfl rfl ?_
    refine q_move rfl rfl ?_
    refine q_lenS rfl f97 rfl ?_
    refine q_lss rfl rfl rfl ?_
    refine eseq_nil ?_
    refine hK120 _ _ ?_
    refine e_cond rfl (fun hc121 => ?_) (fun hc121 => ?_)
    · replace ho74 := (if_pos hc121).symm.trans ho74
      refine e_skip ?_
      refine hK119 _ _ ?_
      refine e_seq fun K122 hK122 => ?_
      refine e_block ?_
      refine e_seq fun K123 hK123 => ?_
      refine e_region_draw mixed (fun _ => False) [0, 0, 3, 7, 0, 0, 48, 112, 255] [] [0, 1, 2, 3, 4, 5, 6, 7, 8] (by kernel_rfl) ?_
      refine q_move rfl rfl ?_
      refine q_move rfl rfl ?_
      obtain ⟨x124, hx124, ho74⟩ := Option.of_bind ho74
      refine q_atS (by infer_instance) rfl f97 rfl hx124 rfl fun b125 o125 hm125 f125 => ?_
      refine q_load rfl (Elt.intCell f125) rfl ?_
      refine q_move rfl rfl ?_
      refine q_move rfl rfl ?_
      obtain ⟨x126, hx126, ho74⟩ := Option.of_bind ho74
      refine q_atS (by infer_instance) rfl f98 rfl hx126 rfl fun b127 o127 hm127 f127 => ?_
      refine q_load rfl (Elt.intCell f127) rfl ?_
      refine q_neq rfl rfl rfl ?_
      refine eseq_nil ?_
      refine hK123 _ _ ?_
      refine e_cond rfl (fun hc128 => ?_) (fun hc128 => ?_)
      · replace ho74 := (if_pos hc128).symm.trans ho74
        refine e_seq fun K129 hK129 => ?_
        refine e_region_text rfl ?_
        refine q_assign rfl rfl ?_
        refine eseq_nil ?_
        refine hK129 _ _ ?_
        refine e_ret ?_
        obtain rfl := Option.some.inj ho74
        obtain rfl := Option.some.inj ht74
        obtain rfl := Option.some.inj h
        exact ⟨_, res1 rfl rfl, _, rfl, hS⟩
      · replace ho74 := (if_neg (not_true hc128)).symm.trans ho74
        refine e_skip ?_
        refine hK122 _ _ ?_
        refine e_region_text rfl ?_
        refine q_move rfl rfl ?_
        refine q_addW rfl rfl rfl ?_
        refine q_assign rfl rfl ?_
        refine eseq_nil ?_
        obtain rfl := Option.some.inj ho74
        exact ⟨m74, _, Nat.lt_succ_self _, ⟨(w64 (x99 + 1)), _, ht74, hS, f97, f98, rfl⟩, Sub.cons rfl (Sub.cons rfl (Sub.cons rfl (Sub.nil _)))⟩
    · replace ho74 := (if_neg (not_true hc121)).symm.trans ho74
      refine e_exit ?_
      obtain rfl := Option.some.inj ho74
      obtain rfl := Option.some.inj ht74
      exact hX74_0  _ _ _ h hS  (Sub.nil _)
theorem ref22_below_w {F R : Nat → Prop} {w : World} {fuel : Nat} {a0 : (List Int)} {a1 : Int} {v1 : Value} {r : (Int)} (hS : Sep F R R w w []) (f1 : IsSlice Ty.int w R v1 a0) (h : ref22_below fuel a0 a1 = some r) :
    Gives Try.prog 54 [v1, .int .i64 a1] w fun u w1 => ∃ (R1 : Nat → Prop), u = .int .i64 r ∧ Sep F R R1 w w1 [] := by
  refine fn_of Try.func54 rfl Try.ntmps54 (Nat.le_of_ble_eq_true rfl) ?_
  unfold ref22_below at h
  refine e_seq fun K68 hK68 => ?_
  refine e_region_text rfl ?_
  refine q_assign rfl rfl ?_
  refine eseq_nil ?_
  refine hK68 _ _ ?_
  refine e_seq fun K69 hK69 => ?_
  refine e_region_text rfl ?_
  refine q_assign rfl rfl ?_
  refine eseq_nil ?_
  refine hK69 _ _ ?_
  refine e_seq fun K70 hK70 => ?_
  refine e_seq fun K71 hK71 => ?_
  refine e_region_text rfl ?_
  refine q_assign rfl rfl ?_
  refine eseq_nil ?_
  refine hK71 _ _ ?_
  refine e_block ?_
  obtain ⟨tl72, ht72, h⟩ := Option.of_bind h
  have hX72_0 : ∀ (x121 : Int) (R119 : Nat → Prop) (w120 : World) (E_ : Env), ref22_below_K1 fuel x121 = some r → Sep F R R119 w w120 [] → Sub [(5, .int .i64 x121)] E_ → K70 E_ w120 := by
    intro x121 R119 w120 E_ h hS  hsub
    refine hK70 _ _ (e_sub hsub ?_); clear hsub
    unfold ref22_below_K1 at h
    refine e_seq fun K122 hK122 => ?_
    refine e_region_text rfl ?_
    refine q_move rfl rfl ?_
    refine q_assign rfl rfl ?_
    refine eseq_nil ?_
    refine hK122 _ _ ?_
    refine e_ret ?_
    obtain rfl := Option.some.inj h
    exact ⟨_, res1 rfl rfl, _, rfl, hS⟩
  refine e_loop (fun m_ E_ w96 => ∃ (x98 : Int), ∃ (x99 : Int), ∃ (R95 : Nat → Prop), iter (fun s => ref22_below_B1 fuel a0 a1 s.1 s.2) m_ (x98, x99) = some tl72 ∧ Sep F R R95 w w96 [] ∧ IsSlice Ty.int w96 R95 v1 a0 ∧ E_ = [(0, v1), (1, .int .i64 a1), (5, .int .i64 x98), (6, .int .i64 x99)]) _ ⟨_, ⟨(-1), 0, _, ht72, hS, f1, rfl⟩, Sub.cons rfl (Sub.cons rfl (Sub.cons rfl (Sub.cons rfl (Sub.nil _))))⟩ ?_
  clear ht72 hS
  rintro m72 _ w96 ⟨x98, x99, R95, ht72, hS, f97, rfl⟩
  obtain ⟨m72, rfl, o72, ho72, ht72⟩ := iter_some ht72
  replace ho72 : ref22_below_B1 fuel a0 a1 x98 x99 = some o72 := ho72
  unfold ref22_below_B1 at ho72
  refine e_seq fun K123 hK123 => ?_
  refine e_seq fun K124 hK124 => ?_
  refine e_region_text rfl ?_
  refine q_move rfl rfl ?_
  refine q_move rfl rfl ?_
  refine q_lenS rfl f97 rfl ?_
  refine q_lss rfl rfl rfl ?_
  refine eseq_nil ?_
  refine hK124 _ _ ?_
  refine e_cond rfl (fun hc125 => ?_) (fun hc125 => ?_)
  · replace ho72 := (if_pos hc125).symm.trans ho72
    refine e_skip ?_
    refine hK123 _ _ ?_
    refine e_seq fun K126 hK126 => ?_
    refine e_block ?_
    refine e_seq fun K127 hK127 => ?_
    refine e_region_text rfl ?_
    refine q_move rfl rfl ?_
    refine q_move rfl rfl ?_
    obtain ⟨x128, hx128, ho72⟩ := Option.of_bind ho72
    refine q_atS (by infer_instance) rfl f97 rfl hx128 rfl fun b129 o129 hm129 f129 => ?_
    refine q_load rfl (Elt.intCell f129) rfl ?_
    refine q_move rfl rfl ?_
    refine q_lss rfl rfl rfl ?_
    refine eseq_nil ?_
    refine hK127 _ _ ?_
    refine e_cond rfl (fun hc130 => ?_) (fun hc130 => ?_)
    · replace ho72 := (if_pos hc130).symm.trans ho72
      refine e_region_text rfl ?_
      refine q_move rfl rfl ?_
      refine q_move rfl rfl ?_
      refine q_move rfl rfl ?_
      obtain ⟨x131, hx131, ho72⟩ := Option.of_bind ho72
      refine q_atS (by infer_instance) rfl f97 rfl hx131 rfl fun b132 o132 hm132 f132 => ?_
      refine q_load rfl (Elt.intCell f132) rfl ?_
      refine q_max rfl rfl rfl ?_
      refine q_assign rfl rfl ?_
      refine eseq_nil ?_
      refine hK126 _ _ ?_
      refine e_region_text rfl ?_
      refine q_move rfl rfl ?_
      refine q_addW rfl rfl rfl ?_
      refine q_assign rfl rfl ?_
      refine eseq_nil ?_
      obtain rfl := Option.some.inj ho72
      exact ⟨m72, _, Nat.lt_succ_self _, ⟨(max x98 x131), (w64 (x99 + 1)), _, ht72, hS, f97, rfl⟩, Sub.cons rfl (Sub.cons rfl (Sub.cons rfl (Sub.cons rfl (Sub.nil _))))⟩
    · replace ho72 := (if_neg (not_true hc130)).symm.trans ho72
      refine e_skip ?_
      refine hK126 _ _ ?_
      refine e_region_text rfl ?_
      refine q_move rfl rfl ?_
      refine q_addW rfl rfl rfl ?_
      refine q_assign rfl rfl ?_
      refine eseq_nil ?_
      obtain rfl := Option.some.inj ho72
      exact ⟨m72, _, Nat.lt_succ_self _, ⟨x98, (w64 (x99 + 1)), _, ht72, hS, f97, rfl⟩, Sub.cons rfl (Sub.cons rfl (Sub.cons rfl (Sub.cons rfl (Sub.nil _))))⟩
  · replace ho72 := (if_neg (not_true hc125)).symm.trans ho72
    refine e_exit ?_
    obtain rfl := Option.some.inj ho72
    obtain rfl := Option.some.inj ht72
    exact hX72_0 x98 _ _ _ h hS  (Sub.cons rfl (Sub.nil _))
theorem ref22_above_w {F R : Nat → Prop} {w : World} {fuel : Nat} {a0 : (List Int)} {a1 : Int} {v1 : Value} {r : (Int)} (hS : Sep F R R w w []) (f1 : IsSlice Ty.int w R v1 a0) (h : ref22_above fuel a0 a1 = some r) :
    Gives Try.prog 58 [v1, .int .i64 a1] w fun u w1 => ∃ (R1 : Nat → Prop), u = .int .i64 r ∧ Sep F R R1 w w1 [] := by
  refine fn_of Try.func58 rfl Try.ntmps58 (Nat.le_of_ble_eq_true rfl) ?_
  unfold ref22_above at h
  refine e_seq fun K104 hK104 => ?_
  refine e_region_text rfl ?_
  refine q_assign rfl rfl ?_
  refine eseq_nil ?_
  refine hK104 _ _ ?_
  refine e_seq fun K105 hK105 => ?_
  refine e_region_text rfl ?_
  refine q_assign rfl rfl ?_
  refine eseq_nil ?_
  refine hK105 _ _ ?_
  refine e_seq fun K106 hK106 => ?_
  refine e_seq fun K107 hK107 => ?_
  refine e_region_text rfl ?_
  refine q_assign rfl rfl ?_
  refine eseq_nil ?_
  refine hK107 _ _ ?_
  refine e_block ?_
  obtain ⟨tl108, ht108, h⟩ := Option.of_bind h
  have hX108_0 : ∀ (x181 : Int) (R179 : Nat → Prop) (w180 : World) (E_ : Env), ref22_above_K1 fuel x181 = some r → Sep F R R179 w w180 [] → Sub [(5, .int .i64 x181)] E_ → K106 E_ w180 := by
    intro x181 R179 w180 E_ h hS  hsub
    refine hK106 _ _ (e_sub hsub ?_); clear hsub
    unfold ref22_above_K1 at h
    refine e_seq fun K182 hK182 => ?_
    refine e_region_text rfl ?_
    refine q_move rfl rfl ?_
    refine q_assign rfl rfl ?_
    refine eseq_nil ?_
    refine hK182 _ _ ?_
    refine e_ret ?_
    obtain rfl := Option.some.inj h
    exact ⟨_, res1 rfl rfl, _, rfl, hS⟩
  refine e_loop (fun m_ E_ w144 => ∃ (x146 : Int), ∃ (x147 : Int), ∃ (R143 : Nat → Prop), iter (fun s => ref22_above_B1 fuel a0 a1 s.1 s.2) m_ (x146, x147) = some tl108 ∧ Sep F R R143 w w144 [] ∧ IsSlice Ty.int w144 R143 v1 a0 ∧ E_ = [(0, v1), (1, .int .i64 a1), (5, .int .i64 x146), (6, .int .i64 x147)]) _ ⟨_, ⟨(-1), 0, _, ht108, hS, f1, rfl⟩, Sub.cons rfl (Sub.cons rfl (Sub.cons rfl (Sub.cons rfl (Sub.nil _))))⟩ ?_
  clear ht108 hS
  rintro m108 _ w144 ⟨x146, x147, R143, ht108, hS, f145, rfl⟩
  obtain ⟨m108, rfl, o108, ho108, ht108⟩ := iter_some ht108
  replace ho108 : ref22_above_B1 fuel a0 a1 x146 x147 = some o108 := ho108
  unfold ref22_above_B1 at ho108
  refine e_seq fun K183 hK183 => ?_
  refine e_seq fun K184 hK184 => ?_
  refine e_region_text rfl ?_
  refine q_move rfl rfl ?_
  refine q_move rfl rfl ?_
  refine q_lenS rfl f145 rfl ?_
  refine q_lss rfl rfl rfl ?_
  refine eseq_nil ?_
  refine hK184 _ _ ?_
  refine e_cond rfl (fun hc185 => ?_) (fun hc185 => ?_)
  · replace ho108 := (if_pos hc185).symm.trans ho108
    refine e_skip ?_
    refine hK183 _ _ ?_
    refine e_seq fun K186 hK186 => ?_
    refine e_block ?_
    refine e_seq fun K187 hK187 => ?_
    refine e_region_text rfl ?_
    refine q_move rfl rfl ?_
    refine q_move rfl rfl ?_
    obtain ⟨x188, hx188, ho108⟩ := Option.of_bind ho108
    refine q_atS (by infer_instance) rfl f145 rfl hx188 rfl fun b189 o189 hm189 f189 => ?_
    refine q_load rfl (Elt.intCell f189) rfl ?_
    refine q_move rfl rfl ?_
    refine q_geq rfl rfl rfl ?_
    refine q_move rfl rfl ?_
    obtain ⟨x197, hx196, ho108⟩ := Option.of_bind ho108
    refine g_andM 10 hx196 rfl trivial rfl rfl ?_ ?_ ?_
    · intro hg196 hx196
      clear ho108
      have hT196 := Below.refl (World.heap w144).size w144
      refine g_run rfl ?_; refine q_move rfl rfl ?_
      refine g_run rfl ?_; refine q_lss rfl rfl rfl ?_
      refine g_run rfl ?_; refine q_move rfl rfl ?_
      obtain ⟨x199, hx198, hx196⟩ := Option.of_bind hx196
      refine g_orM 6 hx198 rfl rfl rfl rfl ?_ ?_ ?_
      · intro hg198
        refine g_skip rfl rfl rfl ?_
        refine g_skip rfl rfl rfl ?_
        refine g_skip rfl rfl rfl ?_
        refine g_skip rfl rfl rfl ?_
        refine g_skip rfl rfl rfl ?_
        refine g_skip rfl rfl rfl ?_
        exact eseq_nil ⟨rfl, Sub.set rfl (Sub.set rfl (Sub.set rfl (Sub.set rfl (Sub.set rfl (Sub.set rfl (Sub.bool true rfl hg198))))))⟩
      · intro hg198 hx198
        clear hx196
        have hT198 := Below.refl (World.heap w144).size w144
        refine g_run rfl ?_; refine q_move rfl rfl ?_
        refine g_run rfl ?_; refine q_move rfl rfl ?_
        obtain ⟨x200, hx200, hx198⟩ := Option.of_bind hx198
        refine g_run rfl ?_; refine q_atS (by infer_instance) rfl f145 rfl hx200 rfl fun b201 o201 hm201 f201 => ?_
        refine g_run rfl ?_; refine q_load rfl (Elt.intCell f201) rfl ?_
        refine g_run rfl ?_; refine q_move rfl rfl ?_
        refine g_run rfl ?_; refine q_lss rfl rfl rfl ?_
        cases hx198
        exact eseq_nil ⟨hT198, Sub.set rfl (Sub.set rfl (Sub.set rfl (Sub.set rfl (Sub.set rfl (Sub.set rfl (Sub.bool false rfl hg198)))))), rfl⟩
      intro wm198 hBm198; clear hx198
      replace hS := hS.below hBm198
      replace f145 := f145.ext hBm198
      replace hT196 := hT196.trans (Below.mono hBm198 hT196.size)
      cases hx196
      exact eseq_nil ⟨hT196, Sub.set rfl (Sub.set rfl (Sub.set rfl (Sub.set rfl (Sub.bool true rfl hg196)))), rfl⟩
    · intro hg196
      refine g_skip rfl rfl rfl ?_
      refine g_skip rfl rfl rfl ?_
      refine g_skip rfl rfl rfl ?_
      refine g_skipU rfl rfl ?_
      refine g_skipU rfl rfl ?_
      refine g_skipU rfl rfl ?_
      refine g_skipU rfl rfl ?_
      refine g_skipU rfl rfl ?_
      refine g_skipU rfl rfl ?_
      refine g_skip rfl rfl rfl ?_
      exact eseq_nil ⟨rfl, Sub.set rfl (Sub.set rfl (Sub.set rfl (Sub.set rfl (Sub.set rfl (Sub.set rfl (Sub.set rfl (Sub.set rfl (Sub.set rfl (Sub.set rfl (Sub.bool false rfl hg196))))))))))⟩
    intro wm196 hBm196; clear hx196
    replace hS := hS.below hBm196
    replace f145 := f145.ext hBm196
    refine eseq_nil ?_
    refine hK187 _ _ ?_
    refine e_cond rfl (fun hc202 => ?_) (fun hc202 => ?_)
    · replace ho108 := (if_pos hc202).symm.trans ho108
      refine e_region_text rfl ?_
      refine q_move rfl rfl ?_
      refine q_move rfl rfl ?_
      obtain ⟨x203, hx203, ho108⟩ := Option.of_bind ho108
      refine q_atS (by infer_instance) rfl f145 rfl hx203 rfl fun b204 o204 hm204 f204 => ?_
      refine q_load rfl (Elt.intCell f204) rfl ?_
      refine q_assign rfl rfl ?_
      refine eseq_nil ?_
      refine hK186 _ _ ?_
      refine e_region_text rfl ?_
      refine q_move rfl rfl ?_
      refine q_addW rfl rfl rfl ?_
      refine q_assign rfl rfl ?_
      refine eseq_nil ?_
      obtain rfl := Option.some.inj ho108
      exact ⟨m108, _, Nat.lt_succ_self _, ⟨x203, (w64 (x147 + 1)), _, ht108, hS, f145, rfl⟩, Sub.cons rfl (Sub.cons rfl (Sub.cons rfl (Sub.cons rfl (Sub.nil _))))⟩
    · replace ho108 := (if_neg (not_true hc202)).symm.trans ho108
      refine e_skip ?_
      refine hK186 _ _ ?_
      refine e_region_text rfl ?_
      refine q_move rfl rfl ?_
      refine q_addW rfl rfl rfl ?_
      refine q_assign rfl rfl ?_
      refine eseq_nil ?_
      obtain rfl := Option.some.inj ho108
      exact ⟨m108, _, Nat.lt_succ_self _, ⟨x146, (w64 (x147 + 1)), _, ht108, hS, f145, rfl⟩, Sub.cons rfl (Sub.cons rfl (Sub.cons rfl (Sub.cons rfl (Sub.nil _))))⟩
  · replace ho108 := (if_neg (not_true hc185)).symm.trans ho108
    refine e_exit ?_
    obtain rfl := Option.some.inj ho108
    obtain rfl := Option.some.inj ht108
    exact hX108_0 x146 _ _ _ h hS  (Sub.cons rfl (Sub.nil _))
theorem ref22_in_w {F R : Nat → Prop} {w : World} {fuel : Nat} {a0 : (List Int)} {a1 : Int} {v1 : Value} {r : (Bool)} (hS : Sep F R R w w []) (f1 : IsSlice Ty.int w R v1 a0) (h : ref22_in fuel a0 a1 = some r) :
    Gives Try.prog 52 [v1, .int .i64 a1] w fun u w1 => ∃ (R1 : Nat → Prop), u = .bool r ∧ Sep F R R1 w w1 [] := by
  refine fn_of Try.func52 rfl Try.ntmps52 (Nat.le_of_ble_eq_true rfl) ?_
  unfold ref22_in at h
  refine e_seq fun K51 hK51 => ?_
  refine e_region_text rfl ?_
  refine q_assign rfl rfl ?_
  refine eseq_nil ?_
  refine hK51 _ _ ?_
  refine e_seq fun K52 hK52 => ?_
  refine e_seq fun K53 hK53 => ?_
  refine e_region_text rfl ?_
  refine q_assign rfl rfl ?_
  refine eseq_nil ?_
  refine hK53 _ _ ?_
  refine e_block ?_
  obtain ⟨tl54, ht54, h⟩ := Option.of_bind h
  have hX54_0 : ∀ (R89 : Nat → Prop) (w90 : World) (E_ : Env), ref22_in_K1 fuel = some r → Sep F R R89 w w90 [] → Sub [] E_ → K52 E_ w90 := by
    intro R89 w90 E_ h hS  hsub
    refine hK52 _ _ (e_sub hsub ?_); clear hsub
    unfold ref22_in_K1 at h
    refine e_seq fun K91 hK91 => ?_
    refine e_region_text rfl ?_
    refine q_assign rfl rfl ?_
    refine eseq_nil ?_
    refine hK91 _ _ ?_
    refine e_ret ?_
    obtain rfl := Option.some.inj h
    exact ⟨_, res1 rfl rfl, _, rfl, hS⟩
  refine e_loop (fun m_ E_ w73 => ∃ (x75 : Int), ∃ (R72 : Nat → Prop), iter (fun s => ref22_in_B1 fuel a0 a1 s) m_ x75 = some tl54 ∧ Sep F R R72 w w73 [] ∧ IsSlice Ty.int w73 R72 v1 a0 ∧ E_ = [(0, v1), (1, .int .i64 a1), (5, .int .i64 x75)]) _ ⟨_, ⟨0, _, ht54, hS, f1, rfl⟩, Sub.cons rfl (Sub.cons rfl (Sub.cons rfl (Sub.nil _)))⟩ ?_
  clear ht54 hS
  rintro m54 _ w73 ⟨x75, R72, ht54, hS, f74, rfl⟩
  obtain ⟨m54, rfl, o54, ho54, ht54⟩ := iter_some ht54
  replace ho54 : ref22_in_B1 fuel a0 a1 x75 = some o54 := ho54
  unfold ref22_in_B1 at ho54
  refine e_seq fun K92 hK92 => ?_
  refine e_seq fun K93 hK93 => ?_
  refine e_region_text rfl ?_
  refine q_move rfl rfl ?_
  refine q_move rfl rfl ?_
  refine q_lenS rfl f74 rfl ?_
  refine q_lss rfl rfl rfl ?_
  refine eseq_nil ?_
  refine hK93 _ _ ?_
  refine e_cond rfl (fun hc94 => ?_) (fun hc94 => ?_)
  · replace ho54 := (if_pos hc94).symm.trans ho54
    refine e_skip ?_
    refine hK92 _ _ ?_
    refine e_seq fun K95 hK95 => ?_
    refine e_block ?_
    refine e_seq fun K96 hK96 => ?_
    refine e_region_text rfl ?_
    refine q_move rfl rfl ?_
    refine q_move rfl rfl ?_
    obtain ⟨x97, hx97, ho54⟩ := Option.of_bind ho54
    refine q_atS (by infer_instance) rfl f74 rfl hx97 rfl fun b98 o98 hm98 f98 => ?_
    refine q_load rfl (Elt.intCell f98) rfl ?_
    refine q_move rfl rfl ?_
    refine q_eql rfl rfl rfl ?_
    refine eseq_nil ?_
    refine hK96 _ _ ?_
    refine e_cond rfl (fun hc99 => ?_) (fun hc99 => ?_)
    · replace ho54 := (if_pos hc99).symm.trans ho54
      refine e_seq fun K100 hK100 => ?_
      refine e_region_text rfl ?_
      refine q_assign rfl rfl ?_
      refine eseq_nil ?_
      refine hK100 _ _ ?_
      refine e_ret ?_
      obtain rfl := Option.some.inj ho54
      obtain rfl := Option.some.inj ht54
      obtain rfl := Option.some.inj h
      exact ⟨_, res1 rfl rfl, _, rfl, hS⟩
    · replace ho54 := (if_neg (not_true hc99)).symm.trans ho54
      refine e_skip ?_
      refine hK95 _ _ ?_
      refine e_region_text rfl ?_
      refine q_move rfl rfl ?_
      refine q_addW rfl rfl rfl ?_
      refine q_assign rfl rfl ?_
      refine eseq_nil ?_
      obtain rfl := Option.some.inj ho54
      exact ⟨m54, _, Nat.lt_succ_self _, ⟨(w64 (x75 + 1)), _, ht54, hS, f74, rfl⟩, Sub.cons rfl (Sub.cons rfl (Sub.cons rfl (Sub.nil _)))⟩
  · replace ho54 := (if_neg (not_true hc94)).symm.trans ho54
    refine e_exit ?_
    obtain rfl := Option.some.inj ho54
    obtain rfl := Option.some.inj ht54
    exact hX54_0  _ _ _ h hS  (Sub.nil _)
theorem ref22_Greatest_w {F R : Nat → Prop} {w : World} {fuel : Nat} {a0 : Pat} {a1 : (List (List Int))} {v1 : Value} {v2 : Value} {v3 : Value} {v4 : Value} {r : ((List Int) × Bool)} (hS : Sep F R R w w []) (f1 : IsSlice Ty.int w R v1 a0.lens) (f2 : IsSlice (Ty.slice Ty.int) w R v2 a0.ckpts) (f3 : IsSlice arcTy w R v3 a0.arcs) (f4 : IsSlice (Ty.slice Ty.int) w R v4 a1) (h : ref22_Greatest fuel a0 a1 = some r) :
    Gives Try.prog 32 [.agg #[v1, v2, v3], v4] w fun u w1 => ∃ (v269 : Value), ∃ (R1 : Nat → Prop), u = .tuple #[v269, .bool r.2] ∧ Sep F R R1 w w1 [HP.own Ty.int (fun _ => False) 3 v269 r.1] := by
  refine fn_of Try.func32 rfl Try.ntmps32 (Nat.le_of_ble_eq_true rfl) ?_
  unfold ref22_Greatest at h
  refine e_seq fun K270 hK270 => ?_
  refine e_region_text rfl ?_
  refine q_boxB rfl rfl rfl fun w271 bl271 hg271 hb271 hB271 => ?_
  replace f1 := f1.ext hB271
  replace f2 := f2.ext hB271
  replace f3 := f3.ext hB271
  replace f4 := f4.ext hB271
  replace hS := hS.newBlk hB271 hg271 hb271
  refine q_assign rfl rfl ?_
  refine q_assign rfl rfl ?_
  refine eseq_nil ?_
  refine hK270 _ _ ?_
  refine e_seq fun K273 hK273 => ?_
  refine e_region_text rfl ?_
  refine q_assign rfl rfl ?_
  refine eseq_nil ?_
  refine hK273 _ _ ?_
  refine e_seq fun K274 hK274 => ?_
  refine e_seq fun K275 hK275 => ?_
  refine e_region_text rfl ?_
  refine q_assign rfl rfl ?_
  refine eseq_nil ?_
  refine hK275 _ _ ?_
  refine e_block ?_
  obtain ⟨tl276, ht276, h⟩ := Option.of_bind h
  have hX276_0 : ∀ (x362 : (List Int)) (v361 : Value) (R354 : Nat → Prop) (w355 : World) (E_ : Env), ref22_Greatest_K1 fuel a0 a1 x362 = some r → Sep F R R354 w w355 [HP.blk bl271 [v1, v2, v3] 32, HP.own Ty.int (fun _ => False) 3 v361 x362] → IsSlice (Ty.slice Ty.int) w355 R354 v4 a1 → IsSlice Ty.int w355 R354 v1 a0.lens → IsSlice (Ty.slice Ty.int) w355 R354 v2 a0.ckpts → IsSlice arcTy w355 R354 v3 a0.arcs → Sub [(1, v4), (2, .pointer (some ⟨bl271, 0, none⟩)), (6, v361)] E_ → K274 E_ w355 := by
    intro x362 v361 R354 w355 E_ h hS f356 f357 f358 f359 hsub
    refine hK274 _ _ (e_sub hsub ?_); clear hsub
    unfold ref22_Greatest_K1 at h
    refine e_block ?_
    obtain ⟨tl363, ht363, h⟩ := Option.of_bind h
    refine e_loop (fun m_ E_ w419 => ∃ (x426 : (List Int)), ∃ (v425 : Value), ∃ (R418 : Nat → Prop), iter (fun s => ref22_Greatest_B1 fuel a0 a1 s) m_ x426 = some tl363 ∧ Sep F R R418 w w419 [HP.blk bl271 [v1, v2, v3] 32, HP.own Ty.int (fun _ => False) 3 v425 x426] ∧ IsSlice (Ty.slice Ty.int) w419 R418 v4 a1 ∧ IsSlice Ty.int w419 R418 v1 a0.lens ∧ IsSlice (Ty.slice Ty.int) w419 R418 v2 a0.ckpts ∧ IsSlice arcTy w419 R418 v3 a0.arcs ∧ E_ = [(1, v4), (2, .pointer (some ⟨bl271, 0, none⟩)), (6, v425)]) _ ⟨_, ⟨x362, v361, _, ht363, hS, f356, f357, f358, f359, rfl⟩, Sub.cons rfl (Sub.cons rfl (Sub.cons rfl (Sub.nil _)))⟩ ?_
    clear ht363 hS
    rintro m363 _ w419 ⟨x426, v425, R418, ht363, hS, f420, f421, f422, f423, rfl⟩
    obtain ⟨m363, rfl, o363, ho363, ht363⟩ := iter_some ht363
    replace ho363 : ref22_Greatest_B1 fuel a0 a1 x426 = some o363 := ho363
    unfold ref22_Greatest_B1 at ho363
    refine e_block ?_
    refine e_seq fun K474 hK474 => ?_
    refine e_region_text rfl ?_
    refine q_loadAgg rfl (Blk.cellsAt (hS.blk 0 rfl) 0 3 rfl) rfl rfl ?_
    refine q_move rfl rfl ?_
    obtain ⟨r476, hr476, ho363⟩ := Option.of_bind ho363
    refine q_call rfl (ref18_Orphans_w (a0 := (⟨a0.lens, a0.ckpts, a0.arcs⟩ : Pat)) (Sep.all w419) (f421).old (f422).old (f423).old ((hS.isl 1 rfl)).old hr476) rfl ?_
    rintro v477 w475 ⟨_, R475, rfl, hC475⟩
    have hB475 : Below (World.heap w419).size w419 w475 := hC475.stepBF
    refine ⟨fun _ => .of_below hB475, ?_⟩
    replace f420 := f420.ext hB475
    replace f421 := f421.ext hB475
    replace f422 := f422.ext hB475
    replace f423 := f423.ext hB475
    replace hS := hS.newOwnS hB475 (hC475.own 0 rfl) (hC475.fresh 0 rfl) (fun _ h => h.elim)
    refine q_assign rfl rfl ?_
    refine eseq_nil ?_
    refine hK474 _ _ ?_
    refine e_seq fun K478 hK478 => ?_
    refine e_seq fun K479 hK479 => ?_
    refine e_region_text rfl ?_
    refine q_move rfl rfl ?_
    refine q_lenS rfl (hS.isl 0 rfl) rfl ?_
    refine q_eql rfl rfl rfl ?_
    refine eseq_nil ?_
    refine hK479 _ _ ?_
    refine e_cond rfl (fun hc480 => ?_) (fun hc480 => ?_)
    · replace ho363 := (if_pos hc480).symm.trans ho363
      refine e_seq fun K481 hK481 => ?_
      refine e_region_text rfl ?_
      refine q_move rfl rfl ?_
      refine q_assign rfl rfl ?_
      refine q_assign rfl rfl ?_
      refine eseq_nil ?_
      refine hK481 _ _ ?_
      refine e_ret ?_
      obtain rfl := Option.some.inj ho363
      obtain rfl := Option.some.inj ht363
      obtain rfl := Option.some.inj h
      exact ⟨_, res2 rfl rfl rfl, v425, _, rfl, (hS.pickB [2] 3 rfl rfl)⟩
    · replace ho363 := (if_neg (not_true hc480)).symm.trans ho363
      refine e_skip ?_
      refine hK478 _ _ ?_
      refine e_seq fun K482 hK482 => ?_
      refine e_region_draw mixed (fun _ => False) [0, 1, 0, 4, 12, 31, 63, 0, 255] [7] [0, 1, 2, 3, 4, 5, 6, 7, 8] (by kernel_rfl) ?_
      refine q_field rfl rfl ?_
      refine q_load rfl (Blk.cell (hS.blk 1 rfl) rfl) rfl ?_
      refine q_move rfl rfl ?_
      obtain ⟨x491, hx491, ho363⟩ := Option.of_bind ho363
      refine q_indexO (by infer_instance) rfl (hS.own 0 rfl) rfl hx491 rfl ?_
      have f492 := (hS.ownR 0 rfl).elt hx491
      refine q_load rfl (Elt.intCell f492) rfl ?_
      obtain ⟨x493, hx493, ho363⟩ := Option.of_bind ho363
      refine q_atS (by infer_instance) rfl f423 rfl hx493 rfl fun b494 o494 hm494 f494 => ?_
      have hc495 := Arc_open f494
      refine q_loadAgg rfl hc495 rfl rfl ?_
      refine q_allocB rfl fun w496 bl496 hg496 hb496 hB496 => ?_
      replace f420 := f420.ext hB496
      replace f421 := f421.ext hB496
      replace f422 := f422.ext hB496
      replace f423 := f423.ext hB496
      replace hS := hS.newBlk hB496 hg496 hb496
      refine q_storeAgg rfl rfl (hS.blk 0 rfl) rfl (Nat.le_of_ble_eq_true rfl) (all_cons rfl (all_cons rfl (all_cons rfl (all_cons rfl (all_nil))))) rfl rfl fun w498 hb498 hO498 => ?_
      simp only [setN, List.set, List.take, List.drop] at hb498
      have hk498 := hS.keptBlk 0 rfl hO498
      replace f420 := f420.kept hk498
      replace f421 := f421.kept hk498
      replace f422 := f422.kept hk498
      replace f423 := f423.kept hk498
      replace hS := hS.setBlk 0 rfl hb498 hO498; simp only [List.set] at hS
      refine eseq_nil ?_
      refine hK482 _ _ ?_
      refine e_seq fun K499 hK499 => ?_
      refine e_region_draw mixed (fun _ => False) [0, 0, 2, 7, 15, 0, 32, 127, 255] [] [0, 1, 2, 3, 4, 5, 6, 7, 8] (by kernel_rfl) ?_
      refine q_move rfl rfl ?_
      refine q_field rfl rfl ?_
      refine q_load rfl (Blk.cell (hS.blk 0 rfl) rfl) rfl ?_
      obtain ⟨x500, hx500, ho363⟩ := Option.of_bind ho363
      refine q_atS (by infer_instance) rfl f420 rfl hx500 rfl fun b501 o501 hm501 f501 => ?_
      refine q_loadE rfl f501 rfl (fun v502 f502 => ?_)
      refine q_field rfl rfl ?_
      refine q_load rfl (Blk.cell (hS.blk 0 rfl) rfl) rfl ?_
      obtain ⟨r504, hr504, ho363⟩ := Option.of_bind ho363
      refine q_call rfl (ref22_below_w (Sep.enter (As := []) hS) f502 hr504) rfl ?_
      rintro _ w503 ⟨R503, rfl, hC503⟩
      have hB503 : Below (World.heap w498).size w498 w503 := hC503.stepB0
      refine ⟨fun _ => .of_below hB503, ?_⟩
      replace f420 := (f420.ext hB503).mono fun k hk _ => hC503.ro0 k hk
      replace f421 := (f421.ext hB503).mono fun k hk _ => hC503.ro0 k hk
      replace f422 := (f422.ext hB503).mono fun k hk _ => hC503.ro0 k hk
      replace f423 := (f423.ext hB503).mono fun k hk _ => hC503.ro0 k hk
      replace f502 := (f502.ext hB503).mono fun k hk _ => hC503.ro0 k hk
      replace hS := Sep.leave (As := []) hS hC503; simp only [List.cons_append, List.nil_append] at hS
      refine q_assign rfl rfl ?_
      refine eseq_nil ?_
      refine hK499 _ _ ?_
      refine e_seq fun K505 hK505 => ?_
      refine e_seq fun K506 hK506 => ?_
      refine e_region_text rfl ?_
      refine q_move rfl rfl ?_
      refine q_lss rfl rfl rfl ?_
      refine eseq_nil ?_
      refine hK506 _ _ ?_
      refine e_cond rfl (fun hc507 => ?_) (fun hc507 => ?_)
      · replace ho363 := (if_pos hc507).symm.trans ho363
        refine e_seq fun K508 hK508 => ?_
        refine e_region_text rfl ?_
        refine q_assign rfl rfl ?_
        refine q_assign rfl rfl ?_
        refine eseq_nil ?_
        refine hK508 _ _ ?_
        refine e_ret ?_
        replace hS := hS.nilOwn0 Ty.int 3
        obtain rfl := Option.some.inj ho363
        obtain rfl := Option.some.inj ht363
        obtain rfl := Option.some.inj h
        exact ⟨_, res2 rfl rfl rfl, (.slice none 0 0), _, rfl, (hS.pickB [0] 5 rfl rfl)⟩
      · replace ho363 := (if_neg (not_true hc507)).symm.trans ho363
        refine e_skip ?_
        refine hK505 _ _ ?_
        refine e_region_text rfl ?_
        refine q_move rfl rfl ?_
        refine q_field rfl rfl ?_
        refine q_load rfl (Blk.cell (hS.blk 0 rfl) rfl) rfl ?_
        refine q_move rfl rfl ?_
        obtain ⟨x510, hx510, ho363⟩ := Option.of_bind ho363
        refine q_indexO (by infer_instance) rfl (hS.own 3 rfl) rfl hx510 rfl ?_
        obtain ⟨x512, hx512, ho363⟩ := Option.of_bind ho363
        refine q_storeO (T := Ty.int) (j := 0) rfl rfl (hS.own 3 rfl) hx510 hx512 rfl rfl rfl (Enc.setL rfl) fun w511 ho511 hO511 => ?_
        have hk511 := hS.keptO 3 rfl hx510 hO511
        replace f420 := f420.kept hk511
        replace f421 := f421.kept hk511
        replace f422 := f422.kept hk511
        replace f423 := f423.kept hk511
        replace hS := hS.putO 3 rfl hx510 ho511 hO511; simp only [List.set] at hS
        refine eseq_nil ?_
        obtain rfl := Option.some.inj ho363
        exact ⟨m363, _, Nat.lt_succ_self _, ⟨x512, v425, _, ht363, (hS.pickB [2, 3] 4 rfl rfl), f420, f421, f422, f423, rfl⟩, Sub.cons rfl (Sub.cons rfl (Sub.cons rfl (Sub.nil _)))⟩
  replace hS := hS.nilOwn0 Ty.int 3
  refine e_loop (fun m_ E_ w315 => ∃ (x322 : (List Int)), ∃ (x323 : Int), ∃ (v321 : Value), ∃ (R314 : Nat → Prop), iter (fun s => ref22_Greatest_B2 fuel a0 a1 s.1 s.2) m_ (x322, x323) = some tl276 ∧ Sep F R R314 w w315 [HP.blk bl271 [v1, v2, v3] 32, HP.own Ty.int (fun _ => False) 3 v321 x322] ∧ IsSlice (Ty.slice Ty.int) w315 R314 v4 a1 ∧ IsSlice Ty.int w315 R314 v1 a0.lens ∧ IsSlice (Ty.slice Ty.int) w315 R314 v2 a0.ckpts ∧ IsSlice arcTy w315 R314 v3 a0.arcs ∧ E_ = [(1, v4), (2, .pointer (some ⟨bl271, 0, none⟩)), (6, v321), (7, .int .i64 x323)]) _ ⟨_, ⟨([] : List Int), 0, (.slice none 0 0), _, ht276, (hS.pickB [1, 0] 2 rfl rfl), f4, f1, f2, f3, rfl⟩, Sub.cons rfl (Sub.cons rfl (Sub.cons rfl (Sub.cons rfl (Sub.nil _))))⟩ ?_
  clear ht276 hS
  rintro m276 _ w315 ⟨x322, x323, v321, R314, ht276, hS, f316, f317, f318, f319, rfl⟩
  obtain ⟨m276, rfl, o276, ho276, ht276⟩ := iter_some ht276
  replace ho276 : ref22_Greatest_B2 fuel a0 a1 x322 x323 = some o276 := ho276
  unfold ref22_Greatest_B2 at ho276
  refine e_seq fun K514 hK514 => ?_
  refine e_seq fun K515 hK515 => ?_
  refine e_region_text rfl ?_
  refine q_move rfl rfl ?_
  refine q_field rfl rfl ?_
  refine q_load rfl (Blk.cell (hS.blk 0 rfl) rfl) rfl ?_
  refine q_lenS rfl f317 rfl ?_
  refine q_lss rfl rfl rfl ?_
  refine eseq_nil ?_
  refine hK515 _ _ ?_
  refine e_cond rfl (fun hc516 => ?_) (fun hc516 => ?_)
  · replace ho276 := (if_pos hc516).symm.trans ho276
    refine e_skip ?_
    refine hK514 _ _ ?_
    refine e_seq fun K517 hK517 => ?_
    refine e_block ?_
    refine e_seq fun K518 hK518 => ?_
    refine e_region_draw mixed (fun _ => False) [0, 0, 3, 7, 0, 16, 0, 112, 240, 496, 1023, 2047] [] [0, 1, 2, 3, 4, 5, 6, 7, 8, 9, 10, 11] (by kernel_rfl) ?_
    refine q_move rfl rfl ?_
    refine q_move rfl rfl ?_
    obtain ⟨x519, hx519, ho276⟩ := Option.of_bind ho276
    refine q_atS (by infer_instance) rfl f316 rfl hx519 rfl fun b520 o520 hm520 f520 => ?_
    refine q_loadE rfl f520 rfl (fun v521 f521 => ?_)
    refine q_field rfl rfl ?_
    refine q_load rfl (Blk.cell (hS.blk 0 rfl) rfl) rfl ?_
    refine q_move rfl rfl ?_
    obtain ⟨x522, hx522, ho276⟩ := Option.of_bind ho276
    refine q_atS (by infer_instance) rfl f317 rfl hx522 rfl fun b523 o523 hm523 f523 => ?_
    refine q_load rfl (Elt.intCell f523) rfl ?_
    refine q_addW rfl rfl rfl ?_
    obtain ⟨r525, hr525, ho276⟩ := Option.of_bind ho276
    refine q_call rfl (ref22_below_w (Sep.enter (As := []) hS) f521 hr525) rfl ?_
    rintro _ w524 ⟨R524, rfl, hC524⟩
    have hB524 : Below (World.heap w315).size w315 w524 := hC524.stepB0
    refine ⟨fun _ => .of_below hB524, ?_⟩
    replace f316 := (f316.ext hB524).mono fun k hk _ => hC524.ro0 k hk
    replace f317 := (f317.ext hB524).mono fun k hk _ => hC524.ro0 k hk
    replace f318 := (f318.ext hB524).mono fun k hk _ => hC524.ro0 k hk
    replace f319 := (f319.ext hB524).mono fun k hk _ => hC524.ro0 k hk
    replace f521 := (f521.ext hB524).mono fun k hk _ => hC524.ro0 k hk
    replace hS := Sep.leave (As := []) hS hC524; simp only [List.cons_append, List.nil_append] at hS
    refine q_assign rfl rfl ?_
    refine eseq_nil ?_
    refine hK518 _ _ ?_
    refine e_seq fun K526 hK526 => ?_
    refine e_seq fun K527 hK527 => ?_
    refine e_region_text rfl ?_
    refine q_move rfl rfl ?_
    refine q_lss rfl rfl rfl ?_
    refine eseq_nil ?_
    refine hK527 _ _ ?_
    refine e_cond rfl (fun hc528 => ?_) (fun hc528 => ?_)
    · replace ho276 := (if_pos hc528).symm.trans ho276
      refine e_seq fun K529 hK529 => ?_
      refine e_region_text rfl ?_
      refine q_assign rfl rfl ?_
      refine q_assign rfl rfl ?_
      refine eseq_nil ?_
      refine hK529 _ _ ?_
      refine e_ret ?_
      replace hS := hS.nilOwn0 Ty.int 3
      obtain rfl := Option.some.inj ho276
      obtain rfl := Option.some.inj ht276
      obtain rfl := Option.some.inj h
      exact ⟨_, res2 rfl rfl rfl, (.slice none 0 0), _, rfl, (hS.pickB [0] 3 rfl rfl)⟩
    · replace ho276 := (if_neg (not_true hc528)).symm.trans ho276
      refine e_skip ?_
      refine hK526 _ _ ?_
      refine e_region_text rfl ?_
      refine q_move rfl rfl ?_
      refine q_move rfl rfl ?_
      refine q_litO (T := Ty.int) (S := (fun _ => False)) (cells := [[.int .i64 r525]]) (ys := [r525]) ((Parts.cons rfl rfl Parts.nil)) rfl rfl rfl rfl rfl rfl rfl (fun w1 hB => ⟨rfl, trivial⟩) (fun _ h => h.elim) rfl fun w531 v531 ho531 hv531 hB531 => ?_
      replace f316 := f316.ext hB531
      replace f317 := f317.ext hB531
      replace f318 := f318.ext hB531
      replace f319 := f319.ext hB531
      replace hS := hS.newOwnS hB531 ho531 hv531 (fun _ h => h.elim)
      obtain ⟨x534, hx534, ho276⟩ := Option.of_bind ho276
      refine q_catOwn (T := Ty.int) rfl rfl rfl rfl (hS.own 2 rfl) rfl (hS.own 0 rfl) (fun _ h _ => h.elim) (snoc_cat hx534) (Nat.zero_le _) rfl (fun h => by cases h) fun v533 w533 hw533 hgr533 hnw533 => ?_
      have hk533 := hS.keptOwn 2 rfl hgr533
      replace f316 := f316.kept hk533
      replace f317 := f317.kept hk533
      replace f318 := f318.kept hk533
      replace f319 := f319.kept hk533
      replace hS := hS.setOwn 2 rfl hw533 hgr533 hnw533; simp only [List.set] at hS
      refine q_assign rfl rfl ?_
      refine eseq_nil ?_
      refine hK517 _ _ ?_
      refine e_region_text rfl ?_
      refine q_move rfl rfl ?_
      refine q_addW rfl rfl rfl ?_
      refine q_assign rfl rfl ?_
      refine eseq_nil ?_
      obtain rfl := Option.some.inj ho276
      exact ⟨m276, _, Nat.lt_succ_self _, ⟨x534, (w64 (x323 + 1)), v533, _, ht276, (hS.pickB [1, 2] 3 rfl rfl), f316, f317, f318, f319, rfl⟩, Sub.cons rfl (Sub.cons rfl (Sub.cons rfl (Sub.cons rfl (Sub.nil _))))⟩
  · replace ho276 := (if_neg (not_true hc516)).symm.trans ho276
    refine e_exit ?_
    obtain rfl := Option.some.inj ho276
    obtain rfl := Option.some.inj ht276
    exact hX276_0 x322 v321 _ _ _ h hS f316 f317 f318 f319 (Sub.cons rfl (Sub.cons rfl (Sub.cons rfl (Sub.nil _))))
theorem ref22_Least_w {F R : Nat → Prop} {w : World} {fuel : Nat} {a0 : Pat} {a1 : (List (List Int))} {a2 : (List Int)} {v1 : Value} {v2 : Value} {v3 : Value} {v4 : Value} {v5 : Value} {r : ((List Int) × Bool)} (hS : Sep F R R w w []) (f1 : IsSlice Ty.int w R v1 a0.lens) (f2 : IsSlice (Ty.slice Ty.int) w R v2 a0.ckpts) (f3 : IsSlice arcTy w R v3 a0.arcs) (f4 : IsSlice (Ty.slice Ty.int) w R v4 a1) (f5 : IsSlice Ty.int w R v5 a2) (h : ref22_Least fuel a0 a1 a2 = some r) :
    Gives Try.prog 34 [.agg #[v1, v2, v3], v4, v5] w fun u w1 => ∃ (v274 : Value), ∃ (R1 : Nat → Prop), u = .tuple #[v274, .bool r.2] ∧ Sep F R R1 w w1 [HP.own Ty.int (fun _ => False) 3 v274 r.1] := by
  refine fn_of Try.func34 rfl Try.ntmps34 (Nat.le_of_ble_eq_true rfl) ?_
  unfold ref22_Least at h
  refine e_seq fun K275 hK275 => ?_
  refine e_region_text rfl ?_
  refine q_boxB rfl rfl rfl fun w276 bl276 hg276 hb276 hB276 => ?_
  replace f1 := f1.ext hB276
  replace f2 := f2.ext hB276
  replace f3 := f3.ext hB276
  replace f4 := f4.ext hB276
  replace f5 := f5.ext hB276
  replace hS := hS.newBlk hB276 hg276 hb276
  refine q_assign rfl rfl ?_
  refine q_assign rfl rfl ?_
  refine eseq_nil ?_
  refine hK275 _ _ ?_
  refine e_seq fun K278 hK278 => ?_
  refine e_region_text rfl ?_
  refine q_assign rfl rfl ?_
  refine eseq_nil ?_
  refine hK278 _ _ ?_
  refine e_seq fun K279 hK279 => ?_
  refine e_seq fun K280 hK280 => ?_
  refine e_region_text rfl ?_
  refine q_assign rfl rfl ?_
  refine eseq_nil ?_
  refine hK280 _ _ ?_
  refine e_block ?_
  obtain ⟨tl281, ht281, h⟩ := Option.of_bind h
  have hX281_0 : ∀ (x371 : (List Int)) (v370 : Value) (R363 : Nat → Prop) (w364 : World) (E_ : Env), ref22_Least_K1 fuel a0 a1 x371 = some r → Sep F R R363 w w364 [HP.blk bl276 [v1, v2, v3] 32, HP.own Ty.int (fun _ => False) 3 v370 x371] → IsSlice (Ty.slice Ty.int) w364 R363 v4 a1 → IsSlice Ty.int w364 R363 v1 a0.lens → IsSlice (Ty.slice Ty.int) w364 R363 v2 a0.ckpts → IsSlice arcTy w364 R363 v3 a0.arcs → Sub [(1, v4), (3, .pointer (some ⟨bl276, 0, none⟩)), (8, v370)] E_ → K279 E_ w364 := by
    intro x371 v370 R363 w364 E_ h hS f365 f366 f367 f368 hsub
    refine hK279 _ _ (e_sub hsub ?_); clear hsub
    unfold ref22_Least_K1 at h
    refine e_block ?_
    obtain ⟨tl372, ht372, h⟩ := Option.of_bind h
    refine e_loop (fun m_ E_ w428 => ∃ (x435 : (List Int)), ∃ (v434 : Value), ∃ (R427 : Nat → Prop), iter (fun s => ref22_Least_B1 fuel a0 a1 s) m_ x435 = some tl372 ∧ Sep F R R427 w w428 [HP.blk bl276 [v1, v2, v3] 32, HP.own Ty.int (fun _ => False) 3 v434 x435] ∧ IsSlice (Ty.slice Ty.int) w428 R427 v4 a1 ∧ IsSlice Ty.int w428 R427 v1 a0.lens ∧ IsSlice (Ty.slice Ty.int) w428 R427 v2 a0.ckpts ∧ IsSlice arcTy w428 R427 v3 a0.arcs ∧ E_ = [(1, v4), (3, .pointer (some ⟨bl276, 0, none⟩)), (8, v434)]) _ ⟨_, ⟨x371, v370, _, ht372, hS, f365, f366, f367, f368, rfl⟩, Sub.cons rfl (Sub.cons rfl (Sub.cons rfl (Sub.nil _)))⟩ ?_
    clear ht372 hS
    rintro m372 _ w428 ⟨x435, v434, R427, ht372, hS, f429, f430, f431, f432, rfl⟩
    obtain ⟨m372, rfl, o372, ho372, ht372⟩ := iter_some ht372
    replace ho372 : ref22_Least_B1 fuel a0 a1 x435 = some o372 := ho372
    unfold ref22_Least_B1 at ho372
    refine e_block ?_
    refine e_seq fun K483 hK483 => ?_
    refine e_region_text rfl ?_
    refine q_loadAgg rfl (Blk.cellsAt (hS.blk 0 rfl) 0 3 rfl) rfl rfl ?_
    refine q_move rfl rfl ?_
    obtain ⟨r485, hr485, ho372⟩ := Option.of_bind ho372
    refine q_call rfl (ref18_Orphans_w (a0 := (⟨a0.lens, a0.ckpts, a0.arcs⟩ : Pat)) (Sep.all w428) (f430).old (f431).old (f432).old ((hS.isl 1 rfl)).old hr485) rfl ?_
    rintro v486 w484 ⟨_, R484, rfl, hC484⟩
    have hB484 : Below (World.heap w428).size w428 w484 := hC484.stepBF
    refine ⟨fun _ => .of_below hB484, ?_⟩
    replace f429 := f429.ext hB484
    replace f430 := f430.ext hB484
    replace f431 := f431.ext hB484
    replace f432 := f432.ext hB484
    replace hS := hS.newOwnS hB484 (hC484.own 0 rfl) (hC484.fresh 0 rfl) (fun _ h => h.elim)
    refine q_assign rfl rfl ?_
    refine eseq_nil ?_
    refine hK483 _ _ ?_
    refine e_seq fun K487 hK487 => ?_
    refine e_seq fun K488 hK488 => ?_
    refine e_region_text rfl ?_
    refine q_move rfl rfl ?_
    refine q_lenS rfl (hS.isl 0 rfl) rfl ?_
    refine q_eql rfl rfl rfl ?_
    refine eseq_nil ?_
    refine hK488 _ _ ?_
    refine e_cond rfl (fun hc489 => ?_) (fun hc489 => ?_)
    · replace ho372 := (if_pos hc489).symm.trans ho372
      refine e_seq fun K490 hK490 => ?_
      refine e_region_text rfl ?_
      refine q_move rfl rfl ?_
      refine q_assign rfl rfl ?_
      refine q_assign rfl rfl ?_
      refine eseq_nil ?_
      refine hK490 _ _ ?_
      refine e_ret ?_
      obtain rfl := Option.some.inj ho372
      obtain rfl := Option.some.inj ht372
      obtain rfl := Option.some.inj h
      exact ⟨_, res2 rfl rfl rfl, v434, _, rfl, (hS.pickB [2] 3 rfl rfl)⟩
    · replace ho372 := (if_neg (not_true hc489)).symm.trans ho372
      refine e_skip ?_
      refine hK487 _ _ ?_
      refine e_seq fun K491 hK491 => ?_
      refine e_region_draw mixed (fun _ => False) [0, 1, 0, 4, 12, 31, 63, 0, 255] [7] [0, 1, 2, 3, 4, 5, 6, 7, 8] (by kernel_rfl) ?_
      refine q_field rfl rfl ?_
      refine q_load rfl (Blk.cell (hS.blk 1 rfl) rfl) rfl ?_
      refine q_move rfl rfl ?_
      obtain ⟨x500, hx500, ho372⟩ := Option.of_bind ho372
      refine q_indexO (by infer_instance) rfl (hS.own 0 rfl) rfl hx500 rfl ?_
      have f501 := (hS.ownR 0 rfl).elt hx500
      refine q_load rfl (Elt.intCell f501) rfl ?_
      obtain ⟨x502, hx502, ho372⟩ := Option.of_bind ho372
      refine q_atS (by infer_instance) rfl f432 rfl hx502 rfl fun b503 o503 hm503 f503 => ?_
      have hc504 := Arc_open f503
      refine q_loadAgg rfl hc504 rfl rfl ?_
      refine q_allocB rfl fun w505 bl505 hg505 hb505 hB505 => ?_
      replace f429 := f429.ext hB505
      replace f430 := f430.ext hB505
      replace f431 := f431.ext hB505
      replace f432 := f432.ext hB505
      replace hS := hS.newBlk hB505 hg505 hb505
      refine q_storeAgg rfl rfl (hS.blk 0 rfl) rfl (Nat.le_of_ble_eq_true rfl) (all_cons rfl (all_cons rfl (all_cons rfl (all_cons rfl (all_nil))))) rfl rfl fun w507 hb507 hO507 => ?_
      simp only [setN, List.set, List.take, List.drop] at hb507
      have hk507 := hS.keptBlk 0 rfl hO507
      replace f429 := f429.kept hk507
      replace f430 := f430.kept hk507
      replace f431 := f431.kept hk507
      replace f432 := f432.kept hk507
      replace hS := hS.setBlk 0 rfl hb507 hO507; simp only [List.set] at hS
      refine eseq_nil ?_
      refine hK491 _ _ ?_
      refine e_seq fun K508 hK508 => ?_
      refine e_region_draw mixed (fun _ => False) [0, 0, 2, 7, 15, 0, 32, 127, 255] [] [0, 1, 2, 3, 4, 5, 6, 7, 8] (by kernel_rfl) ?_
      refine q_move rfl rfl ?_
      refine q_field rfl rfl ?_
      refine q_load rfl (Blk.cell (hS.blk 0 rfl) rfl) rfl ?_
      obtain ⟨x509, hx509, ho372⟩ := Option.of_bind ho372
      refine q_atS (by infer_instance) rfl f429 rfl hx509 rfl fun b510 o510 hm510 f510 => ?_
      refine q_loadE rfl f510 rfl (fun v511 f511 => ?_)
      refine q_field rfl rfl ?_
      refine q_load rfl (Blk.cell (hS.blk 0 rfl) rfl) rfl ?_
      obtain ⟨r513, hr513, ho372⟩ := Option.of_bind ho372
      refine q_call rfl (ref22_above_w (Sep.enter (As := []) hS) f511 hr513) rfl ?_
      rintro _ w512 ⟨R512, rfl, hC512⟩
      have hB512 : Below (World.heap w507).size w507 w512 := hC512.stepB0
      refine ⟨fun _ => .of_below hB512, ?_⟩
      replace f429 := (f429.ext hB512).mono fun k hk _ => hC512.ro0 k hk
      replace f430 := (f430.ext hB512).mono fun k hk _ => hC512.ro0 k hk
      replace f431 := (f431.ext hB512).mono fun k hk _ => hC512.ro0 k hk
      replace f432 := (f432.ext hB512).mono fun k hk _ => hC512.ro0 k hk
      replace f511 := (f511.ext hB512).mono fun k hk _ => hC512.ro0 k hk
      replace hS := Sep.leave (As := []) hS hC512; simp only [List.cons_append, List.nil_append] at hS
      refine q_assign rfl rfl ?_
      refine eseq_nil ?_
      refine hK508 _ _ ?_
      refine e_seq fun K514 hK514 => ?_
      refine e_seq fun K515 hK515 => ?_
      refine e_region_text rfl ?_
      refine q_move rfl rfl ?_
      refine q_lss rfl rfl rfl ?_
      refine eseq_nil ?_
      refine hK515 _ _ ?_
      refine e_cond rfl (fun hc516 => ?_) (fun hc516 => ?_)
      · replace ho372 := (if_pos hc516).symm.trans ho372
        refine e_seq fun K517 hK517 => ?_
        refine e_region_text rfl ?_
        refine q_assign rfl rfl ?_
        refine q_assign rfl rfl ?_
        refine eseq_nil ?_
        refine hK517 _ _ ?_
        refine e_ret ?_
        replace hS := hS.nilOwn0 Ty.int 3
        obtain rfl := Option.some.inj ho372
        obtain rfl := Option.some.inj ht372
        obtain rfl := Option.some.inj h
        exact ⟨_, res2 rfl rfl rfl, (.slice none 0 0), _, rfl, (hS.pickB [0] 5 rfl rfl)⟩
      · replace ho372 := (if_neg (not_true hc516)).symm.trans ho372
        refine e_skip ?_
        refine hK514 _ _ ?_
        refine e_region_text rfl ?_
        refine q_move rfl rfl ?_
        refine q_field rfl rfl ?_
        refine q_load rfl (Blk.cell (hS.blk 0 rfl) rfl) rfl ?_
        refine q_move rfl rfl ?_
        obtain ⟨x519, hx519, ho372⟩ := Option.of_bind ho372
        refine q_indexO (by infer_instance) rfl (hS.own 3 rfl) rfl hx519 rfl ?_
        obtain ⟨x521, hx521, ho372⟩ := Option.of_bind ho372
        refine q_storeO (T := Ty.int) (j := 0) rfl rfl (hS.own 3 rfl) hx519 hx521 rfl rfl rfl (Enc.setL rfl) fun w520 ho520 hO520 => ?_
        have hk520 := hS.keptO 3 rfl hx519 hO520
        replace f429 := f429.kept hk520
        replace f430 := f430.kept hk520
        replace f431 := f431.kept hk520
        replace f432 := f432.kept hk520
        replace hS := hS.putO 3 rfl hx519 ho520 hO520; simp only [List.set] at hS
        refine eseq_nil ?_
        obtain rfl := Option.some.inj ho372
        exact ⟨m372, _, Nat.lt_succ_self _, ⟨x521, v434, _, ht372, (hS.pickB [2, 3] 4 rfl rfl), f429, f430, f431, f432, rfl⟩, Sub.cons rfl (Sub.cons rfl (Sub.cons rfl (Sub.nil _)))⟩
  replace hS := hS.nilOwn0 Ty.int 3
  refine e_loop (fun m_ E_ w322 => ∃ (x330 : (List Int)), ∃ (x331 : Int), ∃ (v329 : Value), ∃ (R321 : Nat → Prop), iter (fun s => ref22_Least_B2 fuel a0 a1 a2 s.1 s.2) m_ (x330, x331) = some tl281 ∧ Sep F R R321 w w322 [HP.blk bl276 [v1, v2, v3] 32, HP.own Ty.int (fun _ => False) 3 v329 x330] ∧ IsSlice (Ty.slice Ty.int) w322 R321 v4 a1 ∧ IsSlice Ty.int w322 R321 v5 a2 ∧ IsSlice Ty.int w322 R321 v1 a0.lens ∧ IsSlice (Ty.slice Ty.int) w322 R321 v2 a0.ckpts ∧ IsSlice arcTy w322 R321 v3 a0.arcs ∧ E_ = [(1, v4), (2, v5), (3, .pointer (some ⟨bl276, 0, none⟩)), (8, v329), (9, .int .i64 x331)]) _ ⟨_, ⟨([] : List Int), 0, (.slice none 0 0), _, ht281, (hS.pickB [1, 0] 2 rfl rfl), f4, f5, f1, f2, f3, rfl⟩, Sub.cons rfl (Sub.cons rfl (Sub.cons rfl (Sub.cons rfl (Sub.cons rfl (Sub.nil _)))))⟩ ?_
  clear ht281 hS
  rintro m281 _ w322 ⟨x330, x331, v329, R321, ht281, hS, f323, f324, f325, f326, f327, rfl⟩
  obtain ⟨m281, rfl, o281, ho281, ht281⟩ := iter_some ht281
  replace ho281 : ref22_Least_B2 fuel a0 a1 a2 x330 x331 = some o281 := ho281
  unfold ref22_Least_B2 at ho281
  refine e_seq fun K523 hK523 => ?_
  refine e_seq fun K524 hK524 => ?_
  refine e_region_text rfl ?_
  refine q_move rfl rfl ?_
  refine q_field rfl rfl ?_
  refine q_load rfl (Blk.cell (hS.blk 0 rfl) rfl) rfl ?_
  refine q_lenS rfl f325 rfl ?_
  refine q_lss rfl rfl rfl ?_
  refine eseq_nil ?_
  refine hK524 _ _ ?_
  refine e_cond rfl (fun hc525 => ?_) (fun hc525 => ?_)
  · replace ho281 := (if_pos hc525).symm.trans ho281
    refine e_skip ?_
    refine hK523 _ _ ?_
    refine e_seq fun K526 hK526 => ?_
    refine e_block ?_
    refine e_seq fun K527 hK527 => ?_
    refine e_region_draw mixed (fun _ => False) [0, 0, 3, 7, 0, 0, 48, 112, 255, 511] [] [0, 1, 2, 3, 4, 5, 6, 7, 8, 9] (by kernel_rfl) ?_
    refine q_move rfl rfl ?_
    refine q_move rfl rfl ?_
    obtain ⟨x528, hx528, ho281⟩ := Option.of_bind ho281
    refine q_atS (by infer_instance) rfl f323 rfl hx528 rfl fun b529 o529 hm529 f529 => ?_
    refine q_loadE rfl f529 rfl (fun v530 f530 => ?_)
    refine q_move rfl rfl ?_
    refine q_move rfl rfl ?_
    obtain ⟨x531, hx531, ho281⟩ := Option.of_bind ho281
    refine q_atS (by infer_instance) rfl f324 rfl hx531 rfl fun b532 o532 hm532 f532 => ?_
    refine q_load rfl (Elt.intCell f532) rfl ?_
    obtain ⟨r534, hr534, ho281⟩ := Option.of_bind ho281
    refine q_call rfl (ref22_above_w (Sep.enter (As := []) hS) f530 hr534) rfl ?_
    rintro _ w533 ⟨R533, rfl, hC533⟩
    have hB533 : Below (World.heap w322).size w322 w533 := hC533.stepB0
    refine ⟨fun _ => .of_below hB533, ?_⟩
    replace f323 := (f323.ext hB533).mono fun k hk _ => hC533.ro0 k hk
    replace f324 := (f324.ext hB533).mono fun k hk _ => hC533.ro0 k hk
    replace f325 := (f325.ext hB533).mono fun k hk _ => hC533.ro0 k hk
    replace f326 := (f326.ext hB533).mono fun k hk _ => hC533.ro0 k hk
    replace f327 := (f327.ext hB533).mono fun k hk _ => hC533.ro0 k hk
    replace f530 := (f530.ext hB533).mono fun k hk _ => hC533.ro0 k hk
    replace hS := Sep.leave (As := []) hS hC533; simp only [List.cons_append, List.nil_append] at hS
    refine q_assign rfl rfl ?_
    refine eseq_nil ?_
    refine hK527 _ _ ?_
    refine e_seq fun K535 hK535 => ?_
    refine e_seq fun K536 hK536 => ?_
    refine e_region_text rfl ?_
    refine q_move rfl rfl ?_
    refine q_lss rfl rfl rfl ?_
    refine eseq_nil ?_
    refine hK536 _ _ ?_
    refine e_cond rfl (fun hc537 => ?_) (fun hc537 => ?_)
    · replace ho281 := (if_pos hc537).symm.trans ho281
      refine e_seq fun K538 hK538 => ?_
      refine e_region_text rfl ?_
      refine q_assign rfl rfl ?_
      refine q_assign rfl rfl ?_
      refine eseq_nil ?_
      refine hK538 _ _ ?_
      refine e_ret ?_
      replace hS := hS.nilOwn0 Ty.int 3
      obtain rfl := Option.some.inj ho281
      obtain rfl := Option.some.inj ht281
      obtain rfl := Option.some.inj h
      exact ⟨_, res2 rfl rfl rfl, (.slice none 0 0), _, rfl, (hS.pickB [0] 3 rfl rfl)⟩
    · replace ho281 := (if_neg (not_true hc537)).symm.trans ho281
      refine e_skip ?_
      refine hK535 _ _ ?_
      refine e_region_text rfl ?_
      refine q_move rfl rfl ?_
      refine q_move rfl rfl ?_
      refine q_litO (T := Ty.int) (S := (fun _ => False)) (cells := [[.int .i64 r534]]) (ys := [r534]) ((Parts.cons rfl rfl Parts.nil)) rfl rfl rfl rfl rfl rfl rfl (fun w1 hB => ⟨rfl, trivial⟩) (fun _ h => h.elim) rfl fun w540 v540 ho540 hv540 hB540 => ?_
      replace f323 := f323.ext hB540
      replace f324 := f324.ext hB540
      replace f325 := f325.ext hB540
      replace f326 := f326.ext hB540
      replace f327 := f327.ext hB540
      replace hS := hS.newOwnS hB540 ho540 hv540 (fun _ h => h.elim)
      obtain ⟨x543, hx543, ho281⟩ := Option.of_bind ho281
      refine q_catOwn (T := Ty.int) rfl rfl rfl rfl (hS.own 2 rfl) rfl (hS.own 0 rfl) (fun _ h _ => h.elim) (snoc_cat hx543) (Nat.zero_le _) rfl (fun h => by cases h) fun v542 w542 hw542 hgr542 hnw542 => ?_
      have hk542 := hS.keptOwn 2 rfl hgr542
      replace f323 := f323.kept hk542
      replace f324 := f324.kept hk542
      replace f325 := f325.kept hk542
      replace f326 := f326.kept hk542
      replace f327 := f327.kept hk542
      replace hS := hS.setOwn 2 rfl hw542 hgr542 hnw542; simp only [List.set] at hS
      refine q_assign rfl rfl ?_
      refine eseq_nil ?_
      refine hK526 _ _ ?_
      refine e_region_text rfl ?_
      refine q_move rfl rfl ?_
      refine q_addW rfl rfl rfl ?_
      refine q_assign rfl rfl ?_
      refine eseq_nil ?_
      obtain rfl := Option.some.inj ho281
      exact ⟨m281, _, Nat.lt_succ_self _, ⟨x543, (w64 (x331 + 1)), v542, _, ht281, (hS.pickB [1, 2] 3 rfl rfl), f323, f324, f325, f326, f327, rfl⟩, Sub.cons rfl (Sub.cons rfl (Sub.cons rfl (Sub.cons rfl (Sub.cons rfl (Sub.nil _)))))⟩
  · replace ho281 := (if_neg (not_true hc525)).symm.trans ho281
    refine e_exit ?_
    obtain rfl := Option.some.inj ho281
    obtain rfl := Option.some.inj ht281
    exact hX281_0 x330 v329 _ _ _ h hS f323 f325 f326 f327 (Sub.cons rfl (Sub.cons rfl (Sub.cons rfl (Sub.nil _))))
theorem ref22_Allowed_w {F R : Nat → Prop} {w : World} {fuel : Nat} {a0 : Pat} {a1 : (List Int)} {v1 : Value} {v2 : Value} {v3 : Value} {v4 : Value} {r : ((List (List Int)))} (hS : Sep F R R w w []) (f1 : IsSlice Ty.int w R v1 a0.lens) (f2 : IsSlice (Ty.slice Ty.int) w R v2 a0.ckpts) (f3 : IsSlice arcTy w R v3 a0.arcs) (f4 : IsSlice Ty.int w R v4 a1) (h : ref22_Allowed fuel a0 a1 = some r) :
    Gives Try.prog 24 [.agg #[v1, v2, v3], v4] w fun u w1 => ∃ (v281 : Value), ∃ (v282 : List Value), ∃ (R1 : Nat → Prop), u = v281 ∧ Sep F R R1 w w1 [HP.own Ty.raw (fun _ => False) 29 v281 v282, HP.famS Ty.int (fun _ => False) 3 v282 r] := by
  refine fn_of Try.func24 rfl Try.ntmps24 (Nat.le_of_ble_eq_true rfl) ?_
  unfold ref22_Allowed at h
  refine e_seq fun K283 hK283 => ?_
  refine e_region_text rfl ?_
  refine q_boxB rfl rfl rfl fun w284 bl284 hg284 hb284 hB284 => ?_
  replace f1 := f1.ext hB284
  replace f2 := f2.ext hB284
  replace f3 := f3.ext hB284
  replace f4 := f4.ext hB284
  replace hS := hS.newBlk hB284 hg284 hb284
  refine q_assign rfl rfl ?_
  refine eseq_nil ?_
  refine hK283 _ _ ?_
  refine e_seq fun K286 hK286 => ?_
  refine e_region_text rfl ?_
  refine q_assign rfl rfl ?_
  refine eseq_nil ?_
  refine hK286 _ _ ?_
  refine e_seq fun K287 hK287 => ?_
  refine e_seq fun K288 hK288 => ?_
  refine e_region_text rfl ?_
  refine q_assign rfl rfl ?_
  refine eseq_nil ?_
  refine hK288 _ _ ?_
  refine e_block ?_
  obtain ⟨tl289, ht289, h⟩ := Option.of_bind h
  have hX289_0 : ∀ (x480 : (List (List Int))) (v478 : Value) (v479 : List Value) (R476 : Nat → Prop) (w477 : World) (E_ : Env), ref22_Allowed_K1 fuel x480 = some r → Sep F R R476 w w477 [HP.own Ty.raw (fun _ => False) 29 v478 v479, HP.famS Ty.int (fun _ => False) 3 v479 x480] → Sub [(5, v478)] E_ → K287 E_ w477 := by
    intro x480 v478 v479 R476 w477 E_ h hS  hsub
    refine hK287 _ _ (e_sub hsub ?_); clear hsub
    unfold ref22_Allowed_K1 at h
    refine e_seq fun K483 hK483 => ?_
    refine e_region_text rfl ?_
    refine q_move rfl rfl ?_
    refine q_assign rfl rfl ?_
    refine eseq_nil ?_
    refine hK483 _ _ ?_
    refine e_ret ?_
    obtain rfl := Option.some.inj h
    exact ⟨_, res1 rfl rfl, v478, v479, _, rfl, hS⟩
  replace hS := hS.nilRows0 Ty.int 3 29
  refine e_loop (fun m_ E_ w381 => ∃ (x388 : (List (List Int))), ∃ (x391 : Int), ∃ (v386 : Value), ∃ (v387 : List Value), ∃ (R380 : Nat → Prop), iter (fun s => ref22_Allowed_B1 fuel a0 a1 s.1 s.2) m_ (x388, x391) = some tl289 ∧ Sep F R R380 w w381 [HP.blk bl284 [v1, v2, v3] 32, HP.own Ty.raw (fun _ => False) 29 v386 v387, HP.famS Ty.int (fun _ => False) 3 v387 x388] ∧ IsSlice Ty.int w381 R380 v4 a1 ∧ IsSlice Ty.int w381 R380 v1 a0.lens ∧ IsSlice (Ty.slice Ty.int) w381 R380 v2 a0.ckpts ∧ IsSlice arcTy w381 R380 v3 a0.arcs ∧ E_ = [(1, v4), (2, .pointer (some ⟨bl284, 0, none⟩)), (5, v386), (6, .int .i64 x391)]) _ ⟨_, ⟨([] : List (List Int)), 0, (.slice none 0 0), ([] : List Value), _, ht289, (hS.pickB [2, 0, 1] 3 rfl rfl), f4, f1, f2, f3, rfl⟩, Sub.cons rfl (Sub.cons rfl (Sub.cons rfl (Sub.cons rfl (Sub.nil _))))⟩ ?_
  clear ht289 hS
  rintro m289 _ w381 ⟨x388, x391, v386, v387, R380, ht289, hS, f382, f383, f384, f385, rfl⟩
  obtain ⟨m289, rfl, o289, ho289, ht289⟩ := iter_some ht289
  replace ho289 : ref22_Allowed_B1 fuel a0 a1 x388 x391 = some o289 := ho289
  unfold ref22_Allowed_B1 at ho289
  refine e_seq fun K486 hK486 => ?_
  refine e_seq fun K487 hK487 => ?_
  refine e_region_text rfl ?_
  refine q_move rfl rfl ?_
  refine q_field rfl rfl ?_
  refine q_load rfl (Blk.cell (hS.blk 0 rfl) rfl) rfl ?_
  refine q_lenS rfl f383 rfl ?_
  refine q_lss rfl rfl rfl ?_
  refine eseq_nil ?_
  refine hK487 _ _ ?_
  refine e_cond rfl (fun hc488 => ?_) (fun hc488 => ?_)
  · replace ho289 := (if_pos hc488).symm.trans ho289
    refine e_skip ?_
    refine hK486 _ _ ?_
    refine e_seq fun K489 hK489 => ?_
    refine e_block ?_
    refine e_seq fun K490 hK490 => ?_
    refine e_region_text rfl ?_
    refine q_field rfl rfl ?_
    refine q_load rfl (Blk.cell (hS.blk 0 rfl) rfl) rfl ?_
    refine q_move rfl rfl ?_
    obtain ⟨x491, hx491, ho289⟩ := Option.of_bind ho289
    refine q_atS (by infer_instance) rfl f384 rfl hx491 rfl fun b492 o492 hm492 f492 => ?_
    refine q_loadE rfl f492 rfl (fun v493 f493 => ?_)
    replace hS := hS.nilOwn0 Ty.int 3
    obtain ⟨x496, hx496, ho289⟩ := Option.of_bind ho289
    refine q_catE (T := Ty.int) rfl rfl rfl rfl (hS.own 0 rfl) rfl f493 hx496 (Nat.zero_le _) rfl (fun h => by cases h) fun v495 w495 hw495 hgr495 hnw495 => ?_
    have hk495 := hS.keptOwn 0 rfl hgr495
    replace f382 := f382.kept hk495
    replace f383 := f383.kept hk495
    replace f384 := f384.kept hk495
    replace f385 := f385.kept hk495
    replace f493 := f493.kept hk495
    replace hS := hS.setOwn 0 rfl hw495 hgr495 hnw495; simp only [List.set] at hS
    refine q_assign rfl rfl ?_
    refine eseq_nil ?_
    refine hK490 _ _ ?_
    refine e_seq fun K497 hK497 => ?_
    have hJ497 : ∀ (x530 : (List Int)) (v529 : Value) (R520 : Nat → Prop) (w521 : World) (E_ : Env), ref22_Allowed_J1 fuel x388 x391 x530 = some o289 → Sep F R R520 w w521 [HP.blk bl284 [v1, v2, v3] 32, HP.own Ty.raw (fun _ => False) 29 v386 v387, HP.famS Ty.int (fun _ => False) 3 v387 x388, HP.own Ty.int (fun _ => False) 3 v529 x530] → IsSlice Ty.int w521 R520 v4 a1 → IsSlice Ty.int w521 R520 v1 a0.lens → IsSlice (Ty.slice Ty.int) w521 R520 v2 a0.ckpts → IsSlice arcTy w521 R520 v3 a0.arcs → Sub [(1, v4), (2, .pointer (some ⟨bl284, 0, none⟩)), (5, v386), (6, .int .i64 x391), (7, v529)] E_ → K497 E_ w521 := by
      intro x530 v529 R520 w521 E_ ho289 hS f522 f523 f524 f525 hsub
      refine hK497 _ _ (e_sub hsub ?_); clear hsub
      unfold ref22_Allowed_J1 at ho289
      refine e_region_text rfl ?_
      refine q_move rfl rfl ?_
      refine q_move rfl rfl ?_
      refine q_litO (T := Ty.raw) (S := (fun _ => False)) (cells := [[v529]]) (ys := [v529]) ((Parts.cons rfl (cells_one (hS.own 3 rfl).one) Parts.nil)) rfl rfl rfl rfl rfl rfl rfl (fun w1 hB => ⟨⟨rfl, (hS.own 3 rfl).one⟩, trivial⟩) (fun _ h => h.elim) rfl fun w531 v531 ho531 hv531 hB531 => ?_
      replace f522 := f522.ext hB531
      replace f523 := f523.ext hB531
      replace f524 := f524.ext hB531
      replace f525 := f525.ext hB531
      replace hS := hS.newOwnS hB531 ho531 hv531 (fun _ h => h.elim)
      replace hS := hS.pickB [4, 0, 1, 2, 3] 5 rfl rfl; simp only [List.map_cons, List.map_nil, List.getD_cons_zero, List.getD_cons_succ] at hS
      replace hS := hS.famOne
      obtain ⟨x535, hx535, ho289⟩ := Option.of_bind ho289
      obtain ⟨hcr534, hce534⟩ := catL_raw (hS.famLen 4 rfl) (hS.famLen 0 rfl) (snoc_cat hx535)
      refine q_catOwn (T := Ty.raw) rfl rfl rfl rfl (hS.own 3 rfl) rfl (hS.own 1 rfl) (fun _ h _ => h.elim) hcr534 (Nat.zero_le _) rfl (fun h => by cases h) fun v534 w534 hw534 hgr534 hnw534 => ?_
      have hk534 := hS.keptOwn 3 rfl hgr534
      replace f522 := f522.kept hk534
      replace f523 := f523.kept hk534
      replace f524 := f524.kept hk534
      replace f525 := f525.kept hk534
      replace hS := hS.setOwn 3 rfl hw534 hgr534 hnw534; simp only [List.set] at hS
      replace hS := hS.pickB [4, 0, 1, 2, 3] 5 rfl rfl; simp only [List.map_cons, List.map_nil, List.getD_cons_zero, List.getD_cons_succ] at hS
      replace hS := hS.famCat; rw [hce534] at hS
      refine q_assign rfl rfl ?_
      refine eseq_nil ?_
      refine hK489 _ _ ?_
      refine e_region_text rfl ?_
      refine q_move rfl rfl ?_
      refine q_addW rfl rfl rfl ?_
      refine q_assign rfl rfl ?_
      refine eseq_nil ?_
      obtain rfl := Option.some.inj ho289
      exact ⟨m289, _, Nat.lt_succ_self _, ⟨x535, (w64 (x391 + 1)), v534, (v387 ++ ([v529])), _, ht289, (hS.pickB [2, 3, 0] 4 rfl rfl), f522, f523, f524, f525, rfl⟩, Sub.cons rfl (Sub.cons rfl (Sub.cons rfl (Sub.cons rfl (Sub.nil _))))⟩
    refine e_seq fun K536 hK536 => ?_
    refine e_region_text rfl ?_
    refine q_move rfl rfl ?_
    refine q_move rfl rfl ?_
    obtain ⟨r538, hr538, ho289⟩ := Option.of_bind ho289
    refine q_call rfl (ref22_in_w (Sep.enter (As := []) hS) f382 hr538) rfl ?_
    rintro _ w537 ⟨R537, rfl, hC537⟩
    have hB537 : Below (World.heap w495).size w495 w537 := hC537.stepB0
    refine ⟨fun _ => .of_below hB537, ?_⟩
    replace f382 := (f382.ext hB537).mono fun k hk _ => hC537.ro0 k hk
    replace f383 := (f383.ext hB537).mono fun k hk _ => hC537.ro0 k hk
    replace f384 := (f384.ext hB537).mono fun k hk _ => hC537.ro0 k hk
    replace f385 := (f385.ext hB537).mono fun k hk _ => hC537.ro0 k hk
    replace hS := Sep.leave (As := []) hS hC537; simp only [List.cons_append, List.nil_append] at hS
    refine q_not rfl rfl ?_
    refine q_move rfl rfl ?_
    obtain ⟨x546, hx545, ho289⟩ := Option.of_bind ho289
    refine g_andM 8 hx545 rfl trivial rfl rfl ?_ ?_ ?_
    · intro hg545 hx545
      clear ho289
      have hT545 := Below.refl (World.heap w537).size w537
      refine g_run rfl ?_; refine q_move rfl rfl ?_
      refine g_run rfl ?_; refine q_field rfl rfl ?_
      refine g_run rfl ?_; refine q_load rfl (Blk.cell (hS.blk 1 rfl) rfl) rfl ?_
      refine g_run rfl ?_; refine q_move rfl rfl ?_
      obtain ⟨x547, hx547, hx545⟩ := Option.of_bind hx545
      refine g_run rfl ?_; refine q_atS (by infer_instance) rfl f383 rfl hx547 rfl fun b548 o548 hm548 f548 => ?_
      refine g_run rfl ?_; refine q_load rfl (Elt.intCell f548) rfl ?_
      obtain ⟨r550, hr550, hx545⟩ := Option.of_bind hx545
      refine g_run rfl ?_; refine q_call rfl (ref22_in_w (Sep.all w537) ((hS.isl 0 rfl)).old hr550) rfl ?_
      rintro _ w549 ⟨R549, rfl, hC549⟩
      have hB549 : Below (World.heap w537).size w537 w549 := hC549.stepBF
      refine ⟨fun _ => .of_below hB549, ?_⟩
      replace f382 := f382.ext hB549
      replace f383 := f383.ext hB549
      replace f384 := f384.ext hB549
      replace f385 := f385.ext hB549
      replace f548 := f548.ext hB549
      replace hT545 := hT545.trans (Below.mono hB549 hT545.size)
      replace hS := hS.below hB549
      refine g_run rfl ?_; refine q_not rfl rfl ?_
      cases hx545
      exact eseq_nil ⟨hT545, Sub.set rfl (Sub.set rfl (Sub.set rfl (Sub.set rfl (Sub.set rfl (Sub.set rfl (Sub.set rfl (Sub.set rfl (Sub.bool true rfl hg545)))))))), rfl⟩
    · intro hg545
      refine g_skip rfl rfl rfl ?_
      refine g_skip rfl rfl rfl ?_
      refine g_skip rfl rfl rfl ?_
      refine g_skip rfl rfl rfl ?_
      refine g_skip rfl rfl rfl ?_
      refine g_skip rfl rfl rfl ?_
      refine g_skip rfl rfl rfl ?_
      refine g_skip rfl rfl rfl ?_
      exact eseq_nil ⟨rfl, Sub.set rfl (Sub.set rfl (Sub.set rfl (Sub.set rfl (Sub.set rfl (Sub.set rfl (Sub.set rfl (Sub.set rfl (Sub.bool false rfl hg545))))))))⟩
    intro wm545 hBm545; clear hx545
    replace hS := hS.below hBm545
    replace f382 := f382.ext hBm545
    replace f383 := f383.ext hBm545
    replace f384 := f384.ext hBm545
    replace f385 := f385.ext hBm545
    refine eseq_nil ?_
    refine hK536 _ _ ?_
    refine e_cond rfl (fun hc551 => ?_) (fun hc551 => ?_)
    · replace ho289 := (if_pos hc551).symm.trans ho289
      refine e_region_text rfl ?_
      refine q_move rfl rfl ?_
      refine q_field rfl rfl ?_
      refine q_load rfl (Blk.cell (hS.blk 1 rfl) rfl) rfl ?_
      refine q_move rfl rfl ?_
      obtain ⟨x552, hx552, ho289⟩ := Option.of_bind ho289
      refine q_atS (by infer_instance) rfl f383 rfl hx552 rfl fun b553 o553 hm553 f553 => ?_
      refine q_load rfl (Elt.intCell f553) rfl ?_
      refine q_litO (T := Ty.int) (S := (fun _ => False)) (cells := [[.int .i64 x552]]) (ys := [x552]) ((Parts.cons rfl rfl Parts.nil)) rfl rfl rfl rfl rfl rfl rfl (fun w1 hB => ⟨rfl, trivial⟩) (fun _ h => h.elim) rfl fun w554 v554 ho554 hv554 hB554 => ?_
      replace f382 := f382.ext hB554
      replace f383 := f383.ext hB554
      replace f384 := f384.ext hB554
      replace f385 := f385.ext hB554
      replace hS := hS.newOwnS hB554 ho554 hv554 (fun _ h => h.elim)
      obtain ⟨x557, hx557, ho289⟩ := Option.of_bind ho289
      refine q_catOwn (T := Ty.int) rfl rfl rfl rfl (hS.own 1 rfl) rfl (hS.own 0 rfl) (fun _ h _ => h.elim) (snoc_cat hx557) (Nat.zero_le _) rfl (fun h => by cases h) fun v556 w556 hw556 hgr556 hnw556 => ?_
      have hk556 := hS.keptOwn 1 rfl hgr556
      replace f382 := f382.kept hk556
      replace f383 := f383.kept hk556
      replace f384 := f384.kept hk556
      replace f385 := f385.kept hk556
      replace hS := hS.setOwn 1 rfl hw556 hgr556 hnw556; simp only [List.set] at hS
      refine q_assign rfl rfl ?_
      refine eseq_nil ?_
      exact hJ497 x557 v556 _ _ _ ho289 (hS.pickB [2, 3, 4, 1] 5 rfl rfl) f382 f383 f384 f385 (Sub.cons rfl (Sub.cons rfl (Sub.cons rfl (Sub.cons rfl (Sub.cons rfl (Sub.nil _))))))
    · replace ho289 := (if_neg (not_true hc551)).symm.trans ho289
      refine e_skip ?_
      exact hJ497 x496 v495 _ _ _ ho289 (hS.pickB [1, 2, 3, 0] 4 rfl rfl) f382 f383 f384 f385 (Sub.cons rfl (Sub.cons rfl (Sub.cons rfl (Sub.cons rfl (Sub.cons rfl (Sub.nil _))))))
  · replace ho289 := (if_neg (not_true hc488)).symm.trans ho289
    refine e_exit ?_
    obtain rfl := Option.some.inj ho289
    obtain rfl := Option.some.inj ht289
    exact hX289_0 x388 v386 v387 _ _ _ h (hS.pickB [1, 2] 3 rfl rfl)  (Sub.cons rfl (Sub.nil _))
theorem ref22_Failure_w {F R : Nat → Prop} {w : World} {fuel : Nat} {a0 : Pat} {a1 : (List Int)} {v1 : Value} {v2 : Value} {v3 : Value} {v4 : Value} {r : ((List Int))} (hS : Sep F R R w w []) (f1 : IsSlice Ty.int w R v1 a0.lens) (f2 : IsSlice (Ty.slice Ty.int) w R v2 a0.ckpts) (f3 : IsSlice arcTy w R v3 a0.arcs) (f4 : IsSlice Ty.int w R v4 a1) (h : ref22_Failure fuel a0 a1 = some r) :
    Gives Try.prog 27 [.agg #[v1, v2, v3], v4] w fun u w1 => ∃ (v24 : Value), ∃ (R1 : Nat → Prop), u = v24 ∧ Sep F R R1 w w1 [HP.own Ty.int (fun _ => False) 3 v24 r] := by
  refine fn_of Try.func27 rfl Try.ntmps27 (Nat.le_of_ble_eq_true rfl) ?_
  unfold ref22_Failure at h
  refine e_seq fun K25 hK25 => ?_
  refine e_region_text rfl ?_
  refine q_boxB rfl rfl rfl fun w26 bl26 hg26 hb26 hB26 => ?_
  replace f1 := f1.ext hB26
  replace f2 := f2.ext hB26
  replace f3 := f3.ext hB26
  replace f4 := f4.ext hB26
  replace hS := hS.newBlk hB26 hg26 hb26
  refine q_assign rfl rfl ?_
  refine eseq_nil ?_
  refine hK25 _ _ ?_
  refine e_seq fun K28 hK28 => ?_
  refine e_region_draw mixed (fun _ => False) [0, 0, 0, 6, 15, 31, 63, 63, 127, 511] [3] [0, 1, 2, 3, 4, 5, 6, 7, 8, 9] (by kernel_rfl) ?_
  refine q_loadAgg rfl (Blk.cellsAt (hS.blk 0 rfl) 0 3 rfl) rfl rfl ?_
  refine q_loadAgg rfl (Blk.cellsAt (hS.blk 0 rfl) 0 3 rfl) rfl rfl ?_
  refine q_move rfl rfl ?_
  obtain ⟨r37, hr37, h⟩ := Option.of_bind h
  refine q_call rfl (ref22_Allowed_w (a0 := (⟨a0.lens, a0.ckpts, a0.arcs⟩ : Pat)) (Sep.enter (As := []) hS) f1 f2 f3 f4 hr37) rfl ?_
  rintro v38 w36 ⟨_, v39, R36, rfl, hC36⟩
  have hB36 : Below (World.heap w26).size w26 w36 := hC36.stepB0
  refine ⟨fun _ => .of_below hB36, ?_⟩
  replace f1 := (f1.ext hB36).mono fun k hk _ => hC36.ro0 k hk
  replace f2 := (f2.ext hB36).mono fun k hk _ => hC36.ro0 k hk
  replace f3 := (f3.ext hB36).mono fun k hk _ => hC36.ro0 k hk
  replace f4 := (f4.ext hB36).mono fun k hk _ => hC36.ro0 k hk
  replace hS := Sep.leave (As := []) hS hC36; simp only [List.cons_append, List.nil_append] at hS
  obtain ⟨r41, hr41, h⟩ := Option.of_bind h
  refine q_call rfl (ref22_Greatest_w (a0 := (⟨a0.lens, a0.ckpts, a0.arcs⟩ : Pat)) (Sep.all w36) (f1).old (f2).old (f3).old ((hS.rowsI 0 1 rfl rfl (by decide))).old hr41) rfl ?_
  rintro _ w40 ⟨v42, R40, rfl, hC40⟩
  have hB40 : Below (World.heap w36).size w36 w40 := hC40.stepBF
  refine ⟨fun _ => .of_below hB40, ?_⟩
  replace f1 := f1.ext hB40
  replace f2 := f2.ext hB40
  replace f3 := f3.ext hB40
  replace hS := hS.newOwnS hB40 (hC40.own 0 rfl) (hC40.fresh 0 rfl) (fun _ h => h.elim)
  refine q_move rfl rfl ?_
  refine q_extract rfl rfl rfl ?_
  refine q_extract rfl rfl rfl ?_
  refine q_assign rfl rfl ?_
  refine q_assign rfl rfl ?_
  refine eseq_nil ?_
  refine hK28 _ _ ?_
  refine e_seq fun K43 hK43 => ?_
  refine e_region_text rfl ?_
  refine q_move rfl rfl ?_
  refine q_assign rfl rfl ?_
  refine eseq_nil ?_
  refine hK43 _ _ ?_
  refine e_ret ?_
  obtain rfl := Option.some.inj h
  exact ⟨_, res1 rfl rfl, v42, _, rfl, (hS.pickB [0] 4 rfl rfl)⟩
theorem ref22_Sets_w {F R : Nat → Prop} {w : World} {fuel : Nat} {a0 : Int} {a1 : Int} {r : ((List (List Int)))} (hS : Sep F R R w w []) (h : ref22_Sets fuel a0 a1 = some r) :
    Gives Try.prog 15 [.int .i64 a0, .int .i64 a1] w fun u w1 => ∃ (v342 : Value), ∃ (v343 : List Value), ∃ (R1 : Nat → Prop), u = v342 ∧ Sep F R R1 w w1 [HP.own Ty.raw (fun _ => False) 29 v342 v343, HP.famS Ty.int (fun _ => False) 3 v343 r] := by
  refine fn_of Try.func15 rfl Try.ntmps15 (Nat.le_of_ble_eq_true rfl) ?_
  unfold ref22_Sets at h
  refine e_seq fun K344 hK344 => ?_
  refine e_region_text rfl ?_
  refine q_assign rfl rfl ?_
  refine eseq_nil ?_
  refine hK344 _ _ ?_
  refine e_seq fun K345 hK345 => ?_
  refine e_seq fun K346 hK346 => ?_
  refine e_region_text rfl ?_
  refine q_move rfl rfl ?_
  refine q_lss rfl rfl rfl ?_
  refine q_move rfl rfl ?_
  obtain ⟨x350, hx349, h⟩ := Option.of_bind h
  refine g_orM 2 hx349 rfl trivial rfl rfl ?_ ?_ ?_
  · intro hg349
    refine g_skip rfl rfl rfl ?_
    refine g_skip rfl rfl rfl ?_
    exact eseq_nil ⟨rfl, Sub.set rfl (Sub.set rfl (Sub.bool true rfl hg349))⟩
  · intro hg349 hx349
    clear h
    have hT349 := Below.refl (World.heap w).size w
    refine g_run rfl ?_; refine q_move rfl rfl ?_
    refine g_run rfl ?_; refine q_gtr rfl rfl rfl ?_
    cases hx349
    exact eseq_nil ⟨hT349, Sub.set rfl (Sub.set rfl (Sub.bool false rfl hg349)), rfl⟩
  intro wm349 hBm349; clear hx349
  replace hS := hS.below hBm349
  refine q_move rfl rfl ?_
  obtain ⟨x354, hx353, h⟩ := Option.of_bind h
  refine g_orM 2 hx353 rfl trivial rfl rfl ?_ ?_ ?_
  · intro hg353
    refine g_skip rfl rfl rfl ?_
    refine g_skip rfl rfl rfl ?_
    exact eseq_nil ⟨rfl, Sub.set rfl (Sub.set rfl (Sub.bool true rfl hg353))⟩
  · intro hg353 hx353
    clear h
    have hT353 := Below.refl (World.heap wm349).size wm349
    refine g_run rfl ?_; refine q_move rfl rfl ?_
    refine g_run rfl ?_; refine q_lss rfl rfl rfl ?_
    cases hx353
    exact eseq_nil ⟨hT353, Sub.set rfl (Sub.set rfl (Sub.bool false rfl hg353)), rfl⟩
  intro wm353 hBm353; clear hx353
  replace hS := hS.below hBm353
  refine eseq_nil ?_
  refine hK346 _ _ ?_
  refine e_cond rfl (fun hc355 => ?_) (fun hc355 => ?_)
  · replace h := (if_pos hc355).symm.trans h
    refine e_seq fun K356 hK356 => ?_
    refine e_region_text rfl ?_
    refine q_assign rfl rfl ?_
    refine eseq_nil ?_
    refine hK356 _ _ ?_
    refine e_ret ?_
    replace hS := hS.nilRows0 Ty.int 3 29
    obtain rfl := Option.some.inj h
    exact ⟨_, res1 rfl rfl, (.slice none 0 0), ([] : List Value), _, rfl, hS⟩
  · replace h := (if_neg (not_true hc355)).symm.trans h
    refine e_skip ?_
    refine hK345 _ _ ?_
    refine e_seq fun K359 hK359 => ?_
    refine e_region_text rfl ?_
    refine q_assign rfl rfl ?_
    refine eseq_nil ?_
    refine hK359 _ _ ?_
    refine e_seq fun K360 hK360 => ?_
    refine e_seq fun K361 hK361 => ?_
    refine e_region_text rfl ?_
    refine q_assign rfl rfl ?_
    refine eseq_nil ?_
    refine hK361 _ _ ?_
    refine e_block ?_
    obtain ⟨tl362, ht362, h⟩ := Option.of_bind h
    have hX362_0 : ∀ (x583 : (List (List Int))) (v581 : Value) (v582 : List Value) (R579 : Nat → Prop) (w580 : World) (E_ : Env), ref22_Sets_K1 fuel x583 = some r → Sep F R R579 w w580 [HP.own Ty.raw (fun _ => False) 29 v581 v582, HP.famS Ty.int (fun _ => False) 3 v582 x583] → Sub [(5, v581)] E_ → K360 E_ w580 := by
      intro x583 v581 v582 R579 w580 E_ h hS  hsub
      refine hK360 _ _ (e_sub hsub ?_); clear hsub
      unfold ref22_Sets_K1 at h
      refine e_seq fun K586 hK586 => ?_
      refine e_region_text rfl ?_
      refine q_move rfl rfl ?_
      refine q_assign rfl rfl ?_
      refine eseq_nil ?_
      refine hK586 _ _ ?_
      refine e_ret ?_
      obtain rfl := Option.some.inj h
      exact ⟨_, res1 rfl rfl, v581, v582, _, rfl, hS⟩
    replace hS := hS.nilRows0 Ty.int 3 29
    refine e_loop (fun m_ E_ w462 => ∃ (x465 : (List (List Int))), ∃ (x468 : Int), ∃ (v463 : Value), ∃ (v464 : List Value), ∃ (R461 : Nat → Prop), iter (fun s => ref22_Sets_B1 fuel a0 a1 s.1 s.2) m_ (x465, x468) = some tl362 ∧ Sep F R R461 w w462 [HP.own Ty.raw (fun _ => False) 29 v463 v464, HP.famS Ty.int (fun _ => False) 3 v464 x465] ∧ E_ = [(0, .int .i64 a0), (1, .int .i64 a1), (5, v463), (6, .int .i64 x468)]) _ ⟨_, ⟨([] : List (List Int)), 0, (.slice none 0 0), ([] : List Value), _, ht362, hS, rfl⟩, Sub.cons rfl (Sub.cons rfl (Sub.cons rfl (Sub.cons rfl (Sub.nil _))))⟩ ?_
    clear ht362 hS
    rintro m362 _ w462 ⟨x465, x468, v463, v464, R461, ht362, hS, rfl⟩
    obtain ⟨m362, rfl, o362, ho362, ht362⟩ := iter_some ht362
    replace ho362 : ref22_Sets_B1 fuel a0 a1 x465 x468 = some o362 := ho362
    unfold ref22_Sets_B1 at ho362
    refine e_seq fun K589 hK589 => ?_
    refine e_seq fun K590 hK590 => ?_
    refine e_region_text rfl ?_
    refine q_move rfl rfl ?_
    refine q_move rfl rfl ?_
    refine q_convK (k := .u64) rfl rfl ?_
    obtain ⟨x591, hx591, ho362⟩ := Option.of_bind ho362
    refine q_shlK rfl rfl hx591 rfl ?_
    refine q_lss rfl rfl rfl ?_
    refine eseq_nil ?_
    refine hK590 _ _ ?_
    refine e_cond rfl (fun hc592 => ?_) (fun hc592 => ?_)
    · replace ho362 := (if_pos hc592).symm.trans ho362
      refine e_skip ?_
      refine hK589 _ _ ?_
      refine e_seq fun K593 hK593 => ?_
      refine e_block ?_
      refine e_seq fun K594 hK594 => ?_
      refine e_region_text rfl ?_
      refine q_assign rfl rfl ?_
      refine eseq_nil ?_
      refine hK594 _ _ ?_
      refine e_seq fun K595 hK595 => ?_
      refine e_seq fun K596 hK596 => ?_
      refine e_region_text rfl ?_
      refine q_assign rfl rfl ?_
      refine eseq_nil ?_
      refine hK596 _ _ ?_
      refine e_block ?_
      obtain ⟨tl597, ht597, ho362⟩ := Option.of_bind ho362
      have hX597_2 : ∀ (x666 : (List Int)) (v665 : Value) (R660 : Nat → Prop) (w661 : World) (E_ : Env), ref22_Sets_K2 fuel a1 x465 x468 x666 = some o362 → Sep F R R660 w w661 [HP.own Ty.raw (fun _ => False) 29 v463 v464, HP.famS Ty.int (fun _ => False) 3 v464 x465, HP.own Ty.int (fun _ => False) 3 v665 x666] → Sub [(0, .int .i64 a0), (1, .int .i64 a1), (5, v463), (6, .int .i64 x468), (7, v665)] E_ → K595 E_ w661 := by
        intro x666 v665 R660 w661 E_ ho362 hS  hsub
        refine hK595 _ _ (e_sub hsub ?_); clear hsub
        unfold ref22_Sets_K2 at ho362
        refine e_seq fun K667 hK667 => ?_
        refine e_region_text rfl ?_
        refine q_move rfl rfl ?_
        refine q_lenS rfl (hS.isl 2 rfl) rfl ?_
        refine q_move rfl rfl ?_
        refine q_leq rfl rfl rfl ?_
        refine eseq_nil ?_
        refine hK667 _ _ ?_
        refine e_cond rfl (fun hc668 => ?_) (fun hc668 => ?_)
        · replace ho362 := (if_pos hc668).symm.trans ho362
          refine e_region_text rfl ?_
          refine q_move rfl rfl ?_
          refine q_move rfl rfl ?_
          refine q_litO (T := Ty.raw) (S := (fun _ => False)) (cells := [[v665]]) (ys := [v665]) ((Parts.cons rfl (cells_one (hS.own 2 rfl).one) Parts.nil)) rfl rfl rfl rfl rfl rfl rfl (fun w1 hB => ⟨⟨rfl, (hS.own 2 rfl).one⟩, trivial⟩) (fun _ h => h.elim) rfl fun w669 v669 ho669 hv669 hB669 => ?_
          replace hS := hS.newOwnS hB669 ho669 hv669 (fun _ h => h.elim)
          replace hS := hS.pickB [3, 0, 1, 2] 4 rfl rfl; simp only [List.map_cons, List.map_nil, List.getD_cons_zero, List.getD_cons_succ] at hS
          replace hS := hS.famOne
          obtain ⟨x673, hx673, ho362⟩ := Option.of_bind ho362
          obtain ⟨hcr672, hce672⟩ := catL_raw (hS.famLen 3 rfl) (hS.famLen 0 rfl) (snoc_cat hx673)
          refine q_catOwn (T := Ty.raw) rfl rfl rfl rfl (hS.own 2 rfl) rfl (hS.own 1 rfl) (fun _ h _ => h.elim) hcr672 (Nat.zero_le _) rfl (fun h => by cases h) fun v672 w672 hw672 hgr672 hnw672 => ?_
          have hk672 := hS.keptOwn 2 rfl hgr672
          replace hS := hS.setOwn 2 rfl hw672 hgr672 hnw672; simp only [List.set] at hS
          replace hS := hS.pickB [3, 0, 1, 2] 4 rfl rfl; simp only [List.map_cons, List.map_nil, List.getD_cons_zero, List.getD_cons_succ] at hS
          replace hS := hS.famCat; rw [hce672] at hS
          refine q_assign rfl rfl ?_
          refine eseq_nil ?_
          refine hK593 _ _ ?_
          refine e_region_text rfl ?_
          refine q_move rfl rfl ?_
          refine q_addW rfl rfl rfl ?_
          refine q_assign rfl rfl ?_
          refine eseq_nil ?_
          obtain rfl := Option.some.inj ho362
          exact ⟨m362, _, Nat.lt_succ_self _, ⟨x673, (w64 (x468 + 1)), v672, (v464 ++ ([v665])), _, ht362, (hS.pickB [2, 0] 3 rfl rfl), rfl⟩, Sub.cons rfl (Sub.cons rfl (Sub.cons rfl (Sub.cons rfl (Sub.nil _))))⟩
        · replace ho362 := (if_neg (not_true hc668)).symm.trans ho362
          refine e_skip ?_
          refine hK593 _ _ ?_
          refine e_region_text rfl ?_
          refine q_move rfl rfl ?_
          refine q_addW rfl rfl rfl ?_
          refine q_assign rfl rfl ?_
          refine eseq_nil ?_
          obtain rfl := Option.some.inj ho362
          exact ⟨m362, _, Nat.lt_succ_self _, ⟨x465, (w64 (x468 + 1)), v463, v464, _, ht362, (hS.pickB [0, 1] 3 rfl rfl), rfl⟩, Sub.cons rfl (Sub.cons rfl (Sub.cons rfl (Sub.cons rfl (Sub.nil _))))⟩
      replace hS := hS.nilOwn0 Ty.int 3
      refine e_loop (fun m_ E_ w628 => ∃ (x633 : (List Int)), ∃ (x634 : Int), ∃ (v632 : Value), ∃ (R627 : Nat → Prop), iter (fun s => ref22_Sets_B2 fuel a0 x468 s.1 s.2) m_ (x633, x634) = some tl597 ∧ Sep F R R627 w w628 [HP.own Ty.raw (fun _ => False) 29 v463 v464, HP.famS Ty.int (fun _ => False) 3 v464 x465, HP.own Ty.int (fun _ => False) 3 v632 x633] ∧ E_ = [(0, .int .i64 a0), (1, .int .i64 a1), (5, v463), (6, .int .i64 x468), (7, v632), (8, .int .i64 x634)]) _ ⟨_, ⟨([] : List Int), 0, (.slice none 0 0), _, ht597, (hS.pickB [1, 2, 0] 3 rfl rfl), rfl⟩, Sub.cons rfl (Sub.cons rfl (Sub.cons rfl (Sub.cons rfl (Sub.cons rfl (Sub.cons rfl (Sub.nil _))))))⟩ ?_
      clear ht597 hS
      rintro m597 _ w628 ⟨x633, x634, v632, R627, ht597, hS, rfl⟩
      obtain ⟨m597, rfl, o597, ho597, ht597⟩ := iter_some ht597
      replace ho597 : ref22_Sets_B2 fuel a0 x468 x633 x634 = some o597 := ho597
      unfold ref22_Sets_B2 at ho597
      refine e_seq fun K675 hK675 => ?_
      refine e_seq fun K676 hK676 => ?_
      refine e_region_text rfl ?_
      refine q_move rfl rfl ?_
      refine q_move rfl rfl ?_
      refine q_lss rfl rfl rfl ?_
      refine eseq_nil ?_
      refine hK676 _ _ ?_
      refine e_cond rfl (fun hc677 => ?_) (fun hc677 => ?_)
      · replace ho597 := (if_pos hc677).symm.trans ho597
        refine e_skip ?_
        refine hK675 _ _ ?_
        refine e_seq fun K678 hK678 => ?_
        refine e_block ?_
        refine e_seq fun K679 hK679 => ?_
        refine e_region_text rfl ?_
        refine q_move rfl rfl ?_
        refine q_move rfl rfl ?_
        refine q_convK (k := .u64) rfl rfl ?_
        obtain ⟨x680, hx680, ho597⟩ := Option.of_bind ho597
        refine q_shrK rfl rfl hx680 rfl ?_
        refine q_andK rfl rfl rfl ?_
        refine q_eql rfl rfl rfl ?_
        refine eseq_nil ?_
        refine hK679 _ _ ?_
        refine e_cond rfl (fun hc681 => ?_) (fun hc681 => ?_)
        · replace ho597 := (if_pos hc681).symm.trans ho597
          refine e_region_text rfl ?_
          refine q_move rfl rfl ?_
          refine q_move rfl rfl ?_
          refine q_litO (T := Ty.int) (S := (fun _ => False)) (cells := [[.int .i64 x634]]) (ys := [x634]) ((Parts.cons rfl rfl Parts.nil)) rfl rfl rfl rfl rfl rfl rfl (fun w1 hB => ⟨rfl, trivial⟩) (fun _ h => h.elim) rfl fun w682 v682 ho682 hv682 hB682 => ?_
          replace hS := hS.newOwnS hB682 ho682 hv682 (fun _ h => h.elim)
          obtain ⟨x685, hx685, ho597⟩ := Option.of_bind ho597
          refine q_catOwn (T := Ty.int) rfl rfl rfl rfl (hS.own 3 rfl) rfl (hS.own 0 rfl) (fun _ h _ => h.elim) (snoc_cat hx685) (Nat.zero_le _) rfl (fun h => by cases h) fun v684 w684 hw684 hgr684 hnw684 => ?_
          have hk684 := hS.keptOwn 3 rfl hgr684
          replace hS := hS.setOwn 3 rfl hw684 hgr684 hnw684; simp only [List.set] at hS
          refine q_assign rfl rfl ?_
          refine eseq_nil ?_
          refine hK678 _ _ ?_
          refine e_region_text rfl ?_
          refine q_move rfl rfl ?_
          refine q_addW rfl rfl rfl ?_
          refine q_assign rfl rfl ?_
          refine eseq_nil ?_
          obtain rfl := Option.some.inj ho597
          exact ⟨m597, _, Nat.lt_succ_self _, ⟨x685, (w64 (x634 + 1)), v684, _, ht597, (hS.pickB [1, 2, 3] 4 rfl rfl), rfl⟩, Sub.cons rfl (Sub.cons rfl (Sub.cons rfl (Sub.cons rfl (Sub.cons rfl (Sub.cons rfl (Sub.nil _))))))⟩
        · replace ho597 := (if_neg (not_true hc681)).symm.trans ho597
          refine e_skip ?_
          refine hK678 _ _ ?_
          refine e_region_text rfl ?_
          refine q_move rfl rfl ?_
          refine q_addW rfl rfl rfl ?_
          refine q_assign rfl rfl ?_
          refine eseq_nil ?_
          obtain rfl := Option.some.inj ho597
          exact ⟨m597, _, Nat.lt_succ_self _, ⟨x633, (w64 (x634 + 1)), v632, _, ht597, hS, rfl⟩, Sub.cons rfl (Sub.cons rfl (Sub.cons rfl (Sub.cons rfl (Sub.cons rfl (Sub.cons rfl (Sub.nil _))))))⟩
      · replace ho597 := (if_neg (not_true hc677)).symm.trans ho597
        refine e_exit ?_
        obtain rfl := Option.some.inj ho597
        obtain rfl := Option.some.inj ht597
        exact hX597_2 x633 v632 _ _ _ ho362 hS  (Sub.cons rfl (Sub.cons rfl (Sub.cons rfl (Sub.cons rfl (Sub.cons rfl (Sub.nil _))))))
    · replace ho362 := (if_neg (not_true hc592)).symm.trans ho362
      refine e_exit ?_
      obtain rfl := Option.some.inj ho362
      obtain rfl := Option.some.inj ht362
      exact hX362_0 x465 v463 v464 _ _ _ h hS  (Sub.cons rfl (Sub.nil _))
theorem ref22_Safe_w {F R : Nat → Prop} {w : World} {fuel : Nat} {a0 : Pat} {a1 : Int} {v1 : Value} {v2 : Value} {v3 : Value} {r : ((List Int))} (hS : Sep F R R w w []) (f1 : IsSlice Ty.int w R v1 a0.lens) (f2 : IsSlice (Ty.slice Ty.int) w R v2 a0.ckpts) (f3 : IsSlice arcTy w R v3 a0.arcs) (h : ref22_Safe fuel a0 a1 = some r) :
    Gives Try.prog 29 [.agg #[v1, v2, v3], .int .i64 a1] w fun u w1 => ∃ (v107 : Value), ∃ (R1 : Nat → Prop), u = v107 ∧ Sep F R R1 w w1 [HP.own Ty.int (fun _ => False) 3 v107 r] := by
  refine fn_of Try.func29 rfl Try.ntmps29 (Nat.le_of_ble_eq_true rfl) ?_
  unfold ref22_Safe at h
  refine e_seq fun K108 hK108 => ?_
  refine e_region_text rfl ?_
  refine q_boxB rfl rfl rfl fun w109 bl109 hg109 hb109 hB109 => ?_
  replace f1 := f1.ext hB109
  replace f2 := f2.ext hB109
  replace f3 := f3.ext hB109
  replace hS := hS.newBlk hB109 hg109 hb109
  refine q_assign rfl rfl ?_
  refine eseq_nil ?_
  refine hK108 _ _ ?_
  refine e_seq fun K111 hK111 => ?_
  refine e_region_text rfl ?_
  refine q_field rfl rfl ?_
  refine q_load rfl (Blk.cell (hS.blk 0 rfl) rfl) rfl ?_
  refine q_lenS rfl f1 rfl ?_
  refine q_move rfl rfl ?_
  obtain ⟨r113, hr113, h⟩ := Option.of_bind h
  refine q_call rfl (ref22_Sets_w (Sep.enter (As := []) hS)  hr113) rfl ?_
  rintro v114 w112 ⟨_, v115, R112, rfl, hC112⟩
  have hB112 : Below (World.heap w109).size w109 w112 := hC112.stepB0
  refine ⟨fun _ => .of_below hB112, ?_⟩
  replace f1 := (f1.ext hB112).mono fun k hk _ => hC112.ro0 k hk
  replace f2 := (f2.ext hB112).mono fun k hk _ => hC112.ro0 k hk
  replace f3 := (f3.ext hB112).mono fun k hk _ => hC112.ro0 k hk
  replace hS := Sep.leave (As := []) hS hC112; simp only [List.cons_append, List.nil_append] at hS
  refine q_assign rfl rfl ?_
  refine eseq_nil ?_
  refine hK111 _ _ ?_
  refine e_seq fun K116 hK116 => ?_
  refine e_seq fun K117 hK117 => ?_
  refine e_region_text rfl ?_
  refine q_move rfl rfl ?_
  refine q_lenR rfl (hS.own 0 rfl) (hS.famLen 1 rfl) rfl ?_
  refine q_eql rfl rfl rfl ?_
  refine eseq_nil ?_
  refine hK117 _ _ ?_
  refine e_cond rfl (fun hc118 => ?_) (fun hc118 => ?_)
  · replace h := (if_pos hc118).symm.trans h
    refine e_seq fun K119 hK119 => ?_
    refine e_region_text rfl ?_
    refine q_field rfl rfl ?_
    refine q_load rfl (Blk.cell (hS.blk 2 rfl) rfl) rfl ?_
    refine q_lenS rfl f1 rfl ?_
    obtain ⟨x120, hx120, h⟩ := Option.of_bind h
    refine q_makeO (T := Ty.int) (S := (fun _ => False)) rfl rfl rfl hx120 (fun _ h => h.elim) rfl fun w121 v121 ho121 hv121 hB121 => ?_
    replace hS := hS.newOwnS hB121 ho121 hv121 (fun _ h => h.elim)
    refine q_assign rfl rfl ?_
    refine eseq_nil ?_
    refine hK119 _ _ ?_
    refine e_ret ?_
    obtain rfl := Option.some.inj h
    exact ⟨_, res1 rfl rfl, v121, _, rfl, (hS.pickB [0] 4 rfl rfl)⟩
  · replace h := (if_neg (not_true hc118)).symm.trans h
    refine e_skip ?_
    refine hK116 _ _ ?_
    refine e_seq fun K123 hK123 => ?_
    refine e_region_text rfl ?_
    refine q_field rfl rfl ?_
    refine q_load rfl (Blk.cell (hS.blk 2 rfl) rfl) rfl ?_
    replace hS := hS.nilOwn0 Ty.int 3
    obtain ⟨x126, hx126, h⟩ := Option.of_bind h
    refine q_catE (T := Ty.int) rfl rfl rfl rfl (hS.own 0 rfl) rfl f1 hx126 (Nat.zero_le _) rfl (fun h => by cases h) fun v125 w125 hw125 hgr125 hnw125 => ?_
    have hk125 := hS.keptOwn 0 rfl hgr125
    replace f1 := f1.kept hk125
    replace f2 := f2.kept hk125
    replace f3 := f3.kept hk125
    replace hS := hS.setOwn 0 rfl hw125 hgr125 hnw125; simp only [List.set] at hS
    refine q_assign rfl rfl ?_
    refine eseq_nil ?_
    refine hK123 _ _ ?_
    refine e_seq fun K127 hK127 => ?_
    refine e_seq fun K128 hK128 => ?_
    refine e_region_text rfl ?_
    refine q_assign rfl rfl ?_
    refine eseq_nil ?_
    refine hK128 _ _ ?_
    refine e_block ?_
    obtain ⟨tl129, ht129, h⟩ := Option.of_bind h
    have hX129_0 : ∀ (x197 : (List Int)) (v196 : Value) (R193 : Nat → Prop) (w194 : World) (E_ : Env), ref22_Safe_K1 fuel x197 = some r → Sep F R R193 w w194 [HP.own Ty.int (fun _ => False) 3 v196 x197] → Sub [(6, v196)] E_ → K127 E_ w194 := by
      intro x197 v196 R193 w194 E_ h hS  hsub
      refine hK127 _ _ (e_sub hsub ?_); clear hsub
      unfold ref22_Safe_K1 at h
      refine e_seq fun K198 hK198 => ?_
      refine e_region_text rfl ?_
      refine q_move rfl rfl ?_
      refine q_assign rfl rfl ?_
      refine eseq_nil ?_
      refine hK198 _ _ ?_
      refine e_ret ?_
      obtain rfl := Option.some.inj h
      exact ⟨_, res1 rfl rfl, v196, _, rfl, hS⟩
    refine e_loop (fun m_ E_ w161 => ∃ (x169 : (List Int)), ∃ (x170 : Int), ∃ (v168 : Value), ∃ (R160 : Nat → Prop), iter (fun s => ref22_Safe_B1 fuel r113 a0 s.1 s.2) m_ (x169, x170) = some tl129 ∧ Sep F R R160 w w161 [HP.blk bl109 [v1, v2, v3] 32, HP.own Ty.raw (fun _ => False) 29 v114 v115, HP.famS Ty.int (fun _ => False) 3 v115 r113, HP.own Ty.int (fun _ => False) 3 v168 x169] ∧ IsSlice Ty.int w161 R160 v1 a0.lens ∧ IsSlice (Ty.slice Ty.int) w161 R160 v2 a0.ckpts ∧ IsSlice arcTy w161 R160 v3 a0.arcs ∧ E_ = [(2, .pointer (some ⟨bl109, 0, none⟩)), (5, v114), (6, v168), (7, .int .i64 x170)]) _ ⟨_, ⟨x126, 0, v125, _, ht129, (hS.pickB [3, 1, 2, 0] 4 rfl rfl), f1, f2, f3, rfl⟩, Sub.cons rfl (Sub.cons rfl (Sub.cons rfl (Sub.cons rfl (Sub.nil _))))⟩ ?_
    clear ht129 hS
    rintro m129 _ w161 ⟨x169, x170, v168, R160, ht129, hS, f162, f163, f164, rfl⟩
    obtain ⟨m129, rfl, o129, ho129, ht129⟩ := iter_some ht129
    replace ho129 : ref22_Safe_B1 fuel r113 a0 x169 x170 = some o129 := ho129
    unfold ref22_Safe_B1 at ho129
    refine e_seq fun K199 hK199 => ?_
    refine e_seq fun K200 hK200 => ?_
    refine e_region_text rfl ?_
    refine q_move rfl rfl ?_
    refine q_move rfl rfl ?_
    refine q_lenR rfl (hS.own 1 rfl) (hS.famLen 2 rfl) rfl ?_
    refine q_lss rfl rfl rfl ?_
    refine eseq_nil ?_
    refine hK200 _ _ ?_
    refine e_cond rfl (fun hc201 => ?_) (fun hc201 => ?_)
    · replace ho129 := (if_pos hc201).symm.trans ho129
      refine e_skip ?_
      refine hK199 _ _ ?_
      refine e_seq fun K202 hK202 => ?_
      refine e_block ?_
      refine e_region_draw mixed (fun _ => False) [0, 0, 0, 0, 12, 28, 62, 127, 255] [] [0, 1, 2, 3, 4, 5, 6, 7, 8] (by kernel_rfl) ?_
      refine q_move rfl rfl ?_
      refine q_loadAgg rfl (Blk.cellsAt (hS.blk 0 rfl) 0 3 rfl) rfl rfl ?_
      refine q_move rfl rfl ?_
      refine q_move rfl rfl ?_
      obtain ⟨x203, hx203, ho129⟩ := Option.of_bind ho129
      have hax203 := ati_nth (hS.famLen 2 rfl) hx203
      refine q_indexO (T := Ty.raw) (by infer_instance) rfl (hS.own 1 rfl) rfl hax203 rfl ?_
      refine q_load rfl (Elt.rawCell ((hS.own 1 rfl).elt hax203)) rfl ?_
      obtain ⟨r205, hr205, ho129⟩ := Option.of_bind ho129
      refine q_call rfl (ref22_Failure_w (a0 := (⟨a0.lens, a0.ckpts, a0.arcs⟩ : Pat)) (Sep.all w161) (f162).old (f163).old (f164).old ((hS.famI 2 rfl hx203)).old hr205) rfl ?_
      rintro v206 w204 ⟨_, R204, rfl, hC204⟩
      have hB204 : Below (World.heap w161).size w161 w204 := hC204.stepBF
      refine ⟨fun _ => .of_below hB204, ?_⟩
      replace f162 := f162.ext hB204
      replace f163 := f163.ext hB204
      replace f164 := f164.ext hB204
      replace hS := hS.newOwnS hB204 (hC204.own 0 rfl) (hC204.fresh 0 rfl) (fun _ h => h.elim)
      obtain ⟨r208, hr208, ho129⟩ := Option.of_bind ho129
      refine q_call rfl (ref18_Meet_w (Sep.all w204) ((hS.isl 4 rfl)).old ((hS.isl 0 rfl)).old hr208) rfl ?_
      rintro v209 w207 ⟨_, R207, rfl, hC207⟩
      have hB207 : Below (World.heap w204).size w204 w207 := hC207.stepBF
      refine ⟨fun _ => .of_below hB207, ?_⟩
      replace f162 := f162.ext hB207
      replace f163 := f163.ext hB207
      replace f164 := f164.ext hB207
      replace hS := hS.newOwnS hB207 (hC207.own 0 rfl) (hC207.fresh 0 rfl) (fun _ h => h.elim)
      refine q_assign rfl rfl ?_
      refine eseq_nil ?_
      refine hK202 _ _ ?_
      refine e_region_text rfl ?_
      refine q_move rfl rfl ?_
      refine q_addW rfl rfl rfl ?_
      refine q_assign rfl rfl ?_
      refine eseq_nil ?_
      obtain rfl := Option.some.inj ho129
      exact ⟨m129, _, Nat.lt_succ_self _, ⟨r208, (w64 (x170 + 1)), v209, _, ht129, (hS.pickB [2, 3, 4, 0] 6 rfl rfl), f162, f163, f164, rfl⟩, Sub.cons rfl (Sub.cons rfl (Sub.cons rfl (Sub.cons rfl (Sub.nil _))))⟩
    · replace ho129 := (if_neg (not_true hc201)).symm.trans ho129
      refine e_exit ?_
      obtain rfl := Option.some.inj ho129
      obtain rfl := Option.some.inj ht129
      exact hX129_0 x169 v168 _ _ _ h (hS.pickB [3] 4 rfl rfl)  (Sub.cons rfl (Sub.nil _))
theorem ref22_SameLists_w {F R : Nat → Prop} {w : World} {fuel : Nat} {a0 : (List (List Int))} {a1 : (List (List Int))} {v1 : Value} {v2 : Value} {r : (Bool)} (hS : Sep F R R w w []) (f1 : IsSlice (Ty.slice Ty.int) w R v1 a0) (f2 : IsSlice (Ty.slice Ty.int) w R v2 a1) (h : ref22_SameLists fuel a0 a1 = some r) :
    Gives Try.prog 13 [v1, v2] w fun u w1 => ∃ (R1 : Nat → Prop), u = .bool r ∧ Sep F R R1 w w1 [] := by
  refine fn_of Try.func13 rfl Try.ntmps13 (Nat.le_of_ble_eq_true rfl) ?_
  unfold ref22_SameLists at h
  refine e_seq fun K331 hK331 => ?_
  refine e_region_text rfl ?_
  refine q_assign rfl rfl ?_
  refine eseq_nil ?_
  refine hK331 _ _ ?_
  refine e_seq fun K332 hK332 => ?_
  refine e_seq fun K333 hK333 => ?_
  refine e_region_text rfl ?_
  refine q_move rfl rfl ?_
  refine q_lenS rfl f1 rfl ?_
  refine q_move rfl rfl ?_
  refine q_lenS rfl f2 rfl ?_
  refine q_neq rfl rfl rfl ?_
  refine eseq_nil ?_
  refine hK333 _ _ ?_
  refine e_cond rfl (fun hc334 => ?_) (fun hc334 => ?_)
  · replace h := (if_pos hc334).symm.trans h
    refine e_seq fun K335 hK335 => ?_
    refine e_region_text rfl ?_
    refine q_assign rfl rfl ?_
    refine eseq_nil ?_
    refine hK335 _ _ ?_
    refine e_ret ?_
    obtain rfl := Option.some.inj h
    exact ⟨_, res1 rfl rfl, _, rfl, hS⟩
  · replace h := (if_neg (not_true hc334)).symm.trans h
    refine e_skip ?_
    refine hK332 _ _ ?_
    refine e_seq fun K336 hK336 => ?_
    refine e_seq fun K337 hK337 => ?_
    refine e_region_text rfl ?_
    refine q_assign rfl rfl ?_
    refine eseq_nil ?_
    refine hK337 _ _ ?_
    refine e_block ?_
    obtain ⟨tl338, ht338, h⟩ := Option.of_bind h
    have hX338_0 : ∀ (R556 : Nat → Prop) (w557 : World) (E_ : Env), ref22_SameLists_K1 fuel = some r → Sep F R R556 w w557 [] → Sub [] E_ → K336 E_ w557 := by
      intro R556 w557 E_ h hS  hsub
      refine hK336 _ _ (e_sub hsub ?_); clear hsub
      unfold ref22_SameLists_K1 at h
      refine e_seq fun K558 hK558 => ?_
      refine e_region_text rfl ?_
      refine q_assign rfl rfl ?_
      refine eseq_nil ?_
      refine hK558 _ _ ?_
      refine e_ret ?_
      obtain rfl := Option.some.inj h
      exact ⟨_, res1 rfl rfl, _, rfl, hS⟩
    refine e_loop (fun m_ E_ w448 => ∃ (x451 : Int), ∃ (R447 : Nat → Prop), iter (fun s => ref22_SameLists_B1 fuel a0 a1 s) m_ x451 = some tl338 ∧ Sep F R R447 w w448 [] ∧ IsSlice (Ty.slice Ty.int) w448 R447 v1 a0 ∧ IsSlice (Ty.slice Ty.int) w448 R447 v2 a1 ∧ E_ = [(0, v1), (1, v2), (5, .int .i64 x451)]) _ ⟨_, ⟨0, _, ht338, hS, f1, f2, rfl⟩, Sub.cons rfl (Sub.cons rfl (Sub.cons rfl (Sub.nil _)))⟩ ?_
    clear ht338 hS
    rintro m338 _ w448 ⟨x451, R447, ht338, hS, f449, f450, rfl⟩
    obtain ⟨m338, rfl, o338, ho338, ht338⟩ := iter_some ht338
    replace ho338 : ref22_SameLists_B1 fuel a0 a1 x451 = some o338 := ho338
    unfold ref22_SameLists_B1 at ho338
    refine e_seq fun K559 hK559 => ?_
    refine e_seq fun K560 hK560 => ?_
    refine e_region_text rfl ?_
    refine q_move rfl rfl ?_
    refine q_move rfl rfl ?_
    refine q_lenS rfl f449 rfl ?_
    refine q_lss rfl rfl rfl ?_
    refine eseq_nil ?_
    refine hK560 _ _ ?_
    refine e_cond rfl (fun hc561 => ?_) (fun hc561 => ?_)
    · replace ho338 := (if_pos hc561).symm.trans ho338
      refine e_skip ?_
      refine hK559 _ _ ?_
      refine e_seq fun K562 hK562 => ?_
      refine e_block ?_
      refine e_seq fun K563 hK563 => ?_
      refine e_seq fun K564 hK564 => ?_
      refine e_region_draw mixed (fun _ => False) [0, 0, 3, 7, 15, 0, 0, 96, 224, 480, 1023] [] [0, 1, 2, 3, 4, 5, 6, 7, 8, 9, 10] (by kernel_rfl) ?_
      refine q_move rfl rfl ?_
      refine q_move rfl rfl ?_
      obtain ⟨x565, hx565, ho338⟩ := Option.of_bind ho338
      refine q_atS (by infer_instance) rfl f449 rfl hx565 rfl fun b566 o566 hm566 f566 => ?_
      refine q_loadE rfl f566 rfl (fun v567 f567 => ?_)
      refine q_lenS rfl f567 rfl ?_
      refine q_move rfl rfl ?_
      refine q_move rfl rfl ?_
      obtain ⟨x568, hx568, ho338⟩ := Option.of_bind ho338
      refine q_atS (by infer_instance) rfl f450 rfl hx568 rfl fun b569 o569 hm569 f569 => ?_
      refine q_loadE rfl f569 rfl (fun v570 f570 => ?_)
      refine q_lenS rfl f570 rfl ?_
      refine q_neq rfl rfl rfl ?_
      refine eseq_nil ?_
      refine hK564 _ _ ?_
      refine e_cond rfl (fun hc571 => ?_) (fun hc571 => ?_)
      · replace ho338 := (if_pos hc571).symm.trans ho338
        refine e_seq fun K572 hK572 => ?_
        refine e_region_text rfl ?_
        refine q_assign rfl rfl ?_
        refine eseq_nil ?_
        refine hK572 _ _ ?_
        refine e_ret ?_
        obtain rfl := Option.some.inj ho338
        obtain rfl := Option.some.inj ht338
        obtain rfl := Option.some.inj h
        exact ⟨_, res1 rfl rfl, _, rfl, hS⟩
      · replace ho338 := (if_neg (not_true hc571)).symm.trans ho338
        refine e_skip ?_
        refine hK563 _ _ ?_
        refine e_seq fun K573 hK573 => ?_
        refine e_region_text rfl ?_
        refine q_assign rfl rfl ?_
        refine eseq_nil ?_
        refine hK573 _ _ ?_
        refine e_block ?_
        obtain ⟨tl574, ht574, ho338⟩ := Option.of_bind ho338
        have hX574_2 : ∀ (R634 : Nat → Prop) (w635 : World) (E_ : Env), ref22_SameLists_K2 fuel x451 = some o338 → Sep F R R634 w w635 [] → IsSlice (Ty.slice Ty.int) w635 R634 v1 a0 → IsSlice (Ty.slice Ty.int) w635 R634 v2 a1 → Sub [(0, v1), (1, v2), (5, .int .i64 x451)] E_ → K562 E_ w635 := by
          intro R634 w635 E_ ho338 hS f636 f637 hsub
          refine hK562 _ _ (e_sub hsub ?_); clear hsub
          unfold ref22_SameLists_K2 at ho338
          refine e_region_text rfl ?_
          refine q_move rfl rfl ?_
          refine q_addW rfl rfl rfl ?_
          refine q_assign rfl rfl ?_
          refine eseq_nil ?_
          obtain rfl := Option.some.inj ho338
          exact ⟨m338, _, Nat.lt_succ_self _, ⟨(w64 (x451 + 1)), _, ht338, hS, f636, f637, rfl⟩, Sub.cons rfl (Sub.cons rfl (Sub.cons rfl (Sub.nil _)))⟩
        refine e_loop (fun m_ E_ w605 => ∃ (x608 : Int), ∃ (R604 : Nat → Prop), iter (fun s => ref22_SameLists_B2 fuel a0 x451 a1 s) m_ x608 = some tl574 ∧ Sep F R R604 w w605 [] ∧ IsSlice (Ty.slice Ty.int) w605 R604 v1 a0 ∧ IsSlice (Ty.slice Ty.int) w605 R604 v2 a1 ∧ E_ = [(0, v1), (1, v2), (5, .int .i64 x451), (6, .int .i64 x608)]) _ ⟨_, ⟨0, _, ht574, hS, f449, f450, rfl⟩, Sub.cons rfl (Sub.cons rfl (Sub.cons rfl (Sub.cons rfl (Sub.nil _))))⟩ ?_
        clear ht574 hS
        rintro m574 _ w605 ⟨x608, R604, ht574, hS, f606, f607, rfl⟩
        obtain ⟨m574, rfl, o574, ho574, ht574⟩ := iter_some ht574
        replace ho574 : ref22_SameLists_B2 fuel a0 x451 a1 x608 = some o574 := ho574
        unfold ref22_SameLists_B2 at ho574
        refine e_seq fun K638 hK638 => ?_
        refine e_seq fun K639 hK639 => ?_
        refine e_region_text rfl ?_
        refine q_move rfl rfl ?_
        refine q_move rfl rfl ?_
        refine q_move rfl rfl ?_
        obtain ⟨x640, hx640, ho574⟩ := Option.of_bind ho574
        refine q_atS (by infer_instance) rfl f606 rfl hx640 rfl fun b641 o641 hm641 f641 => ?_
        refine q_loadE rfl f641 rfl (fun v642 f642 => ?_)
        refine q_lenS rfl f642 rfl ?_
        refine q_lss rfl rfl rfl ?_
        refine eseq_nil ?_
        refine hK639 _ _ ?_
        refine e_cond rfl (fun hc643 => ?_) (fun hc643 => ?_)
        · replace ho574 := (if_pos hc643).symm.trans ho574
          refine e_skip ?_
          refine hK638 _ _ ?_
          refine e_seq fun K644 hK644 => ?_
          refine e_block ?_
          refine e_seq fun K645 hK645 => ?_
          refine e_region_draw mixed (fun _ => False) [0, 0, 3, 7, 0, 31, 63, 0, 0, 384, 896, 0, 3968, 8064, 16383] [] [0, 1, 2, 3, 4, 5, 6, 7, 8, 9, 10, 11, 12, 13, 14] (by kernel_rfl) ?_
          refine q_move rfl rfl ?_
          refine q_move rfl rfl ?_
          obtain ⟨x646, hx646, ho574⟩ := Option.of_bind ho574
          refine q_atS (by infer_instance) rfl f606 rfl hx646 rfl fun b647 o647 hm647 f647 => ?_
          refine q_loadE rfl f647 rfl (fun v648 f648 => ?_)
          refine q_move rfl rfl ?_
          obtain ⟨x649, hx649, ho574⟩ := Option.of_bind ho574
          refine q_atS (by infer_instance) rfl f648 rfl hx649 rfl fun b650 o650 hm650 f650 => ?_
          refine q_load rfl (Elt.intCell f650) rfl ?_
          refine q_move rfl rfl ?_
          refine q_move rfl rfl ?_
          obtain ⟨x651, hx651, ho574⟩ := Option.of_bind ho574
          refine q_atS (by infer_instance) rfl f607 rfl hx651 rfl fun b652 o652 hm652 f652 => ?_
          refine q_loadE rfl f652 rfl (fun v653 f653 => ?_)
          refine q_move rfl rfl ?_
          obtain ⟨x654, hx654, ho574⟩ := Option.of_bind ho574
          refine q_atS (by infer_instance) rfl f653 rfl hx654 rfl fun b655 o655 hm655 f655 => ?_
          refine q_load rfl (Elt.intCell f655) rfl ?_
          refine q_neq rfl rfl rfl ?_
          refine eseq_nil ?_
          refine hK645 _ _ ?_
          refine e_cond rfl (fun hc656 => ?_) (fun hc656 => ?_)
          · replace ho574 := (if_pos hc656).symm.trans ho574
            refine e_seq fun K657 hK657 => ?_
            refine e_region_text rfl ?_
            refine q_assign rfl rfl ?_
            refine eseq_nil ?_
            refine hK657 _ _ ?_
            refine e_ret ?_
            obtain rfl := Option.some.inj ho574
            obtain rfl := Option.some.inj ht574
            obtain rfl := Option.some.inj ho338
            obtain rfl := Option.some.inj ht338
            obtain rfl := Option.some.inj h
            exact ⟨_, res1 rfl rfl, _, rfl, hS⟩
          · replace ho574 := (if_neg (not_true hc656)).symm.trans ho574
            refine e_skip ?_
            refine hK644 _ _ ?_
            refine e_region_text rfl ?_
            refine q_move rfl rfl ?_
            refine q_addW rfl rfl rfl ?_
            refine q_assign rfl rfl ?_
            refine eseq_nil ?_
            obtain rfl := Option.some.inj ho574
            exact ⟨m574, _, Nat.lt_succ_self _, ⟨(w64 (x608 + 1)), _, ht574, hS, f606, f607, rfl⟩, Sub.cons rfl (Sub.cons rfl (Sub.cons rfl (Sub.cons rfl (Sub.nil _))))⟩
        · replace ho574 := (if_neg (not_true hc643)).symm.trans ho574
          refine e_exit ?_
          obtain rfl := Option.some.inj ho574
          obtain rfl := Option.some.inj ht574
          exact hX574_2  _ _ _ ho338 hS f606 f607 (Sub.cons rfl (Sub.cons rfl (Sub.cons rfl (Sub.nil _))))
    · replace ho338 := (if_neg (not_true hc561)).symm.trans ho338
      refine e_exit ?_
      obtain rfl := Option.some.inj ho338
      obtain rfl := Option.some.inj ht338
      exact hX338_0  _ _ _ h hS  (Sub.nil _)
theorem law22_in_w {F R : Nat → Prop} {w : World} {fuel : Nat} {a0 : (List Int)} {a1 : Int} {v1 : Value} {r : (Bool)} (hS : Sep F R R w w []) (f1 : IsSlice Ty.int w R v1 a0) (h : law22_in fuel a0 a1 = some r) :
    Gives Try.prog 19 [v1, .int .i64 a1] w fun u w1 => ∃ (R1 : Nat → Prop), u = .bool r ∧ Sep F R R1 w w1 [] := by
  refine fn_of Try.func19 rfl Try.ntmps19 (Nat.le_of_ble_eq_true rfl) ?_
  unfold law22_in at h
  refine e_seq fun K54 hK54 => ?_
  refine e_region_text rfl ?_
  refine q_assign rfl rfl ?_
  refine eseq_nil ?_
  refine hK54 _ _ ?_
  refine e_seq fun K55 hK55 => ?_
  refine e_seq fun K56 hK56 => ?_
  refine e_region_text rfl ?_
  refine q_move rfl rfl ?_
  refine q_lenS rfl f1 rfl ?_
  refine q_move rfl rfl ?_
  refine eseq_nil ?_
  refine hK56 _ _ ?_
  refine e_block ?_
  obtain ⟨tl57, ht57, h⟩ := Option.of_bind h
  have hX57_0 : ∀ (R94 : Nat → Prop) (w95 : World) (E_ : Env), law22_in_K1 fuel = some r → Sep F R R94 w w95 [] → Sub [] E_ → K55 E_ w95 := by
    intro R94 w95 E_ h hS  hsub
    refine hK55 _ _ (e_sub hsub ?_); clear hsub
    unfold law22_in_K1 at h
    refine e_seq fun K96 hK96 => ?_
    refine e_region_text rfl ?_
    refine q_assign rfl rfl ?_
    refine eseq_nil ?_
    refine hK96 _ _ ?_
    refine e_ret ?_
    obtain rfl := Option.some.inj h
    exact ⟨_, res1 rfl rfl, _, rfl, hS⟩
  refine e_loop (fun m_ E_ w77 => ∃ (x79 : Int), ∃ (R76 : Nat → Prop), iter (fun s => law22_in_B1 fuel a0 a1 s) m_ x79 = some tl57 ∧ Sep F R R76 w w77 [] ∧ IsSlice Ty.int w77 R76 v1 a0 ∧ E_ = [(0, v1), (1, .int .i64 a1), (7, .int .i64 (a0.length : Int)), (8, .int .i64 x79)]) _ ⟨_, ⟨0, _, ht57, hS, f1, rfl⟩, Sub.cons rfl (Sub.cons rfl (Sub.cons rfl (Sub.cons rfl (Sub.nil _))))⟩ ?_
  clear ht57 hS
  rintro m57 _ w77 ⟨x79, R76, ht57, hS, f78, rfl⟩
  obtain ⟨m57, rfl, o57, ho57, ht57⟩ := iter_some ht57
  replace ho57 : law22_in_B1 fuel a0 a1 x79 = some o57 := ho57
  unfold law22_in_B1 at ho57
  refine e_seq fun K97 hK97 => ?_
  refine e_region_text rfl ?_
  refine q_lss rfl rfl rfl ?_
  refine eseq_nil ?_
  refine hK97 _ _ ?_
  refine e_seq fun K98 hK98 => ?_
  refine e_cond rfl (fun hc99 => ?_) (fun hc99 => ?_)
  · replace ho57 := (if_pos hc99).symm.trans ho57
    refine e_skip ?_
    refine hK98 _ _ ?_
    refine e_seq fun K100 hK100 => ?_
    refine e_block ?_
    refine e_seq fun K101 hK101 => ?_
    refine e_region_text rfl ?_
    refine q_move rfl rfl ?_
    refine q_assign rfl rfl ?_
    refine eseq_nil ?_
    refine hK101 _ _ ?_
    refine e_seq fun K102 hK102 => ?_
    refine e_region_text rfl ?_
    refine q_move rfl rfl ?_
    refine q_move rfl rfl ?_
    obtain ⟨x103, hx103, ho57⟩ := Option.of_bind ho57
    refine q_atS (by infer_instance) rfl f78 rfl hx103 rfl fun b104 o104 hm104 f104 => ?_
    refine q_load rfl (Elt.intCell f104) rfl ?_
    refine q_move rfl rfl ?_
    refine q_eql rfl rfl rfl ?_
    refine eseq_nil ?_
    refine hK102 _ _ ?_
    refine e_cond rfl (fun hc105 => ?_) (fun hc105 => ?_)
    · replace ho57 := (if_pos hc105).symm.trans ho57
      refine e_seq fun K106 hK106 => ?_
      refine e_region_text rfl ?_
      refine q_assign rfl rfl ?_
      refine eseq_nil ?_
      refine hK106 _ _ ?_
      refine e_ret ?_
      obtain rfl := Option.some.inj ho57
      obtain rfl := Option.some.inj ht57
      obtain rfl := Option.some.inj h
      exact ⟨_, res1 rfl rfl, _, rfl, hS⟩
    · replace ho57 := (if_neg (not_true hc105)).symm.trans ho57
      refine e_skip ?_
      refine hK100 _ _ ?_
      refine e_region_text rfl ?_
      refine q_addW rfl rfl rfl ?_
      refine q_move rfl rfl ?_
      refine eseq_nil ?_
      obtain rfl := Option.some.inj ho57
      exact ⟨m57, _, Nat.lt_succ_self _, ⟨(w64 (x79 + 1)), _, ht57, hS, f78, rfl⟩, Sub.cons rfl (Sub.cons rfl (Sub.cons rfl (Sub.cons rfl (Sub.nil _))))⟩
  · replace ho57 := (if_neg (not_true hc99)).symm.trans ho57
    refine e_exit ?_
    obtain rfl := Option.some.inj ho57
    obtain rfl := Option.some.inj ht57
    exact hX57_0  _ _ _ h hS  (Sub.nil _)
end Go.Proofs.Ytdjkdbojmcdogaa
