/- Printed walks: A22c. -/
import Derived.Test.YtdjkdbojmcdogaaA22b
set_option linter.unusedVariables false
set_option linter.unusedSimpArgs false
namespace Go.Mine
open Go.RowKit
def law22_awake_J1 (fuel : Nat) (x178 : (List Int)) (x181 : (List Int)) : Option (Bool) :=
  (andM ((x178.length : Int) == 2) ((ati x178 1).bind fun x190 => some (x190 == 0))).bind fun x189 => (andM x189 (some ((x181.length : Int) == 2))).bind fun x195 => (andM x195 ((ati x181 0).bind fun x202 => some (x202 == 1))).bind fun x201 => (andM x201 ((ati x181 1).bind fun x210 => some (x210 == 0))).bind fun x209 => (andM x209 ((line_Sets fuel 2 1).bind fun r221 => some ((r221.length : Int) == 3))).bind fun x219 => some x219
def law22_awake (fuel : Nat) : Option (Bool) :=
  (line_Failure fuel (⟨[1, 1], [[0], [0]], [(⟨0, 1, 1, 1⟩ : Arc)]⟩ : Pat) ([0])).bind fun r145 => (line_Failure fuel (⟨[1, 1], [[0], [0]], [(⟨0, 1, 1, 1⟩ : Arc)]⟩ : Pat) ([1])).bind fun r150 => law22_awake_J1 fuel r145 r150
def law22_LineSets_J1 (fuel : Nat) (r105 : (Int)) (a1 : Int) (x116 : Int) : Option (Bool) :=
  (line_Sets fuel (w64 (r105 - 1)) a1).bind fun r119 => (ref22_Sets fuel (w64 (r105 - 1)) a1).bind fun r123 => (ref22_SameLists fuel r119 r123).bind fun r127 => (andM r127 ((make_Mod fuel a1 6).bind fun r147 => (line_Sets fuel (w64 (r105 - 1)) r147).bind fun r149 => (make_Mod fuel a1 6).bind fun r153 => (ref22_Sets fuel (w64 (r105 - 1)) r153).bind fun r155 => (ref22_SameLists fuel r149 r155).bind fun r159 => some r159)).bind fun x145 => (andM x145 ((line_Sets fuel x116 a1).bind fun r175 => (ref22_Sets fuel x116 a1).bind fun r179 => (ref22_SameLists fuel r175 r179).bind fun r183 => some r183)).bind fun x173 => some x173
def law22_LineSets (fuel : Nat) (a0 : Int) (a1 : Int) : Option (Bool) :=
  (law22_awake fuel).bind fun r100 => (if (!r100) = true then some false else (make_Mod fuel a0 9).bind fun r105 => (andM (decide (8 < a0)) (some (decide (a0 ≤ 16)))).bind fun x188 => (if x188 = true then law22_LineSets_J1 fuel r105 a1 8 else law22_LineSets_J1 fuel r105 a1 a0))
def law22_LineMore_K1 (fuel : Nat) (r734 : (Pat × Int)) (r765 : ((List (List Int)) × Int)) (x1225 : (List (List Int))) : Option (Bool) :=
  (line_Greatest fuel (⟨r734.1.lens, r734.1.ckpts, r734.1.arcs⟩ : Pat) r765.1).bind fun r1230 => (line_Greatest fuel (⟨r734.1.lens, r734.1.ckpts, r734.1.arcs⟩ : Pat) x1225).bind fun r1234 => (orM (!r1230.2) ((andM r1234.2 ((cut_Most fuel r1230.1 r1234.1).bind fun r1248 => some r1248)).bind fun x1246 => some x1246)).bind fun x1244 => some x1244
def law22_LineMore_K2 (fuel : Nat) (x1012 : Int) (x1405 : (List (List Int))) : Option (((List (List Int)) × Int) ⊕ ((List (List Int)))) :=
  some (Sum.inl (x1405, (w64 (x1012 + 1))))
def law22_LineMore_B2 (fuel : Nat) (r734 : (Pat × Int)) (x1012 : Int) (r765 : ((List (List Int)) × Int)) (r773 : ((List (List Int)) × Int)) (x1334 : (List (List Int))) (x1337 : Int) : Option (((List (List Int)) × Int) ⊕ ((List (List Int)))) :=
  (ati r734.1.lens x1012).bind fun x1410 => (if (decide (x1337 ≤ x1410)) = true then (ati r765.1 x1012).bind fun x1415 => (law22_in fuel x1415 x1337).bind fun r1417 => (orM r1417 ((ati r773.1 x1012).bind fun x1425 => (law22_in fuel x1425 x1337).bind fun r1427 => some r1427)).bind fun x1424 => (if x1424 = true then (ati x1334 x1012).bind fun x1429 => (snoc x1429 x1337).bind fun x1433 => (seti x1334 x1012 x1433).bind fun x1434 => (ati x1434 x1012).bind fun x1435 => some (Sum.inl (x1434, (w64 (x1337 + 1)))) else some (Sum.inl (x1334, (w64 (x1337 + 1))))) else some (Sum.inr x1334))
def law22_LineMore_B1 (fuel : Nat) (x777 : (List (List Int))) (r734 : (Pat × Int)) (r765 : ((List (List Int)) × Int)) (r773 : ((List (List Int)) × Int)) (x1009 : (List (List Int))) (x1012 : Int) : Option (((List (List Int)) × Int) ⊕ ((List (List Int)))) :=
  (if (decide (x1012 < (x777.length : Int))) = true then (iter (fun s => law22_LineMore_B2 fuel r734 x1012 r765 r773 s.1 s.2) fuel (x1009, 0)).bind (fun t => law22_LineMore_K2 fuel x1012 t) else some (Sum.inr x1009))
def law22_LineMore (fuel : Nat) (a0 : (List Int)) (a1 : (List Int)) (a2 : (List Int)) : Option (Bool) :=
  (law22_awake fuel).bind fun r725 => (if (!r725) = true then some false else (make_New fuel a0 240).bind fun r730 => (make_Codes_Pattern fuel 20 r730.1 r730.2).bind fun r734 => (make_New fuel a1 60).bind fun r760 => (make_Codes_Allowed fuel (⟨r734.1.lens, r734.1.ckpts, r734.1.arcs⟩ : Pat) r760.1 r760.2).bind fun r765 => (make_New fuel a2 60).bind fun r769 => (make_Codes_Allowed fuel (⟨r734.1.lens, r734.1.ckpts, r734.1.arcs⟩ : Pat) r769.1 r769.2).bind fun r773 => (mkL (r734.1.lens.length : Int) ([] : List Int)).bind fun x777 => (iter (fun s => law22_LineMore_B1 fuel x777 r734 r765 r773 s.1 s.2) fuel (x777, 0)).bind (fun t => law22_LineMore_K1 fuel r734 r765 t))
def law22_LineFails (fuel : Nat) (a0 : (List Int)) (a1 : (List Int)) (a2 : Int) : Option (Bool) :=
  (law22_awake fuel).bind fun r161 => (if (!r161) = true then some false else (make_New fuel a0 240).bind fun r166 => (make_Codes_Pattern fuel 20 r166.1 r166.2).bind fun r170 => (make_New fuel a1 20).bind fun r186 => (make_Codes_Procs fuel (r170.1.lens.length : Int) r186.1 r186.2).bind fun r190 => (make_Mod fuel a2 6).bind fun r194 => (line_Allowed fuel (⟨r170.1.lens, r170.1.ckpts, r170.1.arcs⟩ : Pat) r190.1).bind fun r241 => (ref22_Allowed fuel (⟨r170.1.lens, r170.1.ckpts, r170.1.arcs⟩ : Pat) r190.1).bind fun r245 => (ref22_SameLists fuel r241 r245).bind fun r249 => (andM r249 ((line_Failure fuel (⟨r170.1.lens, r170.1.ckpts, r170.1.arcs⟩ : Pat) r190.1).bind fun r263 => (ref22_Failure fuel (⟨r170.1.lens, r170.1.ckpts, r170.1.arcs⟩ : Pat) r190.1).bind fun r266 => (ref03_SameInts fuel r263 r266).bind fun r269 => some r269)).bind fun x261 => (andM x261 ((line_Safe fuel (⟨r170.1.lens, r170.1.ckpts, r170.1.arcs⟩ : Pat) (w64 (r194 - 1))).bind fun r283 => (ref22_Safe fuel (⟨r170.1.lens, r170.1.ckpts, r170.1.arcs⟩ : Pat) (w64 (r194 - 1))).bind fun r286 => (ref03_SameInts fuel r283 r286).bind fun r289 => some r289)).bind fun x281 => (andM x281 ((line_Safe fuel (⟨r170.1.lens, r170.1.ckpts, r170.1.arcs⟩ : Pat) a2).bind fun r303 => (ref22_Safe fuel (⟨r170.1.lens, r170.1.ckpts, r170.1.arcs⟩ : Pat) a2).bind fun r306 => (ref03_SameInts fuel r303 r306).bind fun r309 => some r309)).bind fun x301 => some x301)
def law22_LineMeets_K1 (fuel : Nat) (a2 : Int) (r294 : (Pat × Int)) (r314 : ((List Int) × Int)) (x456 : (List Int)) (x459 : (List Int)) : Option (Bool) :=
  (remI (w64 a2) 4).bind fun x462 => (line_Failure fuel (⟨r294.1.lens, r294.1.ckpts, r294.1.arcs⟩ : Pat) r314.1).bind fun r484 => (ref03_SameInts fuel r484 x456).bind fun r487 => (andM r487 ((line_Safe fuel (⟨r294.1.lens, r294.1.ckpts, r294.1.arcs⟩ : Pat) (w64 (1 + x462))).bind fun r498 => (ref03_SameInts fuel r498 x459).bind fun r501 => some r501)).bind fun x496 => (andM x496 ((line_Safe fuel (⟨r294.1.lens, r294.1.ckpts, r294.1.arcs⟩ : Pat) 0).bind fun r512 => (ref03_SameInts fuel r512 r294.1.lens).bind fun r515 => some r515)).bind fun x510 => some x510
def law22_LineMeets_J1 (fuel : Nat) (x392 : (List Int)) (r525 : ((List Int))) (x394 : Int) (x542 : (List Int)) : Option (((List Int) × (List Int) × Int) ⊕ ((List Int) × (List Int))) :=
  (cut_Meet fuel x392 r525).bind fun r547 => some (Sum.inl (x542, r547, (w64 (x394 + 1))))
def law22_LineMeets_B1 (fuel : Nat) (r294 : (Pat × Int)) (r314 : ((List Int) × Int)) (x389 : (List Int)) (x392 : (List Int)) (x394 : Int) : Option (((List Int) × (List Int) × Int) ⊕ ((List Int) × (List Int))) :=
  (if (decide (x394 < (r294.1.lens.length : Int))) = true then (line_Failure fuel (⟨r294.1.lens, r294.1.ckpts, r294.1.arcs⟩ : Pat) ([x394])).bind fun r525 => (law22_in fuel r314.1 x394).bind fun r552 => (if r552 = true then (cut_Meet fuel x389 r525).bind fun r555 => law22_LineMeets_J1 fuel x392 r525 x394 r555 else law22_LineMeets_J1 fuel x392 r525 x394 x389) else some (Sum.inr (x389, x392)))
def law22_LineMeets (fuel : Nat) (a0 : (List Int)) (a1 : (List Int)) (a2 : Int) : Option (Bool) :=
  (law22_awake fuel).bind fun r285 => (if (!r285) = true then some false else (make_New fuel a0 240).bind fun r290 => (make_Codes_Pattern fuel 20 r290.1 r290.2).bind fun r294 => (make_New fuel a1 20).bind fun r310 => (make_Codes_Procs fuel (r294.1.lens.length : Int) r310.1 r310.2).bind fun r314 => (iter (fun s => law22_LineMeets_B1 fuel r294 r314 s.1 s.2.1 s.2.2) fuel (r294.1.lens, r294.1.lens, 0)).bind (fun t => law22_LineMeets_K1 fuel a2 r294 r314 t.1 t.2))
def law22_LineFinds (fuel : Nat) (a0 : (List Int)) (a1 : (List Int)) : Option (Bool) :=
  (law22_awake fuel).bind fun r87 => (if (!r87) = true then some false else (make_New fuel a0 240).bind fun r92 => (make_Codes_Pattern fuel 20 r92.1 r92.2).bind fun r96 => (make_New fuel a1 60).bind fun r105 => (make_Codes_Allowed fuel (⟨r96.1.lens, r96.1.ckpts, r96.1.arcs⟩ : Pat) r105.1 r105.2).bind fun r119 => (make_Codes_Cut fuel (⟨r96.1.lens, r96.1.ckpts, r96.1.arcs⟩ : Pat) r105.1 r119.2).bind fun r123 => (line_Greatest fuel (⟨r96.1.lens, r96.1.ckpts, r96.1.arcs⟩ : Pat) r119.1).bind fun r127 => (ref22_Greatest fuel (⟨r96.1.lens, r96.1.ckpts, r96.1.arcs⟩ : Pat) r119.1).bind fun r131 => (line_Least fuel (⟨r96.1.lens, r96.1.ckpts, r96.1.arcs⟩ : Pat) r119.1 r123.1).bind fun r135 => (ref22_Least fuel (⟨r96.1.lens, r96.1.ckpts, r96.1.arcs⟩ : Pat) r119.1 r123.1).bind fun r139 => (andM (r127.2 == r131.2) (some (r135.2 == r139.2))).bind fun x145 => (andM x145 ((ref03_SameInts fuel r127.1 r131.1).bind fun r153 => some r153)).bind fun x151 => (andM x151 ((ref03_SameInts fuel r135.1 r139.1).bind fun r161 => some r161)).bind fun x159 => some x159)
def law22_LineBrute_K2 (fuel : Nat) (r1419 : ((List Int) × Bool)) (r1388 : (Pat × Int)) (r1423 : ((List Int) × Bool)) : Option (Bool) :=
  (orM (!r1419.2) ((cut_Consistent fuel (⟨r1388.1.lens, r1388.1.ckpts, r1388.1.arcs⟩ : Pat) r1419.1).bind fun r2345 => some r2345)).bind fun x2343 => (andM x2343 ((orM (!r1423.2) ((cut_Consistent fuel (⟨r1388.1.lens, r1388.1.ckpts, r1388.1.arcs⟩ : Pat) r1423.1).bind fun r2357 => some r2357)).bind fun x2355 => some x2355)).bind fun x2353 => some x2353
def law22_LineBrute_B1 (fuel : Nat) (r1388 : (Pat × Int)) (r1419 : ((List Int) × Bool)) (r1411 : ((List (List Int)) × Int)) (r1423 : ((List Int) × Bool)) (r1415 : ((List Int) × Int)) (x2266 : Int) : Option ((Int) ⊕ (Unit ⊕ (Bool))) :=
  (if (decide (x2266 < (r1388.1.lens.length : Int))) = true then (andM r1419.2 ((ati r1411.1 x2266).bind fun x2373 => (ati r1419.1 x2266).bind fun x2374 => (law22_in fuel x2373 x2374).bind fun r2377 => some (!r2377))).bind fun x2372 => (orM x2372 ((andM r1423.2 ((ati r1411.1 x2266).bind fun x2397 => (ati r1423.1 x2266).bind fun x2398 => (law22_in fuel x2397 x2398).bind fun r2401 => (orM (!r2401) ((ati r1423.1 x2266).bind fun x2404 => (ati r1415.1 x2266).bind fun x2406 => some (decide (x2404 < x2406)))).bind fun x2403 => some x2403)).bind fun x2396 => some x2396)).bind fun x2394 => (if x2394 = true then some (Sum.inr (Sum.inr false)) else some (Sum.inl (w64 (x2266 + 1)))) else some (Sum.inr (Sum.inl ())))
def law22_LineBrute_K1 (fuel : Nat) (r1419 : ((List Int) × Bool)) (r1423 : ((List Int) × Bool)) (r1388 : (Pat × Int)) (r1411 : ((List (List Int)) × Int)) (r1415 : ((List Int) × Int)) (x2170 : Bool) (x2171 : Bool) : Option (Bool) :=
  (orM (r1419.2 != x2170) (some (r1423.2 != x2171))).bind fun x2177 => (if x2177 = true then some false else (iter (fun s => law22_LineBrute_B1 fuel r1388 r1419 r1411 r1423 r1415 s) fuel 0).bind (fun t => Sum.elim (fun t => law22_LineBrute_K2 fuel r1419 r1388 r1423) (fun t => some t) t))
def law22_LineBrute_K4 (fuel : Nat) (x2558 : Bool) (x2559 : Bool) (x2667 : (List Int)) (x2668 : Int) : Option ((Bool × Bool × (List Int)) ⊕ ((Bool × Bool) ⊕ (Bool))) :=
  (if (x2668 == (x2667.length : Int)) = true then some (Sum.inr (Sum.inl (x2558, x2559))) else (ati x2667 x2668).bind fun x2672 => (ati x2667 x2668).bind fun x2674 => (seti x2667 x2668 (w64 (x2672 + 1))).bind fun x2676 => some (Sum.inl (x2558, x2559, x2676)))
def law22_LineBrute_B3 (fuel : Nat) (r1388 : (Pat × Int)) (x2620 : (List Int)) (x2621 : Int) : Option (((List Int) × Int) ⊕ ((List Int) × Int)) :=
  (andM (decide (x2621 < (x2620.length : Int))) ((ati x2620 x2621).bind fun x2687 => (ati r1388.1.lens x2621).bind fun x2689 => some (x2687 == x2689))).bind fun x2686 => (if x2686 = true then (ati x2620 x2621).bind fun x2693 => (seti x2620 x2621 0).bind fun x2695 => some (Sum.inl (x2695, (w64 (x2621 + 1)))) else some (Sum.inr (x2620, x2621)))
def law22_LineBrute_J1 (fuel : Nat) (r1388 : (Pat × Int)) (x1808 : (List Int)) (x2558 : Bool) (x2559 : Bool) : Option ((Bool × Bool × (List Int)) ⊕ ((Bool × Bool) ⊕ (Bool))) :=
  (iter (fun s => law22_LineBrute_B3 fuel r1388 s.1 s.2) fuel (x1808, 0)).bind (fun t => law22_LineBrute_K4 fuel x2558 x2559 t.1 t.2)
def law22_LineBrute_K3 (fuel : Nat) (r1419 : ((List Int) × Bool)) (x1808 : (List Int)) (r1415 : ((List Int) × Int)) (r1423 : ((List Int) × Bool)) (r1388 : (Pat × Int)) (x1805 : Bool) (x1804 : Bool) (x2515 : Bool) : Option ((Bool × Bool × (List Int)) ⊕ ((Bool × Bool) ⊕ (Bool))) :=
  (if x2515 = true then (orM (!r1419.2) ((ref18_Most fuel x1808 r1419.1).bind fun r2708 => some (!r2708))).bind fun x2706 => (if x2706 = true then some (Sum.inr (Sum.inr false)) else (ref18_Most fuel r1415.1 x1808).bind fun r2713 => (if r2713 = true then (orM (!r1423.2) ((ref18_Most fuel r1423.1 x1808).bind fun r2724 => some (!r2724))).bind fun x2722 => (if x2722 = true then some (Sum.inr (Sum.inr false)) else law22_LineBrute_J1 fuel r1388 x1808 true true) else law22_LineBrute_J1 fuel r1388 x1808 true x1805)) else law22_LineBrute_J1 fuel r1388 x1808 x1804 x1805)
def law22_LineBrute_B4 (fuel : Nat) (x1808 : (List Int)) (r1411 : ((List (List Int)) × Int)) (x2470 : Bool) (x2471 : Int) : Option ((Bool × Int) ⊕ (Bool)) :=
  (if (decide (x2471 < (x1808.length : Int))) = true then (andM x2470 ((ati r1411.1 x2471).bind fun x2741 => (ati x1808 x2471).bind fun x2742 => (law22_in fuel x2741 x2742).bind fun r2745 => some r2745)).bind fun x2740 => some (Sum.inl (x2740, (w64 (x2471 + 1)))) else some (Sum.inr x2470))
def law22_LineBrute_B2 (fuel : Nat) (r1388 : (Pat × Int)) (r1411 : ((List (List Int)) × Int)) (r1419 : ((List Int) × Bool)) (r1415 : ((List Int) × Int)) (r1423 : ((List Int) × Bool)) (x1804 : Bool) (x1805 : Bool) (x1808 : (List Int)) : Option ((Bool × Bool × (List Int)) ⊕ ((Bool × Bool) ⊕ (Bool))) :=
  (ref18_Consistent fuel (⟨r1388.1.lens, r1388.1.ckpts, r1388.1.arcs⟩ : Pat) x1808).bind fun r2412 => (iter (fun s => law22_LineBrute_B4 fuel x1808 r1411 s.1 s.2) fuel (r2412, 0)).bind (fun t => law22_LineBrute_K3 fuel r1419 x1808 r1415 r1423 r1388 x1805 x1804 t)
def law22_LineBrute (fuel : Nat) (a0 : (List Int)) (a1 : (List Int)) : Option (Bool) :=
  (law22_awake fuel).bind fun r1379 => (if (!r1379) = true then some false else (make_New fuel a0 200).bind fun r1384 => (make_Codes_Pattern fuel 9 r1384.1 r1384.2).bind fun r1388 => (make_New fuel a1 60).bind fun r1397 => (make_Codes_Allowed fuel (⟨r1388.1.lens, r1388.1.ckpts, r1388.1.arcs⟩ : Pat) r1397.1 r1397.2).bind fun r1411 => (make_Codes_Cut fuel (⟨r1388.1.lens, r1388.1.ckpts, r1388.1.arcs⟩ : Pat) r1397.1 r1411.2).bind fun r1415 => (line_Greatest fuel (⟨r1388.1.lens, r1388.1.ckpts, r1388.1.arcs⟩ : Pat) r1411.1).bind fun r1419 => (line_Least fuel (⟨r1388.1.lens, r1388.1.ckpts, r1388.1.arcs⟩ : Pat) r1411.1 r1415.1).bind fun r1423 => (mkL (r1388.1.lens.length : Int) (0 : Int)).bind fun x1427 => (iter (fun s => law22_LineBrute_B2 fuel r1388 r1411 r1419 r1415 r1423 s.1 s.2.1 s.2.2) fuel (false, false, x1427)).bind (fun t => Sum.elim (fun t => law22_LineBrute_K1 fuel r1419 r1423 r1388 r1411 r1415 t.1 t.2) (fun t => some t) t))
end Go.Mine
namespace Go.Proofs.Ytdjkdbojmcdogaa
open Go.RowKit Go.Mine
attribute [local irreducible] eseq ewp iter
theorem law22_awake_w {F R : Nat → Prop} {w : World} {fuel : Nat} {r : (Bool)} (hS : Sep F R R w w []) (h : law22_awake fuel = some r) :
    Gives Try.prog 11 [] w fun u w1 => ∃ (R1 : Nat → Prop), u = .bool r ∧ Sep F R R1 w w1 [] := by
  refine fn_of Try.func11 rfl Try.ntmps11 (Nat.le_of_ble_eq_true rfl) ?_
  unfold law22_awake at h
  refine e_seq fun K124 hK124 => ?_
  refine e_region_text rfl ?_
  refine q_assign rfl rfl ?_
  refine eseq_nil ?_
  refine hK124 _ _ ?_
  refine e_seq fun K125 hK125 => ?_
  refine e_region_text rfl ?_
  refine q_litO (T := Ty.int) (S := (fun _ => False)) (cells := [[.int .i64 1], [.int .i64 1]]) (ys := [1, 1]) ((Parts.cons rfl rfl (Parts.cons rfl rfl Parts.nil))) rfl rfl rfl rfl rfl rfl rfl (fun w1 hB => ⟨rfl, rfl, trivial⟩) (fun _ h => h.elim) rfl fun w126 v126 ho126 hv126 hB126 => ?_
  replace hS := hS.newOwnS hB126 ho126 hv126 (fun _ h => h.elim)
  refine q_litO (T := Ty.int) (S := (fun _ => False)) (cells := [[.int .i64 0]]) (ys := [0]) ((Parts.cons rfl rfl Parts.nil)) rfl rfl rfl rfl rfl rfl rfl (fun w1 hB => ⟨rfl, trivial⟩) (fun _ h => h.elim) rfl fun w128 v128 ho128 hv128 hB128 => ?_
  replace hS := hS.newOwnS hB128 ho128 hv128 (fun _ h => h.elim)
  refine q_litO (T := Ty.int) (S := (fun _ => False)) (cells := [[.int .i64 0]]) (ys := [0]) ((Parts.cons rfl rfl Parts.nil)) rfl rfl rfl rfl rfl rfl rfl (fun w1 hB => ⟨rfl, trivial⟩) (fun _ h => h.elim) rfl fun w130 v130 ho130 hv130 hB130 => ?_
  replace hS := hS.newOwnS hB130 ho130 hv130 (fun _ h => h.elim)
  refine q_litO (T := Ty.raw) (S := (fun _ => False)) (cells := [[v128], [v130]]) (ys := [v128, v130]) ((Parts.cons rfl (cells_one (hS.own 1 rfl).one) (Parts.cons rfl (cells_one (hS.own 0 rfl).one) Parts.nil))) rfl rfl rfl rfl rfl rfl rfl (fun w1 hB => ⟨⟨rfl, (hS.own 1 rfl).one⟩, ⟨rfl, (hS.own 0 rfl).one⟩, trivial⟩) (fun _ h => h.elim) rfl fun w132 v132 ho132 hv132 hB132 => ?_
  replace hS := hS.newOwnS hB132 ho132 hv132 (fun _ h => h.elim)
  replace hS := hS.pickB [2, 0, 1, 3] 4 rfl rfl; simp only [List.map_cons, List.map_nil, List.getD_cons_zero, List.getD_cons_succ] at hS
  replace hS := hS.famOne
  replace hS := hS.pickB [2, 0, 1, 3] 4 rfl rfl; simp only [List.map_cons, List.map_nil, List.getD_cons_zero, List.getD_cons_succ] at hS
  replace hS := hS.famOne
  replace hS := hS.pickB [1, 0, 2, 3] 4 rfl rfl; simp only [List.map_cons, List.map_nil, List.getD_cons_zero, List.getD_cons_succ] at hS
  replace hS := hS.famCat; simp only [List.cons_append, List.nil_append] at hS
  refine q_build (Parts.cons rfl rfl (Parts.cons rfl rfl (Parts.cons rfl rfl (Parts.cons rfl rfl Parts.nil)))) rfl rfl ?_
  refine q_litO (T := arcTy) (S := (fun _ => False)) (cells := [[.int .i64 0, .int .i64 1, .int .i64 1, .int .i64 1]]) (ys := [(⟨0, 1, 1, 1⟩ : Arc)]) ((Parts.cons rfl rfl Parts.nil)) rfl rfl rfl rfl rfl rfl rfl (fun w1 hB => ⟨⟨[_], _, rfl, rfl, ⟨[_], _, rfl, rfl, ⟨[_], _, rfl, rfl, rfl⟩⟩⟩, trivial⟩) (fun _ h => h.elim) rfl fun w136 v136 ho136 hv136 hB136 => ?_
  replace hS := hS.newOwnS hB136 ho136 hv136 (fun _ h => h.elim)
  refine q_build (Parts.cons rfl (cells_one (hS.own 3 rfl).one) (Parts.cons rfl (cells_one (hS.own 2 rfl).one) (Parts.cons rfl (cells_one (hS.own 0 rfl).one) Parts.nil))) rfl rfl ?_
  refine q_allocB rfl fun w138 bl138 hg138 hb138 hB138 => ?_
  replace hS := hS.newBlk hB138 hg138 hb138
  refine q_storeAgg rfl rfl (hS.blk 0 rfl) rfl (Nat.le_of_ble_eq_true rfl) (all_cons (hS.own 4 rfl).one (all_cons (hS.own 3 rfl).one (all_cons (hS.own 1 rfl).one (all_nil)))) rfl rfl fun w140 hb140 hO140 => ?_
  simp only [setN, List.set, List.take, List.drop] at hb140
  have hk140 := hS.keptBlk 0 rfl hO140
  replace hS := hS.setBlk 0 rfl hb140 hO140; simp only [List.set] at hS
  refine eseq_nil ?_
  refine hK125 _ _ ?_
  refine e_seq fun K141 hK141 => ?_
  have hJt182 : ∀ (x178 : (List Int)) (x181 : (List Int)) (v177 : Value) (v180 : Value) (R174 : Nat → Prop) (w175 : World) (E_ : Env), law22_awake_J1 fuel x178 x181 = some r → Sep F R R174 w w175 [HP.own Ty.int (fun _ => False) 3 v177 x178, HP.own Ty.int (fun _ => False) 3 v180 x181] → Sub [(2, v177), (3, v180)] E_ → K141 E_ w175 := by
    intro x178 x181 v177 v180 R174 w175 E_ h hS  hsub
    refine hK141 _ _ (e_sub hsub ?_); clear hsub
    unfold law22_awake_J1 at h
    refine e_seq fun K183 hK183 => ?_
    refine e_region_text rfl ?_
    refine q_move rfl rfl ?_
    refine q_lenS rfl (hS.isl 0 rfl) rfl ?_
    refine q_eql rfl rfl rfl ?_
    refine q_move rfl rfl ?_
    obtain ⟨x189, hx188, h⟩ := Option.of_bind h
    refine g_andM 4 hx188 rfl trivial rfl rfl ?_ ?_ ?_
    · intro hg188 hx188
      clear h
      have hT188 := Below.refl (World.heap w175).size w175
      refine g_run rfl ?_; refine q_move rfl rfl ?_
      obtain ⟨x190, hx190, hx188⟩ := Option.of_bind hx188
      refine g_run rfl ?_; refine q_indexO (by infer_instance) rfl (hS.own 0 rfl) rfl hx190 rfl ?_
      have f191 := (hS.ownR 0 rfl).elt hx190
      refine g_run rfl ?_; refine q_load rfl (Elt.intCell f191) rfl ?_
      refine g_run rfl ?_; refine q_eql rfl rfl rfl ?_
      cases hx188
      exact eseq_nil ⟨hT188, Sub.set rfl (Sub.set rfl (Sub.set rfl (Sub.set rfl (Sub.bool true rfl hg188)))), rfl⟩
    · intro hg188
      refine g_skip rfl rfl rfl ?_
      refine g_skip rfl rfl rfl ?_
      refine g_skip rfl rfl rfl ?_
      refine g_skip rfl rfl rfl ?_
      exact eseq_nil ⟨rfl, Sub.set rfl (Sub.set rfl (Sub.set rfl (Sub.set rfl (Sub.bool false rfl hg188))))⟩
    intro wm188 hBm188; clear hx188
    replace hS := hS.below hBm188
    refine q_move rfl rfl ?_
    obtain ⟨x195, hx194, h⟩ := Option.of_bind h
    refine g_andM 3 hx194 rfl trivial rfl rfl ?_ ?_ ?_
    · intro hg194 hx194
      clear h
      have hT194 := Below.refl (World.heap wm188).size wm188
      refine g_run rfl ?_; refine q_move rfl rfl ?_
      refine g_run rfl ?_; refine q_lenS rfl (hS.isl 1 rfl) rfl ?_
      refine g_run rfl ?_; refine q_eql rfl rfl rfl ?_
      cases hx194
      exact eseq_nil ⟨hT194, Sub.set rfl (Sub.set rfl (Sub.set rfl (Sub.bool true rfl hg194))), rfl⟩
    · intro hg194
      refine g_skip rfl rfl rfl ?_
      refine g_skip rfl rfl rfl ?_
      refine g_skip rfl rfl rfl ?_
      exact eseq_nil ⟨rfl, Sub.set rfl (Sub.set rfl (Sub.set rfl (Sub.bool false rfl hg194)))⟩
    intro wm194 hBm194; clear hx194
    replace hS := hS.below hBm194
    refine q_move rfl rfl ?_
    obtain ⟨x201, hx200, h⟩ := Option.of_bind h
    refine g_andM 4 hx200 rfl trivial rfl rfl ?_ ?_ ?_
    · intro hg200 hx200
      clear h
      have hT200 := Below.refl (World.heap wm194).size wm194
      refine g_run rfl ?_; refine q_move rfl rfl ?_
      obtain ⟨x202, hx202, hx200⟩ := Option.of_bind hx200
      refine g_run rfl ?_; refine q_indexO (by infer_instance) rfl (hS.own 1 rfl) rfl hx202 rfl ?_
      have f203 := (hS.ownR 1 rfl).elt hx202
      refine g_run rfl ?_; refine q_load rfl (Elt.intCell f203) rfl ?_
      refine g_run rfl ?_; refine q_eql rfl rfl rfl ?_
      cases hx200
      exact eseq_nil ⟨hT200, Sub.set rfl (Sub.set rfl (Sub.set rfl (Sub.set rfl (Sub.bool true rfl hg200)))), rfl⟩
    · intro hg200
      refine g_skip rfl rfl rfl ?_
      refine g_skip rfl rfl rfl ?_
      refine g_skip rfl rfl rfl ?_
      refine g_skip rfl rfl rfl ?_
      exact eseq_nil ⟨rfl, Sub.set rfl (Sub.set rfl (Sub.set rfl (Sub.set rfl (Sub.bool false rfl hg200))))⟩
    intro wm200 hBm200; clear hx200
    replace hS := hS.below hBm200
    refine q_move rfl rfl ?_
    obtain ⟨x209, hx208, h⟩ := Option.of_bind h
    refine g_andM 4 hx208 rfl trivial rfl rfl ?_ ?_ ?_
    · intro hg208 hx208
      clear h
      have hT208 := Below.refl (World.heap wm200).size wm200
      refine g_run rfl ?_; refine q_move rfl rfl ?_
      obtain ⟨x210, hx210, hx208⟩ := Option.of_bind hx208
      refine g_run rfl ?_; refine q_indexO (by infer_instance) rfl (hS.own 1 rfl) rfl hx210 rfl ?_
      have f211 := (hS.ownR 1 rfl).elt hx210
      refine g_run rfl ?_; refine q_load rfl (Elt.intCell f211) rfl ?_
      refine g_run rfl ?_; refine q_eql rfl rfl rfl ?_
      cases hx208
      exact eseq_nil ⟨hT208, Sub.set rfl (Sub.set rfl (Sub.set rfl (Sub.set rfl (Sub.bool true rfl hg208)))), rfl⟩
    · intro hg208
      refine g_skip rfl rfl rfl ?_
      refine g_skip rfl rfl rfl ?_
      refine g_skip rfl rfl rfl ?_
      refine g_skip rfl rfl rfl ?_
      exact eseq_nil ⟨rfl, Sub.set rfl (Sub.set rfl (Sub.set rfl (Sub.set rfl (Sub.bool false rfl hg208))))⟩
    intro wm208 hBm208; clear hx208
    replace hS := hS.below hBm208
    refine q_move rfl rfl ?_
    obtain ⟨x219, hx218, h⟩ := Option.of_bind h
    refine g_andM 3 hx218 rfl trivial rfl rfl ?_ ?_ ?_
    · intro hg218 hx218
      clear h
      have hT218 := Below.refl (World.heap wm208).size wm208
      obtain ⟨r221, hr221, hx218⟩ := Option.of_bind hx218
      refine g_run rfl ?_; refine q_call rfl (line_Sets_w (Sep.enter (As := []) hS)  hr221) rfl ?_
      rintro v222 w220 ⟨_, v223, R220, rfl, hC220⟩
      have hB220 : Below (World.heap wm208).size wm208 w220 := hC220.stepB0
      refine ⟨fun _ => .of_below hB220, ?_⟩
      replace hT218 := hT218.trans (Below.mono hB220 hT218.size)
      replace hS := Sep.leave (As := []) hS hC220; simp only [List.cons_append, List.nil_append] at hS
      refine g_run rfl ?_; refine q_lenR rfl (hS.own 0 rfl) (hS.famLen 1 rfl) rfl ?_
      refine g_run rfl ?_; refine q_eql rfl rfl rfl ?_
      cases hx218
      exact eseq_nil ⟨hT218, Sub.set rfl (Sub.set rfl (Sub.set rfl (Sub.bool true rfl hg218))), rfl⟩
    · intro hg218
      refine g_skip rfl rfl rfl ?_
      refine g_skip rfl rfl rfl ?_
      refine g_skip rfl rfl rfl ?_
      exact eseq_nil ⟨rfl, Sub.set rfl (Sub.set rfl (Sub.set rfl (Sub.bool false rfl hg218)))⟩
    intro wm218 hBm218; clear hx218
    replace hS := hS.below hBm218
    refine q_assign rfl rfl ?_
    refine eseq_nil ?_
    refine hK183 _ _ ?_
    refine e_ret ?_
    obtain rfl := Option.some.inj h
    exact ⟨_, res1 rfl rfl, _, rfl, (hS.pickB [] 2 rfl rfl)⟩
  obtain ⟨r145, hr145, h⟩ := Option.of_bind h
  obtain ⟨r150, hr150, h⟩ := Option.of_bind h
  refine e_region_T mixed (fun _ => False) [0, 0, 3, 0, 0, 31, 63, 127] [1, 2, 4] (QT.op 0 (QT.op 3 (QT.alt (QT.op 1 (QT.alt (QT.op 2 (QT.op 4 (QT.op 5 (QT.op 6 (QT.op 7 QT.fin))))) (QT.op 4 (QT.op 2 (QT.op 5 (QT.op 6 (QT.op 7 QT.fin))))))) (QT.op 4 (QT.op 1 (QT.op 2 (QT.op 5 (QT.op 6 (QT.op 7 QT.fin))))))))) (by kernel_rfl) ?_
  refine t_op ?_
  refine q_loadAgg rfl (Blk.cellsAt (hS.blk 0 rfl) 0 3 rfl) rfl rfl ?_
  refine eseq_nil ?_
  refine t_op ?_
  refine q_loadAgg rfl (Blk.cellsAt (hS.blk 0 rfl) 0 3 rfl) rfl rfl ?_
  refine eseq_nil ?_
  refine t_alt ?_ ?_
  · skip
    refine t_op ?_
    refine q_litO (T := Ty.int) (S := (fun _ => False)) (cells := [[.int .i64 0]]) (ys := [0]) ((Parts.cons rfl rfl Parts.nil)) rfl rfl rfl rfl rfl rfl rfl (fun w1 hB => ⟨rfl, trivial⟩) (fun _ h => h.elim) rfl fun w224 v224 ho224 hv224 hB224 => ?_
    replace hS := hS.newOwnS hB224 ho224 hv224 (fun _ h => h.elim)
    refine eseq_nil ?_
    refine t_alt ?_ ?_
    · skip
      refine t_op ?_
      refine q_call rfl (line_Failure_w (a0 := (⟨[1, 1], [[0], [0]], [(⟨0, 1, 1, 1⟩ : Arc)]⟩ : Pat)) (Sep.all w224) ((hS.isl 5 rfl)).old ((hS.rowsI 4 3 rfl rfl (by decide))).old ((hS.isl 2 rfl)).old ((hS.isl 0 rfl)).old hr145) rfl ?_
      rintro v227 w226 ⟨_, R226, rfl, hC226⟩
      have hB226 : Below (World.heap w224).size w224 w226 := hC226.stepBF
      refine ⟨fun _ => .of_below hB226, ?_⟩
      replace hS := hS.newOwnS hB226 (hC226.own 0 rfl) (hC226.fresh 0 rfl) (fun _ h => h.elim)
      refine eseq_nil ?_
      refine t_op ?_
      refine q_litO (T := Ty.int) (S := (fun _ => False)) (cells := [[.int .i64 1]]) (ys := [1]) ((Parts.cons rfl rfl Parts.nil)) rfl rfl rfl rfl rfl rfl rfl (fun w1 hB => ⟨rfl, trivial⟩) (fun _ h => h.elim) rfl fun w228 v228 ho228 hv228 hB228 => ?_
      replace hS := hS.newOwnS hB228 ho228 hv228 (fun _ h => h.elim)
      refine eseq_nil ?_
      refine t_op ?_
      refine q_call rfl (line_Failure_w (a0 := (⟨[1, 1], [[0], [0]], [(⟨0, 1, 1, 1⟩ : Arc)]⟩ : Pat)) (Sep.all w228) ((hS.isl 7 rfl)).old ((hS.rowsI 6 5 rfl rfl (by decide))).old ((hS.isl 4 rfl)).old ((hS.isl 0 rfl)).old hr150) rfl ?_
      rintro v231 w230 ⟨_, R230, rfl, hC230⟩
      have hB230 : Below (World.heap w228).size w228 w230 := hC230.stepBF
      refine ⟨fun _ => .of_below hB230, ?_⟩
      replace hS := hS.newOwnS hB230 (hC230.own 0 rfl) (hC230.fresh 0 rfl) (fun _ h => h.elim)
      refine eseq_nil ?_
      refine t_op ?_
      refine q_assign rfl rfl ?_
      refine eseq_nil ?_
      refine t_op ?_
      refine q_assign rfl rfl ?_
      refine eseq_nil ?_
      refine t_fin ?_
      exact hJt182 r145 r150 v227 v231 _ _ _ h (hS.pickB [2, 0] 9 rfl rfl)  (Sub.cons rfl (Sub.cons rfl (Sub.nil _)))
    · skip
      refine t_op ?_
      refine q_litO (T := Ty.int) (S := (fun _ => False)) (cells := [[.int .i64 1]]) (ys := [1]) ((Parts.cons rfl rfl Parts.nil)) rfl rfl rfl rfl rfl rfl rfl (fun w1 hB => ⟨rfl, trivial⟩) (fun _ h => h.elim) rfl fun w232 v232 ho232 hv232 hB232 => ?_
      replace hS := hS.newOwnS hB232 ho232 hv232 (fun _ h => h.elim)
      refine eseq_nil ?_
      refine t_op ?_
      refine q_call rfl (line_Failure_w (a0 := (⟨[1, 1], [[0], [0]], [(⟨0, 1, 1, 1⟩ : Arc)]⟩ : Pat)) (Sep.all w232) ((hS.isl 6 rfl)).old ((hS.rowsI 5 4 rfl rfl (by decide))).old ((hS.isl 3 rfl)).old ((hS.isl 1 rfl)).old hr145) rfl ?_
      rintro v235 w234 ⟨_, R234, rfl, hC234⟩
      have hB234 : Below (World.heap w232).size w232 w234 := hC234.stepBF
      refine ⟨fun _ => .of_below hB234, ?_⟩
      replace hS := hS.newOwnS hB234 (hC234.own 0 rfl) (hC234.fresh 0 rfl) (fun _ h => h.elim)
      refine eseq_nil ?_
      refine t_op ?_
      refine q_call rfl (line_Failure_w (a0 := (⟨[1, 1], [[0], [0]], [(⟨0, 1, 1, 1⟩ : Arc)]⟩ : Pat)) (Sep.all w234) ((hS.isl 7 rfl)).old ((hS.rowsI 6 5 rfl rfl (by decide))).old ((hS.isl 4 rfl)).old ((hS.isl 1 rfl)).old hr150) rfl ?_
      rintro v237 w236 ⟨_, R236, rfl, hC236⟩
      have hB236 : Below (World.heap w234).size w234 w236 := hC236.stepBF
      refine ⟨fun _ => .of_below hB236, ?_⟩
      replace hS := hS.newOwnS hB236 (hC236.own 0 rfl) (hC236.fresh 0 rfl) (fun _ h => h.elim)
      refine eseq_nil ?_
      refine t_op ?_
      refine q_assign rfl rfl ?_
      refine eseq_nil ?_
      refine t_op ?_
      refine q_assign rfl rfl ?_
      refine eseq_nil ?_
      refine t_fin ?_
      exact hJt182 r145 r150 v235 v237 _ _ _ h (hS.pickB [1, 0] 9 rfl rfl)  (Sub.cons rfl (Sub.cons rfl (Sub.nil _)))
  · skip
    refine t_op ?_
    refine q_litO (T := Ty.int) (S := (fun _ => False)) (cells := [[.int .i64 1]]) (ys := [1]) ((Parts.cons rfl rfl Parts.nil)) rfl rfl rfl rfl rfl rfl rfl (fun w1 hB => ⟨rfl, trivial⟩) (fun _ h => h.elim) rfl fun w238 v238 ho238 hv238 hB238 => ?_
    replace hS := hS.newOwnS hB238 ho238 hv238 (fun _ h => h.elim)
    refine eseq_nil ?_
    refine t_op ?_
    refine q_litO (T := Ty.int) (S := (fun _ => False)) (cells := [[.int .i64 0]]) (ys := [0]) ((Parts.cons rfl rfl Parts.nil)) rfl rfl rfl rfl rfl rfl rfl (fun w1 hB => ⟨rfl, trivial⟩) (fun _ h => h.elim) rfl fun w240 v240 ho240 hv240 hB240 => ?_
    replace hS := hS.newOwnS hB240 ho240 hv240 (fun _ h => h.elim)
    refine eseq_nil ?_
    refine t_op ?_
    refine q_call rfl (line_Failure_w (a0 := (⟨[1, 1], [[0], [0]], [(⟨0, 1, 1, 1⟩ : Arc)]⟩ : Pat)) (Sep.all w240) ((hS.isl 6 rfl)).old ((hS.rowsI 5 4 rfl rfl (by decide))).old ((hS.isl 3 rfl)).old ((hS.isl 0 rfl)).old hr145) rfl ?_
    rintro v243 w242 ⟨_, R242, rfl, hC242⟩
    have hB242 : Below (World.heap w240).size w240 w242 := hC242.stepBF
    refine ⟨fun _ => .of_below hB242, ?_⟩
    replace hS := hS.newOwnS hB242 (hC242.own 0 rfl) (hC242.fresh 0 rfl) (fun _ h => h.elim)
    refine eseq_nil ?_
    refine t_op ?_
    refine q_call rfl (line_Failure_w (a0 := (⟨[1, 1], [[0], [0]], [(⟨0, 1, 1, 1⟩ : Arc)]⟩ : Pat)) (Sep.all w242) ((hS.isl 7 rfl)).old ((hS.rowsI 6 5 rfl rfl (by decide))).old ((hS.isl 4 rfl)).old ((hS.isl 2 rfl)).old hr150) rfl ?_
    rintro v245 w244 ⟨_, R244, rfl, hC244⟩
    have hB244 : Below (World.heap w242).size w242 w244 := hC244.stepBF
    refine ⟨fun _ => .of_below hB244, ?_⟩
    replace hS := hS.newOwnS hB244 (hC244.own 0 rfl) (hC244.fresh 0 rfl) (fun _ h => h.elim)
    refine eseq_nil ?_
    refine t_op ?_
    refine q_assign rfl rfl ?_
    refine eseq_nil ?_
    refine t_op ?_
    refine q_assign rfl rfl ?_
    refine eseq_nil ?_
    refine t_fin ?_
    exact hJt182 r145 r150 v243 v245 _ _ _ h (hS.pickB [1, 0] 9 rfl rfl)  (Sub.cons rfl (Sub.cons rfl (Sub.nil _)))
theorem law22_LineSets_w {F R : Nat → Prop} {w : World} {fuel : Nat} {a0 : Int} {a1 : Int} {r : (Bool)} (hS : Sep F R R w w []) (h : law22_LineSets fuel a0 a1 = some r) :
    Gives Try.prog 3 [.int .i64 a0, .int .i64 a1] w fun u w1 => ∃ (R1 : Nat → Prop), u = .bool r ∧ Sep F R R1 w w1 [] := by
  refine fn_of Try.func3 rfl Try.ntmps3 (Nat.le_of_ble_eq_true rfl) ?_
  unfold law22_LineSets at h
  refine e_seq fun K96 hK96 => ?_
  refine e_region_text rfl ?_
  refine q_assign rfl rfl ?_
  refine eseq_nil ?_
  refine hK96 _ _ ?_
  refine e_seq fun K97 hK97 => ?_
  refine e_seq fun K98 hK98 => ?_
  refine e_region_text rfl ?_
  obtain ⟨r100, hr100, h⟩ := Option.of_bind h
  refine q_call rfl (law22_awake_w (Sep.enter (As := []) hS)  hr100) rfl ?_
  rintro _ w99 ⟨R99, rfl, hC99⟩
  have hB99 : Below (World.heap w).size w w99 := hC99.stepB0
  refine ⟨fun _ => .of_below hB99, ?_⟩
  replace hS := Sep.leave (As := []) hS hC99; simp only [List.cons_append, List.nil_append] at hS
  refine q_not rfl rfl ?_
  refine eseq_nil ?_
  refine hK98 _ _ ?_
  refine e_cond rfl (fun hc101 => ?_) (fun hc101 => ?_)
  · replace h := (if_pos hc101).symm.trans h
    refine e_seq fun K102 hK102 => ?_
    refine e_region_text rfl ?_
    refine q_assign rfl rfl ?_
    refine eseq_nil ?_
    refine hK102 _ _ ?_
    refine e_ret ?_
    obtain rfl := Option.some.inj h
    exact ⟨_, res1 rfl rfl, _, rfl, hS⟩
  · replace h := (if_neg (not_true hc101)).symm.trans h
    refine e_skip ?_
    refine hK97 _ _ ?_
    refine e_seq fun K103 hK103 => ?_
    refine e_region_text rfl ?_
    refine q_move rfl rfl ?_
    obtain ⟨r105, hr105, h⟩ := Option.of_bind h
    refine q_call rfl (make_Mod_w (Sep.enter (As := []) hS)  hr105) rfl ?_
    rintro _ w104 ⟨R104, rfl, hC104⟩
    have hB104 : Below (World.heap w99).size w99 w104 := hC104.stepB0
    refine ⟨fun _ => .of_below hB104, ?_⟩
    replace hS := Sep.leave (As := []) hS hC104; simp only [List.cons_append, List.nil_append] at hS
    refine q_subW rfl rfl rfl ?_
    refine q_assign rfl rfl ?_
    refine eseq_nil ?_
    refine hK103 _ _ ?_
    refine e_seq fun K106 hK106 => ?_
    refine e_region_text rfl ?_
    refine q_move rfl rfl ?_
    refine q_assign rfl rfl ?_
    refine eseq_nil ?_
    refine hK106 _ _ ?_
    refine e_seq fun K107 hK107 => ?_
    have hJ107 : ∀ (x116 : Int) (R114 : Nat → Prop) (w115 : World) (E_ : Env), law22_LineSets_J1 fuel r105 a1 x116 = some r → Sep F R R114 w w115 [] → Sub [(1, .int .i64 a1), (5, .int .i64 (w64 (r105 - 1))), (6, .int .i64 x116)] E_ → K107 E_ w115 := by
      intro x116 R114 w115 E_ h hS  hsub
      refine hK107 _ _ (e_sub hsub ?_); clear hsub
      unfold law22_LineSets_J1 at h
      refine e_seq fun K117 hK117 => ?_
      refine e_region_text rfl ?_
      refine q_move rfl rfl ?_
      refine q_move rfl rfl ?_
      obtain ⟨r119, hr119, h⟩ := Option.of_bind h
      refine q_call rfl (line_Sets_w (Sep.enter (As := []) hS)  hr119) rfl ?_
      rintro v120 w118 ⟨_, v121, R118, rfl, hC118⟩
      have hB118 : Below (World.heap w115).size w115 w118 := hC118.stepB0
      refine ⟨fun _ => .of_below hB118, ?_⟩
      replace hS := Sep.leave (As := []) hS hC118; simp only [List.cons_append, List.nil_append] at hS
      refine q_move rfl rfl ?_
      refine q_move rfl rfl ?_
      obtain ⟨r123, hr123, h⟩ := Option.of_bind h
      refine q_call rfl (ref22_Sets_w (Sep.enter (As := []) hS)  hr123) rfl ?_
      rintro v124 w122 ⟨_, v125, R122, rfl, hC122⟩
      have hB122 : Below (World.heap w118).size w118 w122 := hC122.stepB0
      refine ⟨fun _ => .of_below hB122, ?_⟩
      replace hS := Sep.leave (As := []) hS hC122; simp only [List.cons_append, List.nil_append] at hS
      obtain ⟨r127, hr127, h⟩ := Option.of_bind h
      refine q_call rfl (ref22_SameLists_w (Sep.all w122) ((hS.rowsI 2 3 rfl rfl (by decide))).old ((hS.rowsI 0 1 rfl rfl (by decide))).old hr127) rfl ?_
      rintro _ w126 ⟨R126, rfl, hC126⟩
      have hB126 : Below (World.heap w122).size w122 w126 := hC126.stepBF
      refine ⟨fun _ => .of_below hB126, ?_⟩
      replace hS := hS.below hB126
      refine q_move rfl rfl ?_
      obtain ⟨x145, hx144, h⟩ := Option.of_bind h
      refine g_andM 9 hx144 rfl trivial rfl rfl ?_ ?_ ?_
      · intro hg144 hx144
        clear h
        have hT144 := Below.refl (World.heap w126).size w126
        refine g_run rfl ?_; refine q_move rfl rfl ?_
        refine g_run rfl ?_; refine q_move rfl rfl ?_
        obtain ⟨r147, hr147, hx144⟩ := Option.of_bind hx144
        refine g_run rfl ?_; refine q_call rfl (make_Mod_w (Sep.enter (As := []) hS)  hr147) rfl ?_
        rintro _ w146 ⟨R146, rfl, hC146⟩
        have hB146 : Below (World.heap w126).size w126 w146 := hC146.stepB0
        refine ⟨fun _ => .of_below hB146, ?_⟩
        replace hT144 := hT144.trans (Below.mono hB146 hT144.size)
        replace hS := Sep.leave (As := []) hS hC146; simp only [List.cons_append, List.nil_append] at hS
        obtain ⟨r149, hr149, hx144⟩ := Option.of_bind hx144
        refine g_run rfl ?_; refine q_call rfl (line_Sets_w (Sep.enter (As := []) hS)  hr149) rfl ?_
        rintro v150 w148 ⟨_, v151, R148, rfl, hC148⟩
        have hB148 : Below (World.heap w146).size w146 w148 := hC148.stepB0
        refine ⟨fun _ => .of_below hB148, ?_⟩
        replace hT144 := hT144.trans (Below.mono hB148 hT144.size)
        replace hS := Sep.leave (As := []) hS hC148; simp only [List.cons_append, List.nil_append] at hS
        refine g_run rfl ?_; refine q_move rfl rfl ?_
        refine g_run rfl ?_; refine q_move rfl rfl ?_
        obtain ⟨r153, hr153, hx144⟩ := Option.of_bind hx144
        refine g_run rfl ?_; refine q_call rfl (make_Mod_w (Sep.enter (As := []) hS)  hr153) rfl ?_
        rintro _ w152 ⟨R152, rfl, hC152⟩
        have hB152 : Below (World.heap w148).size w148 w152 := hC152.stepB0
        refine ⟨fun _ => .of_below hB152, ?_⟩
        replace hT144 := hT144.trans (Below.mono hB152 hT144.size)
        replace hS := Sep.leave (As := []) hS hC152; simp only [List.cons_append, List.nil_append] at hS
        obtain ⟨r155, hr155, hx144⟩ := Option.of_bind hx144
        refine g_run rfl ?_; refine q_call rfl (ref22_Sets_w (Sep.enter (As := []) hS)  hr155) rfl ?_
        rintro v156 w154 ⟨_, v157, R154, rfl, hC154⟩
        have hB154 : Below (World.heap w152).size w152 w154 := hC154.stepB0
        refine ⟨fun _ => .of_below hB154, ?_⟩
        replace hT144 := hT144.trans (Below.mono hB154 hT144.size)
        replace hS := Sep.leave (As := []) hS hC154; simp only [List.cons_append, List.nil_append] at hS
        obtain ⟨r159, hr159, hx144⟩ := Option.of_bind hx144
        refine g_run rfl ?_; refine q_call rfl (ref22_SameLists_w (Sep.all w154) ((hS.rowsI 2 3 rfl rfl (by decide))).old ((hS.rowsI 0 1 rfl rfl (by decide))).old hr159) rfl ?_
        rintro _ w158 ⟨R158, rfl, hC158⟩
        have hB158 : Below (World.heap w154).size w154 w158 := hC158.stepBF
        refine ⟨fun _ => .of_below hB158, ?_⟩
        replace hT144 := hT144.trans (Below.mono hB158 hT144.size)
        replace hS := hS.below hB158
        cases hx144
        exact eseq_nil ⟨hT144, Sub.set rfl (Sub.set rfl (Sub.set rfl (Sub.set rfl (Sub.set rfl (Sub.set rfl (Sub.set rfl (Sub.set rfl (Sub.set rfl (Sub.bool true rfl hg144))))))))), rfl⟩
      · intro hg144
        refine g_skip rfl rfl rfl ?_
        refine g_skip rfl rfl rfl ?_
        refine g_skip rfl rfl rfl ?_
        refine g_skip rfl rfl rfl ?_
        refine g_skip rfl rfl rfl ?_
        refine g_skip rfl rfl rfl ?_
        refine g_skip rfl rfl rfl ?_
        refine g_skip rfl rfl rfl ?_
        refine g_skip rfl rfl rfl ?_
        exact eseq_nil ⟨rfl, Sub.set rfl (Sub.set rfl (Sub.set rfl (Sub.set rfl (Sub.set rfl (Sub.set rfl (Sub.set rfl (Sub.set rfl (Sub.set rfl (Sub.bool false rfl hg144)))))))))⟩
      intro wm144 hBm144; clear hx144
      replace hS := hS.below hBm144
      refine q_move rfl rfl ?_
      obtain ⟨x173, hx172, h⟩ := Option.of_bind h
      refine g_andM 7 hx172 rfl trivial rfl rfl ?_ ?_ ?_
      · intro hg172 hx172
        clear h
        have hT172 := Below.refl (World.heap wm144).size wm144
        refine g_run rfl ?_; refine q_move rfl rfl ?_
        refine g_run rfl ?_; refine q_move rfl rfl ?_
        obtain ⟨r175, hr175, hx172⟩ := Option.of_bind hx172
        refine g_run rfl ?_; refine q_call rfl (line_Sets_w (Sep.enter (As := []) hS)  hr175) rfl ?_
        rintro v176 w174 ⟨_, v177, R174, rfl, hC174⟩
        have hB174 : Below (World.heap wm144).size wm144 w174 := hC174.stepB0
        refine ⟨fun _ => .of_below hB174, ?_⟩
        replace hT172 := hT172.trans (Below.mono hB174 hT172.size)
        replace hS := Sep.leave (As := []) hS hC174; simp only [List.cons_append, List.nil_append] at hS
        refine g_run rfl ?_; refine q_move rfl rfl ?_
        refine g_run rfl ?_; refine q_move rfl rfl ?_
        obtain ⟨r179, hr179, hx172⟩ := Option.of_bind hx172
        refine g_run rfl ?_; refine q_call rfl (ref22_Sets_w (Sep.enter (As := []) hS)  hr179) rfl ?_
        rintro v180 w178 ⟨_, v181, R178, rfl, hC178⟩
        have hB178 : Below (World.heap w174).size w174 w178 := hC178.stepB0
        refine ⟨fun _ => .of_below hB178, ?_⟩
        replace hT172 := hT172.trans (Below.mono hB178 hT172.size)
        replace hS := Sep.leave (As := []) hS hC178; simp only [List.cons_append, List.nil_append] at hS
        obtain ⟨r183, hr183, hx172⟩ := Option.of_bind hx172
        refine g_run rfl ?_; refine q_call rfl (ref22_SameLists_w (Sep.all w178) ((hS.rowsI 2 3 rfl rfl (by decide))).old ((hS.rowsI 0 1 rfl rfl (by decide))).old hr183) rfl ?_
        rintro _ w182 ⟨R182, rfl, hC182⟩
        have hB182 : Below (World.heap w178).size w178 w182 := hC182.stepBF
        refine ⟨fun _ => .of_below hB182, ?_⟩
        replace hT172 := hT172.trans (Below.mono hB182 hT172.size)
        replace hS := hS.below hB182
        cases hx172
        exact eseq_nil ⟨hT172, Sub.set rfl (Sub.set rfl (Sub.set rfl (Sub.set rfl (Sub.set rfl (Sub.set rfl (Sub.set rfl (Sub.bool true rfl hg172))))))), rfl⟩
      · intro hg172
        refine g_skip rfl rfl rfl ?_
        refine g_skip rfl rfl rfl ?_
        refine g_skip rfl rfl rfl ?_
        refine g_skip rfl rfl rfl ?_
        refine g_skip rfl rfl rfl ?_
        refine g_skip rfl rfl rfl ?_
        refine g_skip rfl rfl rfl ?_
        exact eseq_nil ⟨rfl, Sub.set rfl (Sub.set rfl (Sub.set rfl (Sub.set rfl (Sub.set rfl (Sub.set rfl (Sub.set rfl (Sub.bool false rfl hg172)))))))⟩
      intro wm172 hBm172; clear hx172
      replace hS := hS.below hBm172
      refine q_assign rfl rfl ?_
      refine eseq_nil ?_
      refine hK117 _ _ ?_
      refine e_ret ?_
      obtain rfl := Option.some.inj h
      exact ⟨_, res1 rfl rfl, _, rfl, (hS.pickB [] 4 rfl rfl)⟩
    refine e_seq fun K184 hK184 => ?_
    refine e_region_text rfl ?_
    refine q_move rfl rfl ?_
    refine q_gtr rfl rfl rfl ?_
    refine q_move rfl rfl ?_
    obtain ⟨x188, hx187, h⟩ := Option.of_bind h
    refine g_andM 2 hx187 rfl trivial rfl rfl ?_ ?_ ?_
    · intro hg187 hx187
      clear h
      have hT187 := Below.refl (World.heap w104).size w104
      refine g_run rfl ?_; refine q_move rfl rfl ?_
      refine g_run rfl ?_; refine q_leq rfl rfl rfl ?_
      cases hx187
      exact eseq_nil ⟨hT187, Sub.set rfl (Sub.set rfl (Sub.bool true rfl hg187)), rfl⟩
    · intro hg187
      refine g_skip rfl rfl rfl ?_
      refine g_skip rfl rfl rfl ?_
      exact eseq_nil ⟨rfl, Sub.set rfl (Sub.set rfl (Sub.bool false rfl hg187))⟩
    intro wm187 hBm187; clear hx187
    replace hS := hS.below hBm187
    refine eseq_nil ?_
    refine hK184 _ _ ?_
    refine e_cond rfl (fun hc189 => ?_) (fun hc189 => ?_)
    · replace h := (if_pos hc189).symm.trans h
      refine e_region_text rfl ?_
      refine q_assign rfl rfl ?_
      refine eseq_nil ?_
      exact hJ107 8 _ _ _ h hS  (Sub.cons rfl (Sub.cons rfl (Sub.cons rfl (Sub.nil _))))
    · replace h := (if_neg (not_true hc189)).symm.trans h
      refine e_skip ?_
      exact hJ107 a0 _ _ _ h hS  (Sub.cons rfl (Sub.cons rfl (Sub.cons rfl (Sub.nil _))))
theorem law22_LineMore_w {F R : Nat → Prop} {w : World} {fuel : Nat} {a0 : (List Int)} {a1 : (List Int)} {a2 : (List Int)} {v1 : Value} {v2 : Value} {v3 : Value} {r : (Bool)} (hS : Sep F R R w w []) (f1 : IsSlice Ty.u8 w R v1 a0) (f2 : IsSlice Ty.u8 w R v2 a1) (f3 : IsSlice Ty.u8 w R v3 a2) (h : law22_LineMore fuel a0 a1 a2 = some r) :
    Gives Try.prog 4 [v1, v2, v3] w fun u w1 => ∃ (R1 : Nat → Prop), u = .bool r ∧ Sep F R R1 w w1 [] := by
  refine fn_of Try.func4 rfl Try.ntmps4 (Nat.le_of_ble_eq_true rfl) ?_
  unfold law22_LineMore at h
  refine e_seq fun K721 hK721 => ?_
  refine e_region_text rfl ?_
  refine q_assign rfl rfl ?_
  refine eseq_nil ?_
  refine hK721 _ _ ?_
  refine e_seq fun K722 hK722 => ?_
  refine e_seq fun K723 hK723 => ?_
  refine e_region_text rfl ?_
  obtain ⟨r725, hr725, h⟩ := Option.of_bind h
  refine q_call rfl (law22_awake_w (Sep.enter (As := []) hS)  hr725) rfl ?_
  rintro _ w724 ⟨R724, rfl, hC724⟩
  have hB724 : Below (World.heap w).size w w724 := hC724.stepB0
  refine ⟨fun _ => .of_below hB724, ?_⟩
  replace f1 := (f1.ext hB724).mono fun k hk _ => hC724.ro0 k hk
  replace f2 := (f2.ext hB724).mono fun k hk _ => hC724.ro0 k hk
  replace f3 := (f3.ext hB724).mono fun k hk _ => hC724.ro0 k hk
  replace hS := Sep.leave (As := []) hS hC724; simp only [List.cons_append, List.nil_append] at hS
  refine q_not rfl rfl ?_
  refine eseq_nil ?_
  refine hK723 _ _ ?_
  refine e_cond rfl (fun hc726 => ?_) (fun hc726 => ?_)
  · replace h := (if_pos hc726).symm.trans h
    refine e_seq fun K727 hK727 => ?_
    refine e_region_text rfl ?_
    refine q_assign rfl rfl ?_
    refine eseq_nil ?_
    refine hK727 _ _ ?_
    refine e_ret ?_
    obtain rfl := Option.some.inj h
    exact ⟨_, res1 rfl rfl, _, rfl, hS⟩
  · replace h := (if_neg (not_true hc726)).symm.trans h
    refine e_skip ?_
    refine hK722 _ _ ?_
    refine e_seq fun K728 hK728 => ?_
    refine e_region_text rfl ?_
    refine q_move rfl rfl ?_
    obtain ⟨r730, hr730, h⟩ := Option.of_bind h
    refine q_call rfl (make_New_w (Sep.enter (As := []) hS) f1 hr730) rfl ?_
    rintro _ w729 ⟨B731, v732, R729, rfl, hC729, f732⟩
    have hB729 : Below (World.heap w724).size w724 w729 := hC729.stepB0
    refine ⟨fun _ => .of_below hB729, ?_⟩
    replace f2 := (f2.ext hB729).mono fun k hk _ => hC729.ro0 k hk
    replace f3 := (f3.ext hB729).mono fun k hk _ => hC729.ro0 k hk
    replace f1 := (f1.ext hB729).mono fun k hk _ => hC729.ro0 k hk
    replace hS := Sep.leave (As := []) hS hC729; simp only [List.cons_append, List.nil_append] at hS
    obtain ⟨r734, hr734, h⟩ := Option.of_bind h
    refine q_call rfl (make_Codes_Pattern_w (Sep.enter (As := [_]) hS) f732 hr734) rfl ?_
    rintro _ w733 ⟨v735, v736, v737, R733, rfl, hC733, f735, f736⟩
    refine ⟨(fun h => by cases h), ?_⟩
    have hk733 := hC733.keptR (Sep.offFeet (As := [_]) hS)
    replace f2 := (f2.kept hk733).mono fun k hk _ => hC733.ro0 k hk
    replace f3 := (f3.kept hk733).mono fun k hk _ => hC733.ro0 k hk
    replace f732 := (f732.kept hk733).mono fun k hk _ => hC733.ro0 k hk
    replace hS := Sep.leave (As := [_]) hS hC733; simp only [List.cons_append, List.nil_append] at hS
    refine q_allocB rfl fun w738 bl738 hg738 hb738 hB738 => ?_
    replace f2 := f2.ext hB738
    replace f3 := f3.ext hB738
    replace f735 := f735.ext hB738
    replace f736 := f736.ext hB738
    replace hS := hS.newBlk hB738 hg738 hb738
    refine q_storeAgg rfl rfl (hS.blk 0 rfl) rfl (Nat.le_of_ble_eq_true rfl) (all_cons f735.one (all_cons f736.one (all_cons (hS.own 2 rfl).one (all_nil)))) rfl rfl fun w740 hb740 hO740 => ?_
    simp only [setN, List.set, List.take, List.drop] at hb740
    have hk740 := hS.keptBlk 0 rfl hO740
    replace f2 := f2.kept hk740
    replace f3 := f3.kept hk740
    replace f735 := f735.kept hk740
    replace f736 := f736.kept hk740
    replace hS := hS.setBlk 0 rfl hb740 hO740; simp only [List.set] at hS
    refine eseq_nil ?_
    refine hK728 _ _ ?_
    refine e_seq fun K741 hK741 => ?_
    refine e_region_draw mixed (fun k => (World.heap w740).size ≤ k) [0, 1, 0, 7, 0, 31, 0, 127, 255, 511] [1, 3, 5] [0, 2, 4, 6, 1, 3, 5, 7, 8, 9] (by kernel_rfl) ?_
    have hTX := Below.refl (World.heap w740).size w740
    refine q_move rfl rfl ?_
    refine q_loadAgg rfl (Blk.cellsAt (hS.blk 0 rfl) 0 3 rfl) rfl rfl ?_ (hX := Nat.not_le.2 (hS.blk 0 rfl).lt)
    refine q_move rfl rfl ?_
    refine q_loadAgg rfl (Blk.cellsAt (hS.blk 0 rfl) 0 3 rfl) rfl rfl ?_ (hX := Nat.not_le.2 (hS.blk 0 rfl).lt)
    obtain ⟨r760, hr760, h⟩ := Option.of_bind h
    refine q_call rfl (make_New_w (Sep.enter (As := []) hS) f2 hr760) rfl ?_
    rintro _ w759 ⟨B761, v762, R759, rfl, hC759, f762⟩
    have hfrB761 := Nat.le_trans hTX.size (hC759.blkNew 0 rfl)
    have hB759 : Below (World.heap w740).size w740 w759 := hC759.stepB0
    refine ⟨fun _ => .of_below hB759, ?_⟩
    replace f735 := (f735.ext hB759).mono fun k hk _ => hC759.ro0 k hk
    replace f736 := (f736.ext hB759).mono fun k hk _ => hC759.ro0 k hk
    replace f2 := (f2.ext hB759).mono fun k hk _ => hC759.ro0 k hk
    replace f3 := (f3.ext hB759).mono fun k hk _ => hC759.ro0 k hk
    replace hTX := hTX.trans (Below.mono hB759 hTX.size)
    replace hS := Sep.leave (As := []) hS hC759; simp only [List.cons_append, List.nil_append] at hS
    obtain ⟨R764, hS, hm764, f764⟩ := hS.freezeOwn 3 rfl; simp only [List.eraseIdx] at hS
    replace f735 := f735.mono fun k hk _ => hm764 k hk
    replace f736 := f736.mono fun k hk _ => hm764 k hk
    replace f762 := f762.mono fun k hk _ => hm764 k hk
    replace f3 := f3.mono fun k hk _ => hm764 k hk
    obtain ⟨r765, hr765, h⟩ := Option.of_bind h
    refine q_call rfl (make_Codes_Allowed_w (a1 := (⟨r734.1.lens, r734.1.ckpts, r734.1.arcs⟩ : Pat)) (Sep.enter (As := [_]) hS) f735 f736 f764 f762 hr765) rfl ?_
    rintro v766 w763 ⟨_, v767, R763, rfl, hC763⟩
    refine ⟨fun _ => hC763.relX1.mono fun k hk => by rw [hk]; exact hfrB761, ?_⟩
    replace hTX := below_relX hTX hC763.relX1 hfrB761 hTX.size
    have hk763 := hC763.keptR (Sep.offFeet (As := [_]) hS)
    replace f735 := (f735.kept hk763).mono fun k hk _ => hC763.ro0 k hk
    replace f736 := (f736.kept hk763).mono fun k hk _ => hC763.ro0 k hk
    replace f764 := (f764.kept hk763).mono fun k hk _ => hC763.ro0 k hk
    replace f762 := (f762.kept hk763).mono fun k hk _ => hC763.ro0 k hk
    replace f3 := (f3.kept hk763).mono fun k hk _ => hC763.ro0 k hk
    replace hS := Sep.leave (As := [_]) hS hC763; simp only [List.cons_append, List.nil_append] at hS
    obtain ⟨r769, hr769, h⟩ := Option.of_bind h
    refine q_call rfl (make_New_w (Sep.enter (As := []) hS) f3 hr769) rfl ?_
    rintro _ w768 ⟨B770, v771, R768, rfl, hC768, f771⟩
    have hfrB770 := Nat.le_trans hTX.size (hC768.blkNew 0 rfl)
    have hB768 : Below (World.heap w763).size w763 w768 := hC768.stepB0
    refine ⟨fun _ => .of_below hB768, ?_⟩
    replace f735 := (f735.ext hB768).mono fun k hk _ => hC768.ro0 k hk
    replace f736 := (f736.ext hB768).mono fun k hk _ => hC768.ro0 k hk
    replace f764 := (f764.ext hB768).mono fun k hk _ => hC768.ro0 k hk
    replace f3 := (f3.ext hB768).mono fun k hk _ => hC768.ro0 k hk
    replace hTX := hTX.trans (Below.mono hB768 hTX.size)
    replace hS := Sep.leave (As := []) hS hC768; simp only [List.cons_append, List.nil_append] at hS
    obtain ⟨r773, hr773, h⟩ := Option.of_bind h
    refine q_call rfl (make_Codes_Allowed_w (a1 := (⟨r734.1.lens, r734.1.ckpts, r734.1.arcs⟩ : Pat)) (Sep.enter (As := [_]) hS) f735 f736 f764 f771 hr773) rfl ?_
    rintro v774 w772 ⟨_, v775, R772, rfl, hC772⟩
    refine ⟨(fun h => by cases h), ?_⟩
    replace hTX := below_relX hTX hC772.relX1 hfrB770 hTX.size
    have hk772 := hC772.keptR (Sep.offFeet (As := [_]) hS)
    replace f735 := (f735.kept hk772).mono fun k hk _ => hC772.ro0 k hk
    replace f736 := (f736.kept hk772).mono fun k hk _ => hC772.ro0 k hk
    replace f764 := (f764.kept hk772).mono fun k hk _ => hC772.ro0 k hk
    replace f771 := (f771.kept hk772).mono fun k hk _ => hC772.ro0 k hk
    replace hS := Sep.leave (As := [_]) hS hC772; simp only [List.cons_append, List.nil_append] at hS
    refine q_assign rfl rfl ?_
    refine q_assign rfl rfl ?_
    refine eseq_nil ?_
    refine hK741 _ _ ?_
    refine e_seq fun K776 hK776 => ?_
    refine e_region_text rfl ?_
    refine q_field rfl rfl ?_
    refine q_load rfl (Blk.cell (hS.blk 6 rfl) rfl) rfl ?_
    refine q_lenS rfl f735 rfl ?_
    obtain ⟨x777, hx777, h⟩ := Option.of_bind h
    refine q_makeO (T := Ty.raw) (S := (fun _ => False)) rfl rfl rfl (mkL_raw hx777) (fun _ h => h.elim) rfl fun w778 v778 ho778 hv778 hB778 => ?_
    replace f735 := f735.ext hB778
    replace f736 := f736.ext hB778
    replace f764 := f764.ext hB778
    replace hS := (hS.famNilsM (S := fun _ => False) Ty.int 3 (fun _ h => h.elim) hx777).newOwnS hB778 ho778 hv778 (fun _ h => h.elim)
    refine q_assign rfl rfl ?_
    refine eseq_nil ?_
    refine hK776 _ _ ?_
    refine e_seq fun K781 hK781 => ?_
    refine e_seq fun K782 hK782 => ?_
    refine e_region_text rfl ?_
    refine q_move rfl rfl ?_
    refine q_lenR rfl (hS.own 0 rfl) (hS.famLen 1 rfl) rfl ?_
    refine q_move rfl rfl ?_
    refine eseq_nil ?_
    refine hK782 _ _ ?_
    refine e_block ?_
    obtain ⟨tl783, ht783, h⟩ := Option.of_bind h
    have hX783_0 : ∀ (x1225 : (List (List Int))) (v1223 : Value) (v1224 : List Value) (R1216 : Nat → Prop) (w1217 : World) (E_ : Env), law22_LineMore_K1 fuel r734 r765 x1225 = some r → Sep F R R1216 w w1217 [HP.blk bl738 [v735, v736, v737] 32, HP.own Ty.raw (fun _ => False) 29 v766 v767, HP.famS Ty.int (fun _ => False) 3 v767 r765.1, HP.own Ty.raw (fun _ => False) 29 v1223 v1224, HP.famS Ty.int (fun _ => False) 3 v1224 x1225] → IsSlice Ty.int w1217 R1216 v735 r734.1.lens → IsSlice (Ty.slice Ty.int) w1217 R1216 v736 r734.1.ckpts → IsSlice arcTy w1217 R1216 v737 r734.1.arcs → Sub [(7, .pointer (some ⟨bl738, 0, none⟩)), (8, v766), (10, v1223)] E_ → K781 E_ w1217 := by
      intro x1225 v1223 v1224 R1216 w1217 E_ h hS f1218 f1219 f1220 hsub
      refine hK781 _ _ (e_sub hsub ?_); clear hsub
      unfold law22_LineMore_K1 at h
      refine e_seq fun K1228 hK1228 => ?_
      refine e_region_text rfl ?_
      refine q_loadAgg rfl (Blk.cellsAt (hS.blk 0 rfl) 0 3 rfl) rfl rfl ?_
      refine q_move rfl rfl ?_
      obtain ⟨r1230, hr1230, h⟩ := Option.of_bind h
      refine q_call rfl (line_Greatest_w (a0 := (⟨r734.1.lens, r734.1.ckpts, r734.1.arcs⟩ : Pat)) (Sep.all w1217) (f1218).old (f1219).old (f1220).old ((hS.rowsI 1 2 rfl rfl (by decide))).old hr1230) rfl ?_
      rintro _ w1229 ⟨v1231, R1229, rfl, hC1229⟩
      have hB1229 : Below (World.heap w1217).size w1217 w1229 := hC1229.stepBF
      refine ⟨fun _ => .of_below hB1229, ?_⟩
      replace f1218 := f1218.ext hB1229
      replace f1219 := f1219.ext hB1229
      replace f1220 := f1220.ext hB1229
      replace hS := hS.newOwnS hB1229 (hC1229.own 0 rfl) (hC1229.fresh 0 rfl) (fun _ h => h.elim)
      refine q_move rfl rfl ?_
      refine q_extract rfl rfl rfl ?_
      refine q_extract rfl rfl rfl ?_
      refine q_assign rfl rfl ?_
      refine q_assign rfl rfl ?_
      refine eseq_nil ?_
      refine hK1228 _ _ ?_
      refine e_seq fun K1232 hK1232 => ?_
      refine e_region_text rfl ?_
      refine q_loadAgg rfl (Blk.cellsAt (hS.blk 1 rfl) 0 3 rfl) rfl rfl ?_
      refine q_move rfl rfl ?_
      obtain ⟨r1234, hr1234, h⟩ := Option.of_bind h
      refine q_call rfl (line_Greatest_w (a0 := (⟨r734.1.lens, r734.1.ckpts, r734.1.arcs⟩ : Pat)) (Sep.all w1229) (f1218).old (f1219).old (f1220).old ((hS.rowsI 4 5 rfl rfl (by decide))).old hr1234) rfl ?_
      rintro _ w1233 ⟨v1235, R1233, rfl, hC1233⟩
      have hB1233 : Below (World.heap w1229).size w1229 w1233 := hC1233.stepBF
      refine ⟨fun _ => .of_below hB1233, ?_⟩
      replace f1218 := f1218.ext hB1233
      replace f1219 := f1219.ext hB1233
      replace f1220 := f1220.ext hB1233
      replace hS := hS.newOwnS hB1233 (hC1233.own 0 rfl) (hC1233.fresh 0 rfl) (fun _ h => h.elim)
      refine q_move rfl rfl ?_
      refine q_extract rfl rfl rfl ?_
      refine q_extract rfl rfl rfl ?_
      refine q_assign rfl rfl ?_
      refine q_assign rfl rfl ?_
      refine eseq_nil ?_
      refine hK1232 _ _ ?_
      refine e_seq fun K1236 hK1236 => ?_
      refine e_region_text rfl ?_
      refine q_move rfl rfl ?_
      refine q_not rfl rfl ?_
      refine q_move rfl rfl ?_
      obtain ⟨x1244, hx1243, h⟩ := Option.of_bind h
      refine g_orM 6 hx1243 rfl trivial rfl rfl ?_ ?_ ?_
      · intro hg1243
        refine g_skip rfl rfl rfl ?_
        refine g_skip rfl rfl rfl ?_
        refine g_skipU rfl rfl ?_
        refine g_skipU rfl rfl ?_
        refine g_skipU rfl rfl ?_
        refine g_skip rfl rfl rfl ?_
        exact eseq_nil ⟨rfl, Sub.set rfl (Sub.set rfl (Sub.set rfl (Sub.set rfl (Sub.set rfl (Sub.set rfl (Sub.bool true rfl hg1243))))))⟩
      · intro hg1243 hx1243
        clear h
        have hT1243 := Below.refl (World.heap w1233).size w1233
        refine g_run rfl ?_; refine q_move rfl rfl ?_
        refine g_run rfl ?_; refine q_move rfl rfl ?_
        obtain ⟨x1246, hx1245, hx1243⟩ := Option.of_bind hx1243
        refine g_andM 3 hx1245 rfl rfl rfl rfl ?_ ?_ ?_
        · intro hg1245 hx1245
          clear hx1243
          have hT1245 := Below.refl (World.heap w1233).size w1233
          refine g_run rfl ?_; refine q_move rfl rfl ?_
          refine g_run rfl ?_; refine q_move rfl rfl ?_
          obtain ⟨r1248, hr1248, hx1245⟩ := Option.of_bind hx1245
          refine g_run rfl ?_; refine q_call rfl (cut_Most_w (Sep.all w1233) ((hS.isl 1 rfl)).old ((hS.isl 0 rfl)).old hr1248) rfl ?_
          rintro _ w1247 ⟨R1247, rfl, hC1247⟩
          have hB1247 : Below (World.heap w1233).size w1233 w1247 := hC1247.stepBF
          refine ⟨fun _ => .of_below hB1247, ?_⟩
          replace hT1243 := hT1243.trans (Below.mono hB1247 hT1243.size)
          replace hT1245 := hT1245.trans (Below.mono hB1247 hT1245.size)
          replace hS := hS.below hB1247
          cases hx1245
          exact eseq_nil ⟨hT1245, Sub.set rfl (Sub.set rfl (Sub.set rfl (Sub.bool true rfl hg1245))), rfl⟩
        · intro hg1245
          refine g_skip rfl rfl rfl ?_
          refine g_skip rfl rfl rfl ?_
          refine g_skip rfl rfl rfl ?_
          exact eseq_nil ⟨rfl, Sub.set rfl (Sub.set rfl (Sub.set rfl (Sub.bool false rfl hg1245)))⟩
        intro wm1245 hBm1245; clear hx1245
        replace hS := hS.below hBm1245
        replace hT1243 := hT1243.trans (Below.mono hBm1245 hT1243.size)
        cases hx1243
        exact eseq_nil ⟨hT1243, Sub.set rfl (Sub.set rfl (Sub.set rfl (Sub.bool false rfl hg1243))), rfl⟩
      intro wm1243 hBm1243; clear hx1243
      replace hS := hS.below hBm1243
      refine q_assign rfl rfl ?_
      refine eseq_nil ?_
      refine hK1236 _ _ ?_
      refine e_ret ?_
      obtain rfl := Option.some.inj h
      exact ⟨_, res1 rfl rfl, _, rfl, (hS.pickB [] 7 rfl rfl)⟩
    refine e_loop (fun m_ E_ w999 => ∃ (x1009 : (List (List Int))), ∃ (x1012 : Int), ∃ (v1007 : Value), ∃ (v1008 : List Value), ∃ (R998 : Nat → Prop), iter (fun s => law22_LineMore_B1 fuel x777 r734 r765 r773 s.1 s.2) m_ (x1009, x1012) = some tl783 ∧ Sep F R R998 w w999 [HP.blk bl738 [v735, v736, v737] 32, HP.own Ty.raw (fun _ => False) 29 v766 v767, HP.famS Ty.int (fun _ => False) 3 v767 r765.1, HP.own Ty.raw (fun _ => False) 29 v774 v775, HP.famS Ty.int (fun _ => False) 3 v775 r773.1, HP.own Ty.raw (fun _ => False) 29 v1007 v1008, HP.famS Ty.int (fun _ => False) 3 v1008 x1009] ∧ IsSlice Ty.int w999 R998 v735 r734.1.lens ∧ IsSlice (Ty.slice Ty.int) w999 R998 v736 r734.1.ckpts ∧ IsSlice arcTy w999 R998 v737 r734.1.arcs ∧ E_ = [(7, .pointer (some ⟨bl738, 0, none⟩)), (8, v766), (9, v774), (10, v1007), (35, .int .i64 (x777.length : Int)), (36, .int .i64 x1012)]) _ ⟨_, ⟨x777, 0, v778, (List.replicate ((r734.1.lens.length : Int)).toNat (.slice none 0 0)), _, ht783, (hS.pickB [8, 6, 7, 3, 4, 0, 1] 10 rfl rfl), f735, f736, f764, rfl⟩, Sub.cons rfl (Sub.cons rfl (Sub.cons rfl (Sub.cons rfl (Sub.cons rfl (Sub.cons rfl (Sub.nil _))))))⟩ ?_
    clear ht783 hS
    rintro m783 _ w999 ⟨x1009, x1012, v1007, v1008, R998, ht783, hS, f1000, f1001, f1002, rfl⟩
    obtain ⟨m783, rfl, o783, ho783, ht783⟩ := iter_some ht783
    replace ho783 : law22_LineMore_B1 fuel x777 r734 r765 r773 x1009 x1012 = some o783 := ho783
    unfold law22_LineMore_B1 at ho783
    refine e_seq fun K1249 hK1249 => ?_
    refine e_region_text rfl ?_
    refine q_lss rfl rfl rfl ?_
    refine eseq_nil ?_
    refine hK1249 _ _ ?_
    refine e_seq fun K1250 hK1250 => ?_
    refine e_cond rfl (fun hc1251 => ?_) (fun hc1251 => ?_)
    · replace ho783 := (if_pos hc1251).symm.trans ho783
      refine e_skip ?_
      refine hK1250 _ _ ?_
      refine e_seq fun K1252 hK1252 => ?_
      refine e_block ?_
      refine e_seq fun K1253 hK1253 => ?_
      refine e_region_text rfl ?_
      refine q_move rfl rfl ?_
      refine q_assign rfl rfl ?_
      refine eseq_nil ?_
      refine hK1253 _ _ ?_
      refine e_seq fun K1254 hK1254 => ?_
      refine e_region_text rfl ?_
      refine q_assign rfl rfl ?_
      refine eseq_nil ?_
      refine hK1254 _ _ ?_
      refine e_block ?_
      obtain ⟨tl1255, ht1255, ho783⟩ := Option.of_bind ho783
      have hX1255_2 : ∀ (x1405 : (List (List Int))) (v1403 : Value) (v1404 : List Value) (R1394 : Nat → Prop) (w1395 : World) (E_ : Env), law22_LineMore_K2 fuel x1012 x1405 = some o783 → Sep F R R1394 w w1395 [HP.blk bl738 [v735, v736, v737] 32, HP.own Ty.raw (fun _ => False) 29 v766 v767, HP.famS Ty.int (fun _ => False) 3 v767 r765.1, HP.own Ty.raw (fun _ => False) 29 v774 v775, HP.famS Ty.int (fun _ => False) 3 v775 r773.1, HP.own Ty.raw (fun _ => False) 29 v1403 v1404, HP.famS Ty.int (fun _ => False) 3 v1404 x1405] → IsSlice Ty.int w1395 R1394 v735 r734.1.lens → IsSlice (Ty.slice Ty.int) w1395 R1394 v736 r734.1.ckpts → IsSlice arcTy w1395 R1394 v737 r734.1.arcs → Sub [(7, .pointer (some ⟨bl738, 0, none⟩)), (8, v766), (9, v774), (10, v1403), (35, .int .i64 (x777.length : Int)), (36, .int .i64 x1012)] E_ → K1252 E_ w1395 := by
        intro x1405 v1403 v1404 R1394 w1395 E_ ho783 hS f1396 f1397 f1398 hsub
        refine hK1252 _ _ (e_sub hsub ?_); clear hsub
        unfold law22_LineMore_K2 at ho783
        refine e_region_text rfl ?_
        refine q_addW rfl rfl rfl ?_
        refine q_move rfl rfl ?_
        refine eseq_nil ?_
        obtain rfl := Option.some.inj ho783
        exact ⟨m783, _, Nat.lt_succ_self _, ⟨x1405, (w64 (x1012 + 1)), v1403, v1404, _, ht783, hS, f1396, f1397, f1398, rfl⟩, Sub.cons rfl (Sub.cons rfl (Sub.cons rfl (Sub.cons rfl (Sub.cons rfl (Sub.cons rfl (Sub.nil _))))))⟩
      refine e_loop (fun m_ E_ w1324 => ∃ (x1334 : (List (List Int))), ∃ (x1337 : Int), ∃ (v1332 : Value), ∃ (v1333 : List Value), ∃ (R1323 : Nat → Prop), iter (fun s => law22_LineMore_B2 fuel r734 x1012 r765 r773 s.1 s.2) m_ (x1334, x1337) = some tl1255 ∧ Sep F R R1323 w w1324 [HP.blk bl738 [v735, v736, v737] 32, HP.own Ty.raw (fun _ => False) 29 v766 v767, HP.famS Ty.int (fun _ => False) 3 v767 r765.1, HP.own Ty.raw (fun _ => False) 29 v774 v775, HP.famS Ty.int (fun _ => False) 3 v775 r773.1, HP.own Ty.raw (fun _ => False) 29 v1332 v1333, HP.famS Ty.int (fun _ => False) 3 v1333 x1334] ∧ IsSlice Ty.int w1324 R1323 v735 r734.1.lens ∧ IsSlice (Ty.slice Ty.int) w1324 R1323 v736 r734.1.ckpts ∧ IsSlice arcTy w1324 R1323 v737 r734.1.arcs ∧ E_ = [(7, .pointer (some ⟨bl738, 0, none⟩)), (8, v766), (9, v774), (10, v1332), (11, .int .i64 x1012), (12, .int .i64 x1337), (35, .int .i64 (x777.length : Int)), (36, .int .i64 x1012)]) _ ⟨_, ⟨x1009, 0, v1007, v1008, _, ht1255, hS, f1000, f1001, f1002, rfl⟩, Sub.cons rfl (Sub.cons rfl (Sub.cons rfl (Sub.cons rfl (Sub.cons rfl (Sub.cons rfl (Sub.cons rfl (Sub.cons rfl (Sub.nil _))))))))⟩ ?_
      clear ht1255 hS
      rintro m1255 _ w1324 ⟨x1334, x1337, v1332, v1333, R1323, ht1255, hS, f1325, f1326, f1327, rfl⟩
      obtain ⟨m1255, rfl, o1255, ho1255, ht1255⟩ := iter_some ht1255
      replace ho1255 : law22_LineMore_B2 fuel r734 x1012 r765 r773 x1334 x1337 = some o1255 := ho1255
      unfold law22_LineMore_B2 at ho1255
      refine e_seq fun K1408 hK1408 => ?_
      refine e_seq fun K1409 hK1409 => ?_
      refine e_region_text rfl ?_
      refine q_move rfl rfl ?_
      refine q_field rfl rfl ?_
      refine q_load rfl (Blk.cell (hS.blk 0 rfl) rfl) rfl ?_
      refine q_move rfl rfl ?_
      obtain ⟨x1410, hx1410, ho1255⟩ := Option.of_bind ho1255
      refine q_atS (by infer_instance) rfl f1325 rfl hx1410 rfl fun b1411 o1411 hm1411 f1411 => ?_
      refine q_load rfl (Elt.intCell f1411) rfl ?_
      refine q_leq rfl rfl rfl ?_
      refine eseq_nil ?_
      refine hK1409 _ _ ?_
      refine e_cond rfl (fun hc1412 => ?_) (fun hc1412 => ?_)
      · replace ho1255 := (if_pos hc1412).symm.trans ho1255
        refine e_skip ?_
        refine hK1408 _ _ ?_
        refine e_seq fun K1413 hK1413 => ?_
        refine e_block ?_
        refine e_seq fun K1414 hK1414 => ?_
        refine e_region_text rfl ?_
        refine q_move rfl rfl ?_
        refine q_move rfl rfl ?_
        obtain ⟨x1415, hx1415, ho1255⟩ := Option.of_bind ho1255
        have hax1415 := ati_nth (hS.famLen 2 rfl) hx1415
        refine q_indexO (T := Ty.raw) (by infer_instance) rfl (hS.own 1 rfl) rfl hax1415 rfl ?_
        refine q_load rfl (Elt.rawCell ((hS.own 1 rfl).elt hax1415)) rfl ?_
        refine q_move rfl rfl ?_
        obtain ⟨r1417, hr1417, ho1255⟩ := Option.of_bind ho1255
        refine q_call rfl (law22_in_w (Sep.all w1324) ((hS.famI 2 rfl hx1415)).old hr1417) rfl ?_
        rintro _ w1416 ⟨R1416, rfl, hC1416⟩
        have hB1416 : Below (World.heap w1324).size w1324 w1416 := hC1416.stepBF
        refine ⟨fun _ => .of_below hB1416, ?_⟩
        replace f1325 := f1325.ext hB1416
        replace f1326 := f1326.ext hB1416
        replace f1327 := f1327.ext hB1416
        replace hS := hS.below hB1416
        refine q_move rfl rfl ?_
        obtain ⟨x1424, hx1423, ho1255⟩ := Option.of_bind ho1255
        refine g_orM 6 hx1423 rfl trivial rfl rfl ?_ ?_ ?_
        · intro hg1423
          refine g_skip rfl rfl rfl ?_
          refine g_skip rfl rfl rfl ?_
          refine g_skip rfl rfl rfl ?_
          refine g_skip rfl rfl rfl ?_
          refine g_skip rfl rfl rfl ?_
          refine g_skip rfl rfl rfl ?_
          exact eseq_nil ⟨rfl, Sub.set rfl (Sub.set rfl (Sub.set rfl (Sub.set rfl (Sub.set rfl (Sub.set rfl (Sub.bool true rfl hg1423))))))⟩
        · intro hg1423 hx1423
          clear ho1255
          have hT1423 := Below.refl (World.heap w1416).size w1416
          refine g_run rfl ?_; refine q_move rfl rfl ?_
          refine g_run rfl ?_; refine q_move rfl rfl ?_
          obtain ⟨x1425, hx1425, hx1423⟩ := Option.of_bind hx1423
          have hax1425 := ati_nth (hS.famLen 4 rfl) hx1425
          refine g_run rfl ?_; refine q_indexO (T := Ty.raw) (by infer_instance) rfl (hS.own 3 rfl) rfl hax1425 rfl ?_
          refine g_run rfl ?_; refine q_load rfl (Elt.rawCell ((hS.own 3 rfl).elt hax1425)) rfl ?_
          refine g_run rfl ?_; refine q_move rfl rfl ?_
          obtain ⟨r1427, hr1427, hx1423⟩ := Option.of_bind hx1423
          refine g_run rfl ?_; refine q_call rfl (law22_in_w (Sep.all w1416) ((hS.famI 4 rfl hx1425)).old hr1427) rfl ?_
          rintro _ w1426 ⟨R1426, rfl, hC1426⟩
          have hB1426 : Below (World.heap w1416).size w1416 w1426 := hC1426.stepBF
          refine ⟨fun _ => .of_below hB1426, ?_⟩
          replace f1325 := f1325.ext hB1426
          replace f1326 := f1326.ext hB1426
          replace f1327 := f1327.ext hB1426
          replace hT1423 := hT1423.trans (Below.mono hB1426 hT1423.size)
          replace hS := hS.below hB1426
          cases hx1423
          exact eseq_nil ⟨hT1423, Sub.set rfl (Sub.set rfl (Sub.set rfl (Sub.set rfl (Sub.set rfl (Sub.set rfl (Sub.bool false rfl hg1423)))))), rfl⟩
        intro wm1423 hBm1423; clear hx1423
        replace hS := hS.below hBm1423
        replace f1325 := f1325.ext hBm1423
        replace f1326 := f1326.ext hBm1423
        replace f1327 := f1327.ext hBm1423
        refine eseq_nil ?_
        refine hK1414 _ _ ?_
        refine e_cond rfl (fun hc1428 => ?_) (fun hc1428 => ?_)
        · replace ho1255 := (if_pos hc1428).symm.trans ho1255
          refine e_region_text rfl ?_
          refine q_move rfl rfl ?_
          refine q_move rfl rfl ?_
          refine q_move rfl rfl ?_
          refine q_move rfl rfl ?_
          obtain ⟨x1429, hx1429, ho1255⟩ := Option.of_bind ho1255
          have hax1429 := ati_nth (hS.famLen 6 rfl) hx1429
          refine q_indexO (T := Ty.raw) (by infer_instance) rfl (hS.own 5 rfl) rfl hax1429 rfl ?_
          refine q_load rfl (Elt.rawCell ((hS.own 5 rfl).elt hax1429)) rfl ?_
          refine q_move rfl rfl ?_
          refine q_litO (T := Ty.int) (S := (fun _ => False)) (cells := [[.int .i64 x1337]]) (ys := [x1337]) ((Parts.cons rfl rfl Parts.nil)) rfl rfl rfl rfl rfl rfl rfl (fun w1 hB => ⟨rfl, trivial⟩) (fun _ h => h.elim) rfl fun w1430 v1430 ho1430 hv1430 hB1430 => ?_
          replace f1325 := f1325.ext hB1430
          replace f1326 := f1326.ext hB1430
          replace f1327 := f1327.ext hB1430
          replace hS := hS.newOwnS hB1430 ho1430 hv1430 (fun _ h => h.elim)
          obtain ⟨x1433, hx1433, ho1255⟩ := Option.of_bind ho1255
          obtain ⟨x1434, hx1434, ho1255⟩ := Option.of_bind ho1255
          refine q_catOwn (T := Ty.int) rfl rfl rfl rfl (hS.famO 7 rfl hx1429) rfl (hS.own 0 rfl) (fun _ h _ => h.elim) (snoc_cat hx1433) (Nat.zero_le _) rfl (fun h => by cases h) fun v1432 w1432 hw1432 hgr1432 hnw1432 => ?_
          have hk1432 := hS.famKeptM 7 rfl hx1429 hgr1432
          replace f1325 := f1325.kept hk1432
          replace f1326 := f1326.kept hk1432
          replace f1327 := f1327.kept hk1432
          replace hS := hS.famSetM 7 rfl hx1429 hx1434 hw1432 hgr1432 hnw1432; simp only [List.set] at hS
          obtain ⟨x1435, hx1435, ho1255⟩ := Option.of_bind ho1255
          have hax1435 := ati_nth (show v1333.length = _ by simpa using hS.famLen 7 rfl) hx1435
          refine q_indexO (T := Ty.raw) (by infer_instance) rfl (hS.own 6 rfl) rfl hax1435 rfl ?_
          refine q_storeO (T := Ty.raw) (j := 0) rfl rfl (hS.own 6 rfl) hax1435 (seti_ok hax1435) rfl hw1432.one rfl (rawSet hw1432.one) fun w1436 ho1436 hO1436 => ?_
          have hk1436 := hS.keptO 6 rfl hax1435 hO1436
          replace f1325 := f1325.kept hk1436
          replace f1326 := f1326.kept hk1436
          replace f1327 := f1327.kept hk1436
          replace hS := hS.putO 6 rfl hax1435 ho1436 hO1436; simp only [List.set] at hS
          refine eseq_nil ?_
          refine hK1413 _ _ ?_
          refine e_region_text rfl ?_
          refine q_move rfl rfl ?_
          refine q_addW rfl rfl rfl ?_
          refine q_assign rfl rfl ?_
          refine eseq_nil ?_
          obtain rfl := Option.some.inj ho1255
          exact ⟨m1255, _, Nat.lt_succ_self _, ⟨x1434, (w64 (x1337 + 1)), v1332, (v1333.set (x1012).toNat v1432), _, ht1255, (hS.pickB [1, 2, 3, 4, 5, 6, 7] 8 rfl rfl), f1325, f1326, f1327, rfl⟩, Sub.cons rfl (Sub.cons rfl (Sub.cons rfl (Sub.cons rfl (Sub.cons rfl (Sub.cons rfl (Sub.cons rfl (Sub.cons rfl (Sub.nil _))))))))⟩
        · replace ho1255 := (if_neg (not_true hc1428)).symm.trans ho1255
          refine e_skip ?_
          refine hK1413 _ _ ?_
          refine e_region_text rfl ?_
          refine q_move rfl rfl ?_
          refine q_addW rfl rfl rfl ?_
          refine q_assign rfl rfl ?_
          refine eseq_nil ?_
          obtain rfl := Option.some.inj ho1255
          exact ⟨m1255, _, Nat.lt_succ_self _, ⟨x1334, (w64 (x1337 + 1)), v1332, v1333, _, ht1255, hS, f1325, f1326, f1327, rfl⟩, Sub.cons rfl (Sub.cons rfl (Sub.cons rfl (Sub.cons rfl (Sub.cons rfl (Sub.cons rfl (Sub.cons rfl (Sub.cons rfl (Sub.nil _))))))))⟩
      · replace ho1255 := (if_neg (not_true hc1412)).symm.trans ho1255
        refine e_exit ?_
        obtain rfl := Option.some.inj ho1255
        obtain rfl := Option.some.inj ht1255
        exact hX1255_2 x1334 v1332 v1333 _ _ _ ho783 hS f1325 f1326 f1327 (Sub.cons rfl (Sub.cons rfl (Sub.cons rfl (Sub.cons rfl (Sub.cons rfl (Sub.cons rfl (Sub.nil _)))))))
    · replace ho783 := (if_neg (not_true hc1251)).symm.trans ho783
      refine e_exit ?_
      obtain rfl := Option.some.inj ho783
      obtain rfl := Option.some.inj ht783
      exact hX783_0 x1009 v1007 v1008 _ _ _ h (hS.pickB [0, 1, 2, 5, 6] 7 rfl rfl) f1000 f1001 f1002 (Sub.cons rfl (Sub.cons rfl (Sub.cons rfl (Sub.nil _))))
theorem law22_LineFails_w {F R : Nat → Prop} {w : World} {fuel : Nat} {a0 : (List Int)} {a1 : (List Int)} {a2 : Int} {v1 : Value} {v2 : Value} {r : (Bool)} (hS : Sep F R R w w []) (f1 : IsSlice Ty.u8 w R v1 a0) (f2 : IsSlice Ty.u8 w R v2 a1) (h : law22_LineFails fuel a0 a1 a2 = some r) :
    Gives Try.prog 5 [v1, v2, .int .i64 a2] w fun u w1 => ∃ (R1 : Nat → Prop), u = .bool r ∧ Sep F R R1 w w1 [] := by
  refine fn_of Try.func5 rfl Try.ntmps5 (Nat.le_of_ble_eq_true rfl) ?_
  unfold law22_LineFails at h
  refine e_seq fun K157 hK157 => ?_
  refine e_region_text rfl ?_
  refine q_assign rfl rfl ?_
  refine eseq_nil ?_
  refine hK157 _ _ ?_
  refine e_seq fun K158 hK158 => ?_
  refine e_seq fun K159 hK159 => ?_
  refine e_region_text rfl ?_
  obtain ⟨r161, hr161, h⟩ := Option.of_bind h
  refine q_call rfl (law22_awake_w (Sep.enter (As := []) hS)  hr161) rfl ?_
  rintro _ w160 ⟨R160, rfl, hC160⟩
  have hB160 : Below (World.heap w).size w w160 := hC160.stepB0
  refine ⟨fun _ => .of_below hB160, ?_⟩
  replace f1 := (f1.ext hB160).mono fun k hk _ => hC160.ro0 k hk
  replace f2 := (f2.ext hB160).mono fun k hk _ => hC160.ro0 k hk
  replace hS := Sep.leave (As := []) hS hC160; simp only [List.cons_append, List.nil_append] at hS
  refine q_not rfl rfl ?_
  refine eseq_nil ?_
  refine hK159 _ _ ?_
  refine e_cond rfl (fun hc162 => ?_) (fun hc162 => ?_)
  · replace h := (if_pos hc162).symm.trans h
    refine e_seq fun K163 hK163 => ?_
    refine e_region_text rfl ?_
    refine q_assign rfl rfl ?_
    refine eseq_nil ?_
    refine hK163 _ _ ?_
    refine e_ret ?_
    obtain rfl := Option.some.inj h
    exact ⟨_, res1 rfl rfl, _, rfl, hS⟩
  · replace h := (if_neg (not_true hc162)).symm.trans h
    refine e_skip ?_
    refine hK158 _ _ ?_
    refine e_seq fun K164 hK164 => ?_
    refine e_region_text rfl ?_
    refine q_move rfl rfl ?_
    obtain ⟨r166, hr166, h⟩ := Option.of_bind h
    refine q_call rfl (make_New_w (Sep.enter (As := []) hS) f1 hr166) rfl ?_
    rintro _ w165 ⟨B167, v168, R165, rfl, hC165, f168⟩
    have hB165 : Below (World.heap w160).size w160 w165 := hC165.stepB0
    refine ⟨fun _ => .of_below hB165, ?_⟩
    replace f2 := (f2.ext hB165).mono fun k hk _ => hC165.ro0 k hk
    replace f1 := (f1.ext hB165).mono fun k hk _ => hC165.ro0 k hk
    replace hS := Sep.leave (As := []) hS hC165; simp only [List.cons_append, List.nil_append] at hS
    obtain ⟨r170, hr170, h⟩ := Option.of_bind h
    refine q_call rfl (make_Codes_Pattern_w (Sep.enter (As := [_]) hS) f168 hr170) rfl ?_
    rintro _ w169 ⟨v171, v172, v173, R169, rfl, hC169, f171, f172⟩
    refine ⟨(fun h => by cases h), ?_⟩
    have hk169 := hC169.keptR (Sep.offFeet (As := [_]) hS)
    replace f2 := (f2.kept hk169).mono fun k hk _ => hC169.ro0 k hk
    replace f168 := (f168.kept hk169).mono fun k hk _ => hC169.ro0 k hk
    replace hS := Sep.leave (As := [_]) hS hC169; simp only [List.cons_append, List.nil_append] at hS
    refine q_allocB rfl fun w174 bl174 hg174 hb174 hB174 => ?_
    replace f2 := f2.ext hB174
    replace f171 := f171.ext hB174
    replace f172 := f172.ext hB174
    replace hS := hS.newBlk hB174 hg174 hb174
    refine q_storeAgg rfl rfl (hS.blk 0 rfl) rfl (Nat.le_of_ble_eq_true rfl) (all_cons f171.one (all_cons f172.one (all_cons (hS.own 2 rfl).one (all_nil)))) rfl rfl fun w176 hb176 hO176 => ?_
    simp only [setN, List.set, List.take, List.drop] at hb176
    have hk176 := hS.keptBlk 0 rfl hO176
    replace f2 := f2.kept hk176
    replace f171 := f171.kept hk176
    replace f172 := f172.kept hk176
    replace hS := hS.setBlk 0 rfl hb176 hO176; simp only [List.set] at hS
    refine eseq_nil ?_
    refine hK164 _ _ ?_
    refine e_seq fun K177 hK177 => ?_
    refine e_region_draw mixed (fun _ => False) [0, 1, 0, 4, 12, 31, 63] [1] [0, 2, 3, 4, 1, 5, 6] (by kernel_rfl) ?_
    refine q_move rfl rfl ?_
    refine q_field rfl rfl ?_
    refine q_load rfl (Blk.cell (hS.blk 0 rfl) rfl) rfl ?_
    refine q_lenS rfl f171 rfl ?_
    obtain ⟨r186, hr186, h⟩ := Option.of_bind h
    refine q_call rfl (make_New_w (Sep.enter (As := []) hS) f2 hr186) rfl ?_
    rintro _ w185 ⟨B187, v188, R185, rfl, hC185, f188⟩
    have hB185 : Below (World.heap w176).size w176 w185 := hC185.stepB0
    refine ⟨fun _ => .of_below hB185, ?_⟩
    replace f171 := (f171.ext hB185).mono fun k hk _ => hC185.ro0 k hk
    replace f172 := (f172.ext hB185).mono fun k hk _ => hC185.ro0 k hk
    replace f2 := (f2.ext hB185).mono fun k hk _ => hC185.ro0 k hk
    replace hS := Sep.leave (As := []) hS hC185; simp only [List.cons_append, List.nil_append] at hS
    obtain ⟨r190, hr190, h⟩ := Option.of_bind h
    refine q_call rfl (make_Codes_Procs_w (Sep.enter (As := [_]) hS) f188 hr190) rfl ?_
    rintro v191 w189 ⟨_, R189, rfl, hC189⟩
    refine ⟨(fun h => by cases h), ?_⟩
    have hk189 := hC189.keptR (Sep.offFeet (As := [_]) hS)
    replace f171 := (f171.kept hk189).mono fun k hk _ => hC189.ro0 k hk
    replace f172 := (f172.kept hk189).mono fun k hk _ => hC189.ro0 k hk
    replace f188 := (f188.kept hk189).mono fun k hk _ => hC189.ro0 k hk
    replace hS := Sep.leave (As := [_]) hS hC189; simp only [List.cons_append, List.nil_append] at hS
    refine q_assign rfl rfl ?_
    refine eseq_nil ?_
    refine hK177 _ _ ?_
    refine e_seq fun K192 hK192 => ?_
    refine e_region_text rfl ?_
    refine q_move rfl rfl ?_
    obtain ⟨r194, hr194, h⟩ := Option.of_bind h
    refine q_call rfl (make_Mod_w (Sep.enter (As := []) hS)  hr194) rfl ?_
    rintro _ w193 ⟨R193, rfl, hC193⟩
    have hB193 : Below (World.heap w189).size w189 w193 := hC193.stepB0
    refine ⟨fun _ => .of_below hB193, ?_⟩
    replace f171 := (f171.ext hB193).mono fun k hk _ => hC193.ro0 k hk
    replace f172 := (f172.ext hB193).mono fun k hk _ => hC193.ro0 k hk
    replace hS := Sep.leave (As := []) hS hC193; simp only [List.cons_append, List.nil_append] at hS
    refine q_subW rfl rfl rfl ?_
    refine q_assign rfl rfl ?_
    refine eseq_nil ?_
    refine hK192 _ _ ?_
    refine e_seq fun K195 hK195 => ?_
    refine e_region_draw mixed (fun _ => False) [0, 0, 3, 0, 0, 31, 63, 127, 255, 255, 1023, 255, 255, 8191, 16383, 32767, 65535, 131071, 131071, 524287, 131071, 131071, 4194303, 8388607, 16777215, 33554431, 67108863, 67108863, 268435455, 67108863, 67108863, 2147483647, 4294967295, 8589934591, 17179869183] [2, 10, 19, 28] [0, 1, 3, 4, 2, 5, 6, 7, 8, 9, 11, 12, 10, 13, 14, 15, 16, 17, 18, 20, 21, 19, 22, 23, 24, 25, 26, 27, 29, 30, 28, 31, 32, 33, 34] (by kernel_rfl) ?_
    refine q_loadAgg rfl (Blk.cellsAt (hS.blk 2 rfl) 0 3 rfl) rfl rfl ?_
    refine q_move rfl rfl ?_
    refine q_loadAgg rfl (Blk.cellsAt (hS.blk 2 rfl) 0 3 rfl) rfl rfl ?_
    refine q_move rfl rfl ?_
    obtain ⟨R239, hS, hm239, f239⟩ := hS.freezeOwn 4 rfl; simp only [List.eraseIdx] at hS
    replace f171 := f171.mono fun k hk _ => hm239 k hk
    replace f172 := f172.mono fun k hk _ => hm239 k hk
    obtain ⟨R240, hS, hm240, f240⟩ := hS.freezeOwn 1 rfl; simp only [List.eraseIdx] at hS
    replace f171 := f171.mono fun k hk _ => hm240 k hk
    replace f172 := f172.mono fun k hk _ => hm240 k hk
    replace f239 := f239.mono fun k hk _ => hm240 k hk
    obtain ⟨r241, hr241, h⟩ := Option.of_bind h
    refine q_call rfl (line_Allowed_w (a0 := (⟨r170.1.lens, r170.1.ckpts, r170.1.arcs⟩ : Pat)) (Sep.enter (As := []) hS) f171 f172 f239 f240 hr241) rfl ?_
    rintro v242 w238 ⟨_, v243, R238, rfl, hC238⟩
    have hB238 : Below (World.heap w193).size w193 w238 := hC238.stepB0
    refine ⟨fun _ => .of_below hB238, ?_⟩
    replace f171 := (f171.ext hB238).mono fun k hk _ => hC238.ro0 k hk
    replace f172 := (f172.ext hB238).mono fun k hk _ => hC238.ro0 k hk
    replace f239 := (f239.ext hB238).mono fun k hk _ => hC238.ro0 k hk
    replace f240 := (f240.ext hB238).mono fun k hk _ => hC238.ro0 k hk
    replace hS := Sep.leave (As := []) hS hC238; simp only [List.cons_append, List.nil_append] at hS
    obtain ⟨r245, hr245, h⟩ := Option.of_bind h
    refine q_call rfl (ref22_Allowed_w (a0 := (⟨r170.1.lens, r170.1.ckpts, r170.1.arcs⟩ : Pat)) (Sep.enter (As := []) hS) f171 f172 f239 f240 hr245) rfl ?_
    rintro v246 w244 ⟨_, v247, R244, rfl, hC244⟩
    have hB244 : Below (World.heap w238).size w238 w244 := hC244.stepB0
    refine ⟨fun _ => .of_below hB244, ?_⟩
    replace f171 := (f171.ext hB244).mono fun k hk _ => hC244.ro0 k hk
    replace f172 := (f172.ext hB244).mono fun k hk _ => hC244.ro0 k hk
    replace f239 := (f239.ext hB244).mono fun k hk _ => hC244.ro0 k hk
    replace f240 := (f240.ext hB244).mono fun k hk _ => hC244.ro0 k hk
    replace hS := Sep.leave (As := []) hS hC244; simp only [List.cons_append, List.nil_append] at hS
    obtain ⟨r249, hr249, h⟩ := Option.of_bind h
    refine q_call rfl (ref22_SameLists_w (Sep.all w244) ((hS.rowsI 2 3 rfl rfl (by decide))).old ((hS.rowsI 0 1 rfl rfl (by decide))).old hr249) rfl ?_
    rintro _ w248 ⟨R248, rfl, hC248⟩
    have hB248 : Below (World.heap w244).size w244 w248 := hC248.stepBF
    refine ⟨fun _ => .of_below hB248, ?_⟩
    replace f171 := f171.ext hB248
    replace f172 := f172.ext hB248
    replace f239 := f239.ext hB248
    replace f240 := f240.ext hB248
    replace hS := hS.below hB248
    refine q_move rfl rfl ?_
    obtain ⟨x261, hx260, h⟩ := Option.of_bind h
    refine g_andM 7 hx260 rfl trivial rfl rfl ?_ ?_ ?_
    · intro hg260 hx260
      clear h
      have hT260 := Below.refl (World.heap w248).size w248
      refine g_run rfl ?_; refine q_loadAgg rfl (Blk.cellsAt (hS.blk 5 rfl) 0 3 rfl) rfl rfl ?_
      refine g_run rfl ?_; refine q_move rfl rfl ?_
      refine g_run rfl ?_; refine q_loadAgg rfl (Blk.cellsAt (hS.blk 5 rfl) 0 3 rfl) rfl rfl ?_
      refine g_run rfl ?_; refine q_move rfl rfl ?_
      obtain ⟨r263, hr263, hx260⟩ := Option.of_bind hx260
      refine g_run rfl ?_; refine q_call rfl (line_Failure_w (a0 := (⟨r170.1.lens, r170.1.ckpts, r170.1.arcs⟩ : Pat)) (Sep.enter (As := []) hS) f171 f172 f239 f240 hr263) rfl ?_
      rintro v264 w262 ⟨_, R262, rfl, hC262⟩
      have hB262 : Below (World.heap w248).size w248 w262 := hC262.stepB0
      refine ⟨fun _ => .of_below hB262, ?_⟩
      replace f171 := (f171.ext hB262).mono fun k hk _ => hC262.ro0 k hk
      replace f172 := (f172.ext hB262).mono fun k hk _ => hC262.ro0 k hk
      replace f239 := (f239.ext hB262).mono fun k hk _ => hC262.ro0 k hk
      replace f240 := (f240.ext hB262).mono fun k hk _ => hC262.ro0 k hk
      replace hT260 := hT260.trans (Below.mono hB262 hT260.size)
      replace hS := Sep.leave (As := []) hS hC262; simp only [List.cons_append, List.nil_append] at hS
      obtain ⟨r266, hr266, hx260⟩ := Option.of_bind hx260
      refine g_run rfl ?_; refine q_call rfl (ref22_Failure_w (a0 := (⟨r170.1.lens, r170.1.ckpts, r170.1.arcs⟩ : Pat)) (Sep.enter (As := []) hS) f171 f172 f239 f240 hr266) rfl ?_
      rintro v267 w265 ⟨_, R265, rfl, hC265⟩
      have hB265 : Below (World.heap w262).size w262 w265 := hC265.stepB0
      refine ⟨fun _ => .of_below hB265, ?_⟩
      replace f171 := (f171.ext hB265).mono fun k hk _ => hC265.ro0 k hk
      replace f172 := (f172.ext hB265).mono fun k hk _ => hC265.ro0 k hk
      replace f239 := (f239.ext hB265).mono fun k hk _ => hC265.ro0 k hk
      replace f240 := (f240.ext hB265).mono fun k hk _ => hC265.ro0 k hk
      replace hT260 := hT260.trans (Below.mono hB265 hT260.size)
      replace hS := Sep.leave (As := []) hS hC265; simp only [List.cons_append, List.nil_append] at hS
      obtain ⟨r269, hr269, hx260⟩ := Option.of_bind hx260
      refine g_run rfl ?_; refine q_call rfl (ref03_SameInts_w (Sep.all w265) ((hS.isl 1 rfl)).old ((hS.isl 0 rfl)).old hr269) rfl ?_
      rintro _ w268 ⟨R268, rfl, hC268⟩
      have hB268 : Below (World.heap w265).size w265 w268 := hC268.stepBF
      refine ⟨fun _ => .of_below hB268, ?_⟩
      replace f171 := f171.ext hB268
      replace f172 := f172.ext hB268
      replace f239 := f239.ext hB268
      replace hT260 := hT260.trans (Below.mono hB268 hT260.size)
      replace hS := hS.below hB268
      cases hx260
      exact eseq_nil ⟨hT260, Sub.set rfl (Sub.set rfl (Sub.set rfl (Sub.set rfl (Sub.set rfl (Sub.set rfl (Sub.set rfl (Sub.bool true rfl hg260))))))), rfl⟩
    · intro hg260
      refine g_skip rfl rfl rfl ?_
      refine g_skip rfl rfl rfl ?_
      refine g_skip rfl rfl rfl ?_
      refine g_skip rfl rfl rfl ?_
      refine g_skip rfl rfl rfl ?_
      refine g_skip rfl rfl rfl ?_
      refine g_skip rfl rfl rfl ?_
      exact eseq_nil ⟨rfl, Sub.set rfl (Sub.set rfl (Sub.set rfl (Sub.set rfl (Sub.set rfl (Sub.set rfl (Sub.set rfl (Sub.bool false rfl hg260)))))))⟩
    intro wm260 hBm260; clear hx260
    replace hS := hS.below hBm260
    replace f171 := f171.ext hBm260
    replace f172 := f172.ext hBm260
    replace f239 := f239.ext hBm260
    refine q_move rfl rfl ?_
    obtain ⟨x281, hx280, h⟩ := Option.of_bind h
    refine g_andM 7 hx280 rfl trivial rfl rfl ?_ ?_ ?_
    · intro hg280 hx280
      clear h
      have hT280 := Below.refl (World.heap wm260).size wm260
      refine g_run rfl ?_; refine q_loadAgg rfl (Blk.cellsAt (hS.blk 5 rfl) 0 3 rfl) rfl rfl ?_
      refine g_run rfl ?_; refine q_move rfl rfl ?_
      refine g_run rfl ?_; refine q_loadAgg rfl (Blk.cellsAt (hS.blk 5 rfl) 0 3 rfl) rfl rfl ?_
      refine g_run rfl ?_; refine q_move rfl rfl ?_
      obtain ⟨r283, hr283, hx280⟩ := Option.of_bind hx280
      refine g_run rfl ?_; refine q_call rfl (line_Safe_w (a0 := (⟨r170.1.lens, r170.1.ckpts, r170.1.arcs⟩ : Pat)) (Sep.enter (As := []) hS) f171 f172 f239 hr283) rfl ?_
      rintro v284 w282 ⟨_, R282, rfl, hC282⟩
      have hB282 : Below (World.heap wm260).size wm260 w282 := hC282.stepB0
      refine ⟨fun _ => .of_below hB282, ?_⟩
      replace f171 := (f171.ext hB282).mono fun k hk _ => hC282.ro0 k hk
      replace f172 := (f172.ext hB282).mono fun k hk _ => hC282.ro0 k hk
      replace f239 := (f239.ext hB282).mono fun k hk _ => hC282.ro0 k hk
      replace hT280 := hT280.trans (Below.mono hB282 hT280.size)
      replace hS := Sep.leave (As := []) hS hC282; simp only [List.cons_append, List.nil_append] at hS
      obtain ⟨r286, hr286, hx280⟩ := Option.of_bind hx280
      refine g_run rfl ?_; refine q_call rfl (ref22_Safe_w (a0 := (⟨r170.1.lens, r170.1.ckpts, r170.1.arcs⟩ : Pat)) (Sep.enter (As := []) hS) f171 f172 f239 hr286) rfl ?_
      rintro v287 w285 ⟨_, R285, rfl, hC285⟩
      have hB285 : Below (World.heap w282).size w282 w285 := hC285.stepB0
      refine ⟨fun _ => .of_below hB285, ?_⟩
      replace f171 := (f171.ext hB285).mono fun k hk _ => hC285.ro0 k hk
      replace f172 := (f172.ext hB285).mono fun k hk _ => hC285.ro0 k hk
      replace f239 := (f239.ext hB285).mono fun k hk _ => hC285.ro0 k hk
      replace hT280 := hT280.trans (Below.mono hB285 hT280.size)
      replace hS := Sep.leave (As := []) hS hC285; simp only [List.cons_append, List.nil_append] at hS
      obtain ⟨r289, hr289, hx280⟩ := Option.of_bind hx280
      refine g_run rfl ?_; refine q_call rfl (ref03_SameInts_w (Sep.all w285) ((hS.isl 1 rfl)).old ((hS.isl 0 rfl)).old hr289) rfl ?_
      rintro _ w288 ⟨R288, rfl, hC288⟩
      have hB288 : Below (World.heap w285).size w285 w288 := hC288.stepBF
      refine ⟨fun _ => .of_below hB288, ?_⟩
      replace f171 := f171.ext hB288
      replace f172 := f172.ext hB288
      replace f239 := f239.ext hB288
      replace hT280 := hT280.trans (Below.mono hB288 hT280.size)
      replace hS := hS.below hB288
      cases hx280
      exact eseq_nil ⟨hT280, Sub.set rfl (Sub.set rfl (Sub.set rfl (Sub.set rfl (Sub.set rfl (Sub.set rfl (Sub.set rfl (Sub.bool true rfl hg280))))))), rfl⟩
    · intro hg280
      refine g_skip rfl rfl rfl ?_
      refine g_skip rfl rfl rfl ?_
      refine g_skip rfl rfl rfl ?_
      refine g_skip rfl rfl rfl ?_
      refine g_skip rfl rfl rfl ?_
      refine g_skip rfl rfl rfl ?_
      refine g_skip rfl rfl rfl ?_
      exact eseq_nil ⟨rfl, Sub.set rfl (Sub.set rfl (Sub.set rfl (Sub.set rfl (Sub.set rfl (Sub.set rfl (Sub.set rfl (Sub.bool false rfl hg280)))))))⟩
    intro wm280 hBm280; clear hx280
    replace hS := hS.below hBm280
    replace f171 := f171.ext hBm280
    replace f172 := f172.ext hBm280
    replace f239 := f239.ext hBm280
    refine q_move rfl rfl ?_
    obtain ⟨x301, hx300, h⟩ := Option.of_bind h
    refine g_andM 7 hx300 rfl trivial rfl rfl ?_ ?_ ?_
    · intro hg300 hx300
      clear h
      have hT300 := Below.refl (World.heap wm280).size wm280
      refine g_run rfl ?_; refine q_loadAgg rfl (Blk.cellsAt (hS.blk 5 rfl) 0 3 rfl) rfl rfl ?_
      refine g_run rfl ?_; refine q_move rfl rfl ?_
      refine g_run rfl ?_; refine q_loadAgg rfl (Blk.cellsAt (hS.blk 5 rfl) 0 3 rfl) rfl rfl ?_
      refine g_run rfl ?_; refine q_move rfl rfl ?_
      obtain ⟨r303, hr303, hx300⟩ := Option.of_bind hx300
      refine g_run rfl ?_; refine q_call rfl (line_Safe_w (a0 := (⟨r170.1.lens, r170.1.ckpts, r170.1.arcs⟩ : Pat)) (Sep.enter (As := []) hS) f171 f172 f239 hr303) rfl ?_
      rintro v304 w302 ⟨_, R302, rfl, hC302⟩
      have hB302 : Below (World.heap wm280).size wm280 w302 := hC302.stepB0
      refine ⟨fun _ => .of_below hB302, ?_⟩
      replace f171 := (f171.ext hB302).mono fun k hk _ => hC302.ro0 k hk
      replace f172 := (f172.ext hB302).mono fun k hk _ => hC302.ro0 k hk
      replace f239 := (f239.ext hB302).mono fun k hk _ => hC302.ro0 k hk
      replace hT300 := hT300.trans (Below.mono hB302 hT300.size)
      replace hS := Sep.leave (As := []) hS hC302; simp only [List.cons_append, List.nil_append] at hS
      obtain ⟨r306, hr306, hx300⟩ := Option.of_bind hx300
      refine g_run rfl ?_; refine q_call rfl (ref22_Safe_w (a0 := (⟨r170.1.lens, r170.1.ckpts, r170.1.arcs⟩ : Pat)) (Sep.enter (As := []) hS) f171 f172 f239 hr306) rfl ?_
      rintro v307 w305 ⟨_, R305, rfl, hC305⟩
      have hB305 : Below (World.heap w302).size w302 w305 := hC305.stepB0
      refine ⟨fun _ => .of_below hB305, ?_⟩
      replace f171 := (f171.ext hB305).mono fun k hk _ => hC305.ro0 k hk
      replace f172 := (f172.ext hB305).mono fun k hk _ => hC305.ro0 k hk
      replace f239 := (f239.ext hB305).mono fun k hk _ => hC305.ro0 k hk
      replace hT300 := hT300.trans (Below.mono hB305 hT300.size)
      replace hS := Sep.leave (As := []) hS hC305; simp only [List.cons_append, List.nil_append] at hS
      obtain ⟨r309, hr309, hx300⟩ := Option.of_bind hx300
      refine g_run rfl ?_; refine q_call rfl (ref03_SameInts_w (Sep.all w305) ((hS.isl 1 rfl)).old ((hS.isl 0 rfl)).old hr309) rfl ?_
      rintro _ w308 ⟨R308, rfl, hC308⟩
      have hB308 : Below (World.heap w305).size w305 w308 := hC308.stepBF
      refine ⟨fun _ => .of_below hB308, ?_⟩
      replace hT300 := hT300.trans (Below.mono hB308 hT300.size)
      replace hS := hS.below hB308
      cases hx300
      exact eseq_nil ⟨hT300, Sub.set rfl (Sub.set rfl (Sub.set rfl (Sub.set rfl (Sub.set rfl (Sub.set rfl (Sub.set rfl (Sub.bool true rfl hg300))))))), rfl⟩
    · intro hg300
      refine g_skip rfl rfl rfl ?_
      refine g_skip rfl rfl rfl ?_
      refine g_skip rfl rfl rfl ?_
      refine g_skip rfl rfl rfl ?_
      refine g_skip rfl rfl rfl ?_
      refine g_skip rfl rfl rfl ?_
      refine g_skip rfl rfl rfl ?_
      exact eseq_nil ⟨rfl, Sub.set rfl (Sub.set rfl (Sub.set rfl (Sub.set rfl (Sub.set rfl (Sub.set rfl (Sub.set rfl (Sub.bool false rfl hg300)))))))⟩
    intro wm300 hBm300; clear hx300
    replace hS := hS.below hBm300
    refine q_assign rfl rfl ?_
    refine eseq_nil ?_
    refine hK195 _ _ ?_
    refine e_ret ?_
    obtain rfl := Option.some.inj h
    exact ⟨_, res1 rfl rfl, _, rfl, (hS.pickB [] 7 rfl rfl)⟩
theorem law22_LineMeets_w {F R : Nat → Prop} {w : World} {fuel : Nat} {a0 : (List Int)} {a1 : (List Int)} {a2 : Int} {v1 : Value} {v2 : Value} {r : (Bool)} (hS : Sep F R R w w []) (f1 : IsSlice Ty.u8 w R v1 a0) (f2 : IsSlice Ty.u8 w R v2 a1) (h : law22_LineMeets fuel a0 a1 a2 = some r) :
    Gives Try.prog 6 [v1, v2, .int .u8 a2] w fun u w1 => ∃ (R1 : Nat → Prop), u = .bool r ∧ Sep F R R1 w w1 [] := by
  refine fn_of Try.func6 rfl Try.ntmps6 (Nat.le_of_ble_eq_true rfl) ?_
  unfold law22_LineMeets at h
  refine e_seq fun K281 hK281 => ?_
  refine e_region_text rfl ?_
  refine q_assign rfl rfl ?_
  refine eseq_nil ?_
  refine hK281 _ _ ?_
  refine e_seq fun K282 hK282 => ?_
  refine e_seq fun K283 hK283 => ?_
  refine e_region_text rfl ?_
  obtain ⟨r285, hr285, h⟩ := Option.of_bind h
  refine q_call rfl (law22_awake_w (Sep.enter (As := []) hS)  hr285) rfl ?_
  rintro _ w284 ⟨R284, rfl, hC284⟩
  have hB284 : Below (World.heap w).size w w284 := hC284.stepB0
  refine ⟨fun _ => .of_below hB284, ?_⟩
  replace f1 := (f1.ext hB284).mono fun k hk _ => hC284.ro0 k hk
  replace f2 := (f2.ext hB284).mono fun k hk _ => hC284.ro0 k hk
  replace hS := Sep.leave (As := []) hS hC284; simp only [List.cons_append, List.nil_append] at hS
  refine q_not rfl rfl ?_
  refine eseq_nil ?_
  refine hK283 _ _ ?_
  refine e_cond rfl (fun hc286 => ?_) (fun hc286 => ?_)
  · replace h := (if_pos hc286).symm.trans h
    refine e_seq fun K287 hK287 => ?_
    refine e_region_text rfl ?_
    refine q_assign rfl rfl ?_
    refine eseq_nil ?_
    refine hK287 _ _ ?_
    refine e_ret ?_
    obtain rfl := Option.some.inj h
    exact ⟨_, res1 rfl rfl, _, rfl, hS⟩
  · replace h := (if_neg (not_true hc286)).symm.trans h
    refine e_skip ?_
    refine hK282 _ _ ?_
    refine e_seq fun K288 hK288 => ?_
    refine e_region_text rfl ?_
    refine q_move rfl rfl ?_
    obtain ⟨r290, hr290, h⟩ := Option.of_bind h
    refine q_call rfl (make_New_w (Sep.enter (As := []) hS) f1 hr290) rfl ?_
    rintro _ w289 ⟨B291, v292, R289, rfl, hC289, f292⟩
    have hB289 : Below (World.heap w284).size w284 w289 := hC289.stepB0
    refine ⟨fun _ => .of_below hB289, ?_⟩
    replace f2 := (f2.ext hB289).mono fun k hk _ => hC289.ro0 k hk
    replace f1 := (f1.ext hB289).mono fun k hk _ => hC289.ro0 k hk
    replace hS := Sep.leave (As := []) hS hC289; simp only [List.cons_append, List.nil_append] at hS
    obtain ⟨r294, hr294, h⟩ := Option.of_bind h
    refine q_call rfl (make_Codes_Pattern_w (Sep.enter (As := [_]) hS) f292 hr294) rfl ?_
    rintro _ w293 ⟨v295, v296, v297, R293, rfl, hC293, f295, f296⟩
    refine ⟨(fun h => by cases h), ?_⟩
    have hk293 := hC293.keptR (Sep.offFeet (As := [_]) hS)
    replace f2 := (f2.kept hk293).mono fun k hk _ => hC293.ro0 k hk
    replace f292 := (f292.kept hk293).mono fun k hk _ => hC293.ro0 k hk
    replace hS := Sep.leave (As := [_]) hS hC293; simp only [List.cons_append, List.nil_append] at hS
    refine q_allocB rfl fun w298 bl298 hg298 hb298 hB298 => ?_
    replace f2 := f2.ext hB298
    replace f295 := f295.ext hB298
    replace f296 := f296.ext hB298
    replace hS := hS.newBlk hB298 hg298 hb298
    refine q_storeAgg rfl rfl (hS.blk 0 rfl) rfl (Nat.le_of_ble_eq_true rfl) (all_cons f295.one (all_cons f296.one (all_cons (hS.own 2 rfl).one (all_nil)))) rfl rfl fun w300 hb300 hO300 => ?_
    simp only [setN, List.set, List.take, List.drop] at hb300
    have hk300 := hS.keptBlk 0 rfl hO300
    replace f2 := f2.kept hk300
    replace f295 := f295.kept hk300
    replace f296 := f296.kept hk300
    replace hS := hS.setBlk 0 rfl hb300 hO300; simp only [List.set] at hS
    refine eseq_nil ?_
    refine hK288 _ _ ?_
    refine e_seq fun K301 hK301 => ?_
    refine e_region_draw mixed (fun _ => False) [0, 1, 0, 4, 12, 31, 63] [1] [0, 2, 3, 4, 1, 5, 6] (by kernel_rfl) ?_
    refine q_move rfl rfl ?_
    refine q_field rfl rfl ?_
    refine q_load rfl (Blk.cell (hS.blk 0 rfl) rfl) rfl ?_
    refine q_lenS rfl f295 rfl ?_
    obtain ⟨r310, hr310, h⟩ := Option.of_bind h
    refine q_call rfl (make_New_w (Sep.enter (As := []) hS) f2 hr310) rfl ?_
    rintro _ w309 ⟨B311, v312, R309, rfl, hC309, f312⟩
    have hB309 : Below (World.heap w300).size w300 w309 := hC309.stepB0
    refine ⟨fun _ => .of_below hB309, ?_⟩
    replace f295 := (f295.ext hB309).mono fun k hk _ => hC309.ro0 k hk
    replace f296 := (f296.ext hB309).mono fun k hk _ => hC309.ro0 k hk
    replace f2 := (f2.ext hB309).mono fun k hk _ => hC309.ro0 k hk
    replace hS := Sep.leave (As := []) hS hC309; simp only [List.cons_append, List.nil_append] at hS
    obtain ⟨r314, hr314, h⟩ := Option.of_bind h
    refine q_call rfl (make_Codes_Procs_w (Sep.enter (As := [_]) hS) f312 hr314) rfl ?_
    rintro v315 w313 ⟨_, R313, rfl, hC313⟩
    refine ⟨(fun h => by cases h), ?_⟩
    have hk313 := hC313.keptR (Sep.offFeet (As := [_]) hS)
    replace f295 := (f295.kept hk313).mono fun k hk _ => hC313.ro0 k hk
    replace f296 := (f296.kept hk313).mono fun k hk _ => hC313.ro0 k hk
    replace f312 := (f312.kept hk313).mono fun k hk _ => hC313.ro0 k hk
    replace hS := Sep.leave (As := [_]) hS hC313; simp only [List.cons_append, List.nil_append] at hS
    refine q_assign rfl rfl ?_
    refine eseq_nil ?_
    refine hK301 _ _ ?_
    refine e_seq fun K316 hK316 => ?_
    refine e_region_draw mixed (fun _ => False) [0, 1, 0, 4, 3, 31] [] [0, 1, 2, 3, 4, 5] (by kernel_rfl) ?_
    refine q_field rfl rfl ?_
    refine q_load rfl (Blk.cell (hS.blk 2 rfl) rfl) rfl ?_
    refine q_field rfl rfl ?_
    refine q_load rfl (Blk.cell (hS.blk 2 rfl) rfl) rfl ?_
    refine q_assign rfl rfl ?_
    refine q_assign rfl rfl ?_
    refine eseq_nil ?_
    refine hK316 _ _ ?_
    refine e_seq fun K317 hK317 => ?_
    refine e_seq fun K318 hK318 => ?_
    refine e_region_text rfl ?_
    refine q_field rfl rfl ?_
    refine q_load rfl (Blk.cell (hS.blk 2 rfl) rfl) rfl ?_
    refine q_lenS rfl f295 rfl ?_
    refine q_move rfl rfl ?_
    refine eseq_nil ?_
    refine hK318 _ _ ?_
    refine e_block ?_
    obtain ⟨tl319, ht319, h⟩ := Option.of_bind h
    have hX319_0 : ∀ (x456 : (List Int)) (x459 : (List Int)) (v455 : Value) (v458 : Value) (R449 : Nat → Prop) (w450 : World) (E_ : Env), law22_LineMeets_K1 fuel a2 r294 r314 x456 x459 = some r → Sep F R R449 w w450 [HP.blk bl298 [v295, v296, v297] 32, HP.own arcTy (fun _ => False) 58 v297 r294.1.arcs, HP.own Ty.int (fun _ => False) 3 v315 r314.1] → IsSlice Ty.int w450 R449 v295 r294.1.lens → IsSlice (Ty.slice Ty.int) w450 R449 v296 r294.1.ckpts → IsSlice Ty.int w450 R449 v455 x456 → IsSlice Ty.int w450 R449 v458 x459 → Sub [(2, .int .u8 a2), (7, .pointer (some ⟨bl298, 0, none⟩)), (8, v315), (9, v455), (10, v458)] E_ → K317 E_ w450 := by
      intro x456 x459 v455 v458 R449 w450 E_ h hS f451 f452 f457 f460 hsub
      refine hK317 _ _ (e_sub hsub ?_); clear hsub
      unfold law22_LineMeets_K1 at h
      refine e_seq fun K461 hK461 => ?_
      refine e_region_text rfl ?_
      refine q_move rfl rfl ?_
      refine q_conv64 rfl rfl ?_
      obtain ⟨x462, hx462, h⟩ := Option.of_bind h
      refine q_remM rfl rfl hx462 rfl ?_
      refine q_addW rfl rfl rfl ?_
      refine q_assign rfl rfl ?_
      refine eseq_nil ?_
      refine hK461 _ _ ?_
      refine e_seq fun K463 hK463 => ?_
      refine e_region_draw mixed (fun _ => False) [0, 0, 3, 0, 15, 31, 63, 63, 255, 63, 1023, 2047, 4095, 8191, 16383, 8191, 40959, 131071, 262143, 524287] [14] [0, 1, 3, 2, 4, 5, 6, 7, 9, 8, 10, 11, 12, 13, 15, 16, 14, 17, 18, 19] (by kernel_rfl) ?_
      refine q_loadAgg rfl (Blk.cellsAt (hS.blk 0 rfl) 0 3 rfl) rfl rfl ?_
      refine q_move rfl rfl ?_
      refine q_move rfl rfl ?_
      obtain ⟨r484, hr484, h⟩ := Option.of_bind h
      refine q_call rfl (line_Failure_w (a0 := (⟨r294.1.lens, r294.1.ckpts, r294.1.arcs⟩ : Pat)) (Sep.all w450) (f451).old (f452).old ((hS.isl 1 rfl)).old ((hS.isl 2 rfl)).old hr484) rfl ?_
      rintro v485 w483 ⟨_, R483, rfl, hC483⟩
      have hB483 : Below (World.heap w450).size w450 w483 := hC483.stepBF
      refine ⟨fun _ => .of_below hB483, ?_⟩
      replace f451 := f451.ext hB483
      replace f452 := f452.ext hB483
      replace f460 := f460.ext hB483
      replace f457 := f457.ext hB483
      replace hS := hS.newOwnS hB483 (hC483.own 0 rfl) (hC483.fresh 0 rfl) (fun _ h => h.elim)
      obtain ⟨r487, hr487, h⟩ := Option.of_bind h
      refine q_call rfl (ref03_SameInts_w (Sep.all w483) ((hS.isl 0 rfl)).old (f457).old hr487) rfl ?_
      rintro _ w486 ⟨R486, rfl, hC486⟩
      have hB486 : Below (World.heap w483).size w483 w486 := hC486.stepBF
      refine ⟨fun _ => .of_below hB486, ?_⟩
      replace f451 := f451.ext hB486
      replace f452 := f452.ext hB486
      replace f460 := f460.ext hB486
      replace f457 := f457.ext hB486
      replace hS := hS.below hB486
      refine q_move rfl rfl ?_
      obtain ⟨x496, hx495, h⟩ := Option.of_bind h
      refine g_andM 5 hx495 rfl trivial rfl rfl ?_ ?_ ?_
      · intro hg495 hx495
        clear h
        have hT495 := Below.refl (World.heap w486).size w486
        refine g_run rfl ?_; refine q_loadAgg rfl (Blk.cellsAt (hS.blk 1 rfl) 0 3 rfl) rfl rfl ?_
        refine g_run rfl ?_; refine q_move rfl rfl ?_
        refine g_run rfl ?_; refine q_move rfl rfl ?_
        obtain ⟨r498, hr498, hx495⟩ := Option.of_bind hx495
        refine g_run rfl ?_; refine q_call rfl (line_Safe_w (a0 := (⟨r294.1.lens, r294.1.ckpts, r294.1.arcs⟩ : Pat)) (Sep.all w486) (f451).old (f452).old ((hS.isl 2 rfl)).old hr498) rfl ?_
        rintro v499 w497 ⟨_, R497, rfl, hC497⟩
        have hB497 : Below (World.heap w486).size w486 w497 := hC497.stepBF
        refine ⟨fun _ => .of_below hB497, ?_⟩
        replace f451 := f451.ext hB497
        replace f452 := f452.ext hB497
        replace f460 := f460.ext hB497
        replace hT495 := hT495.trans (Below.mono hB497 hT495.size)
        replace hS := hS.newOwnS hB497 (hC497.own 0 rfl) (hC497.fresh 0 rfl) (fun _ h => h.elim)
        obtain ⟨r501, hr501, hx495⟩ := Option.of_bind hx495
        refine g_run rfl ?_; refine q_call rfl (ref03_SameInts_w (Sep.all w497) ((hS.isl 0 rfl)).old (f460).old hr501) rfl ?_
        rintro _ w500 ⟨R500, rfl, hC500⟩
        have hB500 : Below (World.heap w497).size w497 w500 := hC500.stepBF
        refine ⟨fun _ => .of_below hB500, ?_⟩
        replace f451 := f451.ext hB500
        replace f452 := f452.ext hB500
        replace f460 := f460.ext hB500
        replace hT495 := hT495.trans (Below.mono hB500 hT495.size)
        replace hS := hS.below hB500
        cases hx495
        exact eseq_nil ⟨hT495, Sub.set rfl (Sub.set rfl (Sub.set rfl (Sub.set rfl (Sub.set rfl (Sub.bool true rfl hg495))))), rfl⟩
      · intro hg495
        refine g_skip rfl rfl rfl ?_
        refine g_skip rfl rfl rfl ?_
        refine g_skip rfl rfl rfl ?_
        refine g_skip rfl rfl rfl ?_
        refine g_skip rfl rfl rfl ?_
        exact eseq_nil ⟨rfl, Sub.set rfl (Sub.set rfl (Sub.set rfl (Sub.set rfl (Sub.set rfl (Sub.bool false rfl hg495)))))⟩
      intro wm495 hBm495; clear hx495
      replace hS := hS.below hBm495
      replace f451 := f451.ext hBm495
      replace f452 := f452.ext hBm495
      refine q_move rfl rfl ?_
      obtain ⟨x510, hx509, h⟩ := Option.of_bind h
      refine g_andM 5 hx509 rfl trivial rfl rfl ?_ ?_ ?_
      · intro hg509 hx509
        clear h
        have hT509 := Below.refl (World.heap wm495).size wm495
        refine g_run rfl ?_; refine q_loadAgg rfl (Blk.cellsAt (hS.blk 1 rfl) 0 3 rfl) rfl rfl ?_
        refine g_run rfl ?_; refine q_field rfl rfl ?_
        refine g_run rfl ?_; refine q_load rfl (Blk.cell (hS.blk 1 rfl) rfl) rfl ?_
        obtain ⟨r512, hr512, hx509⟩ := Option.of_bind hx509
        refine g_run rfl ?_; refine q_call rfl (line_Safe_w (a0 := (⟨r294.1.lens, r294.1.ckpts, r294.1.arcs⟩ : Pat)) (Sep.all wm495) (f451).old (f452).old ((hS.isl 2 rfl)).old hr512) rfl ?_
        rintro v513 w511 ⟨_, R511, rfl, hC511⟩
        have hB511 : Below (World.heap wm495).size wm495 w511 := hC511.stepBF
        refine ⟨fun _ => .of_below hB511, ?_⟩
        replace f451 := f451.ext hB511
        replace f452 := f452.ext hB511
        replace hT509 := hT509.trans (Below.mono hB511 hT509.size)
        replace hS := hS.newOwnS hB511 (hC511.own 0 rfl) (hC511.fresh 0 rfl) (fun _ h => h.elim)
        obtain ⟨r515, hr515, hx509⟩ := Option.of_bind hx509
        refine g_run rfl ?_; refine q_call rfl (ref03_SameInts_w (Sep.all w511) ((hS.isl 0 rfl)).old (f451).old hr515) rfl ?_
        rintro _ w514 ⟨R514, rfl, hC514⟩
        have hB514 : Below (World.heap w511).size w511 w514 := hC514.stepBF
        refine ⟨fun _ => .of_below hB514, ?_⟩
        replace f451 := f451.ext hB514
        replace hT509 := hT509.trans (Below.mono hB514 hT509.size)
        replace hS := hS.below hB514
        cases hx509
        exact eseq_nil ⟨hT509, Sub.set rfl (Sub.set rfl (Sub.set rfl (Sub.set rfl (Sub.set rfl (Sub.bool true rfl hg509))))), rfl⟩
      · intro hg509
        refine g_skip rfl rfl rfl ?_
        refine g_skip rfl rfl rfl ?_
        refine g_skip rfl rfl rfl ?_
        refine g_skip rfl rfl rfl ?_
        refine g_skip rfl rfl rfl ?_
        exact eseq_nil ⟨rfl, Sub.set rfl (Sub.set rfl (Sub.set rfl (Sub.set rfl (Sub.set rfl (Sub.bool false rfl hg509)))))⟩
      intro wm509 hBm509; clear hx509
      replace hS := hS.below hBm509
      refine q_assign rfl rfl ?_
      refine eseq_nil ?_
      refine hK463 _ _ ?_
      refine e_ret ?_
      obtain rfl := Option.some.inj h
      exact ⟨_, res1 rfl rfl, _, rfl, (hS.pickB [] 4 rfl rfl)⟩
    refine e_loop (fun m_ E_ w383 => ∃ (x389 : (List Int)), ∃ (x392 : (List Int)), ∃ (x394 : Int), ∃ (v388 : Value), ∃ (v391 : Value), ∃ (R382 : Nat → Prop), iter (fun s => law22_LineMeets_B1 fuel r294 r314 s.1 s.2.1 s.2.2) m_ (x389, x392, x394) = some tl319 ∧ Sep F R R382 w w383 [HP.blk bl298 [v295, v296, v297] 32, HP.own arcTy (fun _ => False) 58 v297 r294.1.arcs, HP.own Ty.int (fun _ => False) 3 v315 r314.1] ∧ IsSlice Ty.int w383 R382 v295 r294.1.lens ∧ IsSlice (Ty.slice Ty.int) w383 R382 v296 r294.1.ckpts ∧ IsSlice Ty.int w383 R382 v388 x389 ∧ IsSlice Ty.int w383 R382 v391 x392 ∧ E_ = [(2, .int .u8 a2), (7, .pointer (some ⟨bl298, 0, none⟩)), (8, v315), (9, v388), (10, v391), (31, .int .i64 (r294.1.lens.length : Int)), (32, .int .i64 x394)]) _ ⟨_, ⟨r294.1.lens, r294.1.lens, 0, v295, v295, _, ht319, (hS.pickB [2, 4, 1] 5 rfl rfl), f295, f296, f295, f295, rfl⟩, Sub.cons rfl (Sub.cons rfl (Sub.cons rfl (Sub.cons rfl (Sub.cons rfl (Sub.cons rfl (Sub.cons rfl (Sub.nil _)))))))⟩ ?_
    clear ht319 hS
    rintro m319 _ w383 ⟨x389, x392, x394, v388, v391, R382, ht319, hS, f384, f385, f390, f393, rfl⟩
    obtain ⟨m319, rfl, o319, ho319, ht319⟩ := iter_some ht319
    replace ho319 : law22_LineMeets_B1 fuel r294 r314 x389 x392 x394 = some o319 := ho319
    unfold law22_LineMeets_B1 at ho319
    refine e_seq fun K516 hK516 => ?_
    refine e_region_text rfl ?_
    refine q_lss rfl rfl rfl ?_
    refine eseq_nil ?_
    refine hK516 _ _ ?_
    refine e_seq fun K517 hK517 => ?_
    refine e_cond rfl (fun hc518 => ?_) (fun hc518 => ?_)
    · replace ho319 := (if_pos hc518).symm.trans ho319
      refine e_skip ?_
      refine hK517 _ _ ?_
      refine e_seq fun K519 hK519 => ?_
      refine e_block ?_
      refine e_seq fun K520 hK520 => ?_
      refine e_region_text rfl ?_
      refine q_move rfl rfl ?_
      refine q_assign rfl rfl ?_
      refine eseq_nil ?_
      refine hK520 _ _ ?_
      refine e_seq fun K521 hK521 => ?_
      refine e_region_text rfl ?_
      refine q_loadAgg rfl (Blk.cellsAt (hS.blk 0 rfl) 0 3 rfl) rfl rfl ?_
      refine q_move rfl rfl ?_
      refine q_litO (T := Ty.int) (S := (fun _ => False)) (cells := [[.int .i64 x394]]) (ys := [x394]) ((Parts.cons rfl rfl Parts.nil)) rfl rfl rfl rfl rfl rfl rfl (fun w1 hB => ⟨rfl, trivial⟩) (fun _ h => h.elim) rfl fun w522 v522 ho522 hv522 hB522 => ?_
      replace f384 := f384.ext hB522
      replace f385 := f385.ext hB522
      replace f390 := f390.ext hB522
      replace f393 := f393.ext hB522
      replace hS := hS.newOwnS hB522 ho522 hv522 (fun _ h => h.elim)
      obtain ⟨r525, hr525, ho319⟩ := Option.of_bind ho319
      refine q_call rfl (line_Failure_w (a0 := (⟨r294.1.lens, r294.1.ckpts, r294.1.arcs⟩ : Pat)) (Sep.all w522) (f384).old (f385).old ((hS.isl 2 rfl)).old ((hS.isl 0 rfl)).old hr525) rfl ?_
      rintro v526 w524 ⟨_, R524, rfl, hC524⟩
      have hB524 : Below (World.heap w522).size w522 w524 := hC524.stepBF
      refine ⟨fun _ => .of_below hB524, ?_⟩
      replace f384 := f384.ext hB524
      replace f385 := f385.ext hB524
      replace f390 := f390.ext hB524
      replace f393 := f393.ext hB524
      replace hS := hS.newOwnS hB524 (hC524.own 0 rfl) (hC524.fresh 0 rfl) (fun _ h => h.elim)
      refine q_assign rfl rfl ?_
      refine eseq_nil ?_
      refine hK521 _ _ ?_
      refine e_seq fun K527 hK527 => ?_
      have hJ527 : ∀ (x542 : (List Int)) (v541 : Value) (R535 : Nat → Prop) (w536 : World) (E_ : Env), law22_LineMeets_J1 fuel x392 r525 x394 x542 = some o319 → Sep F R R535 w w536 [HP.blk bl298 [v295, v296, v297] 32, HP.own arcTy (fun _ => False) 58 v297 r294.1.arcs, HP.own Ty.int (fun _ => False) 3 v315 r314.1, HP.own Ty.int (fun _ => False) 3 v526 r525] → IsSlice Ty.int w536 R535 v295 r294.1.lens → IsSlice (Ty.slice Ty.int) w536 R535 v296 r294.1.ckpts → IsSlice Ty.int w536 R535 v541 x542 → IsSlice Ty.int w536 R535 v391 x392 → Sub [(2, .int .u8 a2), (7, .pointer (some ⟨bl298, 0, none⟩)), (8, v315), (9, v541), (10, v391), (12, v526), (31, .int .i64 (r294.1.lens.length : Int)), (32, .int .i64 x394)] E_ → K527 E_ w536 := by
        intro x542 v541 R535 w536 E_ ho319 hS f537 f538 f543 f544 hsub
        refine hK527 _ _ (e_sub hsub ?_); clear hsub
        unfold law22_LineMeets_J1 at ho319
        refine e_region_text rfl ?_
        refine q_move rfl rfl ?_
        refine q_move rfl rfl ?_
        obtain ⟨r547, hr547, ho319⟩ := Option.of_bind ho319
        refine q_call rfl (cut_Meet_w (Sep.all w536) (f544).old ((hS.isl 3 rfl)).old hr547) rfl ?_
        rintro v548 w546 ⟨_, R546, rfl, hC546⟩
        have hB546 : Below (World.heap w536).size w536 w546 := hC546.stepBF
        refine ⟨fun _ => .of_below hB546, ?_⟩
        replace f537 := f537.ext hB546
        replace f538 := f538.ext hB546
        replace f543 := f543.ext hB546
        replace f544 := f544.ext hB546
        replace hS := hS.newOwnS hB546 (hC546.own 0 rfl) (hC546.fresh 0 rfl) (fun _ h => h.elim)
        refine q_assign rfl rfl ?_
        refine eseq_nil ?_
        refine hK519 _ _ ?_
        refine e_region_text rfl ?_
        refine q_addW rfl rfl rfl ?_
        refine q_move rfl rfl ?_
        refine eseq_nil ?_
        obtain ⟨R549, hS, hm549, f549⟩ := hS.freezeOwn 0 rfl; simp only [List.eraseIdx] at hS
        replace f537 := f537.mono fun k hk _ => hm549 k hk
        replace f538 := f538.mono fun k hk _ => hm549 k hk
        replace f543 := f543.mono fun k hk _ => hm549 k hk
        obtain rfl := Option.some.inj ho319
        exact ⟨m319, _, Nat.lt_succ_self _, ⟨x542, r547, (w64 (x394 + 1)), v541, v548, _, ht319, (hS.pickB [0, 1, 2] 4 rfl rfl), f537, f538, f543, f549, rfl⟩, Sub.cons rfl (Sub.cons rfl (Sub.cons rfl (Sub.cons rfl (Sub.cons rfl (Sub.cons rfl (Sub.cons rfl (Sub.nil _)))))))⟩
      refine e_seq fun K550 hK550 => ?_
      refine e_region_text rfl ?_
      refine q_move rfl rfl ?_
      refine q_move rfl rfl ?_
      obtain ⟨r552, hr552, ho319⟩ := Option.of_bind ho319
      refine q_call rfl (law22_in_w (Sep.all w524) ((hS.isl 4 rfl)).old hr552) rfl ?_
      rintro _ w551 ⟨R551, rfl, hC551⟩
      have hB551 : Below (World.heap w524).size w524 w551 := hC551.stepBF
      refine ⟨fun _ => .of_below hB551, ?_⟩
      replace f384 := f384.ext hB551
      replace f385 := f385.ext hB551
      replace f390 := f390.ext hB551
      replace f393 := f393.ext hB551
      replace hS := hS.below hB551
      refine eseq_nil ?_
      refine hK550 _ _ ?_
      refine e_cond rfl (fun hc553 => ?_) (fun hc553 => ?_)
      · replace ho319 := (if_pos hc553).symm.trans ho319
        refine e_region_text rfl ?_
        refine q_move rfl rfl ?_
        refine q_move rfl rfl ?_
        obtain ⟨r555, hr555, ho319⟩ := Option.of_bind ho319
        refine q_call rfl (cut_Meet_w (Sep.all w551) (f390).old ((hS.isl 0 rfl)).old hr555) rfl ?_
        rintro v556 w554 ⟨_, R554, rfl, hC554⟩
        have hB554 : Below (World.heap w551).size w551 w554 := hC554.stepBF
        refine ⟨fun _ => .of_below hB554, ?_⟩
        replace f384 := f384.ext hB554
        replace f385 := f385.ext hB554
        replace f393 := f393.ext hB554
        replace f390 := f390.ext hB554
        replace hS := hS.newOwnS hB554 (hC554.own 0 rfl) (hC554.fresh 0 rfl) (fun _ h => h.elim)
        refine q_assign rfl rfl ?_
        refine eseq_nil ?_
        obtain ⟨R557, hS, hm557, f557⟩ := hS.freezeOwn 0 rfl; simp only [List.eraseIdx] at hS
        replace f384 := f384.mono fun k hk _ => hm557 k hk
        replace f385 := f385.mono fun k hk _ => hm557 k hk
        replace f393 := f393.mono fun k hk _ => hm557 k hk
        exact hJ527 r555 v556 _ _ _ ho319 (hS.pickB [2, 3, 4, 0] 5 rfl rfl) f384 f385 f557 f393 (Sub.cons rfl (Sub.cons rfl (Sub.cons rfl (Sub.cons rfl (Sub.cons rfl (Sub.cons rfl (Sub.cons rfl (Sub.cons rfl (Sub.nil _)))))))))
      · replace ho319 := (if_neg (not_true hc553)).symm.trans ho319
        refine e_skip ?_
        exact hJ527 x389 v388 _ _ _ ho319 (hS.pickB [2, 3, 4, 0] 5 rfl rfl) f384 f385 f390 f393 (Sub.cons rfl (Sub.cons rfl (Sub.cons rfl (Sub.cons rfl (Sub.cons rfl (Sub.cons rfl (Sub.cons rfl (Sub.cons rfl (Sub.nil _)))))))))
    · replace ho319 := (if_neg (not_true hc518)).symm.trans ho319
      refine e_exit ?_
      obtain rfl := Option.some.inj ho319
      obtain rfl := Option.some.inj ht319
      exact hX319_0 x389 x392 v388 v391 _ _ _ h hS f384 f385 f390 f393 (Sub.cons rfl (Sub.cons rfl (Sub.cons rfl (Sub.cons rfl (Sub.cons rfl (Sub.nil _))))))
theorem law22_LineFinds_w {F R : Nat → Prop} {w : World} {fuel : Nat} {a0 : (List Int)} {a1 : (List Int)} {v1 : Value} {v2 : Value} {r : (Bool)} (hS : Sep F R R w w []) (f1 : IsSlice Ty.u8 w R v1 a0) (f2 : IsSlice Ty.u8 w R v2 a1) (h : law22_LineFinds fuel a0 a1 = some r) :
    Gives Try.prog 7 [v1, v2] w fun u w1 => ∃ (R1 : Nat → Prop), u = .bool r ∧ Sep F R R1 w w1 [] := by
  refine fn_of Try.func7 rfl Try.ntmps7 (Nat.le_of_ble_eq_true rfl) ?_
  unfold law22_LineFinds at h
  refine e_seq fun K83 hK83 => ?_
  refine e_region_text rfl ?_
  refine q_assign rfl rfl ?_
  refine eseq_nil ?_
  refine hK83 _ _ ?_
  refine e_seq fun K84 hK84 => ?_
  refine e_seq fun K85 hK85 => ?_
  refine e_region_text rfl ?_
  obtain ⟨r87, hr87, h⟩ := Option.of_bind h
  refine q_call rfl (law22_awake_w (Sep.enter (As := []) hS)  hr87) rfl ?_
  rintro _ w86 ⟨R86, rfl, hC86⟩
  have hB86 : Below (World.heap w).size w w86 := hC86.stepB0
  refine ⟨fun _ => .of_below hB86, ?_⟩
  replace f1 := (f1.ext hB86).mono fun k hk _ => hC86.ro0 k hk
  replace f2 := (f2.ext hB86).mono fun k hk _ => hC86.ro0 k hk
  replace hS := Sep.leave (As := []) hS hC86; simp only [List.cons_append, List.nil_append] at hS
  refine q_not rfl rfl ?_
  refine eseq_nil ?_
  refine hK85 _ _ ?_
  refine e_cond rfl (fun hc88 => ?_) (fun hc88 => ?_)
  · replace h := (if_pos hc88).symm.trans h
    refine e_seq fun K89 hK89 => ?_
    refine e_region_text rfl ?_
    refine q_assign rfl rfl ?_
    refine eseq_nil ?_
    refine hK89 _ _ ?_
    refine e_ret ?_
    obtain rfl := Option.some.inj h
    exact ⟨_, res1 rfl rfl, _, rfl, hS⟩
  · replace h := (if_neg (not_true hc88)).symm.trans h
    refine e_skip ?_
    refine hK84 _ _ ?_
    refine e_seq fun K90 hK90 => ?_
    refine e_region_text rfl ?_
    refine q_move rfl rfl ?_
    obtain ⟨r92, hr92, h⟩ := Option.of_bind h
    refine q_call rfl (make_New_w (Sep.enter (As := []) hS) f1 hr92) rfl ?_
    rintro _ w91 ⟨B93, v94, R91, rfl, hC91, f94⟩
    have hB91 : Below (World.heap w86).size w86 w91 := hC91.stepB0
    refine ⟨fun _ => .of_below hB91, ?_⟩
    replace f2 := (f2.ext hB91).mono fun k hk _ => hC91.ro0 k hk
    replace f1 := (f1.ext hB91).mono fun k hk _ => hC91.ro0 k hk
    replace hS := Sep.leave (As := []) hS hC91; simp only [List.cons_append, List.nil_append] at hS
    obtain ⟨r96, hr96, h⟩ := Option.of_bind h
    refine q_call rfl (make_Codes_Pattern_w (Sep.enter (As := [_]) hS) f94 hr96) rfl ?_
    rintro _ w95 ⟨v97, v98, v99, R95, rfl, hC95, f97, f98⟩
    refine ⟨(fun h => by cases h), ?_⟩
    have hk95 := hC95.keptR (Sep.offFeet (As := [_]) hS)
    replace f2 := (f2.kept hk95).mono fun k hk _ => hC95.ro0 k hk
    replace f94 := (f94.kept hk95).mono fun k hk _ => hC95.ro0 k hk
    replace hS := Sep.leave (As := [_]) hS hC95; simp only [List.cons_append, List.nil_append] at hS
    refine q_allocB rfl fun w100 bl100 hg100 hb100 hB100 => ?_
    replace f2 := f2.ext hB100
    replace f97 := f97.ext hB100
    replace f98 := f98.ext hB100
    replace hS := hS.newBlk hB100 hg100 hb100
    refine q_storeAgg rfl rfl (hS.blk 0 rfl) rfl (Nat.le_of_ble_eq_true rfl) (all_cons f97.one (all_cons f98.one (all_cons (hS.own 2 rfl).one (all_nil)))) rfl rfl fun w102 hb102 hO102 => ?_
    simp only [setN, List.set, List.take, List.drop] at hb102
    have hk102 := hS.keptBlk 0 rfl hO102
    replace f2 := f2.kept hk102
    replace f97 := f97.kept hk102
    replace f98 := f98.kept hk102
    replace hS := hS.setBlk 0 rfl hb102 hO102; simp only [List.set] at hS
    refine eseq_nil ?_
    refine hK90 _ _ ?_
    refine e_seq fun K103 hK103 => ?_
    refine e_region_text rfl ?_
    refine q_move rfl rfl ?_
    obtain ⟨r105, hr105, h⟩ := Option.of_bind h
    refine q_call rfl (make_New_w (Sep.enter (As := []) hS) f2 hr105) rfl ?_
    rintro _ w104 ⟨B106, v107, R104, rfl, hC104, f107⟩
    have hB104 : Below (World.heap w102).size w102 w104 := hC104.stepB0
    refine ⟨fun _ => .of_below hB104, ?_⟩
    replace f97 := (f97.ext hB104).mono fun k hk _ => hC104.ro0 k hk
    replace f98 := (f98.ext hB104).mono fun k hk _ => hC104.ro0 k hk
    replace f2 := (f2.ext hB104).mono fun k hk _ => hC104.ro0 k hk
    replace hS := Sep.leave (As := []) hS hC104; simp only [List.cons_append, List.nil_append] at hS
    refine q_assign rfl rfl ?_
    refine eseq_nil ?_
    refine hK103 _ _ ?_
    refine e_seq fun K108 hK108 => ?_
    refine e_region_draw mixed (fun k => k = B106) [0, 0, 3, 0, 0, 31, 63, 127] [2] [0, 1, 3, 4, 2, 5, 6, 7] (by kernel_rfl) ?_
    refine q_move rfl rfl ?_
    refine q_loadAgg rfl (Blk.cellsAt (hS.blk 1 rfl) 0 3 rfl) rfl rfl ?_ (hX := fun hx_ => hS.apart 1 0 rfl rfl (by decide) _ rfl hx_)
    refine q_move rfl rfl ?_
    refine q_loadAgg rfl (Blk.cellsAt (hS.blk 1 rfl) 0 3 rfl) rfl rfl ?_ (hX := fun hx_ => hS.apart 1 0 rfl rfl (by decide) _ rfl hx_)
    obtain ⟨R118, hS, hm118, f118⟩ := hS.freezeOwn 3 rfl; simp only [List.eraseIdx] at hS
    replace f97 := f97.mono fun k hk _ => hm118 k hk
    replace f98 := f98.mono fun k hk _ => hm118 k hk
    replace f107 := f107.mono fun k hk _ => hm118 k hk
    obtain ⟨r119, hr119, h⟩ := Option.of_bind h
    refine q_call rfl (make_Codes_Allowed_w (a1 := (⟨r96.1.lens, r96.1.ckpts, r96.1.arcs⟩ : Pat)) (Sep.enter (As := [_]) hS) f97 f98 f118 f107 hr119) rfl ?_
    rintro v120 w117 ⟨_, v121, R117, rfl, hC117⟩
    refine ⟨fun _ => hC117.relX1, ?_⟩
    have hk117 := hC117.keptR (Sep.offFeet (As := [_]) hS)
    replace f97 := (f97.kept hk117).mono fun k hk _ => hC117.ro0 k hk
    replace f98 := (f98.kept hk117).mono fun k hk _ => hC117.ro0 k hk
    replace f118 := (f118.kept hk117).mono fun k hk _ => hC117.ro0 k hk
    replace f107 := (f107.kept hk117).mono fun k hk _ => hC117.ro0 k hk
    replace hS := Sep.leave (As := [_]) hS hC117; simp only [List.cons_append, List.nil_append] at hS
    obtain ⟨r123, hr123, h⟩ := Option.of_bind h
    refine q_call rfl (make_Codes_Cut_w (a1 := (⟨r96.1.lens, r96.1.ckpts, r96.1.arcs⟩ : Pat)) (Sep.enter (As := [_]) hS) f97 f98 f118 f107 hr123) rfl ?_
    rintro v124 w122 ⟨_, R122, rfl, hC122⟩
    refine ⟨(fun h => by cases h), ?_⟩
    have hk122 := hC122.keptR (Sep.offFeet (As := [_]) hS)
    replace f97 := (f97.kept hk122).mono fun k hk _ => hC122.ro0 k hk
    replace f98 := (f98.kept hk122).mono fun k hk _ => hC122.ro0 k hk
    replace f118 := (f118.kept hk122).mono fun k hk _ => hC122.ro0 k hk
    replace f107 := (f107.kept hk122).mono fun k hk _ => hC122.ro0 k hk
    replace hS := Sep.leave (As := [_]) hS hC122; simp only [List.cons_append, List.nil_append] at hS
    refine q_assign rfl rfl ?_
    refine q_assign rfl rfl ?_
    refine eseq_nil ?_
    refine hK108 _ _ ?_
    refine e_seq fun K125 hK125 => ?_
    refine e_region_text rfl ?_
    refine q_loadAgg rfl (Blk.cellsAt (hS.blk 4 rfl) 0 3 rfl) rfl rfl ?_
    refine q_move rfl rfl ?_
    obtain ⟨r127, hr127, h⟩ := Option.of_bind h
    refine q_call rfl (line_Greatest_w (a0 := (⟨r96.1.lens, r96.1.ckpts, r96.1.arcs⟩ : Pat)) (Sep.all w122) (f97).old (f98).old (f118).old ((hS.rowsI 2 3 rfl rfl (by decide))).old hr127) rfl ?_
    rintro _ w126 ⟨v128, R126, rfl, hC126⟩
    have hB126 : Below (World.heap w122).size w122 w126 := hC126.stepBF
    refine ⟨fun _ => .of_below hB126, ?_⟩
    replace f97 := f97.ext hB126
    replace f98 := f98.ext hB126
    replace f118 := f118.ext hB126
    replace hS := hS.newOwnS hB126 (hC126.own 0 rfl) (hC126.fresh 0 rfl) (fun _ h => h.elim)
    refine q_move rfl rfl ?_
    refine q_extract rfl rfl rfl ?_
    refine q_extract rfl rfl rfl ?_
    refine q_assign rfl rfl ?_
    refine q_assign rfl rfl ?_
    refine eseq_nil ?_
    refine hK125 _ _ ?_
    refine e_seq fun K129 hK129 => ?_
    refine e_region_text rfl ?_
    refine q_loadAgg rfl (Blk.cellsAt (hS.blk 5 rfl) 0 3 rfl) rfl rfl ?_
    refine q_move rfl rfl ?_
    obtain ⟨r131, hr131, h⟩ := Option.of_bind h
    refine q_call rfl (ref22_Greatest_w (a0 := (⟨r96.1.lens, r96.1.ckpts, r96.1.arcs⟩ : Pat)) (Sep.all w126) (f97).old (f98).old (f118).old ((hS.rowsI 3 4 rfl rfl (by decide))).old hr131) rfl ?_
    rintro _ w130 ⟨v132, R130, rfl, hC130⟩
    have hB130 : Below (World.heap w126).size w126 w130 := hC130.stepBF
    refine ⟨fun _ => .of_below hB130, ?_⟩
    replace f97 := f97.ext hB130
    replace f98 := f98.ext hB130
    replace f118 := f118.ext hB130
    replace hS := hS.newOwnS hB130 (hC130.own 0 rfl) (hC130.fresh 0 rfl) (fun _ h => h.elim)
    refine q_move rfl rfl ?_
    refine q_extract rfl rfl rfl ?_
    refine q_extract rfl rfl rfl ?_
    refine q_assign rfl rfl ?_
    refine q_assign rfl rfl ?_
    refine eseq_nil ?_
    refine hK129 _ _ ?_
    refine e_seq fun K133 hK133 => ?_
    refine e_region_text rfl ?_
    refine q_loadAgg rfl (Blk.cellsAt (hS.blk 6 rfl) 0 3 rfl) rfl rfl ?_
    refine q_move rfl rfl ?_
    refine q_move rfl rfl ?_
    obtain ⟨r135, hr135, h⟩ := Option.of_bind h
    refine q_call rfl (line_Least_w (a0 := (⟨r96.1.lens, r96.1.ckpts, r96.1.arcs⟩ : Pat)) (Sep.all w130) (f97).old (f98).old (f118).old ((hS.rowsI 4 5 rfl rfl (by decide))).old ((hS.isl 3 rfl)).old hr135) rfl ?_
    rintro _ w134 ⟨v136, R134, rfl, hC134⟩
    have hB134 : Below (World.heap w130).size w130 w134 := hC134.stepBF
    refine ⟨fun _ => .of_below hB134, ?_⟩
    replace f97 := f97.ext hB134
    replace f98 := f98.ext hB134
    replace f118 := f118.ext hB134
    replace hS := hS.newOwnS hB134 (hC134.own 0 rfl) (hC134.fresh 0 rfl) (fun _ h => h.elim)
    refine q_move rfl rfl ?_
    refine q_extract rfl rfl rfl ?_
    refine q_extract rfl rfl rfl ?_
    refine q_assign rfl rfl ?_
    refine q_assign rfl rfl ?_
    refine eseq_nil ?_
    refine hK133 _ _ ?_
    refine e_seq fun K137 hK137 => ?_
    refine e_region_text rfl ?_
    refine q_loadAgg rfl (Blk.cellsAt (hS.blk 7 rfl) 0 3 rfl) rfl rfl ?_
    refine q_move rfl rfl ?_
    refine q_move rfl rfl ?_
    obtain ⟨r139, hr139, h⟩ := Option.of_bind h
    refine q_call rfl (ref22_Least_w (a0 := (⟨r96.1.lens, r96.1.ckpts, r96.1.arcs⟩ : Pat)) (Sep.all w134) (f97).old (f98).old (f118).old ((hS.rowsI 5 6 rfl rfl (by decide))).old ((hS.isl 4 rfl)).old hr139) rfl ?_
    rintro _ w138 ⟨v140, R138, rfl, hC138⟩
    have hB138 : Below (World.heap w134).size w134 w138 := hC138.stepBF
    refine ⟨fun _ => .of_below hB138, ?_⟩
    replace f97 := f97.ext hB138
    replace f98 := f98.ext hB138
    replace f118 := f118.ext hB138
    replace hS := hS.newOwnS hB138 (hC138.own 0 rfl) (hC138.fresh 0 rfl) (fun _ h => h.elim)
    refine q_move rfl rfl ?_
    refine q_extract rfl rfl rfl ?_
    refine q_extract rfl rfl rfl ?_
    refine q_assign rfl rfl ?_
    refine q_assign rfl rfl ?_
    refine eseq_nil ?_
    refine hK137 _ _ ?_
    refine e_seq fun K141 hK141 => ?_
    refine e_region_text rfl ?_
    refine q_move rfl rfl ?_
    refine q_move rfl rfl ?_
    refine q_eqlB rfl rfl rfl ?_
    refine q_move rfl rfl ?_
    obtain ⟨x145, hx144, h⟩ := Option.of_bind h
    refine g_andM 3 hx144 rfl trivial rfl rfl ?_ ?_ ?_
    · intro hg144 hx144
      clear h
      have hT144 := Below.refl (World.heap w138).size w138
      refine g_run rfl ?_; refine q_move rfl rfl ?_
      refine g_run rfl ?_; refine q_move rfl rfl ?_
      refine g_run rfl ?_; refine q_eqlB rfl rfl rfl ?_
      cases hx144
      exact eseq_nil ⟨hT144, Sub.set rfl (Sub.set rfl (Sub.set rfl (Sub.bool true rfl hg144))), rfl⟩
    · intro hg144
      refine g_skip rfl rfl rfl ?_
      refine g_skip rfl rfl rfl ?_
      refine g_skip rfl rfl rfl ?_
      exact eseq_nil ⟨rfl, Sub.set rfl (Sub.set rfl (Sub.set rfl (Sub.bool false rfl hg144)))⟩
    intro wm144 hBm144; clear hx144
    replace hS := hS.below hBm144
    refine q_move rfl rfl ?_
    obtain ⟨x151, hx150, h⟩ := Option.of_bind h
    refine g_andM 3 hx150 rfl trivial rfl rfl ?_ ?_ ?_
    · intro hg150 hx150
      clear h
      have hT150 := Below.refl (World.heap wm144).size wm144
      refine g_run rfl ?_; refine q_move rfl rfl ?_
      refine g_run rfl ?_; refine q_move rfl rfl ?_
      obtain ⟨r153, hr153, hx150⟩ := Option.of_bind hx150
      refine g_run rfl ?_; refine q_call rfl (ref03_SameInts_w (Sep.all wm144) ((hS.isl 3 rfl)).old ((hS.isl 2 rfl)).old hr153) rfl ?_
      rintro _ w152 ⟨R152, rfl, hC152⟩
      have hB152 : Below (World.heap wm144).size wm144 w152 := hC152.stepBF
      refine ⟨fun _ => .of_below hB152, ?_⟩
      replace hT150 := hT150.trans (Below.mono hB152 hT150.size)
      replace hS := hS.below hB152
      cases hx150
      exact eseq_nil ⟨hT150, Sub.set rfl (Sub.set rfl (Sub.set rfl (Sub.bool true rfl hg150))), rfl⟩
    · intro hg150
      refine g_skip rfl rfl rfl ?_
      refine g_skip rfl rfl rfl ?_
      refine g_skip rfl rfl rfl ?_
      exact eseq_nil ⟨rfl, Sub.set rfl (Sub.set rfl (Sub.set rfl (Sub.bool false rfl hg150)))⟩
    intro wm150 hBm150; clear hx150
    replace hS := hS.below hBm150
    refine q_move rfl rfl ?_
    obtain ⟨x159, hx158, h⟩ := Option.of_bind h
    refine g_andM 3 hx158 rfl trivial rfl rfl ?_ ?_ ?_
    · intro hg158 hx158
      clear h
      have hT158 := Below.refl (World.heap wm150).size wm150
      refine g_run rfl ?_; refine q_move rfl rfl ?_
      refine g_run rfl ?_; refine q_move rfl rfl ?_
      obtain ⟨r161, hr161, hx158⟩ := Option.of_bind hx158
      refine g_run rfl ?_; refine q_call rfl (ref03_SameInts_w (Sep.all wm150) ((hS.isl 1 rfl)).old ((hS.isl 0 rfl)).old hr161) rfl ?_
      rintro _ w160 ⟨R160, rfl, hC160⟩
      have hB160 : Below (World.heap wm150).size wm150 w160 := hC160.stepBF
      refine ⟨fun _ => .of_below hB160, ?_⟩
      replace hT158 := hT158.trans (Below.mono hB160 hT158.size)
      replace hS := hS.below hB160
      cases hx158
      exact eseq_nil ⟨hT158, Sub.set rfl (Sub.set rfl (Sub.set rfl (Sub.bool true rfl hg158))), rfl⟩
    · intro hg158
      refine g_skip rfl rfl rfl ?_
      refine g_skip rfl rfl rfl ?_
      refine g_skip rfl rfl rfl ?_
      exact eseq_nil ⟨rfl, Sub.set rfl (Sub.set rfl (Sub.set rfl (Sub.bool false rfl hg158)))⟩
    intro wm158 hBm158; clear hx158
    replace hS := hS.below hBm158
    refine q_assign rfl rfl ?_
    refine eseq_nil ?_
    refine hK141 _ _ ?_
    refine e_ret ?_
    obtain rfl := Option.some.inj h
    exact ⟨_, res1 rfl rfl, _, rfl, (hS.pickB [] 10 rfl rfl)⟩
theorem law22_LineBrute_w {F R : Nat → Prop} {w : World} {fuel : Nat} {a0 : (List Int)} {a1 : (List Int)} {v1 : Value} {v2 : Value} {r : (Bool)} (hS : Sep F R R w w []) (f1 : IsSlice Ty.u8 w R v1 a0) (f2 : IsSlice Ty.u8 w R v2 a1) (h : law22_LineBrute fuel a0 a1 = some r) :
    Gives Try.prog 8 [v1, v2] w fun u w1 => ∃ (R1 : Nat → Prop), u = .bool r ∧ Sep F R R1 w w1 [] := by
  refine fn_of Try.func8 rfl Try.ntmps8 (Nat.le_of_ble_eq_true rfl) ?_
  unfold law22_LineBrute at h
  refine e_seq fun K1375 hK1375 => ?_
  refine e_region_text rfl ?_
  refine q_assign rfl rfl ?_
  refine eseq_nil ?_
  refine hK1375 _ _ ?_
  refine e_seq fun K1376 hK1376 => ?_
  refine e_seq fun K1377 hK1377 => ?_
  refine e_region_text rfl ?_
  obtain ⟨r1379, hr1379, h⟩ := Option.of_bind h
  refine q_call rfl (law22_awake_w (Sep.enter (As := []) hS)  hr1379) rfl ?_
  rintro _ w1378 ⟨R1378, rfl, hC1378⟩
  have hB1378 : Below (World.heap w).size w w1378 := hC1378.stepB0
  refine ⟨fun _ => .of_below hB1378, ?_⟩
  replace f1 := (f1.ext hB1378).mono fun k hk _ => hC1378.ro0 k hk
  replace f2 := (f2.ext hB1378).mono fun k hk _ => hC1378.ro0 k hk
  replace hS := Sep.leave (As := []) hS hC1378; simp only [List.cons_append, List.nil_append] at hS
  refine q_not rfl rfl ?_
  refine eseq_nil ?_
  refine hK1377 _ _ ?_
  refine e_cond rfl (fun hc1380 => ?_) (fun hc1380 => ?_)
  · replace h := (if_pos hc1380).symm.trans h
    refine e_seq fun K1381 hK1381 => ?_
    refine e_region_text rfl ?_
    refine q_assign rfl rfl ?_
    refine eseq_nil ?_
    refine hK1381 _ _ ?_
    refine e_ret ?_
    obtain rfl := Option.some.inj h
    exact ⟨_, res1 rfl rfl, _, rfl, hS⟩
  · replace h := (if_neg (not_true hc1380)).symm.trans h
    refine e_skip ?_
    refine hK1376 _ _ ?_
    refine e_seq fun K1382 hK1382 => ?_
    refine e_region_text rfl ?_
    refine q_move rfl rfl ?_
    obtain ⟨r1384, hr1384, h⟩ := Option.of_bind h
    refine q_call rfl (make_New_w (Sep.enter (As := []) hS) f1 hr1384) rfl ?_
    rintro _ w1383 ⟨B1385, v1386, R1383, rfl, hC1383, f1386⟩
    have hB1383 : Below (World.heap w1378).size w1378 w1383 := hC1383.stepB0
    refine ⟨fun _ => .of_below hB1383, ?_⟩
    replace f2 := (f2.ext hB1383).mono fun k hk _ => hC1383.ro0 k hk
    replace f1 := (f1.ext hB1383).mono fun k hk _ => hC1383.ro0 k hk
    replace hS := Sep.leave (As := []) hS hC1383; simp only [List.cons_append, List.nil_append] at hS
    obtain ⟨r1388, hr1388, h⟩ := Option.of_bind h
    refine q_call rfl (make_Codes_Pattern_w (Sep.enter (As := [_]) hS) f1386 hr1388) rfl ?_
    rintro _ w1387 ⟨v1389, v1390, v1391, R1387, rfl, hC1387, f1389, f1390⟩
    refine ⟨(fun h => by cases h), ?_⟩
    have hk1387 := hC1387.keptR (Sep.offFeet (As := [_]) hS)
    replace f2 := (f2.kept hk1387).mono fun k hk _ => hC1387.ro0 k hk
    replace f1386 := (f1386.kept hk1387).mono fun k hk _ => hC1387.ro0 k hk
    replace hS := Sep.leave (As := [_]) hS hC1387; simp only [List.cons_append, List.nil_append] at hS
    refine q_allocB rfl fun w1392 bl1392 hg1392 hb1392 hB1392 => ?_
    replace f2 := f2.ext hB1392
    replace f1389 := f1389.ext hB1392
    replace f1390 := f1390.ext hB1392
    replace hS := hS.newBlk hB1392 hg1392 hb1392
    refine q_storeAgg rfl rfl (hS.blk 0 rfl) rfl (Nat.le_of_ble_eq_true rfl) (all_cons f1389.one (all_cons f1390.one (all_cons (hS.own 2 rfl).one (all_nil)))) rfl rfl fun w1394 hb1394 hO1394 => ?_
    simp only [setN, List.set, List.take, List.drop] at hb1394
    have hk1394 := hS.keptBlk 0 rfl hO1394
    replace f2 := f2.kept hk1394
    replace f1389 := f1389.kept hk1394
    replace f1390 := f1390.kept hk1394
    replace hS := hS.setBlk 0 rfl hb1394 hO1394; simp only [List.set] at hS
    refine eseq_nil ?_
    refine hK1382 _ _ ?_
    refine e_seq fun K1395 hK1395 => ?_
    refine e_region_text rfl ?_
    refine q_move rfl rfl ?_
    obtain ⟨r1397, hr1397, h⟩ := Option.of_bind h
    refine q_call rfl (make_New_w (Sep.enter (As := []) hS) f2 hr1397) rfl ?_
    rintro _ w1396 ⟨B1398, v1399, R1396, rfl, hC1396, f1399⟩
    have hB1396 : Below (World.heap w1394).size w1394 w1396 := hC1396.stepB0
    refine ⟨fun _ => .of_below hB1396, ?_⟩
    replace f1389 := (f1389.ext hB1396).mono fun k hk _ => hC1396.ro0 k hk
    replace f1390 := (f1390.ext hB1396).mono fun k hk _ => hC1396.ro0 k hk
    replace f2 := (f2.ext hB1396).mono fun k hk _ => hC1396.ro0 k hk
    replace hS := Sep.leave (As := []) hS hC1396; simp only [List.cons_append, List.nil_append] at hS
    refine q_assign rfl rfl ?_
    refine eseq_nil ?_
    refine hK1395 _ _ ?_
    refine e_seq fun K1400 hK1400 => ?_
    refine e_region_draw mixed (fun k => k = B1398) [0, 0, 3, 0, 0, 31, 63, 127] [2] [0, 1, 3, 4, 2, 5, 6, 7] (by kernel_rfl) ?_
    refine q_move rfl rfl ?_
    refine q_loadAgg rfl (Blk.cellsAt (hS.blk 1 rfl) 0 3 rfl) rfl rfl ?_ (hX := fun hx_ => hS.apart 1 0 rfl rfl (by decide) _ rfl hx_)
    refine q_move rfl rfl ?_
    refine q_loadAgg rfl (Blk.cellsAt (hS.blk 1 rfl) 0 3 rfl) rfl rfl ?_ (hX := fun hx_ => hS.apart 1 0 rfl rfl (by decide) _ rfl hx_)
    obtain ⟨R1410, hS, hm1410, f1410⟩ := hS.freezeOwn 3 rfl; simp only [List.eraseIdx] at hS
    replace f1389 := f1389.mono fun k hk _ => hm1410 k hk
    replace f1390 := f1390.mono fun k hk _ => hm1410 k hk
    replace f1399 := f1399.mono fun k hk _ => hm1410 k hk
    obtain ⟨r1411, hr1411, h⟩ := Option.of_bind h
    refine q_call rfl (make_Codes_Allowed_w (a1 := (⟨r1388.1.lens, r1388.1.ckpts, r1388.1.arcs⟩ : Pat)) (Sep.enter (As := [_]) hS) f1389 f1390 f1410 f1399 hr1411) rfl ?_
    rintro v1412 w1409 ⟨_, v1413, R1409, rfl, hC1409⟩
    refine ⟨fun _ => hC1409.relX1, ?_⟩
    have hk1409 := hC1409.keptR (Sep.offFeet (As := [_]) hS)
    replace f1389 := (f1389.kept hk1409).mono fun k hk _ => hC1409.ro0 k hk
    replace f1390 := (f1390.kept hk1409).mono fun k hk _ => hC1409.ro0 k hk
    replace f1410 := (f1410.kept hk1409).mono fun k hk _ => hC1409.ro0 k hk
    replace f1399 := (f1399.kept hk1409).mono fun k hk _ => hC1409.ro0 k hk
    replace hS := Sep.leave (As := [_]) hS hC1409; simp only [List.cons_append, List.nil_append] at hS
    obtain ⟨r1415, hr1415, h⟩ := Option.of_bind h
    refine q_call rfl (make_Codes_Cut_w (a1 := (⟨r1388.1.lens, r1388.1.ckpts, r1388.1.arcs⟩ : Pat)) (Sep.enter (As := [_]) hS) f1389 f1390 f1410 f1399 hr1415) rfl ?_
    rintro v1416 w1414 ⟨_, R1414, rfl, hC1414⟩
    refine ⟨(fun h => by cases h), ?_⟩
    have hk1414 := hC1414.keptR (Sep.offFeet (As := [_]) hS)
    replace f1389 := (f1389.kept hk1414).mono fun k hk _ => hC1414.ro0 k hk
    replace f1390 := (f1390.kept hk1414).mono fun k hk _ => hC1414.ro0 k hk
    replace f1410 := (f1410.kept hk1414).mono fun k hk _ => hC1414.ro0 k hk
    replace f1399 := (f1399.kept hk1414).mono fun k hk _ => hC1414.ro0 k hk
    replace hS := Sep.leave (As := [_]) hS hC1414; simp only [List.cons_append, List.nil_append] at hS
    refine q_assign rfl rfl ?_
    refine q_assign rfl rfl ?_
    refine eseq_nil ?_
    refine hK1400 _ _ ?_
    refine e_seq fun K1417 hK1417 => ?_
    refine e_region_text rfl ?_
    refine q_loadAgg rfl (Blk.cellsAt (hS.blk 4 rfl) 0 3 rfl) rfl rfl ?_
    refine q_move rfl rfl ?_
    obtain ⟨r1419, hr1419, h⟩ := Option.of_bind h
    refine q_call rfl (line_Greatest_w (a0 := (⟨r1388.1.lens, r1388.1.ckpts, r1388.1.arcs⟩ : Pat)) (Sep.all w1414) (f1389).old (f1390).old (f1410).old ((hS.rowsI 2 3 rfl rfl (by decide))).old hr1419) rfl ?_
    rintro _ w1418 ⟨v1420, R1418, rfl, hC1418⟩
    have hB1418 : Below (World.heap w1414).size w1414 w1418 := hC1418.stepBF
    refine ⟨fun _ => .of_below hB1418, ?_⟩
    replace f1389 := f1389.ext hB1418
    replace f1390 := f1390.ext hB1418
    replace f1410 := f1410.ext hB1418
    replace hS := hS.newOwnS hB1418 (hC1418.own 0 rfl) (hC1418.fresh 0 rfl) (fun _ h => h.elim)
    refine q_move rfl rfl ?_
    refine q_extract rfl rfl rfl ?_
    refine q_extract rfl rfl rfl ?_
    refine q_assign rfl rfl ?_
    refine q_assign rfl rfl ?_
    refine eseq_nil ?_
    refine hK1417 _ _ ?_
    refine e_seq fun K1421 hK1421 => ?_
    refine e_region_text rfl ?_
    refine q_loadAgg rfl (Blk.cellsAt (hS.blk 5 rfl) 0 3 rfl) rfl rfl ?_
    refine q_move rfl rfl ?_
    refine q_move rfl rfl ?_
    obtain ⟨r1423, hr1423, h⟩ := Option.of_bind h
    refine q_call rfl (line_Least_w (a0 := (⟨r1388.1.lens, r1388.1.ckpts, r1388.1.arcs⟩ : Pat)) (Sep.all w1418) (f1389).old (f1390).old (f1410).old ((hS.rowsI 3 4 rfl rfl (by decide))).old ((hS.isl 2 rfl)).old hr1423) rfl ?_
    rintro _ w1422 ⟨v1424, R1422, rfl, hC1422⟩
    have hB1422 : Below (World.heap w1418).size w1418 w1422 := hC1422.stepBF
    refine ⟨fun _ => .of_below hB1422, ?_⟩
    replace f1389 := f1389.ext hB1422
    replace f1390 := f1390.ext hB1422
    replace f1410 := f1410.ext hB1422
    replace hS := hS.newOwnS hB1422 (hC1422.own 0 rfl) (hC1422.fresh 0 rfl) (fun _ h => h.elim)
    refine q_move rfl rfl ?_
    refine q_extract rfl rfl rfl ?_
    refine q_extract rfl rfl rfl ?_
    refine q_assign rfl rfl ?_
    refine q_assign rfl rfl ?_
    refine eseq_nil ?_
    refine hK1421 _ _ ?_
    refine e_seq fun K1425 hK1425 => ?_
    refine e_region_text rfl ?_
    refine q_assign rfl rfl ?_
    refine q_assign rfl rfl ?_
    refine eseq_nil ?_
    refine hK1425 _ _ ?_
    refine e_seq fun K1426 hK1426 => ?_
    refine e_region_text rfl ?_
    refine q_field rfl rfl ?_
    refine q_load rfl (Blk.cell (hS.blk 6 rfl) rfl) rfl ?_
    refine q_lenS rfl f1389 rfl ?_
    obtain ⟨x1427, hx1427, h⟩ := Option.of_bind h
    refine q_makeO (T := Ty.int) (S := (fun _ => False)) rfl rfl rfl hx1427 (fun _ h => h.elim) rfl fun w1428 v1428 ho1428 hv1428 hB1428 => ?_
    replace f1389 := f1389.ext hB1428
    replace f1390 := f1390.ext hB1428
    replace f1410 := f1410.ext hB1428
    replace hS := hS.newOwnS hB1428 ho1428 hv1428 (fun _ h => h.elim)
    refine q_assign rfl rfl ?_
    refine eseq_nil ?_
    refine hK1426 _ _ ?_
    refine e_seq fun K1430 hK1430 => ?_
    refine e_block ?_
    obtain ⟨tl1431, ht1431, h⟩ := Option.of_bind h
    have hX1431_0 : ∀ (x2170 : Bool) (x2171 : Bool) (R2160 : Nat → Prop) (w2161 : World) (E_ : Env), law22_LineBrute_K1 fuel r1419 r1423 r1388 r1411 r1415 x2170 x2171 = some r → Sep F R R2160 w w2161 [HP.blk bl1392 [v1389, v1390, v1391] 32, HP.own Ty.raw (fun _ => False) 29 v1412 v1413, HP.famS Ty.int (fun _ => False) 3 v1413 r1411.1, HP.own Ty.int (fun _ => False) 3 v1416 r1415.1, HP.own Ty.int (fun _ => False) 3 v1420 r1419.1, HP.own Ty.int (fun _ => False) 3 v1424 r1423.1] → IsSlice Ty.int w2161 R2160 v1389 r1388.1.lens → IsSlice (Ty.slice Ty.int) w2161 R2160 v1390 r1388.1.ckpts → IsSlice arcTy w2161 R2160 v1391 r1388.1.arcs → Sub [(5, .pointer (some ⟨bl1392, 0, none⟩)), (7, v1412), (8, v1416), (9, v1420), (10, .bool r1419.2), (11, v1424), (12, .bool r1423.2), (13, .bool x2170), (14, .bool x2171)] E_ → K1430 E_ w2161 := by
      intro x2170 x2171 R2160 w2161 E_ h hS f2162 f2163 f2164 hsub
      refine hK1430 _ _ (e_sub hsub ?_); clear hsub
      unfold law22_LineBrute_K1 at h
      refine e_seq fun K2172 hK2172 => ?_
      refine e_seq fun K2173 hK2173 => ?_
      refine e_region_text rfl ?_
      refine q_move rfl rfl ?_
      refine q_move rfl rfl ?_
      refine q_neqB rfl rfl rfl ?_
      refine q_move rfl rfl ?_
      obtain ⟨x2177, hx2176, h⟩ := Option.of_bind h
      refine g_orM 3 hx2176 rfl trivial rfl rfl ?_ ?_ ?_
      · intro hg2176
        refine g_skip rfl rfl rfl ?_
        refine g_skip rfl rfl rfl ?_
        refine g_skip rfl rfl rfl ?_
        exact eseq_nil ⟨rfl, Sub.set rfl (Sub.set rfl (Sub.set rfl (Sub.bool true rfl hg2176)))⟩
      · intro hg2176 hx2176
        clear h
        have hT2176 := Below.refl (World.heap w2161).size w2161
        refine g_run rfl ?_; refine q_move rfl rfl ?_
        refine g_run rfl ?_; refine q_move rfl rfl ?_
        refine g_run rfl ?_; refine q_neqB rfl rfl rfl ?_
        cases hx2176
        exact eseq_nil ⟨hT2176, Sub.set rfl (Sub.set rfl (Sub.set rfl (Sub.bool false rfl hg2176))), rfl⟩
      intro wm2176 hBm2176; clear hx2176
      replace hS := hS.below hBm2176
      replace f2162 := f2162.ext hBm2176
      replace f2163 := f2163.ext hBm2176
      replace f2164 := f2164.ext hBm2176
      refine eseq_nil ?_
      refine hK2173 _ _ ?_
      refine e_cond rfl (fun hc2178 => ?_) (fun hc2178 => ?_)
      · replace h := (if_pos hc2178).symm.trans h
        refine e_seq fun K2179 hK2179 => ?_
        refine e_region_text rfl ?_
        refine q_assign rfl rfl ?_
        refine eseq_nil ?_
        refine hK2179 _ _ ?_
        refine e_ret ?_
        obtain rfl := Option.some.inj h
        exact ⟨_, res1 rfl rfl, _, rfl, (hS.pickB [] 6 rfl rfl)⟩
      · replace h := (if_neg (not_true hc2178)).symm.trans h
        refine e_skip ?_
        refine hK2172 _ _ ?_
        refine e_seq fun K2180 hK2180 => ?_
        refine e_seq fun K2181 hK2181 => ?_
        refine e_region_text rfl ?_
        refine q_field rfl rfl ?_
        refine q_load rfl (Blk.cell (hS.blk 0 rfl) rfl) rfl ?_
        refine q_lenS rfl f2162 rfl ?_
        refine q_move rfl rfl ?_
        refine eseq_nil ?_
        refine hK2181 _ _ ?_
        refine e_block ?_
        obtain ⟨tl2182, ht2182, h⟩ := Option.of_bind h
        have hX2182_6 : ∀ (R2330 : Nat → Prop) (w2331 : World) (E_ : Env), law22_LineBrute_K2 fuel r1419 r1388 r1423 = some r → Sep F R R2330 w w2331 [HP.blk bl1392 [v1389, v1390, v1391] 32, HP.own Ty.int (fun _ => False) 3 v1420 r1419.1, HP.own Ty.int (fun _ => False) 3 v1424 r1423.1] → IsSlice Ty.int w2331 R2330 v1389 r1388.1.lens → IsSlice (Ty.slice Ty.int) w2331 R2330 v1390 r1388.1.ckpts → IsSlice arcTy w2331 R2330 v1391 r1388.1.arcs → Sub [(5, .pointer (some ⟨bl1392, 0, none⟩)), (9, v1420), (10, .bool r1419.2), (11, v1424), (12, .bool r1423.2)] E_ → K2180 E_ w2331 := by
          intro R2330 w2331 E_ h hS f2332 f2333 f2334 hsub
          refine hK2180 _ _ (e_sub hsub ?_); clear hsub
          unfold law22_LineBrute_K2 at h
          refine e_seq fun K2337 hK2337 => ?_
          refine e_region_text rfl ?_
          refine q_move rfl rfl ?_
          refine q_not rfl rfl ?_
          refine q_move rfl rfl ?_
          obtain ⟨x2343, hx2342, h⟩ := Option.of_bind h
          refine g_orM 3 hx2342 rfl trivial rfl rfl ?_ ?_ ?_
          · intro hg2342
            refine g_skip rfl rfl rfl ?_
            refine g_skip rfl rfl rfl ?_
            refine g_skip rfl rfl rfl ?_
            exact eseq_nil ⟨rfl, Sub.set rfl (Sub.set rfl (Sub.set rfl (Sub.bool true rfl hg2342)))⟩
          · intro hg2342 hx2342
            clear h
            have hT2342 := Below.refl (World.heap w2331).size w2331
            refine g_run rfl ?_; refine q_loadAgg rfl (Blk.cellsAt (hS.blk 0 rfl) 0 3 rfl) rfl rfl ?_
            refine g_run rfl ?_; refine q_move rfl rfl ?_
            obtain ⟨r2345, hr2345, hx2342⟩ := Option.of_bind hx2342
            refine g_run rfl ?_; refine q_call rfl (cut_Consistent_w (a0 := (⟨r1388.1.lens, r1388.1.ckpts, r1388.1.arcs⟩ : Pat)) (Sep.all w2331) (f2332).old (f2333).old (f2334).old ((hS.isl 1 rfl)).old hr2345) rfl ?_
            rintro _ w2344 ⟨R2344, rfl, hC2344⟩
            have hB2344 : Below (World.heap w2331).size w2331 w2344 := hC2344.stepBF
            refine ⟨fun _ => .of_below hB2344, ?_⟩
            replace f2332 := f2332.ext hB2344
            replace f2333 := f2333.ext hB2344
            replace f2334 := f2334.ext hB2344
            replace hT2342 := hT2342.trans (Below.mono hB2344 hT2342.size)
            replace hS := hS.below hB2344
            cases hx2342
            exact eseq_nil ⟨hT2342, Sub.set rfl (Sub.set rfl (Sub.set rfl (Sub.bool false rfl hg2342))), rfl⟩
          intro wm2342 hBm2342; clear hx2342
          replace hS := hS.below hBm2342
          replace f2332 := f2332.ext hBm2342
          replace f2333 := f2333.ext hBm2342
          replace f2334 := f2334.ext hBm2342
          refine q_move rfl rfl ?_
          obtain ⟨x2353, hx2352, h⟩ := Option.of_bind h
          refine g_andM 7 hx2352 rfl trivial rfl rfl ?_ ?_ ?_
          · intro hg2352 hx2352
            clear h
            have hT2352 := Below.refl (World.heap wm2342).size wm2342
            refine g_run rfl ?_; refine q_move rfl rfl ?_
            refine g_run rfl ?_; refine q_not rfl rfl ?_
            refine g_run rfl ?_; refine q_move rfl rfl ?_
            obtain ⟨x2355, hx2354, hx2352⟩ := Option.of_bind hx2352
            refine g_orM 3 hx2354 rfl rfl rfl rfl ?_ ?_ ?_
            · intro hg2354
              refine g_skip rfl rfl rfl ?_
              refine g_skip rfl rfl rfl ?_
              refine g_skip rfl rfl rfl ?_
              exact eseq_nil ⟨rfl, Sub.set rfl (Sub.set rfl (Sub.set rfl (Sub.bool true rfl hg2354)))⟩
            · intro hg2354 hx2354
              clear hx2352
              have hT2354 := Below.refl (World.heap wm2342).size wm2342
              refine g_run rfl ?_; refine q_loadAgg rfl (Blk.cellsAt (hS.blk 0 rfl) 0 3 rfl) rfl rfl ?_
              refine g_run rfl ?_; refine q_move rfl rfl ?_
              obtain ⟨r2357, hr2357, hx2354⟩ := Option.of_bind hx2354
              refine g_run rfl ?_; refine q_call rfl (cut_Consistent_w (a0 := (⟨r1388.1.lens, r1388.1.ckpts, r1388.1.arcs⟩ : Pat)) (Sep.all wm2342) (f2332).old (f2333).old (f2334).old ((hS.isl 2 rfl)).old hr2357) rfl ?_
              rintro _ w2356 ⟨R2356, rfl, hC2356⟩
              have hB2356 : Below (World.heap wm2342).size wm2342 w2356 := hC2356.stepBF
              refine ⟨fun _ => .of_below hB2356, ?_⟩
              replace f2332 := f2332.ext hB2356
              replace f2333 := f2333.ext hB2356
              replace f2334 := f2334.ext hB2356
              replace hT2352 := hT2352.trans (Below.mono hB2356 hT2352.size)
              replace hT2354 := hT2354.trans (Below.mono hB2356 hT2354.size)
              replace hS := hS.below hB2356
              cases hx2354
              exact eseq_nil ⟨hT2354, Sub.set rfl (Sub.set rfl (Sub.set rfl (Sub.bool false rfl hg2354))), rfl⟩
            intro wm2354 hBm2354; clear hx2354
            replace hS := hS.below hBm2354
            replace hT2352 := hT2352.trans (Below.mono hBm2354 hT2352.size)
            cases hx2352
            exact eseq_nil ⟨hT2352, Sub.set rfl (Sub.set rfl (Sub.set rfl (Sub.set rfl (Sub.bool true rfl hg2352)))), rfl⟩
          · intro hg2352
            refine g_skip rfl rfl rfl ?_
            refine g_skip rfl rfl rfl ?_
            refine g_skip rfl rfl rfl ?_
            refine g_skipU rfl rfl ?_
            refine g_skipU rfl rfl ?_
            refine g_skipU rfl rfl ?_
            refine g_skip rfl rfl rfl ?_
            exact eseq_nil ⟨rfl, Sub.set rfl (Sub.set rfl (Sub.set rfl (Sub.set rfl (Sub.set rfl (Sub.set rfl (Sub.set rfl (Sub.bool false rfl hg2352)))))))⟩
          intro wm2352 hBm2352; clear hx2352
          replace hS := hS.below hBm2352
          refine q_assign rfl rfl ?_
          refine eseq_nil ?_
          refine hK2337 _ _ ?_
          refine e_ret ?_
          obtain rfl := Option.some.inj h
          exact ⟨_, res1 rfl rfl, _, rfl, (hS.pickB [] 3 rfl rfl)⟩
        refine e_loop (fun m_ E_ w2257 => ∃ (x2266 : Int), ∃ (R2256 : Nat → Prop), iter (fun s => law22_LineBrute_B1 fuel r1388 r1419 r1411 r1423 r1415 s) m_ x2266 = some tl2182 ∧ Sep F R R2256 w w2257 [HP.blk bl1392 [v1389, v1390, v1391] 32, HP.own Ty.raw (fun _ => False) 29 v1412 v1413, HP.famS Ty.int (fun _ => False) 3 v1413 r1411.1, HP.own Ty.int (fun _ => False) 3 v1416 r1415.1, HP.own Ty.int (fun _ => False) 3 v1420 r1419.1, HP.own Ty.int (fun _ => False) 3 v1424 r1423.1] ∧ IsSlice Ty.int w2257 R2256 v1389 r1388.1.lens ∧ IsSlice (Ty.slice Ty.int) w2257 R2256 v1390 r1388.1.ckpts ∧ IsSlice arcTy w2257 R2256 v1391 r1388.1.arcs ∧ E_ = [(5, .pointer (some ⟨bl1392, 0, none⟩)), (7, v1412), (8, v1416), (9, v1420), (10, .bool r1419.2), (11, v1424), (12, .bool r1423.2), (132, .int .i64 (r1388.1.lens.length : Int)), (133, .int .i64 x2266)]) _ ⟨_, ⟨0, _, ht2182, hS, f2162, f2163, f2164, rfl⟩, Sub.cons rfl (Sub.cons rfl (Sub.cons rfl (Sub.cons rfl (Sub.cons rfl (Sub.cons rfl (Sub.cons rfl (Sub.cons rfl (Sub.cons rfl (Sub.nil _)))))))))⟩ ?_
        clear ht2182 hS
        rintro m2182 _ w2257 ⟨x2266, R2256, ht2182, hS, f2258, f2259, f2260, rfl⟩
        obtain ⟨m2182, rfl, o2182, ho2182, ht2182⟩ := iter_some ht2182
        replace ho2182 : law22_LineBrute_B1 fuel r1388 r1419 r1411 r1423 r1415 x2266 = some o2182 := ho2182
        unfold law22_LineBrute_B1 at ho2182
        refine e_seq fun K2358 hK2358 => ?_
        refine e_region_text rfl ?_
        refine q_lss rfl rfl rfl ?_
        refine eseq_nil ?_
        refine hK2358 _ _ ?_
        refine e_seq fun K2359 hK2359 => ?_
        refine e_cond rfl (fun hc2360 => ?_) (fun hc2360 => ?_)
        · replace ho2182 := (if_pos hc2360).symm.trans ho2182
          refine e_skip ?_
          refine hK2359 _ _ ?_
          refine e_seq fun K2361 hK2361 => ?_
          refine e_block ?_
          refine e_seq fun K2362 hK2362 => ?_
          refine e_region_text rfl ?_
          refine q_move rfl rfl ?_
          refine q_assign rfl rfl ?_
          refine eseq_nil ?_
          refine hK2362 _ _ ?_
          refine e_seq fun K2363 hK2363 => ?_
          refine e_region_draw mixed (fun _ => False) [0, 1, 3, 3, 15, 31, 3, 3, 195, 451, 1023, 2047, 4095, 8191, 16383, 32767, 65535, 65535, 262143, 524287, 65535, 65535, 3211263, 7405567, 16777215, 33554431, 67108863, 134217727, 134217727, 536870911, 1073741823, 134217727, 134217727, 6576668671, 15166603263, 34359738367, 68719476735, 137438953471, 274877906943] [] [0, 1, 2, 3, 4, 5, 6, 7, 8, 9, 10, 11, 12, 13, 14, 15, 16, 17, 18, 19, 20, 21, 22, 23, 24, 25, 26, 27, 28, 29, 30, 31, 32, 33, 34, 35, 36, 37, 38] (by kernel_rfl) ?_
          refine q_move rfl rfl ?_
          refine q_move rfl rfl ?_
          obtain ⟨x2372, hx2371, ho2182⟩ := Option.of_bind ho2182
          refine g_andM 10 hx2371 rfl trivial rfl rfl ?_ ?_ ?_
          · intro hg2371 hx2371
            clear ho2182
            have hT2371 := Below.refl (World.heap w2257).size w2257
            refine g_run rfl ?_; refine q_move rfl rfl ?_
            refine g_run rfl ?_; refine q_move rfl rfl ?_
            obtain ⟨x2373, hx2373, hx2371⟩ := Option.of_bind hx2371
            have hax2373 := ati_nth (hS.famLen 2 rfl) hx2373
            refine g_run rfl ?_; refine q_indexO (T := Ty.raw) (by infer_instance) rfl (hS.own 1 rfl) rfl hax2373 rfl ?_
            refine g_run rfl ?_; refine q_load rfl (Elt.rawCell ((hS.own 1 rfl).elt hax2373)) rfl ?_
            refine g_run rfl ?_; refine q_move rfl rfl ?_
            refine g_run rfl ?_; refine q_move rfl rfl ?_
            obtain ⟨x2374, hx2374, hx2371⟩ := Option.of_bind hx2371
            refine g_run rfl ?_; refine q_indexO (by infer_instance) rfl (hS.own 4 rfl) rfl hx2374 rfl ?_
            have f2375 := (hS.ownR 4 rfl).elt hx2374
            refine g_run rfl ?_; refine q_load rfl (Elt.intCell f2375) rfl ?_
            obtain ⟨r2377, hr2377, hx2371⟩ := Option.of_bind hx2371
            refine g_run rfl ?_; refine q_call rfl (law22_in_w (Sep.all w2257) ((hS.famI 2 rfl hx2373)).old hr2377) rfl ?_
            rintro _ w2376 ⟨R2376, rfl, hC2376⟩
            have hB2376 : Below (World.heap w2257).size w2257 w2376 := hC2376.stepBF
            refine ⟨fun _ => .of_below hB2376, ?_⟩
            replace f2258 := f2258.ext hB2376
            replace f2259 := f2259.ext hB2376
            replace f2260 := f2260.ext hB2376
            replace hT2371 := hT2371.trans (Below.mono hB2376 hT2371.size)
            replace hS := hS.below hB2376
            refine g_run rfl ?_; refine q_not rfl rfl ?_
            cases hx2371
            exact eseq_nil ⟨hT2371, Sub.set rfl (Sub.set rfl (Sub.set rfl (Sub.set rfl (Sub.set rfl (Sub.set rfl (Sub.set rfl (Sub.set rfl (Sub.set rfl (Sub.set rfl (Sub.bool true rfl hg2371)))))))))), rfl⟩
          · intro hg2371
            refine g_skip rfl rfl rfl ?_
            refine g_skip rfl rfl rfl ?_
            refine g_skip rfl rfl rfl ?_
            refine g_skip rfl rfl rfl ?_
            refine g_skip rfl rfl rfl ?_
            refine g_skip rfl rfl rfl ?_
            refine g_skip rfl rfl rfl ?_
            refine g_skip rfl rfl rfl ?_
            refine g_skip rfl rfl rfl ?_
            refine g_skip rfl rfl rfl ?_
            exact eseq_nil ⟨rfl, Sub.set rfl (Sub.set rfl (Sub.set rfl (Sub.set rfl (Sub.set rfl (Sub.set rfl (Sub.set rfl (Sub.set rfl (Sub.set rfl (Sub.set rfl (Sub.bool false rfl hg2371))))))))))⟩
          intro wm2371 hBm2371; clear hx2371
          replace hS := hS.below hBm2371
          replace f2258 := f2258.ext hBm2371
          replace f2259 := f2259.ext hBm2371
          replace f2260 := f2260.ext hBm2371
          refine q_move rfl rfl ?_
          obtain ⟨x2394, hx2393, ho2182⟩ := Option.of_bind ho2182
          refine g_orM 24 hx2393 rfl trivial rfl rfl ?_ ?_ ?_
          · intro hg2393
            refine g_skip rfl rfl rfl ?_
            refine g_skip rfl rfl rfl ?_
            refine g_skipU rfl rfl ?_
            refine g_skipU rfl rfl ?_
            refine g_skipU rfl rfl ?_
            refine g_skipU rfl rfl ?_
            refine g_skipU rfl rfl ?_
            refine g_skipU rfl rfl ?_
            refine g_skipU rfl rfl ?_
            refine g_skipU rfl rfl ?_
            refine g_skipU rfl rfl ?_
            refine g_skipU rfl rfl ?_
            refine g_skipU rfl rfl ?_
            refine g_skipU rfl rfl ?_
            refine g_skipU rfl rfl ?_
            refine g_skipU rfl rfl ?_
            refine g_skipU rfl rfl ?_
            refine g_skipU rfl rfl ?_
            refine g_skipU rfl rfl ?_
            refine g_skipU rfl rfl ?_
            refine g_skipU rfl rfl ?_
            refine g_skipU rfl rfl ?_
            refine g_skipU rfl rfl ?_
            refine g_skip rfl rfl rfl ?_
            exact eseq_nil ⟨rfl, Sub.set rfl (Sub.set rfl (Sub.set rfl (Sub.set rfl (Sub.set rfl (Sub.set rfl (Sub.set rfl (Sub.set rfl (Sub.set rfl (Sub.set rfl (Sub.set rfl (Sub.set rfl (Sub.set rfl (Sub.set rfl (Sub.set rfl (Sub.set rfl (Sub.set rfl (Sub.set rfl (Sub.set rfl (Sub.set rfl (Sub.set rfl (Sub.set rfl (Sub.set rfl (Sub.set rfl (Sub.bool true rfl hg2393))))))))))))))))))))))))⟩
          · intro hg2393 hx2393
            clear ho2182
            have hT2393 := Below.refl (World.heap wm2371).size wm2371
            refine g_run rfl ?_; refine q_move rfl rfl ?_
            refine g_run rfl ?_; refine q_move rfl rfl ?_
            obtain ⟨x2396, hx2395, hx2393⟩ := Option.of_bind hx2393
            refine g_andM 21 hx2395 rfl rfl rfl rfl ?_ ?_ ?_
            · intro hg2395 hx2395
              clear hx2393
              have hT2395 := Below.refl (World.heap wm2371).size wm2371
              refine g_run rfl ?_; refine q_move rfl rfl ?_
              refine g_run rfl ?_; refine q_move rfl rfl ?_
              obtain ⟨x2397, hx2397, hx2395⟩ := Option.of_bind hx2395
              have hax2397 := ati_nth (hS.famLen 2 rfl) hx2397
              refine g_run rfl ?_; refine q_indexO (T := Ty.raw) (by infer_instance) rfl (hS.own 1 rfl) rfl hax2397 rfl ?_
              refine g_run rfl ?_; refine q_load rfl (Elt.rawCell ((hS.own 1 rfl).elt hax2397)) rfl ?_
              refine g_run rfl ?_; refine q_move rfl rfl ?_
              refine g_run rfl ?_; refine q_move rfl rfl ?_
              obtain ⟨x2398, hx2398, hx2395⟩ := Option.of_bind hx2395
              refine g_run rfl ?_; refine q_indexO (by infer_instance) rfl (hS.own 5 rfl) rfl hx2398 rfl ?_
              have f2399 := (hS.ownR 5 rfl).elt hx2398
              refine g_run rfl ?_; refine q_load rfl (Elt.intCell f2399) rfl ?_
              obtain ⟨r2401, hr2401, hx2395⟩ := Option.of_bind hx2395
              refine g_run rfl ?_; refine q_call rfl (law22_in_w (Sep.all wm2371) ((hS.famI 2 rfl hx2397)).old hr2401) rfl ?_
              rintro _ w2400 ⟨R2400, rfl, hC2400⟩
              have hB2400 : Below (World.heap wm2371).size wm2371 w2400 := hC2400.stepBF
              refine ⟨fun _ => .of_below hB2400, ?_⟩
              replace f2258 := f2258.ext hB2400
              replace f2259 := f2259.ext hB2400
              replace f2260 := f2260.ext hB2400
              replace hT2393 := hT2393.trans (Below.mono hB2400 hT2393.size)
              replace hT2395 := hT2395.trans (Below.mono hB2400 hT2395.size)
              replace hS := hS.below hB2400
              refine g_run rfl ?_; refine q_not rfl rfl ?_
              refine g_run rfl ?_; refine q_move rfl rfl ?_
              obtain ⟨x2403, hx2402, hx2395⟩ := Option.of_bind hx2395
              refine g_orM 9 hx2402 rfl rfl rfl rfl ?_ ?_ ?_
              · intro hg2402
                refine g_skip rfl rfl rfl ?_
                refine g_skip rfl rfl rfl ?_
                refine g_skip rfl rfl rfl ?_
                refine g_skip rfl rfl rfl ?_
                refine g_skip rfl rfl rfl ?_
                refine g_skip rfl rfl rfl ?_
                refine g_skip rfl rfl rfl ?_
                refine g_skip rfl rfl rfl ?_
                refine g_skip rfl rfl rfl ?_
                exact eseq_nil ⟨rfl, Sub.set rfl (Sub.set rfl (Sub.set rfl (Sub.set rfl (Sub.set rfl (Sub.set rfl (Sub.set rfl (Sub.set rfl (Sub.set rfl (Sub.bool true rfl hg2402)))))))))⟩
              · intro hg2402 hx2402
                clear hx2395
                have hT2402 := Below.refl (World.heap w2400).size w2400
                refine g_run rfl ?_; refine q_move rfl rfl ?_
                refine g_run rfl ?_; refine q_move rfl rfl ?_
                obtain ⟨x2404, hx2404, hx2402⟩ := Option.of_bind hx2402
                refine g_run rfl ?_; refine q_indexO (by infer_instance) rfl (hS.own 5 rfl) rfl hx2404 rfl ?_
                have f2405 := (hS.ownR 5 rfl).elt hx2404
                refine g_run rfl ?_; refine q_load rfl (Elt.intCell f2405) rfl ?_
                refine g_run rfl ?_; refine q_move rfl rfl ?_
                refine g_run rfl ?_; refine q_move rfl rfl ?_
                obtain ⟨x2406, hx2406, hx2402⟩ := Option.of_bind hx2402
                refine g_run rfl ?_; refine q_indexO (by infer_instance) rfl (hS.own 3 rfl) rfl hx2406 rfl ?_
                have f2407 := (hS.ownR 3 rfl).elt hx2406
                refine g_run rfl ?_; refine q_load rfl (Elt.intCell f2407) rfl ?_
                refine g_run rfl ?_; refine q_lss rfl rfl rfl ?_
                cases hx2402
                exact eseq_nil ⟨hT2402, Sub.set rfl (Sub.set rfl (Sub.set rfl (Sub.set rfl (Sub.set rfl (Sub.set rfl (Sub.set rfl (Sub.set rfl (Sub.set rfl (Sub.bool false rfl hg2402))))))))), rfl⟩
              intro wm2402 hBm2402; clear hx2402
              replace hS := hS.below hBm2402
              replace f2258 := f2258.ext hBm2402
              replace f2259 := f2259.ext hBm2402
              replace f2260 := f2260.ext hBm2402
              replace hT2393 := hT2393.trans (Below.mono hBm2402 hT2393.size)
              replace hT2395 := hT2395.trans (Below.mono hBm2402 hT2395.size)
              cases hx2395
              exact eseq_nil ⟨hT2395, Sub.set rfl (Sub.set rfl (Sub.set rfl (Sub.set rfl (Sub.set rfl (Sub.set rfl (Sub.set rfl (Sub.set rfl (Sub.set rfl (Sub.set rfl (Sub.set rfl (Sub.set rfl (Sub.bool true rfl hg2395)))))))))))), rfl⟩
            · intro hg2395
              refine g_skip rfl rfl rfl ?_
              refine g_skip rfl rfl rfl ?_
              refine g_skip rfl rfl rfl ?_
              refine g_skip rfl rfl rfl ?_
              refine g_skip rfl rfl rfl ?_
              refine g_skip rfl rfl rfl ?_
              refine g_skip rfl rfl rfl ?_
              refine g_skip rfl rfl rfl ?_
              refine g_skip rfl rfl rfl ?_
              refine g_skip rfl rfl rfl ?_
              refine g_skip rfl rfl rfl ?_
              refine g_skipU rfl rfl ?_
              refine g_skipU rfl rfl ?_
              refine g_skipU rfl rfl ?_
              refine g_skipU rfl rfl ?_
              refine g_skipU rfl rfl ?_
              refine g_skipU rfl rfl ?_
              refine g_skipU rfl rfl ?_
              refine g_skipU rfl rfl ?_
              refine g_skipU rfl rfl ?_
              refine g_skip rfl rfl rfl ?_
              exact eseq_nil ⟨rfl, Sub.set rfl (Sub.set rfl (Sub.set rfl (Sub.set rfl (Sub.set rfl (Sub.set rfl (Sub.set rfl (Sub.set rfl (Sub.set rfl (Sub.set rfl (Sub.set rfl (Sub.set rfl (Sub.set rfl (Sub.set rfl (Sub.set rfl (Sub.set rfl (Sub.set rfl (Sub.set rfl (Sub.set rfl (Sub.set rfl (Sub.set rfl (Sub.bool false rfl hg2395)))))))))))))))))))))⟩
            intro wm2395 hBm2395; clear hx2395
            replace hS := hS.below hBm2395
            replace f2258 := f2258.ext hBm2395
            replace f2259 := f2259.ext hBm2395
            replace f2260 := f2260.ext hBm2395
            replace hT2393 := hT2393.trans (Below.mono hBm2395 hT2393.size)
            cases hx2393
            exact eseq_nil ⟨hT2393, Sub.set rfl (Sub.set rfl (Sub.set rfl (Sub.bool false rfl hg2393))), rfl⟩
          intro wm2393 hBm2393; clear hx2393
          replace hS := hS.below hBm2393
          replace f2258 := f2258.ext hBm2393
          replace f2259 := f2259.ext hBm2393
          replace f2260 := f2260.ext hBm2393
          refine eseq_nil ?_
          refine hK2363 _ _ ?_
          refine e_cond rfl (fun hc2408 => ?_) (fun hc2408 => ?_)
          · replace ho2182 := (if_pos hc2408).symm.trans ho2182
            refine e_seq fun K2409 hK2409 => ?_
            refine e_region_text rfl ?_
            refine q_assign rfl rfl ?_
            refine eseq_nil ?_
            refine hK2409 _ _ ?_
            refine e_ret ?_
            obtain rfl := Option.some.inj ho2182
            obtain rfl := Option.some.inj ht2182
            obtain rfl := Option.some.inj h
            exact ⟨_, res1 rfl rfl, _, rfl, (hS.pickB [] 6 rfl rfl)⟩
          · replace ho2182 := (if_neg (not_true hc2408)).symm.trans ho2182
            refine e_skip ?_
            refine hK2361 _ _ ?_
            refine e_region_text rfl ?_
            refine q_addW rfl rfl rfl ?_
            refine q_move rfl rfl ?_
            refine eseq_nil ?_
            obtain rfl := Option.some.inj ho2182
            exact ⟨m2182, _, Nat.lt_succ_self _, ⟨(w64 (x2266 + 1)), _, ht2182, hS, f2258, f2259, f2260, rfl⟩, Sub.cons rfl (Sub.cons rfl (Sub.cons rfl (Sub.cons rfl (Sub.cons rfl (Sub.cons rfl (Sub.cons rfl (Sub.cons rfl (Sub.cons rfl (Sub.nil _)))))))))⟩
        · replace ho2182 := (if_neg (not_true hc2360)).symm.trans ho2182
          refine e_exit ?_
          obtain rfl := Option.some.inj ho2182
          obtain rfl := Option.some.inj ht2182
          exact hX2182_6  _ _ _ h (hS.pickB [0, 4, 5] 6 rfl rfl) f2258 f2259 f2260 (Sub.cons rfl (Sub.cons rfl (Sub.cons rfl (Sub.cons rfl (Sub.cons rfl (Sub.nil _))))))
    refine e_loop (fun m_ E_ w1795 => ∃ (x1804 : Bool), ∃ (x1805 : Bool), ∃ (x1808 : (List Int)), ∃ (v1807 : Value), ∃ (R1794 : Nat → Prop), iter (fun s => law22_LineBrute_B2 fuel r1388 r1411 r1419 r1415 r1423 s.1 s.2.1 s.2.2) m_ (x1804, x1805, x1808) = some tl1431 ∧ Sep F R R1794 w w1795 [HP.blk bl1392 [v1389, v1390, v1391] 32, HP.own Ty.raw (fun _ => False) 29 v1412 v1413, HP.famS Ty.int (fun _ => False) 3 v1413 r1411.1, HP.own Ty.int (fun _ => False) 3 v1416 r1415.1, HP.own Ty.int (fun _ => False) 3 v1420 r1419.1, HP.own Ty.int (fun _ => False) 3 v1424 r1423.1, HP.own Ty.int (fun _ => False) 3 v1807 x1808] ∧ IsSlice Ty.int w1795 R1794 v1389 r1388.1.lens ∧ IsSlice (Ty.slice Ty.int) w1795 R1794 v1390 r1388.1.ckpts ∧ IsSlice arcTy w1795 R1794 v1391 r1388.1.arcs ∧ E_ = [(5, .pointer (some ⟨bl1392, 0, none⟩)), (7, v1412), (8, v1416), (9, v1420), (10, .bool r1419.2), (11, v1424), (12, .bool r1423.2), (13, .bool x1804), (14, .bool x1805), (15, v1807)]) _ ⟨_, ⟨false, false, x1427, v1428, _, ht1431, (hS.pickB [7, 5, 6, 4, 2, 1, 0] 9 rfl rfl), f1389, f1390, f1410, rfl⟩, Sub.cons rfl (Sub.cons rfl (Sub.cons rfl (Sub.cons rfl (Sub.cons rfl (Sub.cons rfl (Sub.cons rfl (Sub.cons rfl (Sub.cons rfl (Sub.cons rfl (Sub.nil _))))))))))⟩ ?_
    clear ht1431 hS
    rintro m1431 _ w1795 ⟨x1804, x1805, x1808, v1807, R1794, ht1431, hS, f1796, f1797, f1798, rfl⟩
    obtain ⟨m1431, rfl, o1431, ho1431, ht1431⟩ := iter_some ht1431
    replace ho1431 : law22_LineBrute_B2 fuel r1388 r1411 r1419 r1415 r1423 x1804 x1805 x1808 = some o1431 := ho1431
    unfold law22_LineBrute_B2 at ho1431
    refine e_block ?_
    refine e_seq fun K2410 hK2410 => ?_
    refine e_region_text rfl ?_
    refine q_loadAgg rfl (Blk.cellsAt (hS.blk 0 rfl) 0 3 rfl) rfl rfl ?_
    refine q_move rfl rfl ?_
    obtain ⟨r2412, hr2412, ho1431⟩ := Option.of_bind ho1431
    refine q_call rfl (ref18_Consistent_w (a0 := (⟨r1388.1.lens, r1388.1.ckpts, r1388.1.arcs⟩ : Pat)) (Sep.all w1795) (f1796).old (f1797).old (f1798).old ((hS.isl 6 rfl)).old hr2412) rfl ?_
    rintro _ w2411 ⟨R2411, rfl, hC2411⟩
    have hB2411 : Below (World.heap w1795).size w1795 w2411 := hC2411.stepBF
    refine ⟨fun _ => .of_below hB2411, ?_⟩
    replace f1796 := f1796.ext hB2411
    replace f1797 := f1797.ext hB2411
    replace f1798 := f1798.ext hB2411
    replace hS := hS.below hB2411
    refine q_assign rfl rfl ?_
    refine eseq_nil ?_
    refine hK2410 _ _ ?_
    refine e_seq fun K2413 hK2413 => ?_
    refine e_seq fun K2414 hK2414 => ?_
    refine e_region_text rfl ?_
    refine q_move rfl rfl ?_
    refine q_lenS rfl (hS.isl 6 rfl) rfl ?_
    refine q_move rfl rfl ?_
    refine eseq_nil ?_
    refine hK2414 _ _ ?_
    refine e_block ?_
    obtain ⟨tl2415, ht2415, ho1431⟩ := Option.of_bind ho1431
    have hX2415_2 : ∀ (x2515 : Bool) (R2504 : Nat → Prop) (w2505 : World) (E_ : Env), law22_LineBrute_K3 fuel r1419 x1808 r1415 r1423 r1388 x1805 x1804 x2515 = some o1431 → Sep F R R2504 w w2505 [HP.blk bl1392 [v1389, v1390, v1391] 32, HP.own Ty.raw (fun _ => False) 29 v1412 v1413, HP.famS Ty.int (fun _ => False) 3 v1413 r1411.1, HP.own Ty.int (fun _ => False) 3 v1416 r1415.1, HP.own Ty.int (fun _ => False) 3 v1420 r1419.1, HP.own Ty.int (fun _ => False) 3 v1424 r1423.1, HP.own Ty.int (fun _ => False) 3 v1807 x1808] → IsSlice Ty.int w2505 R2504 v1389 r1388.1.lens → IsSlice (Ty.slice Ty.int) w2505 R2504 v1390 r1388.1.ckpts → IsSlice arcTy w2505 R2504 v1391 r1388.1.arcs → Sub [(5, .pointer (some ⟨bl1392, 0, none⟩)), (7, v1412), (8, v1416), (9, v1420), (10, .bool r1419.2), (11, v1424), (12, .bool r1423.2), (13, .bool x1804), (14, .bool x1805), (15, v1807), (16, .bool x2515)] E_ → K2413 E_ w2505 := by
      intro x2515 R2504 w2505 E_ ho1431 hS f2506 f2507 f2508 hsub
      refine hK2413 _ _ (e_sub hsub ?_); clear hsub
      unfold law22_LineBrute_K3 at ho1431
      refine e_seq fun K2516 hK2516 => ?_
      have hJ2516 : ∀ (x2558 : Bool) (x2559 : Bool) (R2548 : Nat → Prop) (w2549 : World) (E_ : Env), law22_LineBrute_J1 fuel r1388 x1808 x2558 x2559 = some o1431 → Sep F R R2548 w w2549 [HP.blk bl1392 [v1389, v1390, v1391] 32, HP.own Ty.raw (fun _ => False) 29 v1412 v1413, HP.famS Ty.int (fun _ => False) 3 v1413 r1411.1, HP.own Ty.int (fun _ => False) 3 v1416 r1415.1, HP.own Ty.int (fun _ => False) 3 v1420 r1419.1, HP.own Ty.int (fun _ => False) 3 v1424 r1423.1, HP.own Ty.int (fun _ => False) 3 v1807 x1808] → IsSlice Ty.int w2549 R2548 v1389 r1388.1.lens → IsSlice (Ty.slice Ty.int) w2549 R2548 v1390 r1388.1.ckpts → IsSlice arcTy w2549 R2548 v1391 r1388.1.arcs → Sub [(5, .pointer (some ⟨bl1392, 0, none⟩)), (7, v1412), (8, v1416), (9, v1420), (10, .bool r1419.2), (11, v1424), (12, .bool r1423.2), (13, .bool x2558), (14, .bool x2559), (15, v1807)] E_ → K2516 E_ w2549 := by
        intro x2558 x2559 R2548 w2549 E_ ho1431 hS f2550 f2551 f2552 hsub
        refine hK2516 _ _ (e_sub hsub ?_); clear hsub
        unfold law22_LineBrute_J1 at ho1431
        refine e_seq fun K2561 hK2561 => ?_
        refine e_region_text rfl ?_
        refine q_assign rfl rfl ?_
        refine eseq_nil ?_
        refine hK2561 _ _ ?_
        refine e_seq fun K2562 hK2562 => ?_
        refine e_block ?_
        obtain ⟨tl2563, ht2563, ho1431⟩ := Option.of_bind ho1431
        have hX2563_4 : ∀ (x2667 : (List Int)) (x2668 : Int) (v2666 : Value) (R2655 : Nat → Prop) (w2656 : World) (E_ : Env), law22_LineBrute_K4 fuel x2558 x2559 x2667 x2668 = some o1431 → Sep F R R2655 w w2656 [HP.blk bl1392 [v1389, v1390, v1391] 32, HP.own Ty.raw (fun _ => False) 29 v1412 v1413, HP.famS Ty.int (fun _ => False) 3 v1413 r1411.1, HP.own Ty.int (fun _ => False) 3 v1416 r1415.1, HP.own Ty.int (fun _ => False) 3 v1420 r1419.1, HP.own Ty.int (fun _ => False) 3 v1424 r1423.1, HP.own Ty.int (fun _ => False) 3 v2666 x2667] → IsSlice Ty.int w2656 R2655 v1389 r1388.1.lens → IsSlice (Ty.slice Ty.int) w2656 R2655 v1390 r1388.1.ckpts → IsSlice arcTy w2656 R2655 v1391 r1388.1.arcs → Sub [(5, .pointer (some ⟨bl1392, 0, none⟩)), (7, v1412), (8, v1416), (9, v1420), (10, .bool r1419.2), (11, v1424), (12, .bool r1423.2), (13, .bool x2558), (14, .bool x2559), (15, v2666), (18, .int .i64 x2668)] E_ → K2562 E_ w2656 := by
          intro x2667 x2668 v2666 R2655 w2656 E_ ho1431 hS f2657 f2658 f2659 hsub
          refine hK2562 _ _ (e_sub hsub ?_); clear hsub
          unfold law22_LineBrute_K4 at ho1431
          refine e_seq fun K2669 hK2669 => ?_
          refine e_seq fun K2670 hK2670 => ?_
          refine e_region_text rfl ?_
          refine q_move rfl rfl ?_
          refine q_move rfl rfl ?_
          refine q_lenS rfl (hS.isl 6 rfl) rfl ?_
          refine q_eql rfl rfl rfl ?_
          refine eseq_nil ?_
          refine hK2670 _ _ ?_
          refine e_cond rfl (fun hc2671 => ?_) (fun hc2671 => ?_)
          · replace ho1431 := (if_pos hc2671).symm.trans ho1431
            refine e_exit ?_
            obtain rfl := Option.some.inj ho1431
            obtain rfl := Option.some.inj ht1431
            exact hX1431_0 x2558 x2559 _ _ _ h (hS.pickB [0, 1, 2, 3, 4, 5] 7 rfl rfl) f2657 f2658 f2659 (Sub.cons rfl (Sub.cons rfl (Sub.cons rfl (Sub.cons rfl (Sub.cons rfl (Sub.cons rfl (Sub.cons rfl (Sub.cons rfl (Sub.cons rfl (Sub.nil _))))))))))
          · replace ho1431 := (if_neg (not_true hc2671)).symm.trans ho1431
            refine e_skip ?_
            refine hK2669 _ _ ?_
            refine e_region_text rfl ?_
            refine q_move rfl rfl ?_
            refine q_move rfl rfl ?_
            obtain ⟨x2672, hx2672, ho1431⟩ := Option.of_bind ho1431
            refine q_indexO (by infer_instance) rfl (hS.own 6 rfl) rfl hx2672 rfl ?_
            have f2673 := (hS.ownR 6 rfl).elt hx2672
            refine q_load rfl (Elt.intCell f2673) rfl ?_
            refine q_addW rfl rfl rfl ?_
            obtain ⟨x2674, hx2674, ho1431⟩ := Option.of_bind ho1431
            refine q_indexO (by infer_instance) rfl (hS.own 6 rfl) rfl hx2674 rfl ?_
            obtain ⟨x2676, hx2676, ho1431⟩ := Option.of_bind ho1431
            refine q_storeO (T := Ty.int) (j := 0) rfl rfl (hS.own 6 rfl) hx2674 hx2676 rfl rfl rfl (Enc.setL rfl) fun w2675 ho2675 hO2675 => ?_
            have hk2675 := hS.keptO 6 rfl hx2674 hO2675
            replace f2657 := f2657.kept hk2675
            replace f2658 := f2658.kept hk2675
            replace f2659 := f2659.kept hk2675
            replace hS := hS.putO 6 rfl hx2674 ho2675 hO2675; simp only [List.set] at hS
            refine eseq_nil ?_
            obtain rfl := Option.some.inj ho1431
            exact ⟨m1431, _, Nat.lt_succ_self _, ⟨x2558, x2559, x2676, v2666, _, ht1431, hS, f2657, f2658, f2659, rfl⟩, Sub.cons rfl (Sub.cons rfl (Sub.cons rfl (Sub.cons rfl (Sub.cons rfl (Sub.cons rfl (Sub.cons rfl (Sub.cons rfl (Sub.cons rfl (Sub.cons rfl (Sub.nil _))))))))))⟩
        refine e_loop (fun m_ E_ w2609 => ∃ (x2620 : (List Int)), ∃ (x2621 : Int), ∃ (v2619 : Value), ∃ (R2608 : Nat → Prop), iter (fun s => law22_LineBrute_B3 fuel r1388 s.1 s.2) m_ (x2620, x2621) = some tl2563 ∧ Sep F R R2608 w w2609 [HP.blk bl1392 [v1389, v1390, v1391] 32, HP.own Ty.raw (fun _ => False) 29 v1412 v1413, HP.famS Ty.int (fun _ => False) 3 v1413 r1411.1, HP.own Ty.int (fun _ => False) 3 v1416 r1415.1, HP.own Ty.int (fun _ => False) 3 v1420 r1419.1, HP.own Ty.int (fun _ => False) 3 v1424 r1423.1, HP.own Ty.int (fun _ => False) 3 v2619 x2620] ∧ IsSlice Ty.int w2609 R2608 v1389 r1388.1.lens ∧ IsSlice (Ty.slice Ty.int) w2609 R2608 v1390 r1388.1.ckpts ∧ IsSlice arcTy w2609 R2608 v1391 r1388.1.arcs ∧ E_ = [(5, .pointer (some ⟨bl1392, 0, none⟩)), (7, v1412), (8, v1416), (9, v1420), (10, .bool r1419.2), (11, v1424), (12, .bool r1423.2), (13, .bool x2558), (14, .bool x2559), (15, v2619), (18, .int .i64 x2621)]) _ ⟨_, ⟨x1808, 0, v1807, _, ht2563, hS, f2550, f2551, f2552, rfl⟩, Sub.cons rfl (Sub.cons rfl (Sub.cons rfl (Sub.cons rfl (Sub.cons rfl (Sub.cons rfl (Sub.cons rfl (Sub.cons rfl (Sub.cons rfl (Sub.cons rfl (Sub.cons rfl (Sub.nil _)))))))))))⟩ ?_
        clear ht2563 hS
        rintro m2563 _ w2609 ⟨x2620, x2621, v2619, R2608, ht2563, hS, f2610, f2611, f2612, rfl⟩
        obtain ⟨m2563, rfl, o2563, ho2563, ht2563⟩ := iter_some ht2563
        replace ho2563 : law22_LineBrute_B3 fuel r1388 x2620 x2621 = some o2563 := ho2563
        unfold law22_LineBrute_B3 at ho2563
        refine e_seq fun K2677 hK2677 => ?_
        refine e_seq fun K2678 hK2678 => ?_
        refine e_region_draw mixed (fun _ => False) [0, 0, 2, 7, 15, 31, 31, 127, 255, 31, 543, 31, 3615, 7711, 16383, 32767] [] [0, 1, 2, 3, 4, 5, 6, 7, 8, 9, 10, 11, 12, 13, 14, 15] (by kernel_rfl) ?_
        refine q_move rfl rfl ?_
        refine q_move rfl rfl ?_
        refine q_lenS rfl (hS.isl 6 rfl) rfl ?_
        refine q_lss rfl rfl rfl ?_
        refine q_move rfl rfl ?_
        obtain ⟨x2686, hx2685, ho2563⟩ := Option.of_bind ho2563
        refine g_andM 10 hx2685 rfl trivial rfl rfl ?_ ?_ ?_
        · intro hg2685 hx2685
          clear ho2563
          have hT2685 := Below.refl (World.heap w2609).size w2609
          refine g_run rfl ?_; refine q_move rfl rfl ?_
          refine g_run rfl ?_; refine q_move rfl rfl ?_
          obtain ⟨x2687, hx2687, hx2685⟩ := Option.of_bind hx2685
          refine g_run rfl ?_; refine q_indexO (by infer_instance) rfl (hS.own 6 rfl) rfl hx2687 rfl ?_
          have f2688 := (hS.ownR 6 rfl).elt hx2687
          refine g_run rfl ?_; refine q_load rfl (Elt.intCell f2688) rfl ?_
          refine g_run rfl ?_; refine q_field rfl rfl ?_
          refine g_run rfl ?_; refine q_load rfl (Blk.cell (hS.blk 0 rfl) rfl) rfl ?_
          refine g_run rfl ?_; refine q_move rfl rfl ?_
          obtain ⟨x2689, hx2689, hx2685⟩ := Option.of_bind hx2685
          refine g_run rfl ?_; refine q_atS (by infer_instance) rfl f2610 rfl hx2689 rfl fun b2690 o2690 hm2690 f2690 => ?_
          refine g_run rfl ?_; refine q_load rfl (Elt.intCell f2690) rfl ?_
          refine g_run rfl ?_; refine q_eql rfl rfl rfl ?_
          cases hx2685
          exact eseq_nil ⟨hT2685, Sub.set rfl (Sub.set rfl (Sub.set rfl (Sub.set rfl (Sub.set rfl (Sub.set rfl (Sub.set rfl (Sub.set rfl (Sub.set rfl (Sub.set rfl (Sub.bool true rfl hg2685)))))))))), rfl⟩
        · intro hg2685
          refine g_skip rfl rfl rfl ?_
          refine g_skip rfl rfl rfl ?_
          refine g_skip rfl rfl rfl ?_
          refine g_skip rfl rfl rfl ?_
          refine g_skip rfl rfl rfl ?_
          refine g_skip rfl rfl rfl ?_
          refine g_skip rfl rfl rfl ?_
          refine g_skip rfl rfl rfl ?_
          refine g_skip rfl rfl rfl ?_
          refine g_skip rfl rfl rfl ?_
          exact eseq_nil ⟨rfl, Sub.set rfl (Sub.set rfl (Sub.set rfl (Sub.set rfl (Sub.set rfl (Sub.set rfl (Sub.set rfl (Sub.set rfl (Sub.set rfl (Sub.set rfl (Sub.bool false rfl hg2685))))))))))⟩
        intro wm2685 hBm2685; clear hx2685
        replace hS := hS.below hBm2685
        replace f2610 := f2610.ext hBm2685
        replace f2611 := f2611.ext hBm2685
        replace f2612 := f2612.ext hBm2685
        refine eseq_nil ?_
        refine hK2678 _ _ ?_
        refine e_cond rfl (fun hc2691 => ?_) (fun hc2691 => ?_)
        · replace ho2563 := (if_pos hc2691).symm.trans ho2563
          refine e_skip ?_
          refine hK2677 _ _ ?_
          refine e_block ?_
          refine e_seq fun K2692 hK2692 => ?_
          refine e_region_text rfl ?_
          refine q_move rfl rfl ?_
          refine q_move rfl rfl ?_
          obtain ⟨x2693, hx2693, ho2563⟩ := Option.of_bind ho2563
          refine q_indexO (by infer_instance) rfl (hS.own 6 rfl) rfl hx2693 rfl ?_
          obtain ⟨x2695, hx2695, ho2563⟩ := Option.of_bind ho2563
          refine q_storeO (T := Ty.int) (j := 0) rfl rfl (hS.own 6 rfl) hx2693 hx2695 rfl rfl rfl (Enc.setL rfl) fun w2694 ho2694 hO2694 => ?_
          have hk2694 := hS.keptO 6 rfl hx2693 hO2694
          replace f2610 := f2610.kept hk2694
          replace f2611 := f2611.kept hk2694
          replace f2612 := f2612.kept hk2694
          replace hS := hS.putO 6 rfl hx2693 ho2694 hO2694; simp only [List.set] at hS
          refine eseq_nil ?_
          refine hK2692 _ _ ?_
          refine e_region_text rfl ?_
          refine q_move rfl rfl ?_
          refine q_addW rfl rfl rfl ?_
          refine q_assign rfl rfl ?_
          refine eseq_nil ?_
          obtain rfl := Option.some.inj ho2563
          exact ⟨m2563, _, Nat.lt_succ_self _, ⟨x2695, (w64 (x2621 + 1)), v2619, _, ht2563, hS, f2610, f2611, f2612, rfl⟩, Sub.cons rfl (Sub.cons rfl (Sub.cons rfl (Sub.cons rfl (Sub.cons rfl (Sub.cons rfl (Sub.cons rfl (Sub.cons rfl (Sub.cons rfl (Sub.cons rfl (Sub.cons rfl (Sub.nil _)))))))))))⟩
        · replace ho2563 := (if_neg (not_true hc2691)).symm.trans ho2563
          refine e_exit ?_
          obtain rfl := Option.some.inj ho2563
          obtain rfl := Option.some.inj ht2563
          exact hX2563_4 x2620 x2621 v2619 _ _ _ ho1431 hS f2610 f2611 f2612 (Sub.cons rfl (Sub.cons rfl (Sub.cons rfl (Sub.cons rfl (Sub.cons rfl (Sub.cons rfl (Sub.cons rfl (Sub.cons rfl (Sub.cons rfl (Sub.cons rfl (Sub.cons rfl (Sub.nil _))))))))))))
      refine e_seq fun K2696 hK2696 => ?_
      refine e_region_text rfl ?_
      refine q_move rfl rfl ?_
      refine eseq_nil ?_
      refine hK2696 _ _ ?_
      refine e_cond rfl (fun hc2697 => ?_) (fun hc2697 => ?_)
      · replace ho1431 := (if_pos hc2697).symm.trans ho1431
        refine e_seq fun K2698 hK2698 => ?_
        refine e_region_text rfl ?_
        refine q_assign rfl rfl ?_
        refine eseq_nil ?_
        refine hK2698 _ _ ?_
        refine e_seq fun K2699 hK2699 => ?_
        refine e_seq fun K2700 hK2700 => ?_
        refine e_region_text rfl ?_
        refine q_move rfl rfl ?_
        refine q_not rfl rfl ?_
        refine q_move rfl rfl ?_
        obtain ⟨x2706, hx2705, ho1431⟩ := Option.of_bind ho1431
        refine g_orM 4 hx2705 rfl trivial rfl rfl ?_ ?_ ?_
        · intro hg2705
          refine g_skip rfl rfl rfl ?_
          refine g_skip rfl rfl rfl ?_
          refine g_skip rfl rfl rfl ?_
          refine g_skip rfl rfl rfl ?_
          exact eseq_nil ⟨rfl, Sub.set rfl (Sub.set rfl (Sub.set rfl (Sub.set rfl (Sub.bool true rfl hg2705))))⟩
        · intro hg2705 hx2705
          clear ho1431
          have hT2705 := Below.refl (World.heap w2505).size w2505
          refine g_run rfl ?_; refine q_move rfl rfl ?_
          refine g_run rfl ?_; refine q_move rfl rfl ?_
          obtain ⟨r2708, hr2708, hx2705⟩ := Option.of_bind hx2705
          refine g_run rfl ?_; refine q_call rfl (ref18_Most_w (Sep.all w2505) ((hS.isl 6 rfl)).old ((hS.isl 4 rfl)).old hr2708) rfl ?_
          rintro _ w2707 ⟨R2707, rfl, hC2707⟩
          have hB2707 : Below (World.heap w2505).size w2505 w2707 := hC2707.stepBF
          refine ⟨fun _ => .of_below hB2707, ?_⟩
          replace f2506 := f2506.ext hB2707
          replace f2507 := f2507.ext hB2707
          replace f2508 := f2508.ext hB2707
          replace hT2705 := hT2705.trans (Below.mono hB2707 hT2705.size)
          replace hS := hS.below hB2707
          refine g_run rfl ?_; refine q_not rfl rfl ?_
          cases hx2705
          exact eseq_nil ⟨hT2705, Sub.set rfl (Sub.set rfl (Sub.set rfl (Sub.set rfl (Sub.bool false rfl hg2705)))), rfl⟩
        intro wm2705 hBm2705; clear hx2705
        replace hS := hS.below hBm2705
        replace f2506 := f2506.ext hBm2705
        replace f2507 := f2507.ext hBm2705
        replace f2508 := f2508.ext hBm2705
        refine eseq_nil ?_
        refine hK2700 _ _ ?_
        refine e_cond rfl (fun hc2709 => ?_) (fun hc2709 => ?_)
        · replace ho1431 := (if_pos hc2709).symm.trans ho1431
          refine e_seq fun K2710 hK2710 => ?_
          refine e_region_text rfl ?_
          refine q_assign rfl rfl ?_
          refine eseq_nil ?_
          refine hK2710 _ _ ?_
          refine e_ret ?_
          obtain rfl := Option.some.inj ho1431
          obtain rfl := Option.some.inj ht1431
          obtain rfl := Option.some.inj h
          exact ⟨_, res1 rfl rfl, _, rfl, (hS.pickB [] 7 rfl rfl)⟩
        · replace ho1431 := (if_neg (not_true hc2709)).symm.trans ho1431
          refine e_skip ?_
          refine hK2699 _ _ ?_
          refine e_seq fun K2711 hK2711 => ?_
          refine e_region_text rfl ?_
          refine q_move rfl rfl ?_
          refine q_move rfl rfl ?_
          obtain ⟨r2713, hr2713, ho1431⟩ := Option.of_bind ho1431
          refine q_call rfl (ref18_Most_w (Sep.all wm2705) ((hS.isl 3 rfl)).old ((hS.isl 6 rfl)).old hr2713) rfl ?_
          rintro _ w2712 ⟨R2712, rfl, hC2712⟩
          have hB2712 : Below (World.heap wm2705).size wm2705 w2712 := hC2712.stepBF
          refine ⟨fun _ => .of_below hB2712, ?_⟩
          replace f2506 := f2506.ext hB2712
          replace f2507 := f2507.ext hB2712
          replace f2508 := f2508.ext hB2712
          replace hS := hS.below hB2712
          refine eseq_nil ?_
          refine hK2711 _ _ ?_
          refine e_cond rfl (fun hc2714 => ?_) (fun hc2714 => ?_)
          · replace ho1431 := (if_pos hc2714).symm.trans ho1431
            refine e_seq fun K2715 hK2715 => ?_
            refine e_region_text rfl ?_
            refine q_assign rfl rfl ?_
            refine eseq_nil ?_
            refine hK2715 _ _ ?_
            refine e_seq fun K2716 hK2716 => ?_
            refine e_region_text rfl ?_
            refine q_move rfl rfl ?_
            refine q_not rfl rfl ?_
            refine q_move rfl rfl ?_
            obtain ⟨x2722, hx2721, ho1431⟩ := Option.of_bind ho1431
            refine g_orM 4 hx2721 rfl trivial rfl rfl ?_ ?_ ?_
            · intro hg2721
              refine g_skip rfl rfl rfl ?_
              refine g_skip rfl rfl rfl ?_
              refine g_skip rfl rfl rfl ?_
              refine g_skip rfl rfl rfl ?_
              exact eseq_nil ⟨rfl, Sub.set rfl (Sub.set rfl (Sub.set rfl (Sub.set rfl (Sub.bool true rfl hg2721))))⟩
            · intro hg2721 hx2721
              clear ho1431
              have hT2721 := Below.refl (World.heap w2712).size w2712
              refine g_run rfl ?_; refine q_move rfl rfl ?_
              refine g_run rfl ?_; refine q_move rfl rfl ?_
              obtain ⟨r2724, hr2724, hx2721⟩ := Option.of_bind hx2721
              refine g_run rfl ?_; refine q_call rfl (ref18_Most_w (Sep.all w2712) ((hS.isl 5 rfl)).old ((hS.isl 6 rfl)).old hr2724) rfl ?_
              rintro _ w2723 ⟨R2723, rfl, hC2723⟩
              have hB2723 : Below (World.heap w2712).size w2712 w2723 := hC2723.stepBF
              refine ⟨fun _ => .of_below hB2723, ?_⟩
              replace f2506 := f2506.ext hB2723
              replace f2507 := f2507.ext hB2723
              replace f2508 := f2508.ext hB2723
              replace hT2721 := hT2721.trans (Below.mono hB2723 hT2721.size)
              replace hS := hS.below hB2723
              refine g_run rfl ?_; refine q_not rfl rfl ?_
              cases hx2721
              exact eseq_nil ⟨hT2721, Sub.set rfl (Sub.set rfl (Sub.set rfl (Sub.set rfl (Sub.bool false rfl hg2721)))), rfl⟩
            intro wm2721 hBm2721; clear hx2721
            replace hS := hS.below hBm2721
            replace f2506 := f2506.ext hBm2721
            replace f2507 := f2507.ext hBm2721
            replace f2508 := f2508.ext hBm2721
            refine eseq_nil ?_
            refine hK2716 _ _ ?_
            refine e_cond rfl (fun hc2725 => ?_) (fun hc2725 => ?_)
            · replace ho1431 := (if_pos hc2725).symm.trans ho1431
              refine e_seq fun K2726 hK2726 => ?_
              refine e_region_text rfl ?_
              refine q_assign rfl rfl ?_
              refine eseq_nil ?_
              refine hK2726 _ _ ?_
              refine e_ret ?_
              obtain rfl := Option.some.inj ho1431
              obtain rfl := Option.some.inj ht1431
              obtain rfl := Option.some.inj h
              exact ⟨_, res1 rfl rfl, _, rfl, (hS.pickB [] 7 rfl rfl)⟩
            · replace ho1431 := (if_neg (not_true hc2725)).symm.trans ho1431
              refine e_skip ?_
              exact hJ2516 true true _ _ _ ho1431 hS f2506 f2507 f2508 (Sub.cons rfl (Sub.cons rfl (Sub.cons rfl (Sub.cons rfl (Sub.cons rfl (Sub.cons rfl (Sub.cons rfl (Sub.cons rfl (Sub.cons rfl (Sub.cons rfl (Sub.nil _)))))))))))
          · replace ho1431 := (if_neg (not_true hc2714)).symm.trans ho1431
            refine e_skip ?_
            exact hJ2516 true x1805 _ _ _ ho1431 hS f2506 f2507 f2508 (Sub.cons rfl (Sub.cons rfl (Sub.cons rfl (Sub.cons rfl (Sub.cons rfl (Sub.cons rfl (Sub.cons rfl (Sub.cons rfl (Sub.cons rfl (Sub.cons rfl (Sub.nil _)))))))))))
      · replace ho1431 := (if_neg (not_true hc2697)).symm.trans ho1431
        refine e_skip ?_
        exact hJ2516 x1804 x1805 _ _ _ ho1431 hS f2506 f2507 f2508 (Sub.cons rfl (Sub.cons rfl (Sub.cons rfl (Sub.cons rfl (Sub.cons rfl (Sub.cons rfl (Sub.cons rfl (Sub.cons rfl (Sub.cons rfl (Sub.cons rfl (Sub.nil _)))))))))))
    refine e_loop (fun m_ E_ w2460 => ∃ (x2470 : Bool), ∃ (x2471 : Int), ∃ (R2459 : Nat → Prop), iter (fun s => law22_LineBrute_B4 fuel x1808 r1411 s.1 s.2) m_ (x2470, x2471) = some tl2415 ∧ Sep F R R2459 w w2460 [HP.blk bl1392 [v1389, v1390, v1391] 32, HP.own Ty.raw (fun _ => False) 29 v1412 v1413, HP.famS Ty.int (fun _ => False) 3 v1413 r1411.1, HP.own Ty.int (fun _ => False) 3 v1416 r1415.1, HP.own Ty.int (fun _ => False) 3 v1420 r1419.1, HP.own Ty.int (fun _ => False) 3 v1424 r1423.1, HP.own Ty.int (fun _ => False) 3 v1807 x1808] ∧ IsSlice Ty.int w2460 R2459 v1389 r1388.1.lens ∧ IsSlice (Ty.slice Ty.int) w2460 R2459 v1390 r1388.1.ckpts ∧ IsSlice arcTy w2460 R2459 v1391 r1388.1.arcs ∧ E_ = [(5, .pointer (some ⟨bl1392, 0, none⟩)), (7, v1412), (8, v1416), (9, v1420), (10, .bool r1419.2), (11, v1424), (12, .bool r1423.2), (13, .bool x1804), (14, .bool x1805), (15, v1807), (16, .bool x2470), (54, .int .i64 (x1808.length : Int)), (55, .int .i64 x2471)]) _ ⟨_, ⟨r2412, 0, _, ht2415, hS, f1796, f1797, f1798, rfl⟩, Sub.cons rfl (Sub.cons rfl (Sub.cons rfl (Sub.cons rfl (Sub.cons rfl (Sub.cons rfl (Sub.cons rfl (Sub.cons rfl (Sub.cons rfl (Sub.cons rfl (Sub.cons rfl (Sub.cons rfl (Sub.cons rfl (Sub.nil _)))))))))))))⟩ ?_
    clear ht2415 hS
    rintro m2415 _ w2460 ⟨x2470, x2471, R2459, ht2415, hS, f2461, f2462, f2463, rfl⟩
    obtain ⟨m2415, rfl, o2415, ho2415, ht2415⟩ := iter_some ht2415
    replace ho2415 : law22_LineBrute_B4 fuel x1808 r1411 x2470 x2471 = some o2415 := ho2415
    unfold law22_LineBrute_B4 at ho2415
    refine e_seq fun K2727 hK2727 => ?_
    refine e_region_text rfl ?_
    refine q_lss rfl rfl rfl ?_
    refine eseq_nil ?_
    refine hK2727 _ _ ?_
    refine e_seq fun K2728 hK2728 => ?_
    refine e_cond rfl (fun hc2729 => ?_) (fun hc2729 => ?_)
    · replace ho2415 := (if_pos hc2729).symm.trans ho2415
      refine e_skip ?_
      refine hK2728 _ _ ?_
      refine e_seq fun K2730 hK2730 => ?_
      refine e_block ?_
      refine e_seq fun K2731 hK2731 => ?_
      refine e_region_text rfl ?_
      refine q_move rfl rfl ?_
      refine q_assign rfl rfl ?_
      refine eseq_nil ?_
      refine hK2731 _ _ ?_
      refine e_region_draw mixed (fun _ => False) [0, 1, 3, 3, 15, 31, 3, 3, 195, 451, 1023, 2047, 4095] [] [0, 1, 2, 3, 4, 5, 6, 7, 8, 9, 10, 11, 12] (by kernel_rfl) ?_
      refine q_move rfl rfl ?_
      refine q_move rfl rfl ?_
      obtain ⟨x2740, hx2739, ho2415⟩ := Option.of_bind ho2415
      refine g_andM 9 hx2739 rfl trivial rfl rfl ?_ ?_ ?_
      · intro hg2739 hx2739
        clear ho2415
        have hT2739 := Below.refl (World.heap w2460).size w2460
        refine g_run rfl ?_; refine q_move rfl rfl ?_
        refine g_run rfl ?_; refine q_move rfl rfl ?_
        obtain ⟨x2741, hx2741, hx2739⟩ := Option.of_bind hx2739
        have hax2741 := ati_nth (hS.famLen 2 rfl) hx2741
        refine g_run rfl ?_; refine q_indexO (T := Ty.raw) (by infer_instance) rfl (hS.own 1 rfl) rfl hax2741 rfl ?_
        refine g_run rfl ?_; refine q_load rfl (Elt.rawCell ((hS.own 1 rfl).elt hax2741)) rfl ?_
        refine g_run rfl ?_; refine q_move rfl rfl ?_
        refine g_run rfl ?_; refine q_move rfl rfl ?_
        obtain ⟨x2742, hx2742, hx2739⟩ := Option.of_bind hx2739
        refine g_run rfl ?_; refine q_indexO (by infer_instance) rfl (hS.own 6 rfl) rfl hx2742 rfl ?_
        have f2743 := (hS.ownR 6 rfl).elt hx2742
        refine g_run rfl ?_; refine q_load rfl (Elt.intCell f2743) rfl ?_
        obtain ⟨r2745, hr2745, hx2739⟩ := Option.of_bind hx2739
        refine g_run rfl ?_; refine q_call rfl (law22_in_w (Sep.all w2460) ((hS.famI 2 rfl hx2741)).old hr2745) rfl ?_
        rintro _ w2744 ⟨R2744, rfl, hC2744⟩
        have hB2744 : Below (World.heap w2460).size w2460 w2744 := hC2744.stepBF
        refine ⟨fun _ => .of_below hB2744, ?_⟩
        replace f2461 := f2461.ext hB2744
        replace f2462 := f2462.ext hB2744
        replace f2463 := f2463.ext hB2744
        replace hT2739 := hT2739.trans (Below.mono hB2744 hT2739.size)
        replace hS := hS.below hB2744
        cases hx2739
        exact eseq_nil ⟨hT2739, Sub.set rfl (Sub.set rfl (Sub.set rfl (Sub.set rfl (Sub.set rfl (Sub.set rfl (Sub.set rfl (Sub.set rfl (Sub.set rfl (Sub.bool true rfl hg2739))))))))), rfl⟩
      · intro hg2739
        refine g_skip rfl rfl rfl ?_
        refine g_skip rfl rfl rfl ?_
        refine g_skip rfl rfl rfl ?_
        refine g_skip rfl rfl rfl ?_
        refine g_skip rfl rfl rfl ?_
        refine g_skip rfl rfl rfl ?_
        refine g_skip rfl rfl rfl ?_
        refine g_skip rfl rfl rfl ?_
        refine g_skip rfl rfl rfl ?_
        exact eseq_nil ⟨rfl, Sub.set rfl (Sub.set rfl (Sub.set rfl (Sub.set rfl (Sub.set rfl (Sub.set rfl (Sub.set rfl (Sub.set rfl (Sub.set rfl (Sub.bool false rfl hg2739)))))))))⟩
      intro wm2739 hBm2739; clear hx2739
      replace hS := hS.below hBm2739
      replace f2461 := f2461.ext hBm2739
      replace f2462 := f2462.ext hBm2739
      replace f2463 := f2463.ext hBm2739
      refine q_assign rfl rfl ?_
      refine eseq_nil ?_
      refine hK2730 _ _ ?_
      refine e_region_text rfl ?_
      refine q_addW rfl rfl rfl ?_
      refine q_move rfl rfl ?_
      refine eseq_nil ?_
      obtain rfl := Option.some.inj ho2415
      exact ⟨m2415, _, Nat.lt_succ_self _, ⟨x2740, (w64 (x2471 + 1)), _, ht2415, hS, f2461, f2462, f2463, rfl⟩, Sub.cons rfl (Sub.cons rfl (Sub.cons rfl (Sub.cons rfl (Sub.cons rfl (Sub.cons rfl (Sub.cons rfl (Sub.cons rfl (Sub.cons rfl (Sub.cons rfl (Sub.cons rfl (Sub.cons rfl (Sub.cons rfl (Sub.nil _)))))))))))))⟩
    · replace ho2415 := (if_neg (not_true hc2729)).symm.trans ho2415
      refine e_exit ?_
      obtain rfl := Option.some.inj ho2415
      obtain rfl := Option.some.inj ht2415
      exact hX2415_2 x2470 _ _ _ ho1431 hS f2461 f2462 f2463 (Sub.cons rfl (Sub.cons rfl (Sub.cons rfl (Sub.cons rfl (Sub.cons rfl (Sub.cons rfl (Sub.cons rfl (Sub.cons rfl (Sub.cons rfl (Sub.cons rfl (Sub.cons rfl (Sub.nil _))))))))))))
end Go.Proofs.Ytdjkdbojmcdogaa
