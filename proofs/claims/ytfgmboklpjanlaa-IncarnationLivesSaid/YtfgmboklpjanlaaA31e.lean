/- Printed walks: A31e. -/
import Derived.Test.YtfgmboklpjanlaaA31d
set_option linter.unusedVariables false
set_option linter.unusedSimpArgs false
namespace Go.Mine
open Go.RowKit
def law31_awake (fuel : Nat) : Option (Bool) :=
  (incarnation_Add fuel ([(⟨0, 0, 5⟩ : EndI)]) (⟨0, 1, 3⟩ : EndI)).bind fun r39 => (incarnation_Add fuel ([(⟨0, 0, 3⟩ : EndI)]) (⟨0, 1, 5⟩ : EndI)).bind fun r45 => (andM ((r39.length : Int) == 1) ((ati r39 0).bind fun x50 => some (x50.inc == 1))).bind fun x49 => (andM x49 (some ((r45.length : Int) == 2))).bind fun x54 => (andM x54 ((incarnation_Undone fuel r45 0 (⟨1, 4⟩ : Lab)).bind fun r58 => some (!r58))).bind fun x56 => (andM x56 ((incarnation_Undone fuel r45 0 (⟨0, 4⟩ : Lab)).bind fun r62 => some r62)).bind fun x60 => (andM x60 ((incarnation_Undone fuel r45 0 (⟨1, 6⟩ : Lab)).bind fun r67 => some r67)).bind fun x65 => some x65
def law31_IncarnationUndone (fuel : Nat) (a0 : (List EndI)) (a1 : Int) (a2 : Lab) (a3 : (List Int)) : Option (Bool) :=
  (law31_awake fuel).bind fun r60 => (orM (!r60) (some (decide (60 < (a0.length : Int))))).bind fun x62 => (if x62 = true then some (decide (60 < (a0.length : Int))) else (make_New fuel a3 100).bind fun r68 => (make_Codes_Ends fuel 8 r68.1 r68.2).bind fun r73 => (make_Codes_Next fuel 4 r68.1 r73.2).bind fun r77 => (make_Codes_Next fuel 5 r68.1 r77.2).bind fun r79 => (make_Codes_Next fuel 8 r68.1 r79.2).bind fun r81 => (incarnation_Undone fuel a0 a1 (⟨a2.inc, a2.index⟩ : Lab)).bind fun r97 => (ref31_Undone fuel a0 a1 (⟨a2.inc, a2.index⟩ : Lab)).bind fun r99 => (andM (r97 == r99) ((incarnation_Undone fuel r73.1 r77.1 (⟨r79.1, r81.1⟩ : Lab)).bind fun r103 => (ref31_Undone fuel r73.1 r77.1 (⟨r79.1, r81.1⟩ : Lab)).bind fun r105 => some (r103 == r105))).bind fun x101 => some x101)
def law31_IncarnationReduces (fuel : Nat) (a0 : (List EndI)) (a1 : (List EndI)) (a2 : EndI) (a3 : (List Int)) : Option (Bool) :=
  (law31_awake fuel).bind fun r125 => (orM (!r125) (some (decide (40 < (a0.length : Int))))).bind fun x127 => (orM x127 (some (decide (40 < (a1.length : Int))))).bind fun x129 => (if x129 = true then (orM (decide (40 < (a0.length : Int))) (some (decide (40 < (a1.length : Int))))).bind fun x133 => some x133 else (make_New fuel a3 150).bind fun r136 => (make_Codes_Ends fuel 8 r136.1 r136.2).bind fun r141 => (make_Codes_Ends fuel 8 r136.1 r141.2).bind fun r144 => (make_Codes_Next fuel 3 r136.1 r144.2).bind fun r148 => (make_Codes_Next fuel 4 r136.1 r148.2).bind fun r150 => (make_Codes_Next fuel 6 r136.1 r150.2).bind fun r152 => (incarnation_Merge fuel a0 a1).bind fun r196 => (ref31_Merge fuel a0 a1).bind fun r199 => (ref31_Same fuel r196 r199).bind fun r202 => (andM r202 ((incarnation_Merge fuel r141.1 r144.1).bind fun r206 => (ref31_Merge fuel r141.1 r144.1).bind fun r209 => (ref31_Same fuel r206 r209).bind fun r212 => some r212)).bind fun x204 => (andM x204 ((incarnation_Add fuel a0 (⟨a2.proc, a2.inc, a2.index⟩ : EndI)).bind fun r216 => (ref31_Add fuel a0 (⟨a2.proc, a2.inc, a2.index⟩ : EndI)).bind fun r219 => (ref31_Same fuel r216 r219).bind fun r222 => some r222)).bind fun x214 => (andM x214 ((incarnation_Add fuel r141.1 (⟨r148.1, r150.1, r152.1⟩ : EndI)).bind fun r226 => (ref31_Add fuel r141.1 (⟨r148.1, r150.1, r152.1⟩ : EndI)).bind fun r229 => (ref31_Same fuel r226 r229).bind fun r232 => some r232)).bind fun x224 => some x224)
def law31_IncarnationAsks (fuel : Nat) (a0 : (List EndI)) (a1 : Int) (a2 : (List Evt)) (a3 : Msg) (a4 : (List Int)) : Option (Bool) :=
  (law31_awake fuel).bind fun r121 => (orM (!r121) (some (decide (60 < (a0.length : Int))))).bind fun x123 => (orM x123 (some (decide (80 < (a2.length : Int))))).bind fun x125 => (if x125 = true then (orM (decide (60 < (a0.length : Int))) (some (decide (80 < (a2.length : Int))))).bind fun x129 => some x129 else (make_New fuel a4 150).bind fun r132 => (make_Codes_Ends fuel 6 r132.1 r132.2).bind fun r137 => (make_Codes_Events fuel 10 r132.1 r137.2).bind fun r140 => (make_Codes_Next fuel 4 r132.1 r140.2).bind fun r143 => (make_Codes_Next fuel 3 r132.1 r143.2).bind fun r146 => (make_Codes_Next fuel 4 r132.1 r146.2).bind fun r148 => (make_Codes_Next fuel 7 r132.1 r148.2).bind fun r150 => (incarnation_Kept fuel a0 a1 a2).bind fun r190 => (ref31_Kept fuel a0 a1 a2).bind fun r192 => (andM (r190 == r192) ((incarnation_Kept fuel r137.1 r143.1 r140.1).bind fun r196 => (ref31_Kept fuel r137.1 r143.1 r140.1).bind fun r198 => some (r196 == r198))).bind fun x194 => (andM x194 ((incarnation_Obsolete fuel a0 (⟨a3.frm, a3.to, (⟨a3.sent.inc, a3.sent.index⟩ : Lab), a3.ord, a3.value, a3.clock, a3.vector, a3.known⟩ : Msg)).bind fun r202 => (ref31_Obsolete fuel a0 (⟨a3.frm, a3.to, (⟨a3.sent.inc, a3.sent.index⟩ : Lab), a3.ord, a3.value, a3.clock, a3.vector, a3.known⟩ : Msg)).bind fun r204 => some (r202 == r204))).bind fun x200 => (andM x200 ((incarnation_Obsolete fuel r137.1 (⟨r146.1, 0, (⟨r148.1, r150.1⟩ : Lab), 0, 0, 0, ([] : List Int), ([] : List Known)⟩ : Msg)).bind fun r208 => (ref31_Obsolete fuel r137.1 (⟨r146.1, 0, (⟨r148.1, r150.1⟩ : Lab), 0, 0, 0, ([] : List Int), ([] : List Known)⟩ : Msg)).bind fun r210 => some (r208 == r210))).bind fun x206 => (andM x206 ((incarnation_Next fuel a0 a1).bind fun r214 => (ref31_Next fuel a0 a1).bind fun r216 => some (r214 == r216))).bind fun x212 => (andM x212 ((incarnation_Next fuel r137.1 r143.1).bind fun r220 => (ref31_Next fuel r137.1 r143.1).bind fun r222 => some (r220 == r222))).bind fun x218 => some x218)
def law31_IncarnationSame_K3 (fuel : Nat) (r1363 : ((List Int) × Int)) (r1374 : ((List Evt) × Int)) (r1384 : ((List EndI))) : Option (Bool) :=
  (make_Codes_Next fuel 4 r1363.1 r1374.2).bind fun r2313 => (incarnation_Undone fuel r1384 r2313.1 (⟨0, 0⟩ : Lab)).bind fun r2315 => some (!r2315)
def law31_IncarnationSame_K4 (fuel : Nat) (x1958 : Int) : Option ((Int) ⊕ (Unit ⊕ (Bool))) :=
  some (Sum.inl (w64 (x1958 + 1)))
def law31_IncarnationSame_K5 (fuel : Nat) (x2451 : Int) : Option ((Int) ⊕ (Unit ⊕ (Bool))) :=
  some (Sum.inl (w64 (x2451 + 1)))
def law31_IncarnationSame_B3 (fuel : Nat) (r1384 : ((List EndI))) (x1958 : Int) (x2451 : Int) (x1381 : (List EndI)) (x2605 : Int) : Option ((Int) ⊕ (Unit ⊕ (Bool))) :=
  (if (decide (x2605 < 8)) = true then (incarnation_Undone fuel r1384 x1958 (⟨x2451, x2605⟩ : Lab)).bind fun r2652 => (incarnation_Undone fuel x1381 x1958 (⟨x2451, x2605⟩ : Lab)).bind fun r2654 => (if (r2652 != r2654) = true then some (Sum.inr (Sum.inr false)) else some (Sum.inl (w64 (x2605 + 1)))) else some (Sum.inr (Sum.inl ())))
def law31_IncarnationSame_B2 (fuel : Nat) (r1384 : ((List EndI))) (x1958 : Int) (x1381 : (List EndI)) (x2451 : Int) : Option ((Int) ⊕ (Unit ⊕ (Bool))) :=
  (if (decide (x2451 < 6)) = true then (iter (fun s => law31_IncarnationSame_B3 fuel r1384 x1958 x2451 x1381 s) fuel (-1)).bind (fun t => Sum.elim (fun t => law31_IncarnationSame_K5 fuel x2451) (fun t => some (Sum.inr (Sum.inr t))) t) else some (Sum.inr (Sum.inl ())))
def law31_IncarnationSame_B1 (fuel : Nat) (r1384 : ((List EndI))) (x1381 : (List EndI)) (r1374 : ((List Evt) × Int)) (x1958 : Int) : Option ((Int) ⊕ (Unit ⊕ (Bool))) :=
  (if (decide (x1958 < 4)) = true then (incarnation_Next fuel r1384 x1958).bind fun r2323 => (incarnation_Next fuel x1381 x1958).bind fun r2325 => (orM (r2323 != r2325) ((incarnation_Kept fuel r1384 x1958 r1374.1).bind fun r2329 => (incarnation_Kept fuel x1381 x1958 r1374.1).bind fun r2331 => some (r2329 != r2331))).bind fun x2327 => (if x2327 = true then some (Sum.inr (Sum.inr false)) else (iter (fun s => law31_IncarnationSame_B2 fuel r1384 x1958 x1381 s) fuel (-1)).bind (fun t => Sum.elim (fun t => law31_IncarnationSame_K4 fuel x1958) (fun t => some (Sum.inr (Sum.inr t))) t)) else some (Sum.inr (Sum.inl ())))
def law31_IncarnationSame_K2 (fuel : Nat) (r1384 : ((List EndI))) (x1381 : (List EndI)) (r1374 : ((List Evt) × Int)) (r1363 : ((List Int) × Int)) : Option (Bool) :=
  (iter (fun s => law31_IncarnationSame_B1 fuel r1384 x1381 r1374 s) fuel 0).bind (fun t => Sum.elim (fun t => law31_IncarnationSame_K3 fuel r1363 r1374 r1384) (fun t => some t) t)
def law31_IncarnationSame_B4 (fuel : Nat) (r1384 : ((List EndI))) (x1544 : Int) : Option ((Int) ⊕ (Unit ⊕ (Bool))) :=
  (if (decide ((w64 (x1544 + 1)) < (r1384.length : Int))) = true then (ati r1384 x1544).bind fun x2662 => (ati r1384 (w64 (x1544 + 1))).bind fun x2665 => (orM (decide (x2665.proc < x2662.proc)) ((ati r1384 x1544).bind fun x2670 => (ati r1384 (w64 (x1544 + 1))).bind fun x2673 => (andM (x2670.proc == x2673.proc) ((ati r1384 x1544).bind fun x2678 => (ati r1384 (w64 (x1544 + 1))).bind fun x2681 => (orM (decide (x2681.inc ≤ x2678.inc)) ((ati r1384 x1544).bind fun x2686 => (ati r1384 (w64 (x1544 + 1))).bind fun x2689 => some (decide (x2689.index ≤ x2686.index)))).bind fun x2685 => some x2685)).bind fun x2677 => some x2677)).bind fun x2669 => (if x2669 = true then some (Sum.inr (Sum.inr false)) else some (Sum.inl (w64 (x1544 + 1)))) else some (Sum.inr (Sum.inl ())))
def law31_IncarnationSame_K1 (fuel : Nat) (r1384 : ((List EndI))) (r1371 : ((List EndI) × Int)) (r1368 : ((List EndI) × Int)) (x1381 : (List EndI)) (r1374 : ((List Evt) × Int)) (r1363 : ((List Int) × Int)) (x1464 : (List EndI)) : Option (Bool) :=
  (ref31_Same fuel r1384 x1464).bind fun r1468 => (orM (!r1468) ((incarnation_Merge fuel r1371.1 r1368.1).bind fun r1472 => (ref31_Same fuel r1384 r1472).bind fun r1475 => some (!r1475))).bind fun x1470 => (orM x1470 ((incarnation_Merge fuel r1384 r1384).bind fun r1479 => (ref31_Same fuel r1384 r1479).bind fun r1482 => some (!r1482))).bind fun x1477 => (if x1477 = true then some false else (iter (fun s => law31_IncarnationSame_B4 fuel r1384 s) fuel 0).bind (fun t => Sum.elim (fun t => law31_IncarnationSame_K2 fuel r1384 x1381 r1374 r1363) (fun t => some t) t))
def law31_IncarnationSame_B5 (fuel : Nat) (x1381 : (List EndI)) (x1430 : (List EndI)) (x1431 : Int) : Option (((List EndI) × Int) ⊕ ((List EndI))) :=
  (if (decide (0 ≤ x1431)) = true then (ati x1381 x1431).bind fun x2699 => (incarnation_Add fuel x1430 x2699).bind fun r2703 => some (Sum.inl (r2703, (w64 (x1431 - 1)))) else some (Sum.inr x1430))
def law31_IncarnationSame (fuel : Nat) (a0 : (List Int)) : Option (Bool) :=
  (law31_awake fuel).bind fun r1358 => (if (!r1358) = true then some false else (make_New fuel a0 200).bind fun r1363 => (make_Codes_Ends fuel 8 r1363.1 r1363.2).bind fun r1368 => (make_Codes_Ends fuel 8 r1363.1 r1368.2).bind fun r1371 => (make_Codes_Events fuel 8 r1363.1 r1371.2).bind fun r1374 => (catL ([] : List EndI) r1368.1).bind fun x1379 => (catL x1379 r1371.1).bind fun x1381 => (incarnation_Merge fuel r1368.1 r1371.1).bind fun r1384 => (iter (fun s => law31_IncarnationSame_B5 fuel x1381 s.1 s.2) fuel (([] : List EndI), (w64 ((x1381.length : Int) - 1)))).bind (fun t => law31_IncarnationSame_K1 fuel r1384 r1371 r1368 x1381 r1374 r1363 t))
def law31_IncarnationGrows (fuel : Nat) (a0 : (List EndI)) (a1 : EndI) (a2 : Int) (a3 : Lab) (a4 : (List Int)) : Option (Bool) :=
  (law31_awake fuel).bind fun r78 => (orM (!r78) (some (decide (60 < (a0.length : Int))))).bind fun x80 => (if x80 = true then some (decide (60 < (a0.length : Int))) else (make_New fuel a4 150).bind fun r85 => (make_Codes_Ends fuel 6 r85.1 r85.2).bind fun r90 => (make_Codes_Ends fuel 3 r85.1 r90.2).bind fun r93 => (make_Codes_Events fuel 8 r85.1 r93.2).bind fun r96 => (make_Codes_Next fuel 3 r85.1 r96.2).bind fun r100 => (incarnation_Undone fuel a0 a2 (⟨a3.inc, a3.index⟩ : Lab)).bind fun r113 => (andM r113 ((incarnation_Add fuel a0 (⟨a1.proc, a1.inc, a1.index⟩ : EndI)).bind fun r117 => (incarnation_Undone fuel r117 a2 (⟨a3.inc, a3.index⟩ : Lab)).bind fun r120 => some (!r120))).bind fun x115 => (if x115 = true then some false else (incarnation_Kept fuel r90.1 r100.1 r96.1).bind fun r125 => (incarnation_Merge fuel r90.1 r93.1).bind fun r127 => (incarnation_Kept fuel r127 r100.1 r96.1).bind fun r130 => (andM (decide (r130 ≤ r125)) (some (decide (r125 ≤ (r96.1.length : Int))))).bind fun x133 => (andM x133 (some (decide (0 ≤ r130)))).bind fun x135 => some x135))
def law31_IncarnationLives_K1 (fuel : Nat) : Option (Bool) :=
  some true
def law31_IncarnationLives_K2 (fuel : Nat) (x1918 : Int) (x1921 : (List Evt)) (x1924 : (List Lab)) (x1927 : (List EndI)) (x1928 : Int) : Option ((Int × (List Evt) × (List Lab) × (List EndI) × Int) ⊕ (Unit ⊕ (Bool))) :=
  some (Sum.inl (x1918, x1921, x1924, x1927, x1928))
def law31_IncarnationLives_B2 (fuel : Nat) (x1924 : (List Lab)) (x1927 : (List EndI)) (x1979 : Int) : Option ((Int) ⊕ (Unit ⊕ (Bool))) :=
  (if (decide (x1979 < (x1924.length : Int))) = true then (ati x1924 x1979).bind fun x2017 => (incarnation_Undone fuel x1927 2 x2017).bind fun r2021 => (orM (!r2021) ((ati x1924 x1979).bind fun x2024 => (incarnation_Obsolete fuel x1927 (⟨2, 0, x2024, 0, 0, 0, ([] : List Int), ([] : List Known)⟩ : Msg)).bind fun r2028 => some (!r2028))).bind fun x2023 => (if x2023 = true then some (Sum.inr (Sum.inr false)) else some (Sum.inl (w64 (x1979 + 1)))) else some (Sum.inr (Sum.inl ())))
def law31_IncarnationLives_J1 (fuel : Nat) (x1918 : Int) (x1921 : (List Evt)) (x1924 : (List Lab)) (x1927 : (List EndI)) (x1928 : Int) : Option ((Int × (List Evt) × (List Lab) × (List EndI) × Int) ⊕ (Unit ⊕ (Bool))) :=
  (incarnation_Kept fuel x1927 2 x1921).bind fun r1932 => (orM (r1932 != (x1921.length : Int)) ((incarnation_Next fuel x1927 2).bind fun r1936 => some (r1936 != x1928))).bind fun x1934 => (if x1934 = true then some (Sum.inr (Sum.inr false)) else (iter (fun s => law31_IncarnationLives_B2 fuel x1924 x1927 s) fuel 0).bind (fun t => Sum.elim (fun t => law31_IncarnationLives_K2 fuel x1918 x1921 x1924 x1927 x1928) (fun t => some (Sum.inr (Sum.inr t))) t))
def law31_IncarnationLives_K3 (fuel : Nat) (x1435 : (List Evt)) (r2044 : (Int × Int)) (x1441 : (List EndI)) (x1442 : Int) (x2109 : (List Lab)) : Option ((Int × (List Evt) × (List Lab) × (List EndI) × Int) ⊕ (Unit ⊕ (Bool))) :=
  (takeL x1435 r2044.1).bind fun x2114 => (catL ([] : List Evt) x2114).bind fun x2117 => (incarnation_Add fuel x1441 (⟨2, x1442, r2044.1⟩ : EndI)).bind fun r2120 => law31_IncarnationLives_J1 fuel r2044.2 x2117 x2109 r2120 (w64 (x1442 + 1))
def law31_IncarnationLives_B3 (fuel : Nat) (x1435 : (List Evt)) (x2080 : (List Lab)) (x2082 : Int) : Option (((List Lab) × Int) ⊕ ((List Lab))) :=
  (if (decide (x2082 < (x1435.length : Int))) = true then (ati x1435 x2082).bind fun x2126 => (snoc x2080 (⟨x2126.inc, w64 (x2082 + 1)⟩ : Lab)).bind fun x2132 => some (Sum.inl (x2132, (w64 (x2082 + 1)))) else some (Sum.inr x2080))
def law31_IncarnationLives_B1 (fuel : Nat) (r1077 : ((List Int) × Int)) (x1432 : Int) (x1435 : (List Evt)) (x1438 : (List Lab)) (x1441 : (List EndI)) (x1442 : Int) : Option ((Int × (List Evt) × (List Lab) × (List EndI) × Int) ⊕ (Unit ⊕ (Bool))) :=
  (make_Codes_Left fuel r1077.1 x1432).bind fun r1808 => (andM r1808 (some (decide ((x1438.length : Int) < 100)))).bind fun x1810 => (if x1810 = true then (make_Codes_Next fuel 10 r1077.1 x1432).bind fun r2033 => (andM (decide (r2033.1 < 7)) (some (decide ((x1435.length : Int) < 30)))).bind fun x2036 => (if x2036 = true then (snoc x1435 (⟨2, x1442, 0, (⟨0, 0⟩ : Lab), 0, r2033.1⟩ : Evt)).bind fun x2041 => law31_IncarnationLives_J1 fuel r2033.2 x2041 x1438 x1441 x1442 else (make_Codes_Next fuel (w64 ((x1435.length : Int) + 1)) r1077.1 r2033.2).bind fun r2044 => (iter (fun s => law31_IncarnationLives_B3 fuel x1435 s.1 s.2) fuel (x1438, r2044.1)).bind (fun t => law31_IncarnationLives_K3 fuel x1435 r2044 x1441 x1442 t)) else some (Sum.inr (Sum.inl ())))
def law31_IncarnationLives (fuel : Nat) (a0 : (List Int)) : Option (Bool) :=
  (law31_awake fuel).bind fun r1072 => (if (!r1072) = true then some false else (make_New fuel a0 200).bind fun r1077 => (iter (fun s => law31_IncarnationLives_B1 fuel r1077 s.1 s.2.1 s.2.2.1 s.2.2.2.1 s.2.2.2.2) fuel (r1077.2, ([] : List Evt), ([] : List Lab), ([] : List EndI), 0)).bind (fun t => Sum.elim (fun t => law31_IncarnationLives_K1 fuel) (fun t => some t) t))
end Go.Mine
namespace Go.Proofs.Ytfgmboklpjanlaa
open Go.RowKit Go.Mine
attribute [local irreducible] eseq ewp iter
theorem law31_awake_w {F R : Nat → Prop} {w : World} {fuel : Nat} {r : (Bool)} (hS : Sep F R R w w []) (h : law31_awake fuel = some r) :
    Gives Try.prog 9 [] w fun u w1 => ∃ (R1 : Nat → Prop), u = .bool r ∧ Sep F R R1 w w1 [] := by
  refine fn_of Try.func9 rfl Try.ntmps9 (Nat.le_of_ble_eq_true rfl) ?_
  unfold law31_awake at h
  refine e_seq fun K34 hK34 => ?_
  refine e_region_text rfl ?_
  refine q_assign rfl rfl ?_
  refine eseq_nil ?_
  refine hK34 _ _ ?_
  refine e_seq fun K35 hK35 => ?_
  refine e_region_text rfl ?_
  refine q_build (Parts.cons rfl rfl (Parts.cons rfl rfl (Parts.cons rfl rfl Parts.nil))) rfl rfl ?_
  refine q_litO (T := endITy) (S := (fun _ => False)) (cells := [[.int .i64 0, .int .i64 0, .int .i64 5]]) (ys := [(⟨0, 0, 5⟩ : EndI)]) ((Parts.cons rfl rfl Parts.nil)) rfl rfl rfl rfl rfl rfl rfl (fun w1 hB => ⟨⟨[_], _, rfl, rfl, ⟨[_], _, rfl, rfl, rfl⟩⟩, trivial⟩) (fun _ h => h.elim) rfl fun w36 v36 ho36 hv36 hB36 => ?_
  replace hS := hS.newOwnS hB36 ho36 hv36 (fun _ h => h.elim)
  refine q_build (Parts.cons rfl rfl (Parts.cons rfl rfl (Parts.cons rfl rfl Parts.nil))) rfl rfl ?_
  obtain ⟨r39, hr39, h⟩ := Option.of_bind h
  refine q_call rfl (incarnation_Add_w (a1 := (⟨0, 1, 3⟩ : EndI)) (Sep.all w36) ((hS.isl 0 rfl)).old hr39) rfl ?_
  rintro v40 w38 ⟨_, R38, rfl, hC38⟩
  have hB38 : Below (World.heap w36).size w36 w38 := hC38.stepBF
  refine ⟨fun _ => .of_below hB38, ?_⟩
  replace hS := hS.newOwnS hB38 (hC38.own 0 rfl) (hC38.fresh 0 rfl) (fun _ h => h.elim)
  refine q_assign rfl rfl ?_
  refine eseq_nil ?_
  refine hK35 _ _ ?_
  refine e_seq fun K41 hK41 => ?_
  refine e_region_text rfl ?_
  refine q_build (Parts.cons rfl rfl (Parts.cons rfl rfl (Parts.cons rfl rfl Parts.nil))) rfl rfl ?_
  refine q_litO (T := endITy) (S := (fun _ => False)) (cells := [[.int .i64 0, .int .i64 0, .int .i64 3]]) (ys := [(⟨0, 0, 3⟩ : EndI)]) ((Parts.cons rfl rfl Parts.nil)) rfl rfl rfl rfl rfl rfl rfl (fun w1 hB => ⟨⟨[_], _, rfl, rfl, ⟨[_], _, rfl, rfl, rfl⟩⟩, trivial⟩) (fun _ h => h.elim) rfl fun w42 v42 ho42 hv42 hB42 => ?_
  replace hS := hS.newOwnS hB42 ho42 hv42 (fun _ h => h.elim)
  refine q_build (Parts.cons rfl rfl (Parts.cons rfl rfl (Parts.cons rfl rfl Parts.nil))) rfl rfl ?_
  obtain ⟨r45, hr45, h⟩ := Option.of_bind h
  refine q_call rfl (incarnation_Add_w (a1 := (⟨0, 1, 5⟩ : EndI)) (Sep.all w42) ((hS.isl 0 rfl)).old hr45) rfl ?_
  rintro v46 w44 ⟨_, R44, rfl, hC44⟩
  have hB44 : Below (World.heap w42).size w42 w44 := hC44.stepBF
  refine ⟨fun _ => .of_below hB44, ?_⟩
  replace hS := hS.newOwnS hB44 (hC44.own 0 rfl) (hC44.fresh 0 rfl) (fun _ h => h.elim)
  refine q_assign rfl rfl ?_
  refine eseq_nil ?_
  refine hK41 _ _ ?_
  refine e_seq fun K47 hK47 => ?_
  refine e_region_text rfl ?_
  refine q_move rfl rfl ?_
  refine q_lenS rfl (hS.isl 2 rfl) rfl ?_
  refine q_eql rfl rfl rfl ?_
  refine q_move rfl rfl ?_
  obtain ⟨x49, hx48, h⟩ := Option.of_bind h
  refine g_andM 5 hx48 rfl trivial rfl rfl ?_ ?_ ?_
  · intro hg48 hx48
    clear h
    have hT48 := Below.refl (World.heap w44).size w44
    refine g_run rfl ?_; refine q_move rfl rfl ?_
    obtain ⟨x50, hx50, hx48⟩ := Option.of_bind hx48
    refine g_run rfl ?_; refine q_indexO (by infer_instance) rfl (hS.own 2 rfl) rfl hx50 rfl ?_
    refine g_run rfl ?_; refine q_field rfl rfl ?_
    have f51 := (hS.ownR 2 rfl).elt hx50
    have f52 := EndI_F1 f51
    refine g_run rfl ?_; refine q_load rfl (Elt.intCell f52) rfl ?_
    refine g_run rfl ?_; refine q_eql rfl rfl rfl ?_
    cases hx48
    exact eseq_nil ⟨hT48, Sub.set rfl (Sub.set rfl (Sub.set rfl (Sub.set rfl (Sub.set rfl (Sub.bool true rfl hg48))))), rfl⟩
  · intro hg48
    refine g_skip rfl rfl rfl ?_
    refine g_skip rfl rfl rfl ?_
    refine g_skip rfl rfl rfl ?_
    refine g_skip rfl rfl rfl ?_
    refine g_skip rfl rfl rfl ?_
    exact eseq_nil ⟨rfl, Sub.set rfl (Sub.set rfl (Sub.set rfl (Sub.set rfl (Sub.set rfl (Sub.bool false rfl hg48)))))⟩
  intro wm48 hBm48; clear hx48
  replace hS := hS.below hBm48
  refine q_move rfl rfl ?_
  obtain ⟨x54, hx53, h⟩ := Option.of_bind h
  refine g_andM 3 hx53 rfl trivial rfl rfl ?_ ?_ ?_
  · intro hg53 hx53
    clear h
    have hT53 := Below.refl (World.heap wm48).size wm48
    refine g_run rfl ?_; refine q_move rfl rfl ?_
    refine g_run rfl ?_; refine q_lenS rfl (hS.isl 0 rfl) rfl ?_
    refine g_run rfl ?_; refine q_eql rfl rfl rfl ?_
    cases hx53
    exact eseq_nil ⟨hT53, Sub.set rfl (Sub.set rfl (Sub.set rfl (Sub.bool true rfl hg53))), rfl⟩
  · intro hg53
    refine g_skip rfl rfl rfl ?_
    refine g_skip rfl rfl rfl ?_
    refine g_skip rfl rfl rfl ?_
    exact eseq_nil ⟨rfl, Sub.set rfl (Sub.set rfl (Sub.set rfl (Sub.bool false rfl hg53)))⟩
  intro wm53 hBm53; clear hx53
  replace hS := hS.below hBm53
  refine q_move rfl rfl ?_
  obtain ⟨x56, hx55, h⟩ := Option.of_bind h
  refine g_andM 4 hx55 rfl trivial rfl rfl ?_ ?_ ?_
  · intro hg55 hx55
    clear h
    have hT55 := Below.refl (World.heap wm53).size wm53
    refine g_run rfl ?_; refine q_move rfl rfl ?_
    refine g_run rfl ?_; refine q_build (Parts.cons rfl rfl (Parts.cons rfl rfl Parts.nil)) rfl rfl ?_
    obtain ⟨r58, hr58, hx55⟩ := Option.of_bind hx55
    refine g_run rfl ?_; refine q_call rfl (incarnation_Undone_w (a2 := (⟨1, 4⟩ : Lab)) (Sep.all wm53) ((hS.isl 0 rfl)).old hr58) rfl ?_
    rintro _ w57 ⟨R57, rfl, hC57⟩
    have hB57 : Below (World.heap wm53).size wm53 w57 := hC57.stepBF
    refine ⟨fun _ => .of_below hB57, ?_⟩
    replace hT55 := hT55.trans (Below.mono hB57 hT55.size)
    replace hS := hS.below hB57
    refine g_run rfl ?_; refine q_not rfl rfl ?_
    cases hx55
    exact eseq_nil ⟨hT55, Sub.set rfl (Sub.set rfl (Sub.set rfl (Sub.set rfl (Sub.bool true rfl hg55)))), rfl⟩
  · intro hg55
    refine g_skip rfl rfl rfl ?_
    refine g_skip rfl rfl rfl ?_
    refine g_skip rfl rfl rfl ?_
    refine g_skip rfl rfl rfl ?_
    exact eseq_nil ⟨rfl, Sub.set rfl (Sub.set rfl (Sub.set rfl (Sub.set rfl (Sub.bool false rfl hg55))))⟩
  intro wm55 hBm55; clear hx55
  replace hS := hS.below hBm55
  refine q_move rfl rfl ?_
  obtain ⟨x60, hx59, h⟩ := Option.of_bind h
  refine g_andM 3 hx59 rfl trivial rfl rfl ?_ ?_ ?_
  · intro hg59 hx59
    clear h
    have hT59 := Below.refl (World.heap wm55).size wm55
    refine g_run rfl ?_; refine q_move rfl rfl ?_
    refine g_run rfl ?_; refine q_build (Parts.cons rfl rfl (Parts.cons rfl rfl Parts.nil)) rfl rfl ?_
    obtain ⟨r62, hr62, hx59⟩ := Option.of_bind hx59
    refine g_run rfl ?_; refine q_call rfl (incarnation_Undone_w (a2 := (⟨0, 4⟩ : Lab)) (Sep.all wm55) ((hS.isl 0 rfl)).old hr62) rfl ?_
    rintro _ w61 ⟨R61, rfl, hC61⟩
    have hB61 : Below (World.heap wm55).size wm55 w61 := hC61.stepBF
    refine ⟨fun _ => .of_below hB61, ?_⟩
    replace hT59 := hT59.trans (Below.mono hB61 hT59.size)
    replace hS := hS.below hB61
    cases hx59
    exact eseq_nil ⟨hT59, Sub.set rfl (Sub.set rfl (Sub.set rfl (Sub.bool true rfl hg59))), rfl⟩
  · intro hg59
    refine g_skip rfl rfl rfl ?_
    refine g_skip rfl rfl rfl ?_
    refine g_skip rfl rfl rfl ?_
    exact eseq_nil ⟨rfl, Sub.set rfl (Sub.set rfl (Sub.set rfl (Sub.bool false rfl hg59)))⟩
  intro wm59 hBm59; clear hx59
  replace hS := hS.below hBm59
  refine q_move rfl rfl ?_
  obtain ⟨x65, hx63, h⟩ := Option.of_bind h
  refine g_andM 3 hx63 rfl trivial rfl rfl ?_ ?_ ?_
  · intro hg63 hx63
    clear h
    have hT63 := Below.refl (World.heap wm59).size wm59
    refine g_run rfl ?_; refine q_move rfl rfl ?_
    refine g_run rfl ?_; refine q_build (Parts.cons rfl rfl (Parts.cons rfl rfl Parts.nil)) rfl rfl ?_
    obtain ⟨r67, hr67, hx63⟩ := Option.of_bind hx63
    refine g_run rfl ?_; refine q_call rfl (incarnation_Undone_w (a2 := (⟨1, 6⟩ : Lab)) (Sep.all wm59) ((hS.isl 0 rfl)).old hr67) rfl ?_
    rintro _ w66 ⟨R66, rfl, hC66⟩
    have hB66 : Below (World.heap wm59).size wm59 w66 := hC66.stepBF
    refine ⟨fun _ => .of_below hB66, ?_⟩
    replace hT63 := hT63.trans (Below.mono hB66 hT63.size)
    replace hS := hS.below hB66
    cases hx63
    exact eseq_nil ⟨hT63, Sub.set rfl (Sub.set rfl (Sub.set rfl (Sub.bool true rfl hg63))), rfl⟩
  · intro hg63
    refine g_skip rfl rfl rfl ?_
    refine g_skip rfl rfl rfl ?_
    refine g_skip rfl rfl rfl ?_
    exact eseq_nil ⟨rfl, Sub.set rfl (Sub.set rfl (Sub.set rfl (Sub.bool false rfl hg63)))⟩
  intro wm63 hBm63; clear hx63
  replace hS := hS.below hBm63
  refine q_assign rfl rfl ?_
  refine eseq_nil ?_
  refine hK47 _ _ ?_
  refine e_ret ?_
  obtain rfl := Option.some.inj h
  exact ⟨_, res1 rfl rfl, _, rfl, (hS.pickB [] 4 rfl rfl)⟩
theorem law31_IncarnationUndone_w {F R : Nat → Prop} {w : World} {fuel : Nat} {a0 : (List EndI)} {a1 : Int} {a2 : Lab} {a3 : (List Int)} {v1 : Value} {v2 : Value} {r : (Bool)} (hS : Sep F R R w w []) (f1 : IsSlice endITy w R v1 a0) (f2 : IsSlice Ty.u8 w R v2 a3) (h : law31_IncarnationUndone fuel a0 a1 a2 a3 = some r) :
    Gives Try.prog 3 [v1, .int .i64 a1, .agg #[.int .i64 a2.inc, .int .i64 a2.index], v2] w fun u w1 => ∃ (R1 : Nat → Prop), u = .bool r ∧ Sep F R R1 w w1 [] := by
  refine fn_of Try.func3 rfl Try.ntmps3 (Nat.le_of_ble_eq_true rfl) ?_
  unfold law31_IncarnationUndone at h
  refine e_seq fun K54 hK54 => ?_
  refine e_region_text rfl ?_
  refine q_boxB rfl rfl rfl fun w55 bl55 hg55 hb55 hB55 => ?_
  replace f1 := f1.ext hB55
  replace f2 := f2.ext hB55
  replace hS := hS.newBlk hB55 hg55 hb55
  refine q_assign rfl rfl ?_
  refine eseq_nil ?_
  refine hK54 _ _ ?_
  refine e_seq fun K57 hK57 => ?_
  refine e_seq fun K58 hK58 => ?_
  refine e_region_text rfl ?_
  obtain ⟨r60, hr60, h⟩ := Option.of_bind h
  refine q_call rfl (law31_awake_w (Sep.enter (As := []) hS)  hr60) rfl ?_
  rintro _ w59 ⟨R59, rfl, hC59⟩
  have hB59 : Below (World.heap w55).size w55 w59 := hC59.stepB0
  refine ⟨fun _ => .of_below hB59, ?_⟩
  replace f1 := (f1.ext hB59).mono fun k hk _ => hC59.ro0 k hk
  replace f2 := (f2.ext hB59).mono fun k hk _ => hC59.ro0 k hk
  replace hS := Sep.leave (As := []) hS hC59; simp only [List.cons_append, List.nil_append] at hS
  refine q_not rfl rfl ?_
  refine q_move rfl rfl ?_
  obtain ⟨x62, hx61, h⟩ := Option.of_bind h
  refine g_orM 3 hx61 rfl trivial rfl rfl ?_ ?_ ?_
  · intro hg61
    refine g_skip rfl rfl rfl ?_
    refine g_skip rfl rfl rfl ?_
    refine g_skip rfl rfl rfl ?_
    exact eseq_nil ⟨rfl, Sub.set rfl (Sub.set rfl (Sub.set rfl (Sub.bool true rfl hg61)))⟩
  · intro hg61 hx61
    clear h
    have hT61 := Below.refl (World.heap w59).size w59
    refine g_run rfl ?_; refine q_move rfl rfl ?_
    refine g_run rfl ?_; refine q_lenS rfl f1 rfl ?_
    refine g_run rfl ?_; refine q_gtr rfl rfl rfl ?_
    cases hx61
    exact eseq_nil ⟨hT61, Sub.set rfl (Sub.set rfl (Sub.set rfl (Sub.bool false rfl hg61))), rfl⟩
  intro wm61 hBm61; clear hx61
  replace hS := hS.below hBm61
  replace f1 := f1.ext hBm61
  replace f2 := f2.ext hBm61
  refine eseq_nil ?_
  refine hK58 _ _ ?_
  refine e_cond rfl (fun hc63 => ?_) (fun hc63 => ?_)
  · replace h := (if_pos hc63).symm.trans h
    refine e_seq fun K65 hK65 => ?_
    refine e_region_text rfl ?_
    refine q_move rfl rfl ?_
    refine q_lenS rfl f1 rfl ?_
    refine q_gtr rfl rfl rfl ?_
    refine q_assign rfl rfl ?_
    refine eseq_nil ?_
    refine hK65 _ _ ?_
    refine e_ret ?_
    obtain rfl := Option.some.inj h
    exact ⟨_, res1 rfl rfl, _, rfl, (hS.pickB [] 1 rfl rfl)⟩
  · replace h := (if_neg (not_true hc63)).symm.trans h
    refine e_skip ?_
    refine hK57 _ _ ?_
    refine e_seq fun K66 hK66 => ?_
    refine e_region_text rfl ?_
    refine q_move rfl rfl ?_
    obtain ⟨r68, hr68, h⟩ := Option.of_bind h
    refine q_call rfl (make_New_w (Sep.enter (As := []) hS) f2 hr68) rfl ?_
    rintro _ w67 ⟨B69, v70, R67, rfl, hC67, f70⟩
    have hB67 : Below (World.heap wm61).size wm61 w67 := hC67.stepB0
    refine ⟨fun _ => .of_below hB67, ?_⟩
    replace f1 := (f1.ext hB67).mono fun k hk _ => hC67.ro0 k hk
    replace f2 := (f2.ext hB67).mono fun k hk _ => hC67.ro0 k hk
    replace hS := Sep.leave (As := []) hS hC67; simp only [List.cons_append, List.nil_append] at hS
    refine q_assign rfl rfl ?_
    refine eseq_nil ?_
    refine hK66 _ _ ?_
    refine e_seq fun K71 hK71 => ?_
    refine e_region_text rfl ?_
    refine q_move rfl rfl ?_
    obtain ⟨r73, hr73, h⟩ := Option.of_bind h
    refine q_call rfl (make_Codes_Ends_w (Sep.enter (As := [_]) hS) f70 hr73) rfl ?_
    rintro v74 w72 ⟨_, R72, rfl, hC72⟩
    refine ⟨(fun h => by cases h), ?_⟩
    have hk72 := hC72.keptR (Sep.offFeet (As := [_]) hS)
    replace f1 := (f1.kept hk72).mono fun k hk _ => hC72.ro0 k hk
    replace f70 := (f70.kept hk72).mono fun k hk _ => hC72.ro0 k hk
    replace hS := Sep.leave (As := [_]) hS hC72; simp only [List.cons_append, List.nil_append] at hS
    refine q_assign rfl rfl ?_
    refine eseq_nil ?_
    refine hK71 _ _ ?_
    refine e_seq fun K75 hK75 => ?_
    refine e_region_text rfl ?_
    refine q_move rfl rfl ?_
    obtain ⟨r77, hr77, h⟩ := Option.of_bind h
    refine q_call rfl (make_Codes_Next_w (Sep.enter (As := [_]) hS) f70 hr77) rfl ?_
    rintro _ w76 ⟨R76, rfl, hC76⟩
    refine ⟨(fun h => by cases h), ?_⟩
    have hk76 := hC76.keptR (Sep.offFeet (As := [_]) hS)
    replace f1 := (f1.kept hk76).mono fun k hk _ => hC76.ro0 k hk
    replace f70 := (f70.kept hk76).mono fun k hk _ => hC76.ro0 k hk
    replace hS := Sep.leave (As := [_]) hS hC76; simp only [List.cons_append, List.nil_append] at hS
    refine q_move rfl rfl ?_
    obtain ⟨r79, hr79, h⟩ := Option.of_bind h
    refine q_call rfl (make_Codes_Next_w (Sep.enter (As := [_]) hS) f70 hr79) rfl ?_
    rintro _ w78 ⟨R78, rfl, hC78⟩
    refine ⟨(fun h => by cases h), ?_⟩
    have hk78 := hC78.keptR (Sep.offFeet (As := [_]) hS)
    replace f1 := (f1.kept hk78).mono fun k hk _ => hC78.ro0 k hk
    replace f70 := (f70.kept hk78).mono fun k hk _ => hC78.ro0 k hk
    replace hS := Sep.leave (As := [_]) hS hC78; simp only [List.cons_append, List.nil_append] at hS
    refine q_move rfl rfl ?_
    obtain ⟨r81, hr81, h⟩ := Option.of_bind h
    refine q_call rfl (make_Codes_Next_w (Sep.enter (As := [_]) hS) f70 hr81) rfl ?_
    rintro _ w80 ⟨R80, rfl, hC80⟩
    refine ⟨(fun h => by cases h), ?_⟩
    have hk80 := hC80.keptR (Sep.offFeet (As := [_]) hS)
    replace f1 := (f1.kept hk80).mono fun k hk _ => hC80.ro0 k hk
    replace f70 := (f70.kept hk80).mono fun k hk _ => hC80.ro0 k hk
    replace hS := Sep.leave (As := [_]) hS hC80; simp only [List.cons_append, List.nil_append] at hS
    refine q_build (Parts.cons rfl rfl (Parts.cons rfl rfl Parts.nil)) rfl rfl ?_
    refine q_allocB rfl fun w82 bl82 hg82 hb82 hB82 => ?_
    replace f1 := f1.ext hB82
    replace hS := hS.newBlk hB82 hg82 hb82
    refine q_assign rfl rfl ?_
    refine q_storeAgg rfl rfl (hS.blk 0 rfl) rfl (Nat.le_of_ble_eq_true rfl) (all_cons rfl (all_cons rfl (all_nil))) rfl rfl fun w84 hb84 hO84 => ?_
    simp only [setN, List.set, List.take, List.drop] at hb84
    have hk84 := hS.keptBlk 0 rfl hO84
    replace f1 := f1.kept hk84
    replace hS := hS.setBlk 0 rfl hb84 hO84; simp only [List.set] at hS
    refine eseq_nil ?_
    refine hK75 _ _ ?_
    refine e_seq fun K85 hK85 => ?_
    refine e_region_draw mixed (fun _ => False) [0, 0, 0, 7, 0, 0, 0, 127, 255, 511, 1023, 1023, 1023, 8191, 1023, 1023, 1023, 131071, 262143, 524287, 1048575] [3, 13] [0, 1, 2, 4, 5, 6, 3, 7, 8, 9, 10, 11, 12, 14, 15, 16, 13, 17, 18, 19, 20] (by kernel_rfl) ?_
    refine q_move rfl rfl ?_
    refine q_move rfl rfl ?_
    refine q_loadAgg rfl (Blk.cellsAt (hS.blk 3 rfl) 0 2 rfl) rfl rfl ?_
    refine q_move rfl rfl ?_
    refine q_move rfl rfl ?_
    refine q_loadAgg rfl (Blk.cellsAt (hS.blk 3 rfl) 0 2 rfl) rfl rfl ?_
    obtain ⟨r97, hr97, h⟩ := Option.of_bind h
    refine q_call rfl (incarnation_Undone_w (a2 := (⟨a2.inc, a2.index⟩ : Lab)) (Sep.enter (As := []) hS) f1 hr97) rfl ?_
    rintro _ w96 ⟨R96, rfl, hC96⟩
    have hB96 : Below (World.heap w84).size w84 w96 := hC96.stepB0
    refine ⟨fun _ => .of_below hB96, ?_⟩
    replace f1 := (f1.ext hB96).mono fun k hk _ => hC96.ro0 k hk
    replace hS := Sep.leave (As := []) hS hC96; simp only [List.cons_append, List.nil_append] at hS
    obtain ⟨r99, hr99, h⟩ := Option.of_bind h
    refine q_call rfl (ref31_Undone_w (a2 := (⟨a2.inc, a2.index⟩ : Lab)) (Sep.enter (As := []) hS) f1 hr99) rfl ?_
    rintro _ w98 ⟨R98, rfl, hC98⟩
    have hB98 : Below (World.heap w96).size w96 w98 := hC98.stepB0
    refine ⟨fun _ => .of_below hB98, ?_⟩
    replace f1 := (f1.ext hB98).mono fun k hk _ => hC98.ro0 k hk
    replace hS := Sep.leave (As := []) hS hC98; simp only [List.cons_append, List.nil_append] at hS
    refine q_eqlB rfl rfl rfl ?_
    refine q_move rfl rfl ?_
    obtain ⟨x101, hx100, h⟩ := Option.of_bind h
    refine g_andM 9 hx100 rfl trivial rfl rfl ?_ ?_ ?_
    · intro hg100 hx100
      clear h
      have hT100 := Below.refl (World.heap w98).size w98
      refine g_run rfl ?_; refine q_move rfl rfl ?_
      refine g_run rfl ?_; refine q_move rfl rfl ?_
      refine g_run rfl ?_; refine q_loadAgg rfl (Blk.cellsAt (hS.blk 0 rfl) 0 2 rfl) rfl rfl ?_
      refine g_run rfl ?_; refine q_move rfl rfl ?_
      refine g_run rfl ?_; refine q_move rfl rfl ?_
      refine g_run rfl ?_; refine q_loadAgg rfl (Blk.cellsAt (hS.blk 0 rfl) 0 2 rfl) rfl rfl ?_
      obtain ⟨r103, hr103, hx100⟩ := Option.of_bind hx100
      refine g_run rfl ?_; refine q_call rfl (incarnation_Undone_w (a2 := (⟨r79.1, r81.1⟩ : Lab)) (Sep.all w98) ((hS.isl 2 rfl)).old hr103) rfl ?_
      rintro _ w102 ⟨R102, rfl, hC102⟩
      have hB102 : Below (World.heap w98).size w98 w102 := hC102.stepBF
      refine ⟨fun _ => .of_below hB102, ?_⟩
      replace hT100 := hT100.trans (Below.mono hB102 hT100.size)
      replace hS := hS.below hB102
      obtain ⟨r105, hr105, hx100⟩ := Option.of_bind hx100
      refine g_run rfl ?_; refine q_call rfl (ref31_Undone_w (a2 := (⟨r79.1, r81.1⟩ : Lab)) (Sep.all w102) ((hS.isl 2 rfl)).old hr105) rfl ?_
      rintro _ w104 ⟨R104, rfl, hC104⟩
      have hB104 : Below (World.heap w102).size w102 w104 := hC104.stepBF
      refine ⟨fun _ => .of_below hB104, ?_⟩
      replace hT100 := hT100.trans (Below.mono hB104 hT100.size)
      replace hS := hS.below hB104
      refine g_run rfl ?_; refine q_eqlB rfl rfl rfl ?_
      cases hx100
      exact eseq_nil ⟨hT100, Sub.set rfl (Sub.set rfl (Sub.set rfl (Sub.set rfl (Sub.set rfl (Sub.set rfl (Sub.set rfl (Sub.set rfl (Sub.set rfl (Sub.bool true rfl hg100))))))))), rfl⟩
    · intro hg100
      refine g_skip rfl rfl rfl ?_
      refine g_skip rfl rfl rfl ?_
      refine g_skip rfl rfl rfl ?_
      refine g_skip rfl rfl rfl ?_
      refine g_skip rfl rfl rfl ?_
      refine g_skip rfl rfl rfl ?_
      refine g_skip rfl rfl rfl ?_
      refine g_skip rfl rfl rfl ?_
      refine g_skip rfl rfl rfl ?_
      exact eseq_nil ⟨rfl, Sub.set rfl (Sub.set rfl (Sub.set rfl (Sub.set rfl (Sub.set rfl (Sub.set rfl (Sub.set rfl (Sub.set rfl (Sub.set rfl (Sub.bool false rfl hg100)))))))))⟩
    intro wm100 hBm100; clear hx100
    replace hS := hS.below hBm100
    refine q_assign rfl rfl ?_
    refine eseq_nil ?_
    refine hK85 _ _ ?_
    refine e_ret ?_
    obtain rfl := Option.some.inj h
    exact ⟨_, res1 rfl rfl, _, rfl, (hS.pickB [] 4 rfl rfl)⟩
theorem law31_IncarnationReduces_w {F R : Nat → Prop} {w : World} {fuel : Nat} {a0 : (List EndI)} {a1 : (List EndI)} {a2 : EndI} {a3 : (List Int)} {v1 : Value} {v2 : Value} {v3 : Value} {r : (Bool)} (hS : Sep F R R w w []) (f1 : IsSlice endITy w R v1 a0) (f2 : IsSlice endITy w R v2 a1) (f3 : IsSlice Ty.u8 w R v3 a3) (h : law31_IncarnationReduces fuel a0 a1 a2 a3 = some r) :
    Gives Try.prog 4 [v1, v2, .agg #[.int .i64 a2.proc, .int .i64 a2.inc, .int .i64 a2.index], v3] w fun u w1 => ∃ (R1 : Nat → Prop), u = .bool r ∧ Sep F R R1 w w1 [] := by
  refine fn_of Try.func4 rfl Try.ntmps4 (Nat.le_of_ble_eq_true rfl) ?_
  unfold law31_IncarnationReduces at h
  refine e_seq fun K119 hK119 => ?_
  refine e_region_text rfl ?_
  refine q_boxB rfl rfl rfl fun w120 bl120 hg120 hb120 hB120 => ?_
  replace f1 := f1.ext hB120
  replace f2 := f2.ext hB120
  replace f3 := f3.ext hB120
  replace hS := hS.newBlk hB120 hg120 hb120
  refine q_assign rfl rfl ?_
  refine eseq_nil ?_
  refine hK119 _ _ ?_
  refine e_seq fun K122 hK122 => ?_
  refine e_seq fun K123 hK123 => ?_
  refine e_region_text rfl ?_
  obtain ⟨r125, hr125, h⟩ := Option.of_bind h
  refine q_call rfl (law31_awake_w (Sep.enter (As := []) hS)  hr125) rfl ?_
  rintro _ w124 ⟨R124, rfl, hC124⟩
  have hB124 : Below (World.heap w120).size w120 w124 := hC124.stepB0
  refine ⟨fun _ => .of_below hB124, ?_⟩
  replace f1 := (f1.ext hB124).mono fun k hk _ => hC124.ro0 k hk
  replace f2 := (f2.ext hB124).mono fun k hk _ => hC124.ro0 k hk
  replace f3 := (f3.ext hB124).mono fun k hk _ => hC124.ro0 k hk
  replace hS := Sep.leave (As := []) hS hC124; simp only [List.cons_append, List.nil_append] at hS
  refine q_not rfl rfl ?_
  refine q_move rfl rfl ?_
  obtain ⟨x127, hx126, h⟩ := Option.of_bind h
  refine g_orM 3 hx126 rfl trivial rfl rfl ?_ ?_ ?_
  · intro hg126
    refine g_skip rfl rfl rfl ?_
    refine g_skip rfl rfl rfl ?_
    refine g_skip rfl rfl rfl ?_
    exact eseq_nil ⟨rfl, Sub.set rfl (Sub.set rfl (Sub.set rfl (Sub.bool true rfl hg126)))⟩
  · intro hg126 hx126
    clear h
    have hT126 := Below.refl (World.heap w124).size w124
    refine g_run rfl ?_; refine q_move rfl rfl ?_
    refine g_run rfl ?_; refine q_lenS rfl f1 rfl ?_
    refine g_run rfl ?_; refine q_gtr rfl rfl rfl ?_
    cases hx126
    exact eseq_nil ⟨hT126, Sub.set rfl (Sub.set rfl (Sub.set rfl (Sub.bool false rfl hg126))), rfl⟩
  intro wm126 hBm126; clear hx126
  replace hS := hS.below hBm126
  replace f1 := f1.ext hBm126
  replace f2 := f2.ext hBm126
  replace f3 := f3.ext hBm126
  refine q_move rfl rfl ?_
  obtain ⟨x129, hx128, h⟩ := Option.of_bind h
  refine g_orM 3 hx128 rfl trivial rfl rfl ?_ ?_ ?_
  · intro hg128
    refine g_skip rfl rfl rfl ?_
    refine g_skip rfl rfl rfl ?_
    refine g_skip rfl rfl rfl ?_
    exact eseq_nil ⟨rfl, Sub.set rfl (Sub.set rfl (Sub.set rfl (Sub.bool true rfl hg128)))⟩
  · intro hg128 hx128
    clear h
    have hT128 := Below.refl (World.heap wm126).size wm126
    refine g_run rfl ?_; refine q_move rfl rfl ?_
    refine g_run rfl ?_; refine q_lenS rfl f2 rfl ?_
    refine g_run rfl ?_; refine q_gtr rfl rfl rfl ?_
    cases hx128
    exact eseq_nil ⟨hT128, Sub.set rfl (Sub.set rfl (Sub.set rfl (Sub.bool false rfl hg128))), rfl⟩
  intro wm128 hBm128; clear hx128
  replace hS := hS.below hBm128
  replace f1 := f1.ext hBm128
  replace f2 := f2.ext hBm128
  replace f3 := f3.ext hBm128
  refine eseq_nil ?_
  refine hK123 _ _ ?_
  refine e_cond rfl (fun hc130 => ?_) (fun hc130 => ?_)
  · replace h := (if_pos hc130).symm.trans h
    refine e_seq fun K131 hK131 => ?_
    refine e_region_text rfl ?_
    refine q_move rfl rfl ?_
    refine q_lenS rfl f1 rfl ?_
    refine q_gtr rfl rfl rfl ?_
    refine q_move rfl rfl ?_
    obtain ⟨x133, hx132, h⟩ := Option.of_bind h
    refine g_orM 3 hx132 rfl trivial rfl rfl ?_ ?_ ?_
    · intro hg132
      refine g_skip rfl rfl rfl ?_
      refine g_skip rfl rfl rfl ?_
      refine g_skip rfl rfl rfl ?_
      exact eseq_nil ⟨rfl, Sub.set rfl (Sub.set rfl (Sub.set rfl (Sub.bool true rfl hg132)))⟩
    · intro hg132 hx132
      clear h
      have hT132 := Below.refl (World.heap wm128).size wm128
      refine g_run rfl ?_; refine q_move rfl rfl ?_
      refine g_run rfl ?_; refine q_lenS rfl f2 rfl ?_
      refine g_run rfl ?_; refine q_gtr rfl rfl rfl ?_
      cases hx132
      exact eseq_nil ⟨hT132, Sub.set rfl (Sub.set rfl (Sub.set rfl (Sub.bool false rfl hg132))), rfl⟩
    intro wm132 hBm132; clear hx132
    replace hS := hS.below hBm132
    refine q_assign rfl rfl ?_
    refine eseq_nil ?_
    refine hK131 _ _ ?_
    refine e_ret ?_
    obtain rfl := Option.some.inj h
    exact ⟨_, res1 rfl rfl, _, rfl, (hS.pickB [] 1 rfl rfl)⟩
  · replace h := (if_neg (not_true hc130)).symm.trans h
    refine e_skip ?_
    refine hK122 _ _ ?_
    refine e_seq fun K134 hK134 => ?_
    refine e_region_text rfl ?_
    refine q_move rfl rfl ?_
    obtain ⟨r136, hr136, h⟩ := Option.of_bind h
    refine q_call rfl (make_New_w (Sep.enter (As := []) hS) f3 hr136) rfl ?_
    rintro _ w135 ⟨B137, v138, R135, rfl, hC135, f138⟩
    have hB135 : Below (World.heap wm128).size wm128 w135 := hC135.stepB0
    refine ⟨fun _ => .of_below hB135, ?_⟩
    replace f1 := (f1.ext hB135).mono fun k hk _ => hC135.ro0 k hk
    replace f2 := (f2.ext hB135).mono fun k hk _ => hC135.ro0 k hk
    replace f3 := (f3.ext hB135).mono fun k hk _ => hC135.ro0 k hk
    replace hS := Sep.leave (As := []) hS hC135; simp only [List.cons_append, List.nil_append] at hS
    refine q_assign rfl rfl ?_
    refine eseq_nil ?_
    refine hK134 _ _ ?_
    refine e_seq fun K139 hK139 => ?_
    refine e_region_text rfl ?_
    refine q_move rfl rfl ?_
    obtain ⟨r141, hr141, h⟩ := Option.of_bind h
    refine q_call rfl (make_Codes_Ends_w (Sep.enter (As := [_]) hS) f138 hr141) rfl ?_
    rintro v142 w140 ⟨_, R140, rfl, hC140⟩
    refine ⟨(fun h => by cases h), ?_⟩
    have hk140 := hC140.keptR (Sep.offFeet (As := [_]) hS)
    replace f1 := (f1.kept hk140).mono fun k hk _ => hC140.ro0 k hk
    replace f2 := (f2.kept hk140).mono fun k hk _ => hC140.ro0 k hk
    replace f138 := (f138.kept hk140).mono fun k hk _ => hC140.ro0 k hk
    replace hS := Sep.leave (As := [_]) hS hC140; simp only [List.cons_append, List.nil_append] at hS
    refine q_move rfl rfl ?_
    obtain ⟨r144, hr144, h⟩ := Option.of_bind h
    refine q_call rfl (make_Codes_Ends_w (Sep.enter (As := [_]) hS) f138 hr144) rfl ?_
    rintro v145 w143 ⟨_, R143, rfl, hC143⟩
    refine ⟨(fun h => by cases h), ?_⟩
    have hk143 := hC143.keptR (Sep.offFeet (As := [_]) hS)
    replace f1 := (f1.kept hk143).mono fun k hk _ => hC143.ro0 k hk
    replace f2 := (f2.kept hk143).mono fun k hk _ => hC143.ro0 k hk
    replace f138 := (f138.kept hk143).mono fun k hk _ => hC143.ro0 k hk
    replace hS := Sep.leave (As := [_]) hS hC143; simp only [List.cons_append, List.nil_append] at hS
    refine q_assign rfl rfl ?_
    refine q_assign rfl rfl ?_
    refine eseq_nil ?_
    refine hK139 _ _ ?_
    refine e_seq fun K146 hK146 => ?_
    refine e_region_text rfl ?_
    refine q_move rfl rfl ?_
    obtain ⟨r148, hr148, h⟩ := Option.of_bind h
    refine q_call rfl (make_Codes_Next_w (Sep.enter (As := [_]) hS) f138 hr148) rfl ?_
    rintro _ w147 ⟨R147, rfl, hC147⟩
    refine ⟨(fun h => by cases h), ?_⟩
    have hk147 := hC147.keptR (Sep.offFeet (As := [_]) hS)
    replace f1 := (f1.kept hk147).mono fun k hk _ => hC147.ro0 k hk
    replace f2 := (f2.kept hk147).mono fun k hk _ => hC147.ro0 k hk
    replace f138 := (f138.kept hk147).mono fun k hk _ => hC147.ro0 k hk
    replace hS := Sep.leave (As := [_]) hS hC147; simp only [List.cons_append, List.nil_append] at hS
    refine q_move rfl rfl ?_
    obtain ⟨r150, hr150, h⟩ := Option.of_bind h
    refine q_call rfl (make_Codes_Next_w (Sep.enter (As := [_]) hS) f138 hr150) rfl ?_
    rintro _ w149 ⟨R149, rfl, hC149⟩
    refine ⟨(fun h => by cases h), ?_⟩
    have hk149 := hC149.keptR (Sep.offFeet (As := [_]) hS)
    replace f1 := (f1.kept hk149).mono fun k hk _ => hC149.ro0 k hk
    replace f2 := (f2.kept hk149).mono fun k hk _ => hC149.ro0 k hk
    replace f138 := (f138.kept hk149).mono fun k hk _ => hC149.ro0 k hk
    replace hS := Sep.leave (As := [_]) hS hC149; simp only [List.cons_append, List.nil_append] at hS
    refine q_move rfl rfl ?_
    obtain ⟨r152, hr152, h⟩ := Option.of_bind h
    refine q_call rfl (make_Codes_Next_w (Sep.enter (As := [_]) hS) f138 hr152) rfl ?_
    rintro _ w151 ⟨R151, rfl, hC151⟩
    refine ⟨(fun h => by cases h), ?_⟩
    have hk151 := hC151.keptR (Sep.offFeet (As := [_]) hS)
    replace f1 := (f1.kept hk151).mono fun k hk _ => hC151.ro0 k hk
    replace f2 := (f2.kept hk151).mono fun k hk _ => hC151.ro0 k hk
    replace f138 := (f138.kept hk151).mono fun k hk _ => hC151.ro0 k hk
    replace hS := Sep.leave (As := [_]) hS hC151; simp only [List.cons_append, List.nil_append] at hS
    refine q_build (Parts.cons rfl rfl (Parts.cons rfl rfl (Parts.cons rfl rfl Parts.nil))) rfl rfl ?_
    refine q_allocB rfl fun w153 bl153 hg153 hb153 hB153 => ?_
    replace f1 := f1.ext hB153
    replace f2 := f2.ext hB153
    replace hS := hS.newBlk hB153 hg153 hb153
    refine q_storeAgg rfl rfl (hS.blk 0 rfl) rfl (Nat.le_of_ble_eq_true rfl) (all_cons rfl (all_cons rfl (all_cons rfl (all_nil)))) rfl rfl fun w155 hb155 hO155 => ?_
    simp only [setN, List.set, List.take, List.drop] at hb155
    have hk155 := hS.keptBlk 0 rfl hO155
    replace f1 := f1.kept hk155
    replace f2 := f2.kept hk155
    replace hS := hS.setBlk 0 rfl hb155 hO155; simp only [List.set] at hS
    refine eseq_nil ?_
    refine hK146 _ _ ?_
    refine e_seq fun K156 hK156 => ?_
    refine e_region_draw mixed (fun _ => False) [0, 0, 3, 0, 0, 31, 63, 127, 255, 255, 1023, 255, 255, 8191, 16383, 32767, 65535, 131071, 131071, 524287, 131071, 131071, 4194303, 8388607, 16777215, 33554431, 67108863, 67108863, 268435455, 67108863, 67108863, 2147483647, 4294967295, 8589934591, 17179869183] [19, 28] [0, 1, 3, 4, 2, 5, 6, 7, 8, 9, 11, 12, 10, 13, 14, 15, 16, 17, 18, 20, 21, 19, 22, 23, 24, 25, 26, 27, 29, 30, 28, 31, 32, 33, 34] (by kernel_rfl) ?_
    refine q_move rfl rfl ?_
    refine q_move rfl rfl ?_
    refine q_move rfl rfl ?_
    refine q_move rfl rfl ?_
    obtain ⟨r196, hr196, h⟩ := Option.of_bind h
    refine q_call rfl (incarnation_Merge_w (Sep.enter (As := []) hS) f1 f2 hr196) rfl ?_
    rintro v197 w195 ⟨_, R195, rfl, hC195⟩
    have hB195 : Below (World.heap w155).size w155 w195 := hC195.stepB0
    refine ⟨fun _ => .of_below hB195, ?_⟩
    replace f1 := (f1.ext hB195).mono fun k hk _ => hC195.ro0 k hk
    replace f2 := (f2.ext hB195).mono fun k hk _ => hC195.ro0 k hk
    replace hS := Sep.leave (As := []) hS hC195; simp only [List.cons_append, List.nil_append] at hS
    obtain ⟨r199, hr199, h⟩ := Option.of_bind h
    refine q_call rfl (ref31_Merge_w (Sep.enter (As := []) hS) f1 f2 hr199) rfl ?_
    rintro v200 w198 ⟨_, R198, rfl, hC198⟩
    have hB198 : Below (World.heap w195).size w195 w198 := hC198.stepB0
    refine ⟨fun _ => .of_below hB198, ?_⟩
    replace f1 := (f1.ext hB198).mono fun k hk _ => hC198.ro0 k hk
    replace f2 := (f2.ext hB198).mono fun k hk _ => hC198.ro0 k hk
    replace hS := Sep.leave (As := []) hS hC198; simp only [List.cons_append, List.nil_append] at hS
    obtain ⟨r202, hr202, h⟩ := Option.of_bind h
    refine q_call rfl (ref31_Same_w (Sep.all w198) ((hS.isl 1 rfl)).old ((hS.isl 0 rfl)).old hr202) rfl ?_
    rintro _ w201 ⟨R201, rfl, hC201⟩
    have hB201 : Below (World.heap w198).size w198 w201 := hC201.stepBF
    refine ⟨fun _ => .of_below hB201, ?_⟩
    replace f1 := f1.ext hB201
    replace hS := hS.below hB201
    refine q_move rfl rfl ?_
    obtain ⟨x204, hx203, h⟩ := Option.of_bind h
    refine g_andM 7 hx203 rfl trivial rfl rfl ?_ ?_ ?_
    · intro hg203 hx203
      clear h
      have hT203 := Below.refl (World.heap w201).size w201
      refine g_run rfl ?_; refine q_move rfl rfl ?_
      refine g_run rfl ?_; refine q_move rfl rfl ?_
      refine g_run rfl ?_; refine q_move rfl rfl ?_
      refine g_run rfl ?_; refine q_move rfl rfl ?_
      obtain ⟨r206, hr206, hx203⟩ := Option.of_bind hx203
      refine g_run rfl ?_; refine q_call rfl (incarnation_Merge_w (Sep.all w201) ((hS.isl 5 rfl)).old ((hS.isl 4 rfl)).old hr206) rfl ?_
      rintro v207 w205 ⟨_, R205, rfl, hC205⟩
      have hB205 : Below (World.heap w201).size w201 w205 := hC205.stepBF
      refine ⟨fun _ => .of_below hB205, ?_⟩
      replace f1 := f1.ext hB205
      replace hT203 := hT203.trans (Below.mono hB205 hT203.size)
      replace hS := hS.newOwnS hB205 (hC205.own 0 rfl) (hC205.fresh 0 rfl) (fun _ h => h.elim)
      obtain ⟨r209, hr209, hx203⟩ := Option.of_bind hx203
      refine g_run rfl ?_; refine q_call rfl (ref31_Merge_w (Sep.all w205) ((hS.isl 6 rfl)).old ((hS.isl 5 rfl)).old hr209) rfl ?_
      rintro v210 w208 ⟨_, R208, rfl, hC208⟩
      have hB208 : Below (World.heap w205).size w205 w208 := hC208.stepBF
      refine ⟨fun _ => .of_below hB208, ?_⟩
      replace f1 := f1.ext hB208
      replace hT203 := hT203.trans (Below.mono hB208 hT203.size)
      replace hS := hS.newOwnS hB208 (hC208.own 0 rfl) (hC208.fresh 0 rfl) (fun _ h => h.elim)
      obtain ⟨r212, hr212, hx203⟩ := Option.of_bind hx203
      refine g_run rfl ?_; refine q_call rfl (ref31_Same_w (Sep.all w208) ((hS.isl 1 rfl)).old ((hS.isl 0 rfl)).old hr212) rfl ?_
      rintro _ w211 ⟨R211, rfl, hC211⟩
      have hB211 : Below (World.heap w208).size w208 w211 := hC211.stepBF
      refine ⟨fun _ => .of_below hB211, ?_⟩
      replace f1 := f1.ext hB211
      replace hT203 := hT203.trans (Below.mono hB211 hT203.size)
      replace hS := hS.below hB211
      cases hx203
      exact eseq_nil ⟨hT203, Sub.set rfl (Sub.set rfl (Sub.set rfl (Sub.set rfl (Sub.set rfl (Sub.set rfl (Sub.set rfl (Sub.bool true rfl hg203))))))), rfl⟩
    · intro hg203
      refine g_skip rfl rfl rfl ?_
      refine g_skip rfl rfl rfl ?_
      refine g_skip rfl rfl rfl ?_
      refine g_skip rfl rfl rfl ?_
      refine g_skip rfl rfl rfl ?_
      refine g_skip rfl rfl rfl ?_
      refine g_skip rfl rfl rfl ?_
      exact eseq_nil ⟨rfl, Sub.set rfl (Sub.set rfl (Sub.set rfl (Sub.set rfl (Sub.set rfl (Sub.set rfl (Sub.set rfl (Sub.bool false rfl hg203)))))))⟩
    intro wm203 hBm203; clear hx203
    replace hS := hS.below hBm203
    replace f1 := f1.ext hBm203
    refine q_move rfl rfl ?_
    obtain ⟨x214, hx213, h⟩ := Option.of_bind h
    refine g_andM 7 hx213 rfl trivial rfl rfl ?_ ?_ ?_
    · intro hg213 hx213
      clear h
      have hT213 := Below.refl (World.heap wm203).size wm203
      refine g_run rfl ?_; refine q_move rfl rfl ?_
      refine g_run rfl ?_; refine q_loadAgg rfl (Blk.cellsAt (hS.blk 6 rfl) 0 3 rfl) rfl rfl ?_
      refine g_run rfl ?_; refine q_move rfl rfl ?_
      refine g_run rfl ?_; refine q_loadAgg rfl (Blk.cellsAt (hS.blk 6 rfl) 0 3 rfl) rfl rfl ?_
      obtain ⟨r216, hr216, hx213⟩ := Option.of_bind hx213
      refine g_run rfl ?_; refine q_call rfl (incarnation_Add_w (a1 := (⟨a2.proc, a2.inc, a2.index⟩ : EndI)) (Sep.enter (As := []) hS) f1 hr216) rfl ?_
      rintro v217 w215 ⟨_, R215, rfl, hC215⟩
      have hB215 : Below (World.heap wm203).size wm203 w215 := hC215.stepB0
      refine ⟨fun _ => .of_below hB215, ?_⟩
      replace f1 := (f1.ext hB215).mono fun k hk _ => hC215.ro0 k hk
      replace hT213 := hT213.trans (Below.mono hB215 hT213.size)
      replace hS := Sep.leave (As := []) hS hC215; simp only [List.cons_append, List.nil_append] at hS
      obtain ⟨r219, hr219, hx213⟩ := Option.of_bind hx213
      refine g_run rfl ?_; refine q_call rfl (ref31_Add_w (a1 := (⟨a2.proc, a2.inc, a2.index⟩ : EndI)) (Sep.enter (As := []) hS) f1 hr219) rfl ?_
      rintro v220 w218 ⟨_, R218, rfl, hC218⟩
      have hB218 : Below (World.heap w215).size w215 w218 := hC218.stepB0
      refine ⟨fun _ => .of_below hB218, ?_⟩
      replace f1 := (f1.ext hB218).mono fun k hk _ => hC218.ro0 k hk
      replace hT213 := hT213.trans (Below.mono hB218 hT213.size)
      replace hS := Sep.leave (As := []) hS hC218; simp only [List.cons_append, List.nil_append] at hS
      obtain ⟨r222, hr222, hx213⟩ := Option.of_bind hx213
      refine g_run rfl ?_; refine q_call rfl (ref31_Same_w (Sep.all w218) ((hS.isl 1 rfl)).old ((hS.isl 0 rfl)).old hr222) rfl ?_
      rintro _ w221 ⟨R221, rfl, hC221⟩
      have hB221 : Below (World.heap w218).size w218 w221 := hC221.stepBF
      refine ⟨fun _ => .of_below hB221, ?_⟩
      replace hT213 := hT213.trans (Below.mono hB221 hT213.size)
      replace hS := hS.below hB221
      cases hx213
      exact eseq_nil ⟨hT213, Sub.set rfl (Sub.set rfl (Sub.set rfl (Sub.set rfl (Sub.set rfl (Sub.set rfl (Sub.set rfl (Sub.bool true rfl hg213))))))), rfl⟩
    · intro hg213
      refine g_skip rfl rfl rfl ?_
      refine g_skip rfl rfl rfl ?_
      refine g_skip rfl rfl rfl ?_
      refine g_skip rfl rfl rfl ?_
      refine g_skip rfl rfl rfl ?_
      refine g_skip rfl rfl rfl ?_
      refine g_skip rfl rfl rfl ?_
      exact eseq_nil ⟨rfl, Sub.set rfl (Sub.set rfl (Sub.set rfl (Sub.set rfl (Sub.set rfl (Sub.set rfl (Sub.set rfl (Sub.bool false rfl hg213)))))))⟩
    intro wm213 hBm213; clear hx213
    replace hS := hS.below hBm213
    refine q_move rfl rfl ?_
    obtain ⟨x224, hx223, h⟩ := Option.of_bind h
    refine g_andM 7 hx223 rfl trivial rfl rfl ?_ ?_ ?_
    · intro hg223 hx223
      clear h
      have hT223 := Below.refl (World.heap wm213).size wm213
      refine g_run rfl ?_; refine q_move rfl rfl ?_
      refine g_run rfl ?_; refine q_loadAgg rfl (Blk.cellsAt (hS.blk 2 rfl) 0 3 rfl) rfl rfl ?_
      refine g_run rfl ?_; refine q_move rfl rfl ?_
      refine g_run rfl ?_; refine q_loadAgg rfl (Blk.cellsAt (hS.blk 2 rfl) 0 3 rfl) rfl rfl ?_
      obtain ⟨r226, hr226, hx223⟩ := Option.of_bind hx223
      refine g_run rfl ?_; refine q_call rfl (incarnation_Add_w (a1 := (⟨r148.1, r150.1, r152.1⟩ : EndI)) (Sep.all wm213) ((hS.isl 5 rfl)).old hr226) rfl ?_
      rintro v227 w225 ⟨_, R225, rfl, hC225⟩
      have hB225 : Below (World.heap wm213).size wm213 w225 := hC225.stepBF
      refine ⟨fun _ => .of_below hB225, ?_⟩
      replace hT223 := hT223.trans (Below.mono hB225 hT223.size)
      replace hS := hS.newOwnS hB225 (hC225.own 0 rfl) (hC225.fresh 0 rfl) (fun _ h => h.elim)
      obtain ⟨r229, hr229, hx223⟩ := Option.of_bind hx223
      refine g_run rfl ?_; refine q_call rfl (ref31_Add_w (a1 := (⟨r148.1, r150.1, r152.1⟩ : EndI)) (Sep.all w225) ((hS.isl 6 rfl)).old hr229) rfl ?_
      rintro v230 w228 ⟨_, R228, rfl, hC228⟩
      have hB228 : Below (World.heap w225).size w225 w228 := hC228.stepBF
      refine ⟨fun _ => .of_below hB228, ?_⟩
      replace hT223 := hT223.trans (Below.mono hB228 hT223.size)
      replace hS := hS.newOwnS hB228 (hC228.own 0 rfl) (hC228.fresh 0 rfl) (fun _ h => h.elim)
      obtain ⟨r232, hr232, hx223⟩ := Option.of_bind hx223
      refine g_run rfl ?_; refine q_call rfl (ref31_Same_w (Sep.all w228) ((hS.isl 1 rfl)).old ((hS.isl 0 rfl)).old hr232) rfl ?_
      rintro _ w231 ⟨R231, rfl, hC231⟩
      have hB231 : Below (World.heap w228).size w228 w231 := hC231.stepBF
      refine ⟨fun _ => .of_below hB231, ?_⟩
      replace hT223 := hT223.trans (Below.mono hB231 hT223.size)
      replace hS := hS.below hB231
      cases hx223
      exact eseq_nil ⟨hT223, Sub.set rfl (Sub.set rfl (Sub.set rfl (Sub.set rfl (Sub.set rfl (Sub.set rfl (Sub.set rfl (Sub.bool true rfl hg223))))))), rfl⟩
    · intro hg223
      refine g_skip rfl rfl rfl ?_
      refine g_skip rfl rfl rfl ?_
      refine g_skip rfl rfl rfl ?_
      refine g_skip rfl rfl rfl ?_
      refine g_skip rfl rfl rfl ?_
      refine g_skip rfl rfl rfl ?_
      refine g_skip rfl rfl rfl ?_
      exact eseq_nil ⟨rfl, Sub.set rfl (Sub.set rfl (Sub.set rfl (Sub.set rfl (Sub.set rfl (Sub.set rfl (Sub.set rfl (Sub.bool false rfl hg223)))))))⟩
    intro wm223 hBm223; clear hx223
    replace hS := hS.below hBm223
    refine q_assign rfl rfl ?_
    refine eseq_nil ?_
    refine hK156 _ _ ?_
    refine e_ret ?_
    obtain rfl := Option.some.inj h
    exact ⟨_, res1 rfl rfl, _, rfl, (hS.pickB [] 7 rfl rfl)⟩
theorem law31_IncarnationAsks_w {F R : Nat → Prop} {w : World} {fuel : Nat} {a0 : (List EndI)} {a1 : Int} {a2 : (List Evt)} {a3 : Msg} {a4 : (List Int)} {v1 : Value} {v2 : Value} {v3 : Value} {v4 : Value} {v5 : Value} {r : (Bool)} (hS : Sep F R R w w []) (f1 : IsSlice endITy w R v1 a0) (f2 : IsSlice evtTy w R v2 a2) (f3 : IsSlice Ty.int w R v3 a3.vector) (f4 : IsSlice knownTy w R v4 a3.known) (f5 : IsSlice Ty.u8 w R v5 a4) (h : law31_IncarnationAsks fuel a0 a1 a2 a3 a4 = some r) :
    Gives Try.prog 6 [v1, .int .i64 a1, v2, .agg #[.int .i64 a3.frm, .int .i64 a3.to, .int .i64 a3.sent.inc, .int .i64 a3.sent.index, .int .i64 a3.ord, .int .i64 a3.value, .int .i64 a3.clock, v3, v4], v5] w fun u w1 => ∃ (R1 : Nat → Prop), u = .bool r ∧ Sep F R R1 w w1 [] := by
  refine fn_of Try.func6 rfl Try.ntmps6 (Nat.le_of_ble_eq_true rfl) ?_
  unfold law31_IncarnationAsks at h
  refine e_seq fun K115 hK115 => ?_
  refine e_region_text rfl ?_
  refine q_boxB rfl rfl rfl fun w116 bl116 hg116 hb116 hB116 => ?_
  replace f1 := f1.ext hB116
  replace f2 := f2.ext hB116
  replace f3 := f3.ext hB116
  replace f4 := f4.ext hB116
  replace f5 := f5.ext hB116
  replace hS := hS.newBlk hB116 hg116 hb116
  refine q_assign rfl rfl ?_
  refine eseq_nil ?_
  refine hK115 _ _ ?_
  refine e_seq fun K118 hK118 => ?_
  refine e_seq fun K119 hK119 => ?_
  refine e_region_text rfl ?_
  obtain ⟨r121, hr121, h⟩ := Option.of_bind h
  refine q_call rfl (law31_awake_w (Sep.enter (As := []) hS)  hr121) rfl ?_
  rintro _ w120 ⟨R120, rfl, hC120⟩
  have hB120 : Below (World.heap w116).size w116 w120 := hC120.stepB0
  refine ⟨fun _ => .of_below hB120, ?_⟩
  replace f1 := (f1.ext hB120).mono fun k hk _ => hC120.ro0 k hk
  replace f2 := (f2.ext hB120).mono fun k hk _ => hC120.ro0 k hk
  replace f5 := (f5.ext hB120).mono fun k hk _ => hC120.ro0 k hk
  replace f3 := (f3.ext hB120).mono fun k hk _ => hC120.ro0 k hk
  replace f4 := (f4.ext hB120).mono fun k hk _ => hC120.ro0 k hk
  replace hS := Sep.leave (As := []) hS hC120; simp only [List.cons_append, List.nil_append] at hS
  refine q_not rfl rfl ?_
  refine q_move rfl rfl ?_
  obtain ⟨x123, hx122, h⟩ := Option.of_bind h
  refine g_orM 3 hx122 rfl trivial rfl rfl ?_ ?_ ?_
  · intro hg122
    refine g_skip rfl rfl rfl ?_
    refine g_skip rfl rfl rfl ?_
    refine g_skip rfl rfl rfl ?_
    exact eseq_nil ⟨rfl, Sub.set rfl (Sub.set rfl (Sub.set rfl (Sub.bool true rfl hg122)))⟩
  · intro hg122 hx122
    clear h
    have hT122 := Below.refl (World.heap w120).size w120
    refine g_run rfl ?_; refine q_move rfl rfl ?_
    refine g_run rfl ?_; refine q_lenS rfl f1 rfl ?_
    refine g_run rfl ?_; refine q_gtr rfl rfl rfl ?_
    cases hx122
    exact eseq_nil ⟨hT122, Sub.set rfl (Sub.set rfl (Sub.set rfl (Sub.bool false rfl hg122))), rfl⟩
  intro wm122 hBm122; clear hx122
  replace hS := hS.below hBm122
  replace f1 := f1.ext hBm122
  replace f2 := f2.ext hBm122
  replace f5 := f5.ext hBm122
  replace f3 := f3.ext hBm122
  replace f4 := f4.ext hBm122
  refine q_move rfl rfl ?_
  obtain ⟨x125, hx124, h⟩ := Option.of_bind h
  refine g_orM 3 hx124 rfl trivial rfl rfl ?_ ?_ ?_
  · intro hg124
    refine g_skip rfl rfl rfl ?_
    refine g_skip rfl rfl rfl ?_
    refine g_skip rfl rfl rfl ?_
    exact eseq_nil ⟨rfl, Sub.set rfl (Sub.set rfl (Sub.set rfl (Sub.bool true rfl hg124)))⟩
  · intro hg124 hx124
    clear h
    have hT124 := Below.refl (World.heap wm122).size wm122
    refine g_run rfl ?_; refine q_move rfl rfl ?_
    refine g_run rfl ?_; refine q_lenS rfl f2 rfl ?_
    refine g_run rfl ?_; refine q_gtr rfl rfl rfl ?_
    cases hx124
    exact eseq_nil ⟨hT124, Sub.set rfl (Sub.set rfl (Sub.set rfl (Sub.bool false rfl hg124))), rfl⟩
  intro wm124 hBm124; clear hx124
  replace hS := hS.below hBm124
  replace f1 := f1.ext hBm124
  replace f2 := f2.ext hBm124
  replace f5 := f5.ext hBm124
  replace f3 := f3.ext hBm124
  replace f4 := f4.ext hBm124
  refine eseq_nil ?_
  refine hK119 _ _ ?_
  refine e_cond rfl (fun hc126 => ?_) (fun hc126 => ?_)
  · replace h := (if_pos hc126).symm.trans h
    refine e_seq fun K127 hK127 => ?_
    refine e_region_text rfl ?_
    refine q_move rfl rfl ?_
    refine q_lenS rfl f1 rfl ?_
    refine q_gtr rfl rfl rfl ?_
    refine q_move rfl rfl ?_
    obtain ⟨x129, hx128, h⟩ := Option.of_bind h
    refine g_orM 3 hx128 rfl trivial rfl rfl ?_ ?_ ?_
    · intro hg128
      refine g_skip rfl rfl rfl ?_
      refine g_skip rfl rfl rfl ?_
      refine g_skip rfl rfl rfl ?_
      exact eseq_nil ⟨rfl, Sub.set rfl (Sub.set rfl (Sub.set rfl (Sub.bool true rfl hg128)))⟩
    · intro hg128 hx128
      clear h
      have hT128 := Below.refl (World.heap wm124).size wm124
      refine g_run rfl ?_; refine q_move rfl rfl ?_
      refine g_run rfl ?_; refine q_lenS rfl f2 rfl ?_
      refine g_run rfl ?_; refine q_gtr rfl rfl rfl ?_
      cases hx128
      exact eseq_nil ⟨hT128, Sub.set rfl (Sub.set rfl (Sub.set rfl (Sub.bool false rfl hg128))), rfl⟩
    intro wm128 hBm128; clear hx128
    replace hS := hS.below hBm128
    refine q_assign rfl rfl ?_
    refine eseq_nil ?_
    refine hK127 _ _ ?_
    refine e_ret ?_
    obtain rfl := Option.some.inj h
    exact ⟨_, res1 rfl rfl, _, rfl, (hS.pickB [] 1 rfl rfl)⟩
  · replace h := (if_neg (not_true hc126)).symm.trans h
    refine e_skip ?_
    refine hK118 _ _ ?_
    refine e_seq fun K130 hK130 => ?_
    refine e_region_text rfl ?_
    refine q_move rfl rfl ?_
    obtain ⟨r132, hr132, h⟩ := Option.of_bind h
    refine q_call rfl (make_New_w (Sep.enter (As := []) hS) f5 hr132) rfl ?_
    rintro _ w131 ⟨B133, v134, R131, rfl, hC131, f134⟩
    have hB131 : Below (World.heap wm124).size wm124 w131 := hC131.stepB0
    refine ⟨fun _ => .of_below hB131, ?_⟩
    replace f1 := (f1.ext hB131).mono fun k hk _ => hC131.ro0 k hk
    replace f2 := (f2.ext hB131).mono fun k hk _ => hC131.ro0 k hk
    replace f3 := (f3.ext hB131).mono fun k hk _ => hC131.ro0 k hk
    replace f4 := (f4.ext hB131).mono fun k hk _ => hC131.ro0 k hk
    replace f5 := (f5.ext hB131).mono fun k hk _ => hC131.ro0 k hk
    replace hS := Sep.leave (As := []) hS hC131; simp only [List.cons_append, List.nil_append] at hS
    refine q_assign rfl rfl ?_
    refine eseq_nil ?_
    refine hK130 _ _ ?_
    refine e_seq fun K135 hK135 => ?_
    refine e_region_text rfl ?_
    refine q_move rfl rfl ?_
    obtain ⟨r137, hr137, h⟩ := Option.of_bind h
    refine q_call rfl (make_Codes_Ends_w (Sep.enter (As := [_]) hS) f134 hr137) rfl ?_
    rintro v138 w136 ⟨_, R136, rfl, hC136⟩
    refine ⟨(fun h => by cases h), ?_⟩
    have hk136 := hC136.keptR (Sep.offFeet (As := [_]) hS)
    replace f1 := (f1.kept hk136).mono fun k hk _ => hC136.ro0 k hk
    replace f2 := (f2.kept hk136).mono fun k hk _ => hC136.ro0 k hk
    replace f3 := (f3.kept hk136).mono fun k hk _ => hC136.ro0 k hk
    replace f4 := (f4.kept hk136).mono fun k hk _ => hC136.ro0 k hk
    replace f134 := (f134.kept hk136).mono fun k hk _ => hC136.ro0 k hk
    replace hS := Sep.leave (As := [_]) hS hC136; simp only [List.cons_append, List.nil_append] at hS
    refine q_move rfl rfl ?_
    obtain ⟨r140, hr140, h⟩ := Option.of_bind h
    refine q_call rfl (make_Codes_Events_w (Sep.enter (As := [_]) hS) f134 hr140) rfl ?_
    rintro v141 w139 ⟨_, R139, rfl, hC139⟩
    refine ⟨(fun h => by cases h), ?_⟩
    have hk139 := hC139.keptR (Sep.offFeet (As := [_]) hS)
    replace f1 := (f1.kept hk139).mono fun k hk _ => hC139.ro0 k hk
    replace f2 := (f2.kept hk139).mono fun k hk _ => hC139.ro0 k hk
    replace f3 := (f3.kept hk139).mono fun k hk _ => hC139.ro0 k hk
    replace f4 := (f4.kept hk139).mono fun k hk _ => hC139.ro0 k hk
    replace f134 := (f134.kept hk139).mono fun k hk _ => hC139.ro0 k hk
    replace hS := Sep.leave (As := [_]) hS hC139; simp only [List.cons_append, List.nil_append] at hS
    refine q_move rfl rfl ?_
    obtain ⟨r143, hr143, h⟩ := Option.of_bind h
    refine q_call rfl (make_Codes_Next_w (Sep.enter (As := [_]) hS) f134 hr143) rfl ?_
    rintro _ w142 ⟨R142, rfl, hC142⟩
    refine ⟨(fun h => by cases h), ?_⟩
    have hk142 := hC142.keptR (Sep.offFeet (As := [_]) hS)
    replace f1 := (f1.kept hk142).mono fun k hk _ => hC142.ro0 k hk
    replace f2 := (f2.kept hk142).mono fun k hk _ => hC142.ro0 k hk
    replace f3 := (f3.kept hk142).mono fun k hk _ => hC142.ro0 k hk
    replace f4 := (f4.kept hk142).mono fun k hk _ => hC142.ro0 k hk
    replace f134 := (f134.kept hk142).mono fun k hk _ => hC142.ro0 k hk
    replace hS := Sep.leave (As := [_]) hS hC142; simp only [List.cons_append, List.nil_append] at hS
    refine q_assign rfl rfl ?_
    refine q_assign rfl rfl ?_
    refine q_assign rfl rfl ?_
    refine eseq_nil ?_
    refine hK135 _ _ ?_
    refine e_seq fun K144 hK144 => ?_
    refine e_region_text rfl ?_
    refine q_move rfl rfl ?_
    obtain ⟨r146, hr146, h⟩ := Option.of_bind h
    refine q_call rfl (make_Codes_Next_w (Sep.enter (As := [_]) hS) f134 hr146) rfl ?_
    rintro _ w145 ⟨R145, rfl, hC145⟩
    refine ⟨(fun h => by cases h), ?_⟩
    have hk145 := hC145.keptR (Sep.offFeet (As := [_]) hS)
    replace f1 := (f1.kept hk145).mono fun k hk _ => hC145.ro0 k hk
    replace f2 := (f2.kept hk145).mono fun k hk _ => hC145.ro0 k hk
    replace f3 := (f3.kept hk145).mono fun k hk _ => hC145.ro0 k hk
    replace f4 := (f4.kept hk145).mono fun k hk _ => hC145.ro0 k hk
    replace f134 := (f134.kept hk145).mono fun k hk _ => hC145.ro0 k hk
    replace hS := Sep.leave (As := [_]) hS hC145; simp only [List.cons_append, List.nil_append] at hS
    refine q_move rfl rfl ?_
    obtain ⟨r148, hr148, h⟩ := Option.of_bind h
    refine q_call rfl (make_Codes_Next_w (Sep.enter (As := [_]) hS) f134 hr148) rfl ?_
    rintro _ w147 ⟨R147, rfl, hC147⟩
    refine ⟨(fun h => by cases h), ?_⟩
    have hk147 := hC147.keptR (Sep.offFeet (As := [_]) hS)
    replace f1 := (f1.kept hk147).mono fun k hk _ => hC147.ro0 k hk
    replace f2 := (f2.kept hk147).mono fun k hk _ => hC147.ro0 k hk
    replace f3 := (f3.kept hk147).mono fun k hk _ => hC147.ro0 k hk
    replace f4 := (f4.kept hk147).mono fun k hk _ => hC147.ro0 k hk
    replace f134 := (f134.kept hk147).mono fun k hk _ => hC147.ro0 k hk
    replace hS := Sep.leave (As := [_]) hS hC147; simp only [List.cons_append, List.nil_append] at hS
    refine q_move rfl rfl ?_
    obtain ⟨r150, hr150, h⟩ := Option.of_bind h
    refine q_call rfl (make_Codes_Next_w (Sep.enter (As := [_]) hS) f134 hr150) rfl ?_
    rintro _ w149 ⟨R149, rfl, hC149⟩
    refine ⟨(fun h => by cases h), ?_⟩
    have hk149 := hC149.keptR (Sep.offFeet (As := [_]) hS)
    replace f1 := (f1.kept hk149).mono fun k hk _ => hC149.ro0 k hk
    replace f2 := (f2.kept hk149).mono fun k hk _ => hC149.ro0 k hk
    replace f3 := (f3.kept hk149).mono fun k hk _ => hC149.ro0 k hk
    replace f4 := (f4.kept hk149).mono fun k hk _ => hC149.ro0 k hk
    replace f134 := (f134.kept hk149).mono fun k hk _ => hC149.ro0 k hk
    replace hS := Sep.leave (As := [_]) hS hC149; simp only [List.cons_append, List.nil_append] at hS
    refine q_build (Parts.cons rfl rfl (Parts.cons rfl rfl Parts.nil)) rfl rfl ?_
    refine q_build (Parts.cons rfl rfl (Parts.cons rfl rfl Parts.nil)) rfl rfl ?_
    refine q_allocB rfl fun w151 bl151 hg151 hb151 hB151 => ?_
    replace f1 := f1.ext hB151
    replace f2 := f2.ext hB151
    replace f3 := f3.ext hB151
    replace f4 := f4.ext hB151
    replace hS := hS.newBlk hB151 hg151 hb151
    refine q_storeAgg rfl rfl (hS.blk 0 rfl) rfl (Nat.le_of_ble_eq_true rfl) (all_cons rfl (all_cons rfl (all_cons rfl (all_cons rfl (all_cons rfl (all_cons rfl (all_cons rfl (all_cons rfl (all_cons rfl (all_nil)))))))))) rfl rfl fun w153 hb153 hO153 => ?_
    simp only [setN, List.set, List.take, List.drop] at hb153
    have hk153 := hS.keptBlk 0 rfl hO153
    replace f1 := f1.kept hk153
    replace f2 := f2.kept hk153
    replace f3 := f3.kept hk153
    replace f4 := f4.kept hk153
    replace hS := hS.setBlk 0 rfl hb153 hO153; simp only [List.set] at hS
    refine eseq_nil ?_
    refine hK144 _ _ ?_
    refine e_seq fun K154 hK154 => ?_
    refine e_region_draw mixed (fun _ => False) [0, 0, 0, 7, 0, 0, 0, 127, 255, 511, 1023, 1023, 1023, 8191, 1023, 1023, 1023, 131071, 262143, 524287, 1048575, 2097151, 2097151, 8388607, 2097151, 2097151, 67108863, 134217727, 268435455, 536870911, 1073741823, 1073741823, 4294967295, 1073741823, 1073741823, 34359738367, 68719476735, 137438953471, 274877906943, 549755813887, 549755813887, 2199023255551, 549755813887, 549755813887, 17592186044415, 35184372088831, 70368744177663, 140737488355327, 281474976710655, 281474976710655, 1125899906842623, 281474976710655, 281474976710655, 9007199254740991, 18014398509481983, 36028797018963967, 72057594037927935] [23, 32] [0, 1, 2, 4, 5, 6, 3, 7, 8, 9, 10, 11, 12, 14, 15, 16, 13, 17, 18, 19, 20, 21, 22, 24, 25, 23, 26, 27, 28, 29, 30, 31, 33, 34, 32, 35, 36, 37, 38, 39, 40, 42, 43, 41, 44, 45, 46, 47, 48, 49, 51, 52, 50, 53, 54, 55, 56] (by kernel_rfl) ?_
    refine q_move rfl rfl ?_
    refine q_move rfl rfl ?_
    refine q_move rfl rfl ?_
    refine q_move rfl rfl ?_
    refine q_move rfl rfl ?_
    refine q_move rfl rfl ?_
    obtain ⟨r190, hr190, h⟩ := Option.of_bind h
    refine q_call rfl (incarnation_Kept_w (Sep.enter (As := []) hS) f1 f2 hr190) rfl ?_
    rintro _ w189 ⟨R189, rfl, hC189⟩
    have hB189 : Below (World.heap w153).size w153 w189 := hC189.stepB0
    refine ⟨fun _ => .of_below hB189, ?_⟩
    replace f1 := (f1.ext hB189).mono fun k hk _ => hC189.ro0 k hk
    replace f3 := (f3.ext hB189).mono fun k hk _ => hC189.ro0 k hk
    replace f4 := (f4.ext hB189).mono fun k hk _ => hC189.ro0 k hk
    replace f2 := (f2.ext hB189).mono fun k hk _ => hC189.ro0 k hk
    replace hS := Sep.leave (As := []) hS hC189; simp only [List.cons_append, List.nil_append] at hS
    obtain ⟨r192, hr192, h⟩ := Option.of_bind h
    refine q_call rfl (ref31_Kept_w (Sep.enter (As := []) hS) f1 f2 hr192) rfl ?_
    rintro _ w191 ⟨R191, rfl, hC191⟩
    have hB191 : Below (World.heap w189).size w189 w191 := hC191.stepB0
    refine ⟨fun _ => .of_below hB191, ?_⟩
    replace f1 := (f1.ext hB191).mono fun k hk _ => hC191.ro0 k hk
    replace f3 := (f3.ext hB191).mono fun k hk _ => hC191.ro0 k hk
    replace f4 := (f4.ext hB191).mono fun k hk _ => hC191.ro0 k hk
    replace f2 := (f2.ext hB191).mono fun k hk _ => hC191.ro0 k hk
    replace hS := Sep.leave (As := []) hS hC191; simp only [List.cons_append, List.nil_append] at hS
    refine q_eql rfl rfl rfl ?_
    refine q_move rfl rfl ?_
    obtain ⟨x194, hx193, h⟩ := Option.of_bind h
    refine g_andM 9 hx193 rfl trivial rfl rfl ?_ ?_ ?_
    · intro hg193 hx193
      clear h
      have hT193 := Below.refl (World.heap w191).size w191
      refine g_run rfl ?_; refine q_move rfl rfl ?_
      refine g_run rfl ?_; refine q_move rfl rfl ?_
      refine g_run rfl ?_; refine q_move rfl rfl ?_
      refine g_run rfl ?_; refine q_move rfl rfl ?_
      refine g_run rfl ?_; refine q_move rfl rfl ?_
      refine g_run rfl ?_; refine q_move rfl rfl ?_
      obtain ⟨r196, hr196, hx193⟩ := Option.of_bind hx193
      refine g_run rfl ?_; refine q_call rfl (incarnation_Kept_w (Sep.all w191) ((hS.isl 3 rfl)).old ((hS.isl 2 rfl)).old hr196) rfl ?_
      rintro _ w195 ⟨R195, rfl, hC195⟩
      have hB195 : Below (World.heap w191).size w191 w195 := hC195.stepBF
      refine ⟨fun _ => .of_below hB195, ?_⟩
      replace f1 := f1.ext hB195
      replace f3 := f3.ext hB195
      replace f4 := f4.ext hB195
      replace hT193 := hT193.trans (Below.mono hB195 hT193.size)
      replace hS := hS.below hB195
      obtain ⟨r198, hr198, hx193⟩ := Option.of_bind hx193
      refine g_run rfl ?_; refine q_call rfl (ref31_Kept_w (Sep.all w195) ((hS.isl 3 rfl)).old ((hS.isl 2 rfl)).old hr198) rfl ?_
      rintro _ w197 ⟨R197, rfl, hC197⟩
      have hB197 : Below (World.heap w195).size w195 w197 := hC197.stepBF
      refine ⟨fun _ => .of_below hB197, ?_⟩
      replace f1 := f1.ext hB197
      replace f3 := f3.ext hB197
      replace f4 := f4.ext hB197
      replace hT193 := hT193.trans (Below.mono hB197 hT193.size)
      replace hS := hS.below hB197
      refine g_run rfl ?_; refine q_eql rfl rfl rfl ?_
      cases hx193
      exact eseq_nil ⟨hT193, Sub.set rfl (Sub.set rfl (Sub.set rfl (Sub.set rfl (Sub.set rfl (Sub.set rfl (Sub.set rfl (Sub.set rfl (Sub.set rfl (Sub.bool true rfl hg193))))))))), rfl⟩
    · intro hg193
      refine g_skip rfl rfl rfl ?_
      refine g_skip rfl rfl rfl ?_
      refine g_skip rfl rfl rfl ?_
      refine g_skip rfl rfl rfl ?_
      refine g_skip rfl rfl rfl ?_
      refine g_skip rfl rfl rfl ?_
      refine g_skip rfl rfl rfl ?_
      refine g_skip rfl rfl rfl ?_
      refine g_skip rfl rfl rfl ?_
      exact eseq_nil ⟨rfl, Sub.set rfl (Sub.set rfl (Sub.set rfl (Sub.set rfl (Sub.set rfl (Sub.set rfl (Sub.set rfl (Sub.set rfl (Sub.set rfl (Sub.bool false rfl hg193)))))))))⟩
    intro wm193 hBm193; clear hx193
    replace hS := hS.below hBm193
    replace f1 := f1.ext hBm193
    replace f3 := f3.ext hBm193
    replace f4 := f4.ext hBm193
    refine q_move rfl rfl ?_
    obtain ⟨x200, hx199, h⟩ := Option.of_bind h
    refine g_andM 7 hx199 rfl trivial rfl rfl ?_ ?_ ?_
    · intro hg199 hx199
      clear h
      have hT199 := Below.refl (World.heap wm193).size wm193
      refine g_run rfl ?_; refine q_move rfl rfl ?_
      refine g_run rfl ?_; refine q_loadAgg rfl (Blk.cellsAt (hS.blk 4 rfl) 0 9 rfl) rfl rfl ?_
      refine g_run rfl ?_; refine q_move rfl rfl ?_
      refine g_run rfl ?_; refine q_loadAgg rfl (Blk.cellsAt (hS.blk 4 rfl) 0 9 rfl) rfl rfl ?_
      obtain ⟨r202, hr202, hx199⟩ := Option.of_bind hx199
      refine g_run rfl ?_; refine q_call rfl (incarnation_Obsolete_w (a1 := (⟨a3.frm, a3.to, (⟨a3.sent.inc, a3.sent.index⟩ : Lab), a3.ord, a3.value, a3.clock, a3.vector, a3.known⟩ : Msg)) (Sep.enter (As := []) hS) f1 f3 f4 hr202) rfl ?_
      rintro _ w201 ⟨R201, rfl, hC201⟩
      have hB201 : Below (World.heap wm193).size wm193 w201 := hC201.stepB0
      refine ⟨fun _ => .of_below hB201, ?_⟩
      replace f1 := (f1.ext hB201).mono fun k hk _ => hC201.ro0 k hk
      replace f3 := (f3.ext hB201).mono fun k hk _ => hC201.ro0 k hk
      replace f4 := (f4.ext hB201).mono fun k hk _ => hC201.ro0 k hk
      replace hT199 := hT199.trans (Below.mono hB201 hT199.size)
      replace hS := Sep.leave (As := []) hS hC201; simp only [List.cons_append, List.nil_append] at hS
      obtain ⟨r204, hr204, hx199⟩ := Option.of_bind hx199
      refine g_run rfl ?_; refine q_call rfl (ref31_Obsolete_w (a1 := (⟨a3.frm, a3.to, (⟨a3.sent.inc, a3.sent.index⟩ : Lab), a3.ord, a3.value, a3.clock, a3.vector, a3.known⟩ : Msg)) (Sep.enter (As := []) hS) f1 f3 f4 hr204) rfl ?_
      rintro _ w203 ⟨R203, rfl, hC203⟩
      have hB203 : Below (World.heap w201).size w201 w203 := hC203.stepB0
      refine ⟨fun _ => .of_below hB203, ?_⟩
      replace f1 := (f1.ext hB203).mono fun k hk _ => hC203.ro0 k hk
      replace f3 := (f3.ext hB203).mono fun k hk _ => hC203.ro0 k hk
      replace f4 := (f4.ext hB203).mono fun k hk _ => hC203.ro0 k hk
      replace hT199 := hT199.trans (Below.mono hB203 hT199.size)
      replace hS := Sep.leave (As := []) hS hC203; simp only [List.cons_append, List.nil_append] at hS
      refine g_run rfl ?_; refine q_eqlB rfl rfl rfl ?_
      cases hx199
      exact eseq_nil ⟨hT199, Sub.set rfl (Sub.set rfl (Sub.set rfl (Sub.set rfl (Sub.set rfl (Sub.set rfl (Sub.set rfl (Sub.bool true rfl hg199))))))), rfl⟩
    · intro hg199
      refine g_skip rfl rfl rfl ?_
      refine g_skip rfl rfl rfl ?_
      refine g_skip rfl rfl rfl ?_
      refine g_skip rfl rfl rfl ?_
      refine g_skip rfl rfl rfl ?_
      refine g_skip rfl rfl rfl ?_
      refine g_skip rfl rfl rfl ?_
      exact eseq_nil ⟨rfl, Sub.set rfl (Sub.set rfl (Sub.set rfl (Sub.set rfl (Sub.set rfl (Sub.set rfl (Sub.set rfl (Sub.bool false rfl hg199)))))))⟩
    intro wm199 hBm199; clear hx199
    replace hS := hS.below hBm199
    replace f1 := f1.ext hBm199
    refine q_move rfl rfl ?_
    obtain ⟨x206, hx205, h⟩ := Option.of_bind h
    refine g_andM 7 hx205 rfl trivial rfl rfl ?_ ?_ ?_
    · intro hg205 hx205
      clear h
      have hT205 := Below.refl (World.heap wm199).size wm199
      refine g_run rfl ?_; refine q_move rfl rfl ?_
      refine g_run rfl ?_; refine q_loadAgg rfl (Blk.cellsAt (hS.blk 0 rfl) 0 9 rfl) rfl rfl ?_
      refine g_run rfl ?_; refine q_move rfl rfl ?_
      refine g_run rfl ?_; refine q_loadAgg rfl (Blk.cellsAt (hS.blk 0 rfl) 0 9 rfl) rfl rfl ?_
      obtain ⟨r208, hr208, hx205⟩ := Option.of_bind hx205
      refine g_run rfl ?_; refine q_call rfl (incarnation_Obsolete_w (a1 := (⟨r146.1, 0, (⟨r148.1, r150.1⟩ : Lab), 0, 0, 0, ([] : List Int), ([] : List Known)⟩ : Msg)) (Sep.all wm199) ((hS.isl 3 rfl)).old ((IsSlice.nil Ty.int _ (fun _ => False))).old ((IsSlice.nil knownTy _ (fun _ => False))).old hr208) rfl ?_
      rintro _ w207 ⟨R207, rfl, hC207⟩
      have hB207 : Below (World.heap wm199).size wm199 w207 := hC207.stepBF
      refine ⟨fun _ => .of_below hB207, ?_⟩
      replace f1 := f1.ext hB207
      replace hT205 := hT205.trans (Below.mono hB207 hT205.size)
      replace hS := hS.below hB207
      obtain ⟨r210, hr210, hx205⟩ := Option.of_bind hx205
      refine g_run rfl ?_; refine q_call rfl (ref31_Obsolete_w (a1 := (⟨r146.1, 0, (⟨r148.1, r150.1⟩ : Lab), 0, 0, 0, ([] : List Int), ([] : List Known)⟩ : Msg)) (Sep.all w207) ((hS.isl 3 rfl)).old ((IsSlice.nil Ty.int _ (fun _ => False))).old ((IsSlice.nil knownTy _ (fun _ => False))).old hr210) rfl ?_
      rintro _ w209 ⟨R209, rfl, hC209⟩
      have hB209 : Below (World.heap w207).size w207 w209 := hC209.stepBF
      refine ⟨fun _ => .of_below hB209, ?_⟩
      replace f1 := f1.ext hB209
      replace hT205 := hT205.trans (Below.mono hB209 hT205.size)
      replace hS := hS.below hB209
      refine g_run rfl ?_; refine q_eqlB rfl rfl rfl ?_
      cases hx205
      exact eseq_nil ⟨hT205, Sub.set rfl (Sub.set rfl (Sub.set rfl (Sub.set rfl (Sub.set rfl (Sub.set rfl (Sub.set rfl (Sub.bool true rfl hg205))))))), rfl⟩
    · intro hg205
      refine g_skip rfl rfl rfl ?_
      refine g_skip rfl rfl rfl ?_
      refine g_skip rfl rfl rfl ?_
      refine g_skip rfl rfl rfl ?_
      refine g_skip rfl rfl rfl ?_
      refine g_skip rfl rfl rfl ?_
      refine g_skip rfl rfl rfl ?_
      exact eseq_nil ⟨rfl, Sub.set rfl (Sub.set rfl (Sub.set rfl (Sub.set rfl (Sub.set rfl (Sub.set rfl (Sub.set rfl (Sub.bool false rfl hg205)))))))⟩
    intro wm205 hBm205; clear hx205
    replace hS := hS.below hBm205
    replace f1 := f1.ext hBm205
    refine q_move rfl rfl ?_
    obtain ⟨x212, hx211, h⟩ := Option.of_bind h
    refine g_andM 7 hx211 rfl trivial rfl rfl ?_ ?_ ?_
    · intro hg211 hx211
      clear h
      have hT211 := Below.refl (World.heap wm205).size wm205
      refine g_run rfl ?_; refine q_move rfl rfl ?_
      refine g_run rfl ?_; refine q_move rfl rfl ?_
      refine g_run rfl ?_; refine q_move rfl rfl ?_
      refine g_run rfl ?_; refine q_move rfl rfl ?_
      obtain ⟨r214, hr214, hx211⟩ := Option.of_bind hx211
      refine g_run rfl ?_; refine q_call rfl (incarnation_Next_w (Sep.enter (As := []) hS) f1 hr214) rfl ?_
      rintro _ w213 ⟨R213, rfl, hC213⟩
      have hB213 : Below (World.heap wm205).size wm205 w213 := hC213.stepB0
      refine ⟨fun _ => .of_below hB213, ?_⟩
      replace f1 := (f1.ext hB213).mono fun k hk _ => hC213.ro0 k hk
      replace hT211 := hT211.trans (Below.mono hB213 hT211.size)
      replace hS := Sep.leave (As := []) hS hC213; simp only [List.cons_append, List.nil_append] at hS
      obtain ⟨r216, hr216, hx211⟩ := Option.of_bind hx211
      refine g_run rfl ?_; refine q_call rfl (ref31_Next_w (Sep.enter (As := []) hS) f1 hr216) rfl ?_
      rintro _ w215 ⟨R215, rfl, hC215⟩
      have hB215 : Below (World.heap w213).size w213 w215 := hC215.stepB0
      refine ⟨fun _ => .of_below hB215, ?_⟩
      replace f1 := (f1.ext hB215).mono fun k hk _ => hC215.ro0 k hk
      replace hT211 := hT211.trans (Below.mono hB215 hT211.size)
      replace hS := Sep.leave (As := []) hS hC215; simp only [List.cons_append, List.nil_append] at hS
      refine g_run rfl ?_; refine q_eql rfl rfl rfl ?_
      cases hx211
      exact eseq_nil ⟨hT211, Sub.set rfl (Sub.set rfl (Sub.set rfl (Sub.set rfl (Sub.set rfl (Sub.set rfl (Sub.set rfl (Sub.bool true rfl hg211))))))), rfl⟩
    · intro hg211
      refine g_skip rfl rfl rfl ?_
      refine g_skip rfl rfl rfl ?_
      refine g_skip rfl rfl rfl ?_
      refine g_skip rfl rfl rfl ?_
      refine g_skip rfl rfl rfl ?_
      refine g_skip rfl rfl rfl ?_
      refine g_skip rfl rfl rfl ?_
      exact eseq_nil ⟨rfl, Sub.set rfl (Sub.set rfl (Sub.set rfl (Sub.set rfl (Sub.set rfl (Sub.set rfl (Sub.set rfl (Sub.bool false rfl hg211)))))))⟩
    intro wm211 hBm211; clear hx211
    replace hS := hS.below hBm211
    refine q_move rfl rfl ?_
    obtain ⟨x218, hx217, h⟩ := Option.of_bind h
    refine g_andM 7 hx217 rfl trivial rfl rfl ?_ ?_ ?_
    · intro hg217 hx217
      clear h
      have hT217 := Below.refl (World.heap wm211).size wm211
      refine g_run rfl ?_; refine q_move rfl rfl ?_
      refine g_run rfl ?_; refine q_move rfl rfl ?_
      refine g_run rfl ?_; refine q_move rfl rfl ?_
      refine g_run rfl ?_; refine q_move rfl rfl ?_
      obtain ⟨r220, hr220, hx217⟩ := Option.of_bind hx217
      refine g_run rfl ?_; refine q_call rfl (incarnation_Next_w (Sep.all wm211) ((hS.isl 3 rfl)).old hr220) rfl ?_
      rintro _ w219 ⟨R219, rfl, hC219⟩
      have hB219 : Below (World.heap wm211).size wm211 w219 := hC219.stepBF
      refine ⟨fun _ => .of_below hB219, ?_⟩
      replace hT217 := hT217.trans (Below.mono hB219 hT217.size)
      replace hS := hS.below hB219
      obtain ⟨r222, hr222, hx217⟩ := Option.of_bind hx217
      refine g_run rfl ?_; refine q_call rfl (ref31_Next_w (Sep.all w219) ((hS.isl 3 rfl)).old hr222) rfl ?_
      rintro _ w221 ⟨R221, rfl, hC221⟩
      have hB221 : Below (World.heap w219).size w219 w221 := hC221.stepBF
      refine ⟨fun _ => .of_below hB221, ?_⟩
      replace hT217 := hT217.trans (Below.mono hB221 hT217.size)
      replace hS := hS.below hB221
      refine g_run rfl ?_; refine q_eql rfl rfl rfl ?_
      cases hx217
      exact eseq_nil ⟨hT217, Sub.set rfl (Sub.set rfl (Sub.set rfl (Sub.set rfl (Sub.set rfl (Sub.set rfl (Sub.set rfl (Sub.bool true rfl hg217))))))), rfl⟩
    · intro hg217
      refine g_skip rfl rfl rfl ?_
      refine g_skip rfl rfl rfl ?_
      refine g_skip rfl rfl rfl ?_
      refine g_skip rfl rfl rfl ?_
      refine g_skip rfl rfl rfl ?_
      refine g_skip rfl rfl rfl ?_
      refine g_skip rfl rfl rfl ?_
      exact eseq_nil ⟨rfl, Sub.set rfl (Sub.set rfl (Sub.set rfl (Sub.set rfl (Sub.set rfl (Sub.set rfl (Sub.set rfl (Sub.bool false rfl hg217)))))))⟩
    intro wm217 hBm217; clear hx217
    replace hS := hS.below hBm217
    refine q_assign rfl rfl ?_
    refine eseq_nil ?_
    refine hK154 _ _ ?_
    refine e_ret ?_
    obtain rfl := Option.some.inj h
    exact ⟨_, res1 rfl rfl, _, rfl, (hS.pickB [] 5 rfl rfl)⟩
theorem law31_IncarnationSame_w {F R : Nat → Prop} {w : World} {fuel : Nat} {a0 : (List Int)} {v1 : Value} {r : (Bool)} (hS : Sep F R R w w []) (f1 : IsSlice Ty.u8 w R v1 a0) (h : law31_IncarnationSame fuel a0 = some r) :
    Gives Try.prog 7 [v1] w fun u w1 => ∃ (R1 : Nat → Prop), u = .bool r ∧ Sep F R R1 w w1 [] := by
  refine fn_of Try.func7 rfl Try.ntmps7 (Nat.le_of_ble_eq_true rfl) ?_
  unfold law31_IncarnationSame at h
  refine e_seq fun K1354 hK1354 => ?_
  refine e_region_text rfl ?_
  refine q_assign rfl rfl ?_
  refine eseq_nil ?_
  refine hK1354 _ _ ?_
  refine e_seq fun K1355 hK1355 => ?_
  refine e_seq fun K1356 hK1356 => ?_
  refine e_region_text rfl ?_
  obtain ⟨r1358, hr1358, h⟩ := Option.of_bind h
  refine q_call rfl (law31_awake_w (Sep.enter (As := []) hS)  hr1358) rfl ?_
  rintro _ w1357 ⟨R1357, rfl, hC1357⟩
  have hB1357 : Below (World.heap w).size w w1357 := hC1357.stepB0
  refine ⟨fun _ => .of_below hB1357, ?_⟩
  replace f1 := (f1.ext hB1357).mono fun k hk _ => hC1357.ro0 k hk
  replace hS := Sep.leave (As := []) hS hC1357; simp only [List.cons_append, List.nil_append] at hS
  refine q_not rfl rfl ?_
  refine eseq_nil ?_
  refine hK1356 _ _ ?_
  refine e_cond rfl (fun hc1359 => ?_) (fun hc1359 => ?_)
  · replace h := (if_pos hc1359).symm.trans h
    refine e_seq fun K1360 hK1360 => ?_
    refine e_region_text rfl ?_
    refine q_assign rfl rfl ?_
    refine eseq_nil ?_
    refine hK1360 _ _ ?_
    refine e_ret ?_
    obtain rfl := Option.some.inj h
    exact ⟨_, res1 rfl rfl, _, rfl, hS⟩
  · replace h := (if_neg (not_true hc1359)).symm.trans h
    refine e_skip ?_
    refine hK1355 _ _ ?_
    refine e_seq fun K1361 hK1361 => ?_
    refine e_region_text rfl ?_
    refine q_move rfl rfl ?_
    obtain ⟨r1363, hr1363, h⟩ := Option.of_bind h
    refine q_call rfl (make_New_w (Sep.enter (As := []) hS) f1 hr1363) rfl ?_
    rintro _ w1362 ⟨B1364, v1365, R1362, rfl, hC1362, f1365⟩
    have hB1362 : Below (World.heap w1357).size w1357 w1362 := hC1362.stepB0
    refine ⟨fun _ => .of_below hB1362, ?_⟩
    replace f1 := (f1.ext hB1362).mono fun k hk _ => hC1362.ro0 k hk
    replace hS := Sep.leave (As := []) hS hC1362; simp only [List.cons_append, List.nil_append] at hS
    refine q_assign rfl rfl ?_
    refine eseq_nil ?_
    refine hK1361 _ _ ?_
    refine e_seq fun K1366 hK1366 => ?_
    refine e_region_text rfl ?_
    refine q_move rfl rfl ?_
    obtain ⟨r1368, hr1368, h⟩ := Option.of_bind h
    refine q_call rfl (make_Codes_Ends_w (Sep.enter (As := [_]) hS) f1365 hr1368) rfl ?_
    rintro v1369 w1367 ⟨_, R1367, rfl, hC1367⟩
    refine ⟨(fun h => by cases h), ?_⟩
    have hk1367 := hC1367.keptR (Sep.offFeet (As := [_]) hS)
    replace f1365 := (f1365.kept hk1367).mono fun k hk _ => hC1367.ro0 k hk
    replace hS := Sep.leave (As := [_]) hS hC1367; simp only [List.cons_append, List.nil_append] at hS
    refine q_move rfl rfl ?_
    obtain ⟨r1371, hr1371, h⟩ := Option.of_bind h
    refine q_call rfl (make_Codes_Ends_w (Sep.enter (As := [_]) hS) f1365 hr1371) rfl ?_
    rintro v1372 w1370 ⟨_, R1370, rfl, hC1370⟩
    refine ⟨(fun h => by cases h), ?_⟩
    have hk1370 := hC1370.keptR (Sep.offFeet (As := [_]) hS)
    replace f1365 := (f1365.kept hk1370).mono fun k hk _ => hC1370.ro0 k hk
    replace hS := Sep.leave (As := [_]) hS hC1370; simp only [List.cons_append, List.nil_append] at hS
    refine q_move rfl rfl ?_
    obtain ⟨r1374, hr1374, h⟩ := Option.of_bind h
    refine q_call rfl (make_Codes_Events_w (Sep.enter (As := [_]) hS) f1365 hr1374) rfl ?_
    rintro v1375 w1373 ⟨_, R1373, rfl, hC1373⟩
    refine ⟨(fun h => by cases h), ?_⟩
    have hk1373 := hC1373.keptR (Sep.offFeet (As := [_]) hS)
    replace f1365 := (f1365.kept hk1373).mono fun k hk _ => hC1373.ro0 k hk
    replace hS := Sep.leave (As := [_]) hS hC1373; simp only [List.cons_append, List.nil_append] at hS
    refine q_assign rfl rfl ?_
    refine q_assign rfl rfl ?_
    refine q_assign rfl rfl ?_
    refine eseq_nil ?_
    refine hK1366 _ _ ?_
    refine e_seq fun K1376 hK1376 => ?_
    refine e_region_text rfl ?_
    refine q_move rfl rfl ?_
    replace hS := hS.nilOwn0 endITy 34
    obtain ⟨x1379, hx1379, h⟩ := Option.of_bind h
    refine q_catOwn (T := endITy) rfl rfl rfl rfl (hS.own 0 rfl) rfl (hS.own 4 rfl) (fun _ h _ => h.elim) hx1379 (Nat.zero_le _) rfl (fun h => by cases h) fun v1378 w1378 hw1378 hgr1378 hnw1378 => ?_
    have hk1378 := hS.keptOwn 0 rfl hgr1378
    replace f1365 := f1365.kept hk1378
    replace hS := hS.setOwn 0 rfl hw1378 hgr1378 hnw1378; simp only [List.set] at hS
    refine q_move rfl rfl ?_
    obtain ⟨x1381, hx1381, h⟩ := Option.of_bind h
    refine q_catOwn (T := endITy) rfl rfl rfl rfl (hS.own 0 rfl) rfl (hS.own 3 rfl) (fun _ h _ => h.elim) hx1381 (Nat.zero_le _) rfl (fun h => by cases h) fun v1380 w1380 hw1380 hgr1380 hnw1380 => ?_
    have hk1380 := hS.keptOwn 0 rfl hgr1380
    replace f1365 := f1365.kept hk1380
    replace hS := hS.setOwn 0 rfl hw1380 hgr1380 hnw1380; simp only [List.set] at hS
    refine q_assign rfl rfl ?_
    refine eseq_nil ?_
    refine hK1376 _ _ ?_
    refine e_seq fun K1382 hK1382 => ?_
    refine e_region_text rfl ?_
    refine q_move rfl rfl ?_
    refine q_move rfl rfl ?_
    obtain ⟨r1384, hr1384, h⟩ := Option.of_bind h
    refine q_call rfl (incarnation_Merge_w (Sep.all w1380) ((hS.isl 4 rfl)).old ((hS.isl 3 rfl)).old hr1384) rfl ?_
    rintro v1385 w1383 ⟨_, R1383, rfl, hC1383⟩
    have hB1383 : Below (World.heap w1380).size w1380 w1383 := hC1383.stepBF
    refine ⟨fun _ => .of_below hB1383, ?_⟩
    replace f1365 := f1365.ext hB1383
    replace hS := hS.newOwnS hB1383 (hC1383.own 0 rfl) (hC1383.fresh 0 rfl) (fun _ h => h.elim)
    refine q_assign rfl rfl ?_
    refine eseq_nil ?_
    refine hK1382 _ _ ?_
    refine e_seq fun K1386 hK1386 => ?_
    refine e_region_text rfl ?_
    refine q_assign rfl rfl ?_
    refine eseq_nil ?_
    refine hK1386 _ _ ?_
    refine e_seq fun K1387 hK1387 => ?_
    refine e_seq fun K1388 hK1388 => ?_
    refine e_region_text rfl ?_
    refine q_move rfl rfl ?_
    refine q_lenS rfl (hS.isl 1 rfl) rfl ?_
    refine q_subW rfl rfl rfl ?_
    refine q_assign rfl rfl ?_
    refine eseq_nil ?_
    refine hK1388 _ _ ?_
    refine e_block ?_
    obtain ⟨tl1389, ht1389, h⟩ := Option.of_bind h
    have hX1389_0 : ∀ (x1464 : (List EndI)) (v1463 : Value) (R1454 : Nat → Prop) (w1455 : World) (E_ : Env), law31_IncarnationSame_K1 fuel r1384 r1371 r1368 x1381 r1374 r1363 x1464 = some r → Sep F R R1454 w w1455 [HP.blk B1364 [v1365, .int .i64 r1374.2] 55, HP.own endITy (fun _ => False) 34 v1369 r1368.1, HP.own endITy (fun _ => False) 34 v1372 r1371.1, HP.own evtTy (fun _ => False) 53 v1375 r1374.1, HP.own endITy (fun _ => False) 34 v1380 x1381, HP.own endITy (fun _ => False) 34 v1385 r1384, HP.own endITy (fun _ => False) 34 v1463 x1464] → IsSlice Ty.u8 w1455 R1454 v1365 r1363.1 → Sub [(3, .pointer (some ⟨B1364, 0, none⟩)), (4, v1369), (5, v1372), (6, v1375), (7, v1380), (8, v1385), (9, v1463)] E_ → K1387 E_ w1455 := by
      intro x1464 v1463 R1454 w1455 E_ h hS f1456 hsub
      refine hK1387 _ _ (e_sub hsub ?_); clear hsub
      unfold law31_IncarnationSame_K1 at h
      refine e_seq fun K1465 hK1465 => ?_
      refine e_seq fun K1466 hK1466 => ?_
      refine e_region_text rfl ?_
      refine q_move rfl rfl ?_
      refine q_move rfl rfl ?_
      obtain ⟨r1468, hr1468, h⟩ := Option.of_bind h
      refine q_call rfl (ref31_Same_w (Sep.all w1455) ((hS.isl 5 rfl)).old ((hS.isl 6 rfl)).old hr1468) rfl ?_
      rintro _ w1467 ⟨R1467, rfl, hC1467⟩
      have hB1467 : Below (World.heap w1455).size w1455 w1467 := hC1467.stepBF
      refine ⟨fun _ => .of_below hB1467, ?_⟩
      replace f1456 := f1456.ext hB1467
      replace hS := hS.below hB1467
      refine q_not rfl rfl ?_
      refine q_move rfl rfl ?_
      obtain ⟨x1470, hx1469, h⟩ := Option.of_bind h
      refine g_orM 6 hx1469 rfl trivial rfl rfl ?_ ?_ ?_
      · intro hg1469
        refine g_skip rfl rfl rfl ?_
        refine g_skip rfl rfl rfl ?_
        refine g_skip rfl rfl rfl ?_
        refine g_skip rfl rfl rfl ?_
        refine g_skip rfl rfl rfl ?_
        refine g_skip rfl rfl rfl ?_
        exact eseq_nil ⟨rfl, Sub.set rfl (Sub.set rfl (Sub.set rfl (Sub.set rfl (Sub.set rfl (Sub.set rfl (Sub.bool true rfl hg1469))))))⟩
      · intro hg1469 hx1469
        clear h
        have hT1469 := Below.refl (World.heap w1467).size w1467
        refine g_run rfl ?_; refine q_move rfl rfl ?_
        refine g_run rfl ?_; refine q_move rfl rfl ?_
        refine g_run rfl ?_; refine q_move rfl rfl ?_
        obtain ⟨r1472, hr1472, hx1469⟩ := Option.of_bind hx1469
        refine g_run rfl ?_; refine q_call rfl (incarnation_Merge_w (Sep.all w1467) ((hS.isl 2 rfl)).old ((hS.isl 1 rfl)).old hr1472) rfl ?_
        rintro v1473 w1471 ⟨_, R1471, rfl, hC1471⟩
        have hB1471 : Below (World.heap w1467).size w1467 w1471 := hC1471.stepBF
        refine ⟨fun _ => .of_below hB1471, ?_⟩
        replace f1456 := f1456.ext hB1471
        replace hT1469 := hT1469.trans (Below.mono hB1471 hT1469.size)
        replace hS := hS.newOwnS hB1471 (hC1471.own 0 rfl) (hC1471.fresh 0 rfl) (fun _ h => h.elim)
        obtain ⟨r1475, hr1475, hx1469⟩ := Option.of_bind hx1469
        refine g_run rfl ?_; refine q_call rfl (ref31_Same_w (Sep.all w1471) ((hS.isl 6 rfl)).old ((hS.isl 0 rfl)).old hr1475) rfl ?_
        rintro _ w1474 ⟨R1474, rfl, hC1474⟩
        have hB1474 : Below (World.heap w1471).size w1471 w1474 := hC1474.stepBF
        refine ⟨fun _ => .of_below hB1474, ?_⟩
        replace f1456 := f1456.ext hB1474
        replace hT1469 := hT1469.trans (Below.mono hB1474 hT1469.size)
        replace hS := hS.below hB1474
        refine g_run rfl ?_; refine q_not rfl rfl ?_
        cases hx1469
        exact eseq_nil ⟨hT1469, Sub.set rfl (Sub.set rfl (Sub.set rfl (Sub.set rfl (Sub.set rfl (Sub.set rfl (Sub.bool false rfl hg1469)))))), rfl⟩
      intro wm1469 hBm1469; clear hx1469
      replace hS := hS.below hBm1469
      replace f1456 := f1456.ext hBm1469
      refine q_move rfl rfl ?_
      obtain ⟨x1477, hx1476, h⟩ := Option.of_bind h
      refine g_orM 6 hx1476 rfl trivial rfl rfl ?_ ?_ ?_
      · intro hg1476
        refine g_skip rfl rfl rfl ?_
        refine g_skip rfl rfl rfl ?_
        refine g_skip rfl rfl rfl ?_
        refine g_skip rfl rfl rfl ?_
        refine g_skip rfl rfl rfl ?_
        refine g_skip rfl rfl rfl ?_
        exact eseq_nil ⟨rfl, Sub.set rfl (Sub.set rfl (Sub.set rfl (Sub.set rfl (Sub.set rfl (Sub.set rfl (Sub.bool true rfl hg1476))))))⟩
      · intro hg1476 hx1476
        clear h
        have hT1476 := Below.refl (World.heap wm1469).size wm1469
        refine g_run rfl ?_; refine q_move rfl rfl ?_
        refine g_run rfl ?_; refine q_move rfl rfl ?_
        refine g_run rfl ?_; refine q_move rfl rfl ?_
        obtain ⟨r1479, hr1479, hx1476⟩ := Option.of_bind hx1476
        refine g_run rfl ?_; refine q_call rfl (incarnation_Merge_w (Sep.all wm1469) ((hS.isl 5 rfl)).old ((hS.isl 5 rfl)).old hr1479) rfl ?_
        rintro v1480 w1478 ⟨_, R1478, rfl, hC1478⟩
        have hB1478 : Below (World.heap wm1469).size wm1469 w1478 := hC1478.stepBF
        refine ⟨fun _ => .of_below hB1478, ?_⟩
        replace f1456 := f1456.ext hB1478
        replace hT1476 := hT1476.trans (Below.mono hB1478 hT1476.size)
        replace hS := hS.newOwnS hB1478 (hC1478.own 0 rfl) (hC1478.fresh 0 rfl) (fun _ h => h.elim)
        obtain ⟨r1482, hr1482, hx1476⟩ := Option.of_bind hx1476
        refine g_run rfl ?_; refine q_call rfl (ref31_Same_w (Sep.all w1478) ((hS.isl 6 rfl)).old ((hS.isl 0 rfl)).old hr1482) rfl ?_
        rintro _ w1481 ⟨R1481, rfl, hC1481⟩
        have hB1481 : Below (World.heap w1478).size w1478 w1481 := hC1481.stepBF
        refine ⟨fun _ => .of_below hB1481, ?_⟩
        replace f1456 := f1456.ext hB1481
        replace hT1476 := hT1476.trans (Below.mono hB1481 hT1476.size)
        replace hS := hS.below hB1481
        refine g_run rfl ?_; refine q_not rfl rfl ?_
        cases hx1476
        exact eseq_nil ⟨hT1476, Sub.set rfl (Sub.set rfl (Sub.set rfl (Sub.set rfl (Sub.set rfl (Sub.set rfl (Sub.bool false rfl hg1476)))))), rfl⟩
      intro wm1476 hBm1476; clear hx1476
      replace hS := hS.below hBm1476
      replace f1456 := f1456.ext hBm1476
      refine eseq_nil ?_
      refine hK1466 _ _ ?_
      refine e_cond rfl (fun hc1483 => ?_) (fun hc1483 => ?_)
      · replace h := (if_pos hc1483).symm.trans h
        refine e_seq fun K1484 hK1484 => ?_
        refine e_region_text rfl ?_
        refine q_assign rfl rfl ?_
        refine eseq_nil ?_
        refine hK1484 _ _ ?_
        refine e_ret ?_
        obtain rfl := Option.some.inj h
        exact ⟨_, res1 rfl rfl, _, rfl, (hS.pickB [] 7 rfl rfl)⟩
      · replace h := (if_neg (not_true hc1483)).symm.trans h
        refine e_skip ?_
        refine hK1465 _ _ ?_
        refine e_seq fun K1485 hK1485 => ?_
        refine e_seq fun K1486 hK1486 => ?_
        refine e_region_text rfl ?_
        refine q_assign rfl rfl ?_
        refine eseq_nil ?_
        refine hK1486 _ _ ?_
        refine e_block ?_
        obtain ⟨tl1487, ht1487, h⟩ := Option.of_bind h
        have hX1487_2 : ∀ (R1589 : Nat → Prop) (w1590 : World) (E_ : Env), law31_IncarnationSame_K2 fuel r1384 x1381 r1374 r1363 = some r → Sep F R R1589 w w1590 [HP.blk B1364 [v1365, .int .i64 r1374.2] 55, HP.own evtTy (fun _ => False) 53 v1375 r1374.1, HP.own endITy (fun _ => False) 34 v1380 x1381, HP.own endITy (fun _ => False) 34 v1385 r1384] → IsSlice Ty.u8 w1590 R1589 v1365 r1363.1 → Sub [(3, .pointer (some ⟨B1364, 0, none⟩)), (6, v1375), (7, v1380), (8, v1385)] E_ → K1485 E_ w1590 := by
          intro R1589 w1590 E_ h hS f1591 hsub
          refine hK1485 _ _ (e_sub hsub ?_); clear hsub
          unfold law31_IncarnationSame_K2 at h
          refine e_seq fun K1595 hK1595 => ?_
          refine e_seq fun K1596 hK1596 => ?_
          refine e_region_text rfl ?_
          refine q_assign rfl rfl ?_
          refine eseq_nil ?_
          refine hK1596 _ _ ?_
          refine e_block ?_
          obtain ⟨tl1597, ht1597, h⟩ := Option.of_bind h
          have hX1597_4 : ∀ (R2307 : Nat → Prop) (w2308 : World) (E_ : Env), law31_IncarnationSame_K3 fuel r1363 r1374 r1384 = some r → Sep F R R2307 w w2308 [HP.blk B1364 [v1365, .int .i64 r1374.2] 55, HP.own endITy (fun _ => False) 34 v1385 r1384] → IsSlice Ty.u8 w2308 R2307 v1365 r1363.1 → Sub [(3, .pointer (some ⟨B1364, 0, none⟩)), (8, v1385)] E_ → K1595 E_ w2308 := by
            intro R2307 w2308 E_ h hS f2309 hsub
            refine hK1595 _ _ (e_sub hsub ?_); clear hsub
            unfold law31_IncarnationSame_K3 at h
            refine e_seq fun K2311 hK2311 => ?_
            refine e_region_text rfl ?_
            refine q_move rfl rfl ?_
            refine q_move rfl rfl ?_
            obtain ⟨r2313, hr2313, h⟩ := Option.of_bind h
            refine q_call rfl (make_Codes_Next_w (Sep.enter (As := [_]) hS) f2309 hr2313) rfl ?_
            rintro _ w2312 ⟨R2312, rfl, hC2312⟩
            refine ⟨(fun h => by cases h), ?_⟩
            have hk2312 := hC2312.keptR (Sep.offFeet (As := [_]) hS)
            replace f2309 := (f2309.kept hk2312).mono fun k hk _ => hC2312.ro0 k hk
            replace hS := Sep.leave (As := [_]) hS hC2312; simp only [List.cons_append, List.nil_append] at hS
            refine q_build Parts.nil rfl rfl ?_
            obtain ⟨r2315, hr2315, h⟩ := Option.of_bind h
            refine q_call rfl (incarnation_Undone_w (a2 := (⟨0, 0⟩ : Lab)) (Sep.all w2312) ((hS.isl 1 rfl)).old hr2315) rfl ?_
            rintro _ w2314 ⟨R2314, rfl, hC2314⟩
            have hB2314 : Below (World.heap w2312).size w2312 w2314 := hC2314.stepBF
            refine ⟨fun _ => .of_below hB2314, ?_⟩
            replace hS := hS.below hB2314
            refine q_not rfl rfl ?_
            refine q_assign rfl rfl ?_
            refine eseq_nil ?_
            refine hK2311 _ _ ?_
            refine e_ret ?_
            obtain rfl := Option.some.inj h
            exact ⟨_, res1 rfl rfl, _, rfl, (hS.pickB [] 2 rfl rfl)⟩
          refine e_loop (fun m_ E_ w1953 => ∃ (x1958 : Int), ∃ (R1952 : Nat → Prop), iter (fun s => law31_IncarnationSame_B1 fuel r1384 x1381 r1374 s) m_ x1958 = some tl1597 ∧ Sep F R R1952 w w1953 [HP.blk B1364 [v1365, .int .i64 r1374.2] 55, HP.own evtTy (fun _ => False) 53 v1375 r1374.1, HP.own endITy (fun _ => False) 34 v1380 x1381, HP.own endITy (fun _ => False) 34 v1385 r1384] ∧ IsSlice Ty.u8 w1953 R1952 v1365 r1363.1 ∧ E_ = [(3, .pointer (some ⟨B1364, 0, none⟩)), (6, v1375), (7, v1380), (8, v1385), (12, .int .i64 x1958)]) _ ⟨_, ⟨0, _, ht1597, hS, f1591, rfl⟩, Sub.cons rfl (Sub.cons rfl (Sub.cons rfl (Sub.cons rfl (Sub.cons rfl (Sub.nil _)))))⟩ ?_
          clear ht1597 hS
          rintro m1597 _ w1953 ⟨x1958, R1952, ht1597, hS, f1954, rfl⟩
          obtain ⟨m1597, rfl, o1597, ho1597, ht1597⟩ := iter_some ht1597
          replace ho1597 : law31_IncarnationSame_B1 fuel r1384 x1381 r1374 x1958 = some o1597 := ho1597
          unfold law31_IncarnationSame_B1 at ho1597
          refine e_seq fun K2316 hK2316 => ?_
          refine e_seq fun K2317 hK2317 => ?_
          refine e_region_text rfl ?_
          refine q_move rfl rfl ?_
          refine q_lss rfl rfl rfl ?_
          refine eseq_nil ?_
          refine hK2317 _ _ ?_
          refine e_cond rfl (fun hc2318 => ?_) (fun hc2318 => ?_)
          · replace ho1597 := (if_pos hc2318).symm.trans ho1597
            refine e_skip ?_
            refine hK2316 _ _ ?_
            refine e_seq fun K2319 hK2319 => ?_
            refine e_block ?_
            refine e_seq fun K2320 hK2320 => ?_
            refine e_seq fun K2321 hK2321 => ?_
            refine e_region_text rfl ?_
            refine q_move rfl rfl ?_
            refine q_move rfl rfl ?_
            obtain ⟨r2323, hr2323, ho1597⟩ := Option.of_bind ho1597
            refine q_call rfl (incarnation_Next_w (Sep.all w1953) ((hS.isl 3 rfl)).old hr2323) rfl ?_
            rintro _ w2322 ⟨R2322, rfl, hC2322⟩
            have hB2322 : Below (World.heap w1953).size w1953 w2322 := hC2322.stepBF
            refine ⟨fun _ => .of_below hB2322, ?_⟩
            replace f1954 := f1954.ext hB2322
            replace hS := hS.below hB2322
            refine q_move rfl rfl ?_
            refine q_move rfl rfl ?_
            obtain ⟨r2325, hr2325, ho1597⟩ := Option.of_bind ho1597
            refine q_call rfl (incarnation_Next_w (Sep.all w2322) ((hS.isl 2 rfl)).old hr2325) rfl ?_
            rintro _ w2324 ⟨R2324, rfl, hC2324⟩
            have hB2324 : Below (World.heap w2322).size w2322 w2324 := hC2324.stepBF
            refine ⟨fun _ => .of_below hB2324, ?_⟩
            replace f1954 := f1954.ext hB2324
            replace hS := hS.below hB2324
            refine q_neq rfl rfl rfl ?_
            refine q_move rfl rfl ?_
            obtain ⟨x2327, hx2326, ho1597⟩ := Option.of_bind ho1597
            refine g_orM 9 hx2326 rfl trivial rfl rfl ?_ ?_ ?_
            · intro hg2326
              refine g_skip rfl rfl rfl ?_
              refine g_skip rfl rfl rfl ?_
              refine g_skip rfl rfl rfl ?_
              refine g_skip rfl rfl rfl ?_
              refine g_skip rfl rfl rfl ?_
              refine g_skip rfl rfl rfl ?_
              refine g_skip rfl rfl rfl ?_
              refine g_skip rfl rfl rfl ?_
              refine g_skip rfl rfl rfl ?_
              exact eseq_nil ⟨rfl, Sub.set rfl (Sub.set rfl (Sub.set rfl (Sub.set rfl (Sub.set rfl (Sub.set rfl (Sub.set rfl (Sub.set rfl (Sub.set rfl (Sub.bool true rfl hg2326)))))))))⟩
            · intro hg2326 hx2326
              clear ho1597
              have hT2326 := Below.refl (World.heap w2324).size w2324
              refine g_run rfl ?_; refine q_move rfl rfl ?_
              refine g_run rfl ?_; refine q_move rfl rfl ?_
              refine g_run rfl ?_; refine q_move rfl rfl ?_
              obtain ⟨r2329, hr2329, hx2326⟩ := Option.of_bind hx2326
              refine g_run rfl ?_; refine q_call rfl (incarnation_Kept_w (Sep.all w2324) ((hS.isl 3 rfl)).old ((hS.isl 1 rfl)).old hr2329) rfl ?_
              rintro _ w2328 ⟨R2328, rfl, hC2328⟩
              have hB2328 : Below (World.heap w2324).size w2324 w2328 := hC2328.stepBF
              refine ⟨fun _ => .of_below hB2328, ?_⟩
              replace f1954 := f1954.ext hB2328
              replace hT2326 := hT2326.trans (Below.mono hB2328 hT2326.size)
              replace hS := hS.below hB2328
              refine g_run rfl ?_; refine q_move rfl rfl ?_
              refine g_run rfl ?_; refine q_move rfl rfl ?_
              refine g_run rfl ?_; refine q_move rfl rfl ?_
              obtain ⟨r2331, hr2331, hx2326⟩ := Option.of_bind hx2326
              refine g_run rfl ?_; refine q_call rfl (incarnation_Kept_w (Sep.all w2328) ((hS.isl 2 rfl)).old ((hS.isl 1 rfl)).old hr2331) rfl ?_
              rintro _ w2330 ⟨R2330, rfl, hC2330⟩
              have hB2330 : Below (World.heap w2328).size w2328 w2330 := hC2330.stepBF
              refine ⟨fun _ => .of_below hB2330, ?_⟩
              replace f1954 := f1954.ext hB2330
              replace hT2326 := hT2326.trans (Below.mono hB2330 hT2326.size)
              replace hS := hS.below hB2330
              refine g_run rfl ?_; refine q_neq rfl rfl rfl ?_
              cases hx2326
              exact eseq_nil ⟨hT2326, Sub.set rfl (Sub.set rfl (Sub.set rfl (Sub.set rfl (Sub.set rfl (Sub.set rfl (Sub.set rfl (Sub.set rfl (Sub.set rfl (Sub.bool false rfl hg2326))))))))), rfl⟩
            intro wm2326 hBm2326; clear hx2326
            replace hS := hS.below hBm2326
            replace f1954 := f1954.ext hBm2326
            refine eseq_nil ?_
            refine hK2321 _ _ ?_
            refine e_cond rfl (fun hc2332 => ?_) (fun hc2332 => ?_)
            · replace ho1597 := (if_pos hc2332).symm.trans ho1597
              refine e_seq fun K2333 hK2333 => ?_
              refine e_region_text rfl ?_
              refine q_assign rfl rfl ?_
              refine eseq_nil ?_
              refine hK2333 _ _ ?_
              refine e_ret ?_
              obtain rfl := Option.some.inj ho1597
              obtain rfl := Option.some.inj ht1597
              obtain rfl := Option.some.inj h
              exact ⟨_, res1 rfl rfl, _, rfl, (hS.pickB [] 4 rfl rfl)⟩
            · replace ho1597 := (if_neg (not_true hc2332)).symm.trans ho1597
              refine e_skip ?_
              refine hK2320 _ _ ?_
              refine e_seq fun K2334 hK2334 => ?_
              refine e_region_text rfl ?_
              refine q_assign rfl rfl ?_
              refine eseq_nil ?_
              refine hK2334 _ _ ?_
              refine e_block ?_
              obtain ⟨tl2335, ht2335, ho1597⟩ := Option.of_bind ho1597
              have hX2335_6 : ∀ (R2555 : Nat → Prop) (w2556 : World) (E_ : Env), law31_IncarnationSame_K4 fuel x1958 = some o1597 → Sep F R R2555 w w2556 [HP.blk B1364 [v1365, .int .i64 r1374.2] 55, HP.own evtTy (fun _ => False) 53 v1375 r1374.1, HP.own endITy (fun _ => False) 34 v1380 x1381, HP.own endITy (fun _ => False) 34 v1385 r1384] → IsSlice Ty.u8 w2556 R2555 v1365 r1363.1 → Sub [(3, .pointer (some ⟨B1364, 0, none⟩)), (6, v1375), (7, v1380), (8, v1385), (12, .int .i64 x1958)] E_ → K2319 E_ w2556 := by
                intro R2555 w2556 E_ ho1597 hS f2557 hsub
                refine hK2319 _ _ (e_sub hsub ?_); clear hsub
                unfold law31_IncarnationSame_K4 at ho1597
                refine e_region_text rfl ?_
                refine q_move rfl rfl ?_
                refine q_addW rfl rfl rfl ?_
                refine q_assign rfl rfl ?_
                refine eseq_nil ?_
                obtain rfl := Option.some.inj ho1597
                exact ⟨m1597, _, Nat.lt_succ_self _, ⟨(w64 (x1958 + 1)), _, ht1597, hS, f2557, rfl⟩, Sub.cons rfl (Sub.cons rfl (Sub.cons rfl (Sub.cons rfl (Sub.cons rfl (Sub.nil _)))))⟩
              refine e_loop (fun m_ E_ w2446 => ∃ (x2451 : Int), ∃ (R2445 : Nat → Prop), iter (fun s => law31_IncarnationSame_B2 fuel r1384 x1958 x1381 s) m_ x2451 = some tl2335 ∧ Sep F R R2445 w w2446 [HP.blk B1364 [v1365, .int .i64 r1374.2] 55, HP.own evtTy (fun _ => False) 53 v1375 r1374.1, HP.own endITy (fun _ => False) 34 v1380 x1381, HP.own endITy (fun _ => False) 34 v1385 r1384] ∧ IsSlice Ty.u8 w2446 R2445 v1365 r1363.1 ∧ E_ = [(3, .pointer (some ⟨B1364, 0, none⟩)), (6, v1375), (7, v1380), (8, v1385), (12, .int .i64 x1958), (13, .int .i64 x2451)]) _ ⟨_, ⟨(-1), _, ht2335, hS, f1954, rfl⟩, Sub.cons rfl (Sub.cons rfl (Sub.cons rfl (Sub.cons rfl (Sub.cons rfl (Sub.cons rfl (Sub.nil _))))))⟩ ?_
              clear ht2335 hS
              rintro m2335 _ w2446 ⟨x2451, R2445, ht2335, hS, f2447, rfl⟩
              obtain ⟨m2335, rfl, o2335, ho2335, ht2335⟩ := iter_some ht2335
              replace ho2335 : law31_IncarnationSame_B2 fuel r1384 x1958 x1381 x2451 = some o2335 := ho2335
              unfold law31_IncarnationSame_B2 at ho2335
              refine e_seq fun K2561 hK2561 => ?_
              refine e_seq fun K2562 hK2562 => ?_
              refine e_region_text rfl ?_
              refine q_move rfl rfl ?_
              refine q_lss rfl rfl rfl ?_
              refine eseq_nil ?_
              refine hK2562 _ _ ?_
              refine e_cond rfl (fun hc2563 => ?_) (fun hc2563 => ?_)
              · replace ho2335 := (if_pos hc2563).symm.trans ho2335
                refine e_skip ?_
                refine hK2561 _ _ ?_
                refine e_seq fun K2564 hK2564 => ?_
                refine e_block ?_
                refine e_seq fun K2565 hK2565 => ?_
                refine e_region_text rfl ?_
                refine q_assign rfl rfl ?_
                refine eseq_nil ?_
                refine hK2565 _ _ ?_
                refine e_block ?_
                obtain ⟨tl2566, ht2566, ho2335⟩ := Option.of_bind ho2335
                have hX2566_8 : ∀ (R2632 : Nat → Prop) (w2633 : World) (E_ : Env), law31_IncarnationSame_K5 fuel x2451 = some o2335 → Sep F R R2632 w w2633 [HP.blk B1364 [v1365, .int .i64 r1374.2] 55, HP.own evtTy (fun _ => False) 53 v1375 r1374.1, HP.own endITy (fun _ => False) 34 v1380 x1381, HP.own endITy (fun _ => False) 34 v1385 r1384] → IsSlice Ty.u8 w2633 R2632 v1365 r1363.1 → Sub [(3, .pointer (some ⟨B1364, 0, none⟩)), (6, v1375), (7, v1380), (8, v1385), (12, .int .i64 x1958), (13, .int .i64 x2451)] E_ → K2564 E_ w2633 := by
                  intro R2632 w2633 E_ ho2335 hS f2634 hsub
                  refine hK2564 _ _ (e_sub hsub ?_); clear hsub
                  unfold law31_IncarnationSame_K5 at ho2335
                  refine e_region_text rfl ?_
                  refine q_move rfl rfl ?_
                  refine q_addW rfl rfl rfl ?_
                  refine q_assign rfl rfl ?_
                  refine eseq_nil ?_
                  obtain rfl := Option.some.inj ho2335
                  exact ⟨m2335, _, Nat.lt_succ_self _, ⟨(w64 (x2451 + 1)), _, ht2335, hS, f2634, rfl⟩, Sub.cons rfl (Sub.cons rfl (Sub.cons rfl (Sub.cons rfl (Sub.cons rfl (Sub.cons rfl (Sub.nil _))))))⟩
                refine e_loop (fun m_ E_ w2600 => ∃ (x2605 : Int), ∃ (R2599 : Nat → Prop), iter (fun s => law31_IncarnationSame_B3 fuel r1384 x1958 x2451 x1381 s) m_ x2605 = some tl2566 ∧ Sep F R R2599 w w2600 [HP.blk B1364 [v1365, .int .i64 r1374.2] 55, HP.own evtTy (fun _ => False) 53 v1375 r1374.1, HP.own endITy (fun _ => False) 34 v1380 x1381, HP.own endITy (fun _ => False) 34 v1385 r1384] ∧ IsSlice Ty.u8 w2600 R2599 v1365 r1363.1 ∧ E_ = [(3, .pointer (some ⟨B1364, 0, none⟩)), (6, v1375), (7, v1380), (8, v1385), (12, .int .i64 x1958), (13, .int .i64 x2451), (14, .int .i64 x2605)]) _ ⟨_, ⟨(-1), _, ht2566, hS, f2447, rfl⟩, Sub.cons rfl (Sub.cons rfl (Sub.cons rfl (Sub.cons rfl (Sub.cons rfl (Sub.cons rfl (Sub.cons rfl (Sub.nil _)))))))⟩ ?_
                clear ht2566 hS
                rintro m2566 _ w2600 ⟨x2605, R2599, ht2566, hS, f2601, rfl⟩
                obtain ⟨m2566, rfl, o2566, ho2566, ht2566⟩ := iter_some ht2566
                replace ho2566 : law31_IncarnationSame_B3 fuel r1384 x1958 x2451 x1381 x2605 = some o2566 := ho2566
                unfold law31_IncarnationSame_B3 at ho2566
                refine e_seq fun K2638 hK2638 => ?_
                refine e_seq fun K2639 hK2639 => ?_
                refine e_region_text rfl ?_
                refine q_move rfl rfl ?_
                refine q_lss rfl rfl rfl ?_
                refine eseq_nil ?_
                refine hK2639 _ _ ?_
                refine e_cond rfl (fun hc2640 => ?_) (fun hc2640 => ?_)
                · replace ho2566 := (if_pos hc2640).symm.trans ho2566
                  refine e_skip ?_
                  refine hK2638 _ _ ?_
                  refine e_seq fun K2641 hK2641 => ?_
                  refine e_block ?_
                  refine e_seq fun K2642 hK2642 => ?_
                  refine e_region_text rfl ?_
                  refine q_move rfl rfl ?_
                  refine q_move rfl rfl ?_
                  refine q_build (Parts.cons rfl rfl (Parts.cons rfl rfl Parts.nil)) rfl rfl ?_
                  refine q_allocB rfl fun w2643 bl2643 hg2643 hb2643 hB2643 => ?_
                  replace f2601 := f2601.ext hB2643
                  replace hS := hS.newBlk hB2643 hg2643 hb2643
                  refine q_storeAgg rfl rfl (hS.blk 0 rfl) rfl (Nat.le_of_ble_eq_true rfl) (all_cons rfl (all_cons rfl (all_nil))) rfl rfl fun w2645 hb2645 hO2645 => ?_
                  simp only [setN, List.set, List.take, List.drop] at hb2645
                  have hk2645 := hS.keptBlk 0 rfl hO2645
                  replace f2601 := f2601.kept hk2645
                  replace hS := hS.setBlk 0 rfl hb2645 hO2645; simp only [List.set] at hS
                  refine eseq_nil ?_
                  refine hK2642 _ _ ?_
                  refine e_seq fun K2646 hK2646 => ?_
                  refine e_region_draw mixed (fun _ => False) [0, 0, 0, 7, 0, 0, 0, 127, 255] [3] [0, 1, 2, 4, 5, 6, 3, 7, 8] (by kernel_rfl) ?_
                  refine q_move rfl rfl ?_
                  refine q_move rfl rfl ?_
                  refine q_loadAgg rfl (Blk.cellsAt (hS.blk 0 rfl) 0 2 rfl) rfl rfl ?_
                  refine q_move rfl rfl ?_
                  refine q_move rfl rfl ?_
                  refine q_loadAgg rfl (Blk.cellsAt (hS.blk 0 rfl) 0 2 rfl) rfl rfl ?_
                  obtain ⟨r2652, hr2652, ho2566⟩ := Option.of_bind ho2566
                  refine q_call rfl (incarnation_Undone_w (a2 := (⟨x2451, x2605⟩ : Lab)) (Sep.all w2645) ((hS.isl 4 rfl)).old hr2652) rfl ?_
                  rintro _ w2651 ⟨R2651, rfl, hC2651⟩
                  have hB2651 : Below (World.heap w2645).size w2645 w2651 := hC2651.stepBF
                  refine ⟨fun _ => .of_below hB2651, ?_⟩
                  replace f2601 := f2601.ext hB2651
                  replace hS := hS.below hB2651
                  obtain ⟨r2654, hr2654, ho2566⟩ := Option.of_bind ho2566
                  refine q_call rfl (incarnation_Undone_w (a2 := (⟨x2451, x2605⟩ : Lab)) (Sep.all w2651) ((hS.isl 3 rfl)).old hr2654) rfl ?_
                  rintro _ w2653 ⟨R2653, rfl, hC2653⟩
                  have hB2653 : Below (World.heap w2651).size w2651 w2653 := hC2653.stepBF
                  refine ⟨fun _ => .of_below hB2653, ?_⟩
                  replace f2601 := f2601.ext hB2653
                  replace hS := hS.below hB2653
                  refine q_neqB rfl rfl rfl ?_
                  refine eseq_nil ?_
                  refine hK2646 _ _ ?_
                  refine e_cond rfl (fun hc2655 => ?_) (fun hc2655 => ?_)
                  · replace ho2566 := (if_pos hc2655).symm.trans ho2566
                    refine e_seq fun K2656 hK2656 => ?_
                    refine e_region_text rfl ?_
                    refine q_assign rfl rfl ?_
                    refine eseq_nil ?_
                    refine hK2656 _ _ ?_
                    refine e_ret ?_
                    obtain rfl := Option.some.inj ho2566
                    obtain rfl := Option.some.inj ht2566
                    obtain rfl := Option.some.inj ho2335
                    obtain rfl := Option.some.inj ht2335
                    obtain rfl := Option.some.inj ho1597
                    obtain rfl := Option.some.inj ht1597
                    obtain rfl := Option.some.inj h
                    exact ⟨_, res1 rfl rfl, _, rfl, (hS.pickB [] 5 rfl rfl)⟩
                  · replace ho2566 := (if_neg (not_true hc2655)).symm.trans ho2566
                    refine e_skip ?_
                    refine hK2641 _ _ ?_
                    refine e_region_text rfl ?_
                    refine q_move rfl rfl ?_
                    refine q_addW rfl rfl rfl ?_
                    refine q_assign rfl rfl ?_
                    refine eseq_nil ?_
                    obtain rfl := Option.some.inj ho2566
                    exact ⟨m2566, _, Nat.lt_succ_self _, ⟨(w64 (x2605 + 1)), _, ht2566, (hS.pickB [1, 2, 3, 4] 5 rfl rfl), f2601, rfl⟩, Sub.cons rfl (Sub.cons rfl (Sub.cons rfl (Sub.cons rfl (Sub.cons rfl (Sub.cons rfl (Sub.cons rfl (Sub.nil _)))))))⟩
                · replace ho2566 := (if_neg (not_true hc2640)).symm.trans ho2566
                  refine e_exit ?_
                  obtain rfl := Option.some.inj ho2566
                  obtain rfl := Option.some.inj ht2566
                  exact hX2566_8  _ _ _ ho2335 hS f2601 (Sub.cons rfl (Sub.cons rfl (Sub.cons rfl (Sub.cons rfl (Sub.cons rfl (Sub.cons rfl (Sub.nil _)))))))
              · replace ho2335 := (if_neg (not_true hc2563)).symm.trans ho2335
                refine e_exit ?_
                obtain rfl := Option.some.inj ho2335
                obtain rfl := Option.some.inj ht2335
                exact hX2335_6  _ _ _ ho1597 hS f2447 (Sub.cons rfl (Sub.cons rfl (Sub.cons rfl (Sub.cons rfl (Sub.cons rfl (Sub.nil _))))))
          · replace ho1597 := (if_neg (not_true hc2318)).symm.trans ho1597
            refine e_exit ?_
            obtain rfl := Option.some.inj ho1597
            obtain rfl := Option.some.inj ht1597
            exact hX1597_4  _ _ _ h (hS.pickB [0, 3] 4 rfl rfl) f1954 (Sub.cons rfl (Sub.cons rfl (Sub.nil _)))
        refine e_loop (fun m_ E_ w1539 => ∃ (x1544 : Int), ∃ (R1538 : Nat → Prop), iter (fun s => law31_IncarnationSame_B4 fuel r1384 s) m_ x1544 = some tl1487 ∧ Sep F R R1538 w w1539 [HP.blk B1364 [v1365, .int .i64 r1374.2] 55, HP.own evtTy (fun _ => False) 53 v1375 r1374.1, HP.own endITy (fun _ => False) 34 v1380 x1381, HP.own endITy (fun _ => False) 34 v1385 r1384] ∧ IsSlice Ty.u8 w1539 R1538 v1365 r1363.1 ∧ E_ = [(3, .pointer (some ⟨B1364, 0, none⟩)), (6, v1375), (7, v1380), (8, v1385), (11, .int .i64 x1544)]) _ ⟨_, ⟨0, _, ht1487, (hS.pickB [0, 3, 4, 5] 7 rfl rfl), f1456, rfl⟩, Sub.cons rfl (Sub.cons rfl (Sub.cons rfl (Sub.cons rfl (Sub.cons rfl (Sub.nil _)))))⟩ ?_
        clear ht1487 hS
        rintro m1487 _ w1539 ⟨x1544, R1538, ht1487, hS, f1540, rfl⟩
        obtain ⟨m1487, rfl, o1487, ho1487, ht1487⟩ := iter_some ht1487
        replace ho1487 : law31_IncarnationSame_B4 fuel r1384 x1544 = some o1487 := ho1487
        unfold law31_IncarnationSame_B4 at ho1487
        refine e_seq fun K2657 hK2657 => ?_
        refine e_seq fun K2658 hK2658 => ?_
        refine e_region_text rfl ?_
        refine q_move rfl rfl ?_
        refine q_addW rfl rfl rfl ?_
        refine q_move rfl rfl ?_
        refine q_lenS rfl (hS.isl 3 rfl) rfl ?_
        refine q_lss rfl rfl rfl ?_
        refine eseq_nil ?_
        refine hK2658 _ _ ?_
        refine e_cond rfl (fun hc2659 => ?_) (fun hc2659 => ?_)
        · replace ho1487 := (if_pos hc2659).symm.trans ho1487
          refine e_skip ?_
          refine hK2657 _ _ ?_
          refine e_seq fun K2660 hK2660 => ?_
          refine e_block ?_
          refine e_seq fun K2661 hK2661 => ?_
          refine e_region_draw mixed (fun _ => False) [0, 0, 3, 7, 15, 0, 0, 64, 224, 480, 992, 2047, 4095, 8191, 8191, 32767, 65535, 131071, 8191, 8191, 532479, 1843199, 3940351, 8134655, 16777215, 33554431, 67108863, 67108863, 268435455, 536870911, 1073741823, 67108863, 67108863, 4362076159, 15099494399, 32279363583, 66639101951, 137438953471, 274877906943, 549755813887, 549755813887, 2199023255551, 4398046511103, 8796093022207, 549755813887, 549755813887, 35734127902719, 123695058124799, 264432546480127, 545907523190783, 1125899906842623, 2251799813685247, 4503599627370495, 9007199254740991] [] [0, 1, 2, 3, 4, 5, 6, 7, 8, 9, 10, 11, 12, 13, 14, 15, 16, 17, 18, 19, 20, 21, 22, 23, 24, 25, 26, 27, 28, 29, 30, 31, 32, 33, 34, 35, 36, 37, 38, 39, 40, 41, 42, 43, 44, 45, 46, 47, 48, 49, 50, 51, 52, 53] (by kernel_rfl) ?_
          refine q_move rfl rfl ?_
          refine q_move rfl rfl ?_
          obtain ⟨x2662, hx2662, ho1487⟩ := Option.of_bind ho1487
          refine q_indexO (by infer_instance) rfl (hS.own 3 rfl) rfl hx2662 rfl ?_
          refine q_field rfl rfl ?_
          have f2663 := (hS.ownR 3 rfl).elt hx2662
          have f2664 := EndI_F0 f2663
          refine q_load rfl (Elt.intCell f2664) rfl ?_
          refine q_move rfl rfl ?_
          refine q_move rfl rfl ?_
          refine q_addW rfl rfl rfl ?_
          obtain ⟨x2665, hx2665, ho1487⟩ := Option.of_bind ho1487
          refine q_indexO (by infer_instance) rfl (hS.own 3 rfl) rfl hx2665 rfl ?_
          refine q_field rfl rfl ?_
          have f2666 := (hS.ownR 3 rfl).elt hx2665
          have f2667 := EndI_F0 f2666
          refine q_load rfl (Elt.intCell f2667) rfl ?_
          refine q_gtr rfl rfl rfl ?_
          refine q_move rfl rfl ?_
          obtain ⟨x2669, hx2668, ho1487⟩ := Option.of_bind ho1487
          refine g_orM 40 hx2668 rfl trivial rfl rfl ?_ ?_ ?_
          · intro hg2668
            refine g_skip rfl rfl rfl ?_
            refine g_skip rfl rfl rfl ?_
            refine g_skip rfl rfl rfl ?_
            refine g_skip rfl rfl rfl ?_
            refine g_skip rfl rfl rfl ?_
            refine g_skip rfl rfl rfl ?_
            refine g_skip rfl rfl rfl ?_
            refine g_skip rfl rfl rfl ?_
            refine g_skip rfl rfl rfl ?_
            refine g_skip rfl rfl rfl ?_
            refine g_skip rfl rfl rfl ?_
            refine g_skip rfl rfl rfl ?_
            refine g_skip rfl rfl rfl ?_
            refine g_skipU rfl rfl ?_
            refine g_skipU rfl rfl ?_
            refine g_skipU rfl rfl ?_
            refine g_skipU rfl rfl ?_
            refine g_skipU rfl rfl ?_
            refine g_skipU rfl rfl ?_
            refine g_skipU rfl rfl ?_
            refine g_skipU rfl rfl ?_
            refine g_skipU rfl rfl ?_
            refine g_skipU rfl rfl ?_
            refine g_skipU rfl rfl ?_
            refine g_skipU rfl rfl ?_
            refine g_skipU rfl rfl ?_
            refine g_skipU rfl rfl ?_
            refine g_skipU rfl rfl ?_
            refine g_skipU rfl rfl ?_
            refine g_skipU rfl rfl ?_
            refine g_skipU rfl rfl ?_
            refine g_skipU rfl rfl ?_
            refine g_skipU rfl rfl ?_
            refine g_skipU rfl rfl ?_
            refine g_skipU rfl rfl ?_
            refine g_skipU rfl rfl ?_
            refine g_skipU rfl rfl ?_
            refine g_skipU rfl rfl ?_
            refine g_skipU rfl rfl ?_
            refine g_skip rfl rfl rfl ?_
            exact eseq_nil ⟨rfl, Sub.set rfl (Sub.set rfl (Sub.set rfl (Sub.set rfl (Sub.set rfl (Sub.set rfl (Sub.set rfl (Sub.set rfl (Sub.set rfl (Sub.set rfl (Sub.set rfl (Sub.set rfl (Sub.set rfl (Sub.set rfl (Sub.set rfl (Sub.set rfl (Sub.set rfl (Sub.set rfl (Sub.set rfl (Sub.set rfl (Sub.set rfl (Sub.set rfl (Sub.set rfl (Sub.set rfl (Sub.set rfl (Sub.set rfl (Sub.set rfl (Sub.set rfl (Sub.set rfl (Sub.set rfl (Sub.set rfl (Sub.set rfl (Sub.set rfl (Sub.set rfl (Sub.set rfl (Sub.set rfl (Sub.set rfl (Sub.set rfl (Sub.set rfl (Sub.set rfl (Sub.bool true rfl hg2668))))))))))))))))))))))))))))))))))))))))⟩
          · intro hg2668 hx2668
            clear ho1487
            have hT2668 := Below.refl (World.heap w1539).size w1539
            refine g_run rfl ?_; refine q_move rfl rfl ?_
            refine g_run rfl ?_; refine q_move rfl rfl ?_
            obtain ⟨x2670, hx2670, hx2668⟩ := Option.of_bind hx2668
            refine g_run rfl ?_; refine q_indexO (by infer_instance) rfl (hS.own 3 rfl) rfl hx2670 rfl ?_
            refine g_run rfl ?_; refine q_field rfl rfl ?_
            have f2671 := (hS.ownR 3 rfl).elt hx2670
            have f2672 := EndI_F0 f2671
            refine g_run rfl ?_; refine q_load rfl (Elt.intCell f2672) rfl ?_
            refine g_run rfl ?_; refine q_move rfl rfl ?_
            refine g_run rfl ?_; refine q_move rfl rfl ?_
            refine g_run rfl ?_; refine q_addW rfl rfl rfl ?_
            obtain ⟨x2673, hx2673, hx2668⟩ := Option.of_bind hx2668
            refine g_run rfl ?_; refine q_indexO (by infer_instance) rfl (hS.own 3 rfl) rfl hx2673 rfl ?_
            refine g_run rfl ?_; refine q_field rfl rfl ?_
            have f2674 := (hS.ownR 3 rfl).elt hx2673
            have f2675 := EndI_F0 f2674
            refine g_run rfl ?_; refine q_load rfl (Elt.intCell f2675) rfl ?_
            refine g_run rfl ?_; refine q_eql rfl rfl rfl ?_
            refine g_run rfl ?_; refine q_move rfl rfl ?_
            obtain ⟨x2677, hx2676, hx2668⟩ := Option.of_bind hx2668
            refine g_andM 26 hx2676 rfl rfl rfl rfl ?_ ?_ ?_
            · intro hg2676 hx2676
              clear hx2668
              have hT2676 := Below.refl (World.heap w1539).size w1539
              refine g_run rfl ?_; refine q_move rfl rfl ?_
              refine g_run rfl ?_; refine q_move rfl rfl ?_
              obtain ⟨x2678, hx2678, hx2676⟩ := Option.of_bind hx2676
              refine g_run rfl ?_; refine q_indexO (by infer_instance) rfl (hS.own 3 rfl) rfl hx2678 rfl ?_
              refine g_run rfl ?_; refine q_field rfl rfl ?_
              have f2679 := (hS.ownR 3 rfl).elt hx2678
              have f2680 := EndI_F1 f2679
              refine g_run rfl ?_; refine q_load rfl (Elt.intCell f2680) rfl ?_
              refine g_run rfl ?_; refine q_move rfl rfl ?_
              refine g_run rfl ?_; refine q_move rfl rfl ?_
              refine g_run rfl ?_; refine q_addW rfl rfl rfl ?_
              obtain ⟨x2681, hx2681, hx2676⟩ := Option.of_bind hx2676
              refine g_run rfl ?_; refine q_indexO (by infer_instance) rfl (hS.own 3 rfl) rfl hx2681 rfl ?_
              refine g_run rfl ?_; refine q_field rfl rfl ?_
              have f2682 := (hS.ownR 3 rfl).elt hx2681
              have f2683 := EndI_F1 f2682
              refine g_run rfl ?_; refine q_load rfl (Elt.intCell f2683) rfl ?_
              refine g_run rfl ?_; refine q_geq rfl rfl rfl ?_
              refine g_run rfl ?_; refine q_move rfl rfl ?_
              obtain ⟨x2685, hx2684, hx2676⟩ := Option.of_bind hx2676
              refine g_orM 12 hx2684 rfl rfl rfl rfl ?_ ?_ ?_
              · intro hg2684
                refine g_skip rfl rfl rfl ?_
                refine g_skip rfl rfl rfl ?_
                refine g_skip rfl rfl rfl ?_
                refine g_skip rfl rfl rfl ?_
                refine g_skip rfl rfl rfl ?_
                refine g_skip rfl rfl rfl ?_
                refine g_skip rfl rfl rfl ?_
                refine g_skip rfl rfl rfl ?_
                refine g_skip rfl rfl rfl ?_
                refine g_skip rfl rfl rfl ?_
                refine g_skip rfl rfl rfl ?_
                refine g_skip rfl rfl rfl ?_
                exact eseq_nil ⟨rfl, Sub.set rfl (Sub.set rfl (Sub.set rfl (Sub.set rfl (Sub.set rfl (Sub.set rfl (Sub.set rfl (Sub.set rfl (Sub.set rfl (Sub.set rfl (Sub.set rfl (Sub.set rfl (Sub.bool true rfl hg2684))))))))))))⟩
              · intro hg2684 hx2684
                clear hx2676
                have hT2684 := Below.refl (World.heap w1539).size w1539
                refine g_run rfl ?_; refine q_move rfl rfl ?_
                refine g_run rfl ?_; refine q_move rfl rfl ?_
                obtain ⟨x2686, hx2686, hx2684⟩ := Option.of_bind hx2684
                refine g_run rfl ?_; refine q_indexO (by infer_instance) rfl (hS.own 3 rfl) rfl hx2686 rfl ?_
                refine g_run rfl ?_; refine q_field rfl rfl ?_
                have f2687 := (hS.ownR 3 rfl).elt hx2686
                have f2688 := EndI_F2 f2687
                refine g_run rfl ?_; refine q_load rfl (Elt.intCell f2688) rfl ?_
                refine g_run rfl ?_; refine q_move rfl rfl ?_
                refine g_run rfl ?_; refine q_move rfl rfl ?_
                refine g_run rfl ?_; refine q_addW rfl rfl rfl ?_
                obtain ⟨x2689, hx2689, hx2684⟩ := Option.of_bind hx2684
                refine g_run rfl ?_; refine q_indexO (by infer_instance) rfl (hS.own 3 rfl) rfl hx2689 rfl ?_
                refine g_run rfl ?_; refine q_field rfl rfl ?_
                have f2690 := (hS.ownR 3 rfl).elt hx2689
                have f2691 := EndI_F2 f2690
                refine g_run rfl ?_; refine q_load rfl (Elt.intCell f2691) rfl ?_
                refine g_run rfl ?_; refine q_geq rfl rfl rfl ?_
                cases hx2684
                exact eseq_nil ⟨hT2684, Sub.set rfl (Sub.set rfl (Sub.set rfl (Sub.set rfl (Sub.set rfl (Sub.set rfl (Sub.set rfl (Sub.set rfl (Sub.set rfl (Sub.set rfl (Sub.set rfl (Sub.set rfl (Sub.bool false rfl hg2684)))))))))))), rfl⟩
              intro wm2684 hBm2684; clear hx2684
              replace hS := hS.below hBm2684
              replace f1540 := f1540.ext hBm2684
              replace hT2668 := hT2668.trans (Below.mono hBm2684 hT2668.size)
              replace hT2676 := hT2676.trans (Below.mono hBm2684 hT2676.size)
              cases hx2676
              exact eseq_nil ⟨hT2676, Sub.set rfl (Sub.set rfl (Sub.set rfl (Sub.set rfl (Sub.set rfl (Sub.set rfl (Sub.set rfl (Sub.set rfl (Sub.set rfl (Sub.set rfl (Sub.set rfl (Sub.set rfl (Sub.set rfl (Sub.set rfl (Sub.bool true rfl hg2676)))))))))))))), rfl⟩
            · intro hg2676
              refine g_skip rfl rfl rfl ?_
              refine g_skip rfl rfl rfl ?_
              refine g_skip rfl rfl rfl ?_
              refine g_skip rfl rfl rfl ?_
              refine g_skip rfl rfl rfl ?_
              refine g_skip rfl rfl rfl ?_
              refine g_skip rfl rfl rfl ?_
              refine g_skip rfl rfl rfl ?_
              refine g_skip rfl rfl rfl ?_
              refine g_skip rfl rfl rfl ?_
              refine g_skip rfl rfl rfl ?_
              refine g_skip rfl rfl rfl ?_
              refine g_skip rfl rfl rfl ?_
              refine g_skipU rfl rfl ?_
              refine g_skipU rfl rfl ?_
              refine g_skipU rfl rfl ?_
              refine g_skipU rfl rfl ?_
              refine g_skipU rfl rfl ?_
              refine g_skipU rfl rfl ?_
              refine g_skipU rfl rfl ?_
              refine g_skipU rfl rfl ?_
              refine g_skipU rfl rfl ?_
              refine g_skipU rfl rfl ?_
              refine g_skipU rfl rfl ?_
              refine g_skipU rfl rfl ?_
              refine g_skip rfl rfl rfl ?_
              exact eseq_nil ⟨rfl, Sub.set rfl (Sub.set rfl (Sub.set rfl (Sub.set rfl (Sub.set rfl (Sub.set rfl (Sub.set rfl (Sub.set rfl (Sub.set rfl (Sub.set rfl (Sub.set rfl (Sub.set rfl (Sub.set rfl (Sub.set rfl (Sub.set rfl (Sub.set rfl (Sub.set rfl (Sub.set rfl (Sub.set rfl (Sub.set rfl (Sub.set rfl (Sub.set rfl (Sub.set rfl (Sub.set rfl (Sub.set rfl (Sub.set rfl (Sub.bool false rfl hg2676))))))))))))))))))))))))))⟩
            intro wm2676 hBm2676; clear hx2676
            replace hS := hS.below hBm2676
            replace f1540 := f1540.ext hBm2676
            replace hT2668 := hT2668.trans (Below.mono hBm2676 hT2668.size)
            cases hx2668
            exact eseq_nil ⟨hT2668, Sub.set rfl (Sub.set rfl (Sub.set rfl (Sub.set rfl (Sub.set rfl (Sub.set rfl (Sub.set rfl (Sub.set rfl (Sub.set rfl (Sub.set rfl (Sub.set rfl (Sub.set rfl (Sub.set rfl (Sub.set rfl (Sub.bool false rfl hg2668)))))))))))))), rfl⟩
          intro wm2668 hBm2668; clear hx2668
          replace hS := hS.below hBm2668
          replace f1540 := f1540.ext hBm2668
          refine eseq_nil ?_
          refine hK2661 _ _ ?_
          refine e_cond rfl (fun hc2692 => ?_) (fun hc2692 => ?_)
          · replace ho1487 := (if_pos hc2692).symm.trans ho1487
            refine e_seq fun K2693 hK2693 => ?_
            refine e_region_text rfl ?_
            refine q_assign rfl rfl ?_
            refine eseq_nil ?_
            refine hK2693 _ _ ?_
            refine e_ret ?_
            obtain rfl := Option.some.inj ho1487
            obtain rfl := Option.some.inj ht1487
            obtain rfl := Option.some.inj h
            exact ⟨_, res1 rfl rfl, _, rfl, (hS.pickB [] 4 rfl rfl)⟩
          · replace ho1487 := (if_neg (not_true hc2692)).symm.trans ho1487
            refine e_skip ?_
            refine hK2660 _ _ ?_
            refine e_region_text rfl ?_
            refine q_move rfl rfl ?_
            refine q_addW rfl rfl rfl ?_
            refine q_assign rfl rfl ?_
            refine eseq_nil ?_
            obtain rfl := Option.some.inj ho1487
            exact ⟨m1487, _, Nat.lt_succ_self _, ⟨(w64 (x1544 + 1)), _, ht1487, hS, f1540, rfl⟩, Sub.cons rfl (Sub.cons rfl (Sub.cons rfl (Sub.cons rfl (Sub.cons rfl (Sub.nil _)))))⟩
        · replace ho1487 := (if_neg (not_true hc2659)).symm.trans ho1487
          refine e_exit ?_
          obtain rfl := Option.some.inj ho1487
          obtain rfl := Option.some.inj ht1487
          exact hX1487_2  _ _ _ h hS f1540 (Sub.cons rfl (Sub.cons rfl (Sub.cons rfl (Sub.cons rfl (Sub.nil _)))))
    replace hS := hS.nilOwn0 endITy 34
    refine e_loop (fun m_ E_ w1421 => ∃ (x1430 : (List EndI)), ∃ (x1431 : Int), ∃ (v1429 : Value), ∃ (R1420 : Nat → Prop), iter (fun s => law31_IncarnationSame_B5 fuel x1381 s.1 s.2) m_ (x1430, x1431) = some tl1389 ∧ Sep F R R1420 w w1421 [HP.blk B1364 [v1365, .int .i64 r1374.2] 55, HP.own endITy (fun _ => False) 34 v1369 r1368.1, HP.own endITy (fun _ => False) 34 v1372 r1371.1, HP.own evtTy (fun _ => False) 53 v1375 r1374.1, HP.own endITy (fun _ => False) 34 v1380 x1381, HP.own endITy (fun _ => False) 34 v1385 r1384, HP.own endITy (fun _ => False) 34 v1429 x1430] ∧ IsSlice Ty.u8 w1421 R1420 v1365 r1363.1 ∧ E_ = [(3, .pointer (some ⟨B1364, 0, none⟩)), (4, v1369), (5, v1372), (6, v1375), (7, v1380), (8, v1385), (9, v1429), (10, .int .i64 x1431)]) _ ⟨_, ⟨([] : List EndI), (w64 ((x1381.length : Int) - 1)), (.slice none 0 0), _, ht1389, (hS.pickB [3, 6, 5, 4, 2, 1, 0] 7 rfl rfl), f1365, rfl⟩, Sub.cons rfl (Sub.cons rfl (Sub.cons rfl (Sub.cons rfl (Sub.cons rfl (Sub.cons rfl (Sub.cons rfl (Sub.cons rfl (Sub.nil _))))))))⟩ ?_
    clear ht1389 hS
    rintro m1389 _ w1421 ⟨x1430, x1431, v1429, R1420, ht1389, hS, f1422, rfl⟩
    obtain ⟨m1389, rfl, o1389, ho1389, ht1389⟩ := iter_some ht1389
    replace ho1389 : law31_IncarnationSame_B5 fuel x1381 x1430 x1431 = some o1389 := ho1389
    unfold law31_IncarnationSame_B5 at ho1389
    refine e_seq fun K2695 hK2695 => ?_
    refine e_seq fun K2696 hK2696 => ?_
    refine e_region_text rfl ?_
    refine q_move rfl rfl ?_
    refine q_geq rfl rfl rfl ?_
    refine eseq_nil ?_
    refine hK2696 _ _ ?_
    refine e_cond rfl (fun hc2697 => ?_) (fun hc2697 => ?_)
    · replace ho1389 := (if_pos hc2697).symm.trans ho1389
      refine e_skip ?_
      refine hK2695 _ _ ?_
      refine e_seq fun K2698 hK2698 => ?_
      refine e_block ?_
      refine e_region_text rfl ?_
      refine q_move rfl rfl ?_
      refine q_move rfl rfl ?_
      refine q_move rfl rfl ?_
      obtain ⟨x2699, hx2699, ho1389⟩ := Option.of_bind ho1389
      refine q_indexO (by infer_instance) rfl (hS.own 4 rfl) rfl hx2699 rfl ?_
      have f2700 := (hS.ownR 4 rfl).elt hx2699
      have hc2701 := EndI_open f2700
      refine q_loadAgg rfl hc2701 rfl rfl ?_
      obtain ⟨r2703, hr2703, ho1389⟩ := Option.of_bind ho1389
      refine q_call rfl (incarnation_Add_w (a1 := x2699) (Sep.all w1421) ((hS.isl 6 rfl)).old hr2703) rfl ?_
      rintro v2704 w2702 ⟨_, R2702, rfl, hC2702⟩
      have hB2702 : Below (World.heap w1421).size w1421 w2702 := hC2702.stepBF
      refine ⟨fun _ => .of_below hB2702, ?_⟩
      replace f1422 := f1422.ext hB2702
      replace hS := hS.newOwnS hB2702 (hC2702.own 0 rfl) (hC2702.fresh 0 rfl) (fun _ h => h.elim)
      refine q_assign rfl rfl ?_
      refine eseq_nil ?_
      refine hK2698 _ _ ?_
      refine e_region_text rfl ?_
      refine q_move rfl rfl ?_
      refine q_subW rfl rfl rfl ?_
      refine q_assign rfl rfl ?_
      refine eseq_nil ?_
      obtain rfl := Option.some.inj ho1389
      exact ⟨m1389, _, Nat.lt_succ_self _, ⟨r2703, (w64 (x1431 - 1)), v2704, _, ht1389, (hS.pickB [1, 2, 3, 4, 5, 6, 0] 8 rfl rfl), f1422, rfl⟩, Sub.cons rfl (Sub.cons rfl (Sub.cons rfl (Sub.cons rfl (Sub.cons rfl (Sub.cons rfl (Sub.cons rfl (Sub.cons rfl (Sub.nil _))))))))⟩
    · replace ho1389 := (if_neg (not_true hc2697)).symm.trans ho1389
      refine e_exit ?_
      obtain rfl := Option.some.inj ho1389
      obtain rfl := Option.some.inj ht1389
      exact hX1389_0 x1430 v1429 _ _ _ h hS f1422 (Sub.cons rfl (Sub.cons rfl (Sub.cons rfl (Sub.cons rfl (Sub.cons rfl (Sub.cons rfl (Sub.cons rfl (Sub.nil _))))))))
theorem law31_IncarnationGrows_w {F R : Nat → Prop} {w : World} {fuel : Nat} {a0 : (List EndI)} {a1 : EndI} {a2 : Int} {a3 : Lab} {a4 : (List Int)} {v1 : Value} {v2 : Value} {r : (Bool)} (hS : Sep F R R w w []) (f1 : IsSlice endITy w R v1 a0) (f2 : IsSlice Ty.u8 w R v2 a4) (h : law31_IncarnationGrows fuel a0 a1 a2 a3 a4 = some r) :
    Gives Try.prog 5 [v1, .agg #[.int .i64 a1.proc, .int .i64 a1.inc, .int .i64 a1.index], .int .i64 a2, .agg #[.int .i64 a3.inc, .int .i64 a3.index], v2] w fun u w1 => ∃ (R1 : Nat → Prop), u = .bool r ∧ Sep F R R1 w w1 [] := by
  refine fn_of Try.func5 rfl Try.ntmps5 (Nat.le_of_ble_eq_true rfl) ?_
  unfold law31_IncarnationGrows at h
  refine e_seq fun K70 hK70 => ?_
  refine e_region_text rfl ?_
  refine q_boxB rfl rfl rfl fun w71 bl71 hg71 hb71 hB71 => ?_
  replace f1 := f1.ext hB71
  replace f2 := f2.ext hB71
  replace hS := hS.newBlk hB71 hg71 hb71
  refine q_boxB rfl rfl rfl fun w73 bl73 hg73 hb73 hB73 => ?_
  replace f1 := f1.ext hB73
  replace f2 := f2.ext hB73
  replace hS := hS.newBlk hB73 hg73 hb73
  refine q_assign rfl rfl ?_
  refine eseq_nil ?_
  refine hK70 _ _ ?_
  refine e_seq fun K75 hK75 => ?_
  refine e_seq fun K76 hK76 => ?_
  refine e_region_text rfl ?_
  obtain ⟨r78, hr78, h⟩ := Option.of_bind h
  refine q_call rfl (law31_awake_w (Sep.enter (As := []) hS)  hr78) rfl ?_
  rintro _ w77 ⟨R77, rfl, hC77⟩
  have hB77 : Below (World.heap w73).size w73 w77 := hC77.stepB0
  refine ⟨fun _ => .of_below hB77, ?_⟩
  replace f1 := (f1.ext hB77).mono fun k hk _ => hC77.ro0 k hk
  replace f2 := (f2.ext hB77).mono fun k hk _ => hC77.ro0 k hk
  replace hS := Sep.leave (As := []) hS hC77; simp only [List.cons_append, List.nil_append] at hS
  refine q_not rfl rfl ?_
  refine q_move rfl rfl ?_
  obtain ⟨x80, hx79, h⟩ := Option.of_bind h
  refine g_orM 3 hx79 rfl trivial rfl rfl ?_ ?_ ?_
  · intro hg79
    refine g_skip rfl rfl rfl ?_
    refine g_skip rfl rfl rfl ?_
    refine g_skip rfl rfl rfl ?_
    exact eseq_nil ⟨rfl, Sub.set rfl (Sub.set rfl (Sub.set rfl (Sub.bool true rfl hg79)))⟩
  · intro hg79 hx79
    clear h
    have hT79 := Below.refl (World.heap w77).size w77
    refine g_run rfl ?_; refine q_move rfl rfl ?_
    refine g_run rfl ?_; refine q_lenS rfl f1 rfl ?_
    refine g_run rfl ?_; refine q_gtr rfl rfl rfl ?_
    cases hx79
    exact eseq_nil ⟨hT79, Sub.set rfl (Sub.set rfl (Sub.set rfl (Sub.bool false rfl hg79))), rfl⟩
  intro wm79 hBm79; clear hx79
  replace hS := hS.below hBm79
  replace f1 := f1.ext hBm79
  replace f2 := f2.ext hBm79
  refine eseq_nil ?_
  refine hK76 _ _ ?_
  refine e_cond rfl (fun hc81 => ?_) (fun hc81 => ?_)
  · replace h := (if_pos hc81).symm.trans h
    refine e_seq fun K82 hK82 => ?_
    refine e_region_text rfl ?_
    refine q_move rfl rfl ?_
    refine q_lenS rfl f1 rfl ?_
    refine q_gtr rfl rfl rfl ?_
    refine q_assign rfl rfl ?_
    refine eseq_nil ?_
    refine hK82 _ _ ?_
    refine e_ret ?_
    obtain rfl := Option.some.inj h
    exact ⟨_, res1 rfl rfl, _, rfl, (hS.pickB [] 2 rfl rfl)⟩
  · replace h := (if_neg (not_true hc81)).symm.trans h
    refine e_skip ?_
    refine hK75 _ _ ?_
    refine e_seq fun K83 hK83 => ?_
    refine e_region_text rfl ?_
    refine q_move rfl rfl ?_
    obtain ⟨r85, hr85, h⟩ := Option.of_bind h
    refine q_call rfl (make_New_w (Sep.enter (As := []) hS) f2 hr85) rfl ?_
    rintro _ w84 ⟨B86, v87, R84, rfl, hC84, f87⟩
    have hB84 : Below (World.heap wm79).size wm79 w84 := hC84.stepB0
    refine ⟨fun _ => .of_below hB84, ?_⟩
    replace f1 := (f1.ext hB84).mono fun k hk _ => hC84.ro0 k hk
    replace f2 := (f2.ext hB84).mono fun k hk _ => hC84.ro0 k hk
    replace hS := Sep.leave (As := []) hS hC84; simp only [List.cons_append, List.nil_append] at hS
    refine q_assign rfl rfl ?_
    refine eseq_nil ?_
    refine hK83 _ _ ?_
    refine e_seq fun K88 hK88 => ?_
    refine e_region_text rfl ?_
    refine q_move rfl rfl ?_
    obtain ⟨r90, hr90, h⟩ := Option.of_bind h
    refine q_call rfl (make_Codes_Ends_w (Sep.enter (As := [_]) hS) f87 hr90) rfl ?_
    rintro v91 w89 ⟨_, R89, rfl, hC89⟩
    refine ⟨(fun h => by cases h), ?_⟩
    have hk89 := hC89.keptR (Sep.offFeet (As := [_]) hS)
    replace f1 := (f1.kept hk89).mono fun k hk _ => hC89.ro0 k hk
    replace f87 := (f87.kept hk89).mono fun k hk _ => hC89.ro0 k hk
    replace hS := Sep.leave (As := [_]) hS hC89; simp only [List.cons_append, List.nil_append] at hS
    refine q_move rfl rfl ?_
    obtain ⟨r93, hr93, h⟩ := Option.of_bind h
    refine q_call rfl (make_Codes_Ends_w (Sep.enter (As := [_]) hS) f87 hr93) rfl ?_
    rintro v94 w92 ⟨_, R92, rfl, hC92⟩
    refine ⟨(fun h => by cases h), ?_⟩
    have hk92 := hC92.keptR (Sep.offFeet (As := [_]) hS)
    replace f1 := (f1.kept hk92).mono fun k hk _ => hC92.ro0 k hk
    replace f87 := (f87.kept hk92).mono fun k hk _ => hC92.ro0 k hk
    replace hS := Sep.leave (As := [_]) hS hC92; simp only [List.cons_append, List.nil_append] at hS
    refine q_move rfl rfl ?_
    obtain ⟨r96, hr96, h⟩ := Option.of_bind h
    refine q_call rfl (make_Codes_Events_w (Sep.enter (As := [_]) hS) f87 hr96) rfl ?_
    rintro v97 w95 ⟨_, R95, rfl, hC95⟩
    refine ⟨(fun h => by cases h), ?_⟩
    have hk95 := hC95.keptR (Sep.offFeet (As := [_]) hS)
    replace f1 := (f1.kept hk95).mono fun k hk _ => hC95.ro0 k hk
    replace f87 := (f87.kept hk95).mono fun k hk _ => hC95.ro0 k hk
    replace hS := Sep.leave (As := [_]) hS hC95; simp only [List.cons_append, List.nil_append] at hS
    refine q_assign rfl rfl ?_
    refine q_assign rfl rfl ?_
    refine q_assign rfl rfl ?_
    refine eseq_nil ?_
    refine hK88 _ _ ?_
    refine e_seq fun K98 hK98 => ?_
    refine e_region_text rfl ?_
    refine q_move rfl rfl ?_
    obtain ⟨r100, hr100, h⟩ := Option.of_bind h
    refine q_call rfl (make_Codes_Next_w (Sep.enter (As := [_]) hS) f87 hr100) rfl ?_
    rintro _ w99 ⟨R99, rfl, hC99⟩
    refine ⟨(fun h => by cases h), ?_⟩
    have hk99 := hC99.keptR (Sep.offFeet (As := [_]) hS)
    replace f1 := (f1.kept hk99).mono fun k hk _ => hC99.ro0 k hk
    replace f87 := (f87.kept hk99).mono fun k hk _ => hC99.ro0 k hk
    replace hS := Sep.leave (As := [_]) hS hC99; simp only [List.cons_append, List.nil_append] at hS
    refine q_assign rfl rfl ?_
    refine eseq_nil ?_
    refine hK98 _ _ ?_
    refine e_seq fun K101 hK101 => ?_
    refine e_seq fun K102 hK102 => ?_
    refine e_region_draw mixed (fun _ => False) [0, 0, 0, 7, 15, 31, 31, 127, 31, 31, 1023, 2047, 4095] [7] [0, 1, 2, 3, 4, 5, 6, 8, 9, 7, 10, 11, 12] (by kernel_rfl) ?_
    refine q_move rfl rfl ?_
    refine q_move rfl rfl ?_
    refine q_loadAgg rfl (Blk.cellsAt (hS.blk 4 rfl) 0 2 rfl) rfl rfl ?_
    obtain ⟨r113, hr113, h⟩ := Option.of_bind h
    refine q_call rfl (incarnation_Undone_w (a2 := (⟨a3.inc, a3.index⟩ : Lab)) (Sep.enter (As := []) hS) f1 hr113) rfl ?_
    rintro _ w112 ⟨R112, rfl, hC112⟩
    have hB112 : Below (World.heap w99).size w99 w112 := hC112.stepB0
    refine ⟨fun _ => .of_below hB112, ?_⟩
    replace f1 := (f1.ext hB112).mono fun k hk _ => hC112.ro0 k hk
    replace hS := Sep.leave (As := []) hS hC112; simp only [List.cons_append, List.nil_append] at hS
    refine q_move rfl rfl ?_
    obtain ⟨x115, hx114, h⟩ := Option.of_bind h
    refine g_andM 7 hx114 rfl trivial rfl rfl ?_ ?_ ?_
    · intro hg114 hx114
      clear h
      have hT114 := Below.refl (World.heap w112).size w112
      refine g_run rfl ?_; refine q_move rfl rfl ?_
      refine g_run rfl ?_; refine q_loadAgg rfl (Blk.cellsAt (hS.blk 5 rfl) 0 3 rfl) rfl rfl ?_
      refine g_run rfl ?_; refine q_move rfl rfl ?_
      refine g_run rfl ?_; refine q_loadAgg rfl (Blk.cellsAt (hS.blk 4 rfl) 0 2 rfl) rfl rfl ?_
      obtain ⟨r117, hr117, hx114⟩ := Option.of_bind hx114
      refine g_run rfl ?_; refine q_call rfl (incarnation_Add_w (a1 := (⟨a1.proc, a1.inc, a1.index⟩ : EndI)) (Sep.enter (As := []) hS) f1 hr117) rfl ?_
      rintro v118 w116 ⟨_, R116, rfl, hC116⟩
      have hB116 : Below (World.heap w112).size w112 w116 := hC116.stepB0
      refine ⟨fun _ => .of_below hB116, ?_⟩
      replace f1 := (f1.ext hB116).mono fun k hk _ => hC116.ro0 k hk
      replace hT114 := hT114.trans (Below.mono hB116 hT114.size)
      replace hS := Sep.leave (As := []) hS hC116; simp only [List.cons_append, List.nil_append] at hS
      obtain ⟨r120, hr120, hx114⟩ := Option.of_bind hx114
      refine g_run rfl ?_; refine q_call rfl (incarnation_Undone_w (a2 := (⟨a3.inc, a3.index⟩ : Lab)) (Sep.all w116) ((hS.isl 0 rfl)).old hr120) rfl ?_
      rintro _ w119 ⟨R119, rfl, hC119⟩
      have hB119 : Below (World.heap w116).size w116 w119 := hC119.stepBF
      refine ⟨fun _ => .of_below hB119, ?_⟩
      replace hT114 := hT114.trans (Below.mono hB119 hT114.size)
      replace hS := hS.below hB119
      refine g_run rfl ?_; refine q_not rfl rfl ?_
      cases hx114
      exact eseq_nil ⟨hT114, Sub.set rfl (Sub.set rfl (Sub.set rfl (Sub.set rfl (Sub.set rfl (Sub.set rfl (Sub.set rfl (Sub.bool true rfl hg114))))))), rfl⟩
    · intro hg114
      refine g_skip rfl rfl rfl ?_
      refine g_skip rfl rfl rfl ?_
      refine g_skip rfl rfl rfl ?_
      refine g_skip rfl rfl rfl ?_
      refine g_skip rfl rfl rfl ?_
      refine g_skip rfl rfl rfl ?_
      refine g_skip rfl rfl rfl ?_
      exact eseq_nil ⟨rfl, Sub.set rfl (Sub.set rfl (Sub.set rfl (Sub.set rfl (Sub.set rfl (Sub.set rfl (Sub.set rfl (Sub.bool false rfl hg114)))))))⟩
    intro wm114 hBm114; clear hx114
    replace hS := hS.below hBm114
    refine eseq_nil ?_
    refine hK102 _ _ ?_
    refine e_cond rfl (fun hc121 => ?_) (fun hc121 => ?_)
    · replace h := (if_pos hc121).symm.trans h
      refine e_seq fun K122 hK122 => ?_
      refine e_region_text rfl ?_
      refine q_assign rfl rfl ?_
      refine eseq_nil ?_
      refine hK122 _ _ ?_
      refine e_ret ?_
      obtain rfl := Option.some.inj h
      exact ⟨_, res1 rfl rfl, _, rfl, (hS.pickB [] 6 rfl rfl)⟩
    · replace h := (if_neg (not_true hc121)).symm.trans h
      refine e_skip ?_
      refine hK101 _ _ ?_
      refine e_seq fun K123 hK123 => ?_
      refine e_region_text rfl ?_
      refine q_move rfl rfl ?_
      refine q_move rfl rfl ?_
      refine q_move rfl rfl ?_
      obtain ⟨r125, hr125, h⟩ := Option.of_bind h
      refine q_call rfl (incarnation_Kept_w (Sep.all wm114) ((hS.isl 3 rfl)).old ((hS.isl 1 rfl)).old hr125) rfl ?_
      rintro _ w124 ⟨R124, rfl, hC124⟩
      have hB124 : Below (World.heap wm114).size wm114 w124 := hC124.stepBF
      refine ⟨fun _ => .of_below hB124, ?_⟩
      replace hS := hS.below hB124
      refine q_move rfl rfl ?_
      refine q_move rfl rfl ?_
      obtain ⟨r127, hr127, h⟩ := Option.of_bind h
      refine q_call rfl (incarnation_Merge_w (Sep.all w124) ((hS.isl 3 rfl)).old ((hS.isl 2 rfl)).old hr127) rfl ?_
      rintro v128 w126 ⟨_, R126, rfl, hC126⟩
      have hB126 : Below (World.heap w124).size w124 w126 := hC126.stepBF
      refine ⟨fun _ => .of_below hB126, ?_⟩
      replace hS := hS.newOwnS hB126 (hC126.own 0 rfl) (hC126.fresh 0 rfl) (fun _ h => h.elim)
      refine q_move rfl rfl ?_
      refine q_move rfl rfl ?_
      obtain ⟨r130, hr130, h⟩ := Option.of_bind h
      refine q_call rfl (incarnation_Kept_w (Sep.all w126) ((hS.isl 0 rfl)).old ((hS.isl 2 rfl)).old hr130) rfl ?_
      rintro _ w129 ⟨R129, rfl, hC129⟩
      have hB129 : Below (World.heap w126).size w126 w129 := hC129.stepBF
      refine ⟨fun _ => .of_below hB129, ?_⟩
      replace hS := hS.below hB129
      refine q_assign rfl rfl ?_
      refine q_assign rfl rfl ?_
      refine eseq_nil ?_
      refine hK123 _ _ ?_
      refine e_seq fun K131 hK131 => ?_
      refine e_region_text rfl ?_
      refine q_move rfl rfl ?_
      refine q_move rfl rfl ?_
      refine q_leq rfl rfl rfl ?_
      refine q_move rfl rfl ?_
      obtain ⟨x133, hx132, h⟩ := Option.of_bind h
      refine g_andM 4 hx132 rfl trivial rfl rfl ?_ ?_ ?_
      · intro hg132 hx132
        clear h
        have hT132 := Below.refl (World.heap w129).size w129
        refine g_run rfl ?_; refine q_move rfl rfl ?_
        refine g_run rfl ?_; refine q_move rfl rfl ?_
        refine g_run rfl ?_; refine q_lenS rfl (hS.isl 2 rfl) rfl ?_
        refine g_run rfl ?_; refine q_leq rfl rfl rfl ?_
        cases hx132
        exact eseq_nil ⟨hT132, Sub.set rfl (Sub.set rfl (Sub.set rfl (Sub.set rfl (Sub.bool true rfl hg132)))), rfl⟩
      · intro hg132
        refine g_skip rfl rfl rfl ?_
        refine g_skip rfl rfl rfl ?_
        refine g_skip rfl rfl rfl ?_
        refine g_skip rfl rfl rfl ?_
        exact eseq_nil ⟨rfl, Sub.set rfl (Sub.set rfl (Sub.set rfl (Sub.set rfl (Sub.bool false rfl hg132))))⟩
      intro wm132 hBm132; clear hx132
      replace hS := hS.below hBm132
      refine q_move rfl rfl ?_
      obtain ⟨x135, hx134, h⟩ := Option.of_bind h
      refine g_andM 2 hx134 rfl trivial rfl rfl ?_ ?_ ?_
      · intro hg134 hx134
        clear h
        have hT134 := Below.refl (World.heap wm132).size wm132
        refine g_run rfl ?_; refine q_move rfl rfl ?_
        refine g_run rfl ?_; refine q_geq rfl rfl rfl ?_
        cases hx134
        exact eseq_nil ⟨hT134, Sub.set rfl (Sub.set rfl (Sub.bool true rfl hg134)), rfl⟩
      · intro hg134
        refine g_skip rfl rfl rfl ?_
        refine g_skip rfl rfl rfl ?_
        exact eseq_nil ⟨rfl, Sub.set rfl (Sub.set rfl (Sub.bool false rfl hg134))⟩
      intro wm134 hBm134; clear hx134
      replace hS := hS.below hBm134
      refine q_assign rfl rfl ?_
      refine eseq_nil ?_
      refine hK131 _ _ ?_
      refine e_ret ?_
      obtain rfl := Option.some.inj h
      exact ⟨_, res1 rfl rfl, _, rfl, (hS.pickB [] 7 rfl rfl)⟩
theorem law31_IncarnationLives_w {F R : Nat → Prop} {w : World} {fuel : Nat} {a0 : (List Int)} {v1 : Value} {r : (Bool)} (hS : Sep F R R w w []) (f1 : IsSlice Ty.u8 w R v1 a0) (h : law31_IncarnationLives fuel a0 = some r) :
    Gives Try.prog 8 [v1] w fun u w1 => ∃ (R1 : Nat → Prop), u = .bool r ∧ Sep F R R1 w w1 [] := by
  refine fn_of Try.func8 rfl Try.ntmps8 (Nat.le_of_ble_eq_true rfl) ?_
  unfold law31_IncarnationLives at h
  refine e_seq fun K1068 hK1068 => ?_
  refine e_region_text rfl ?_
  refine q_assign rfl rfl ?_
  refine eseq_nil ?_
  refine hK1068 _ _ ?_
  refine e_seq fun K1069 hK1069 => ?_
  refine e_seq fun K1070 hK1070 => ?_
  refine e_region_text rfl ?_
  obtain ⟨r1072, hr1072, h⟩ := Option.of_bind h
  refine q_call rfl (law31_awake_w (Sep.enter (As := []) hS)  hr1072) rfl ?_
  rintro _ w1071 ⟨R1071, rfl, hC1071⟩
  have hB1071 : Below (World.heap w).size w w1071 := hC1071.stepB0
  refine ⟨fun _ => .of_below hB1071, ?_⟩
  replace f1 := (f1.ext hB1071).mono fun k hk _ => hC1071.ro0 k hk
  replace hS := Sep.leave (As := []) hS hC1071; simp only [List.cons_append, List.nil_append] at hS
  refine q_not rfl rfl ?_
  refine eseq_nil ?_
  refine hK1070 _ _ ?_
  refine e_cond rfl (fun hc1073 => ?_) (fun hc1073 => ?_)
  · replace h := (if_pos hc1073).symm.trans h
    refine e_seq fun K1074 hK1074 => ?_
    refine e_region_text rfl ?_
    refine q_assign rfl rfl ?_
    refine eseq_nil ?_
    refine hK1074 _ _ ?_
    refine e_ret ?_
    obtain rfl := Option.some.inj h
    exact ⟨_, res1 rfl rfl, _, rfl, hS⟩
  · replace h := (if_neg (not_true hc1073)).symm.trans h
    refine e_skip ?_
    refine hK1069 _ _ ?_
    refine e_seq fun K1075 hK1075 => ?_
    refine e_region_text rfl ?_
    refine q_move rfl rfl ?_
    obtain ⟨r1077, hr1077, h⟩ := Option.of_bind h
    refine q_call rfl (make_New_w (Sep.enter (As := []) hS) f1 hr1077) rfl ?_
    rintro _ w1076 ⟨B1078, v1079, R1076, rfl, hC1076, f1079⟩
    have hB1076 : Below (World.heap w1071).size w1071 w1076 := hC1076.stepB0
    refine ⟨fun _ => .of_below hB1076, ?_⟩
    replace f1 := (f1.ext hB1076).mono fun k hk _ => hC1076.ro0 k hk
    replace hS := Sep.leave (As := []) hS hC1076; simp only [List.cons_append, List.nil_append] at hS
    refine q_assign rfl rfl ?_
    refine eseq_nil ?_
    refine hK1075 _ _ ?_
    refine e_seq fun K1080 hK1080 => ?_
    refine e_region_text rfl ?_
    refine q_assign rfl rfl ?_
    refine eseq_nil ?_
    refine hK1080 _ _ ?_
    refine e_seq fun K1081 hK1081 => ?_
    refine e_region_text rfl ?_
    refine q_assign rfl rfl ?_
    refine eseq_nil ?_
    refine hK1081 _ _ ?_
    refine e_seq fun K1082 hK1082 => ?_
    refine e_region_text rfl ?_
    refine q_assign rfl rfl ?_
    refine eseq_nil ?_
    refine hK1082 _ _ ?_
    refine e_seq fun K1083 hK1083 => ?_
    refine e_region_text rfl ?_
    refine q_assign rfl rfl ?_
    refine eseq_nil ?_
    refine hK1083 _ _ ?_
    refine e_seq fun K1084 hK1084 => ?_
    refine e_block ?_
    obtain ⟨tl1085, ht1085, h⟩ := Option.of_bind h
    have hX1085_0 : ∀ (R1799 : Nat → Prop) (w1800 : World) (E_ : Env), law31_IncarnationLives_K1 fuel = some r → Sep F R R1799 w w1800 [] → Sub [] E_ → K1084 E_ w1800 := by
      intro R1799 w1800 E_ h hS  hsub
      refine hK1084 _ _ (e_sub hsub ?_); clear hsub
      unfold law31_IncarnationLives_K1 at h
      refine e_seq fun K1801 hK1801 => ?_
      refine e_region_text rfl ?_
      refine q_assign rfl rfl ?_
      refine eseq_nil ?_
      refine hK1801 _ _ ?_
      refine e_ret ?_
      obtain rfl := Option.some.inj h
      exact ⟨_, res1 rfl rfl, _, rfl, hS⟩
    replace hS := hS.nilOwn0 evtTy 53
    replace hS := hS.nilOwn0 labTy 24
    replace hS := hS.nilOwn0 endITy 34
    refine e_loop (fun m_ E_ w1430 => ∃ (x1432 : Int), ∃ (x1435 : (List Evt)), ∃ (x1438 : (List Lab)), ∃ (x1441 : (List EndI)), ∃ (x1442 : Int), ∃ (v1434 : Value), ∃ (v1437 : Value), ∃ (v1440 : Value), ∃ (R1429 : Nat → Prop), iter (fun s => law31_IncarnationLives_B1 fuel r1077 s.1 s.2.1 s.2.2.1 s.2.2.2.1 s.2.2.2.2) m_ (x1432, x1435, x1438, x1441, x1442) = some tl1085 ∧ Sep F R R1429 w w1430 [HP.blk B1078 [v1079, .int .i64 x1432] 55, HP.own evtTy (fun _ => False) 53 v1434 x1435, HP.own labTy (fun _ => False) 24 v1437 x1438, HP.own endITy (fun _ => False) 34 v1440 x1441] ∧ IsSlice Ty.u8 w1430 R1429 v1079 r1077.1 ∧ E_ = [(3, .pointer (some ⟨B1078, 0, none⟩)), (4, v1434), (5, v1437), (6, v1440), (7, .int .i64 x1442)]) _ ⟨_, ⟨r1077.2, ([] : List Evt), ([] : List Lab), ([] : List EndI), 0, (.slice none 0 0), (.slice none 0 0), (.slice none 0 0), _, ht1085, (hS.pickB [3, 2, 1, 0] 4 rfl rfl), f1079, rfl⟩, Sub.cons rfl (Sub.cons rfl (Sub.cons rfl (Sub.cons rfl (Sub.cons rfl (Sub.nil _)))))⟩ ?_
    clear ht1085 hS
    rintro m1085 _ w1430 ⟨x1432, x1435, x1438, x1441, x1442, v1434, v1437, v1440, R1429, ht1085, hS, f1431, rfl⟩
    obtain ⟨m1085, rfl, o1085, ho1085, ht1085⟩ := iter_some ht1085
    replace ho1085 : law31_IncarnationLives_B1 fuel r1077 x1432 x1435 x1438 x1441 x1442 = some o1085 := ho1085
    unfold law31_IncarnationLives_B1 at ho1085
    refine e_seq fun K1805 hK1805 => ?_
    refine e_seq fun K1806 hK1806 => ?_
    refine e_region_text rfl ?_
    refine q_move rfl rfl ?_
    obtain ⟨r1808, hr1808, ho1085⟩ := Option.of_bind ho1085
    refine q_call rfl (make_Codes_Left_w (Sep.all w1430) (Lent.of (hS.blk 0 rfl)) (f1431).old hr1808) rfl ?_
    rintro _ w1807 ⟨R1807, rfl, hC1807⟩
    have hB1807 : Below (World.heap w1430).size w1430 w1807 := hC1807.stepBF
    refine ⟨fun _ => .of_below hB1807, ?_⟩
    replace f1431 := f1431.ext hB1807
    replace hS := hS.below hB1807
    refine q_move rfl rfl ?_
    obtain ⟨x1810, hx1809, ho1085⟩ := Option.of_bind ho1085
    refine g_andM 3 hx1809 rfl trivial rfl rfl ?_ ?_ ?_
    · intro hg1809 hx1809
      clear ho1085
      have hT1809 := Below.refl (World.heap w1807).size w1807
      refine g_run rfl ?_; refine q_move rfl rfl ?_
      refine g_run rfl ?_; refine q_lenS rfl (hS.isl 2 rfl) rfl ?_
      refine g_run rfl ?_; refine q_lss rfl rfl rfl ?_
      cases hx1809
      exact eseq_nil ⟨hT1809, Sub.set rfl (Sub.set rfl (Sub.set rfl (Sub.bool true rfl hg1809))), rfl⟩
    · intro hg1809
      refine g_skip rfl rfl rfl ?_
      refine g_skip rfl rfl rfl ?_
      refine g_skip rfl rfl rfl ?_
      exact eseq_nil ⟨rfl, Sub.set rfl (Sub.set rfl (Sub.set rfl (Sub.bool false rfl hg1809)))⟩
    intro wm1809 hBm1809; clear hx1809
    replace hS := hS.below hBm1809
    replace f1431 := f1431.ext hBm1809
    refine eseq_nil ?_
    refine hK1806 _ _ ?_
    refine e_cond rfl (fun hc1811 => ?_) (fun hc1811 => ?_)
    · replace ho1085 := (if_pos hc1811).symm.trans ho1085
      refine e_skip ?_
      refine hK1805 _ _ ?_
      refine e_block ?_
      refine e_seq fun K1812 hK1812 => ?_
      have hJ1812 : ∀ (x1918 : Int) (x1921 : (List Evt)) (x1924 : (List Lab)) (x1927 : (List EndI)) (x1928 : Int) (v1920 : Value) (v1923 : Value) (v1926 : Value) (R1915 : Nat → Prop) (w1916 : World) (E_ : Env), law31_IncarnationLives_J1 fuel x1918 x1921 x1924 x1927 x1928 = some o1085 → Sep F R R1915 w w1916 [HP.blk B1078 [v1079, .int .i64 x1918] 55, HP.own evtTy (fun _ => False) 53 v1920 x1921, HP.own labTy (fun _ => False) 24 v1923 x1924, HP.own endITy (fun _ => False) 34 v1926 x1927] → IsSlice Ty.u8 w1916 R1915 v1079 r1077.1 → Sub [(3, .pointer (some ⟨B1078, 0, none⟩)), (4, v1920), (5, v1923), (6, v1926), (7, .int .i64 x1928)] E_ → K1812 E_ w1916 := by
        intro x1918 x1921 x1924 x1927 x1928 v1920 v1923 v1926 R1915 w1916 E_ ho1085 hS f1917 hsub
        refine hK1812 _ _ (e_sub hsub ?_); clear hsub
        unfold law31_IncarnationLives_J1 at ho1085
        refine e_seq fun K1929 hK1929 => ?_
        refine e_seq fun K1930 hK1930 => ?_
        refine e_region_text rfl ?_
        refine q_move rfl rfl ?_
        refine q_move rfl rfl ?_
        obtain ⟨r1932, hr1932, ho1085⟩ := Option.of_bind ho1085
        refine q_call rfl (incarnation_Kept_w (Sep.all w1916) ((hS.isl 3 rfl)).old ((hS.isl 1 rfl)).old hr1932) rfl ?_
        rintro _ w1931 ⟨R1931, rfl, hC1931⟩
        have hB1931 : Below (World.heap w1916).size w1916 w1931 := hC1931.stepBF
        refine ⟨fun _ => .of_below hB1931, ?_⟩
        replace f1917 := f1917.ext hB1931
        replace hS := hS.below hB1931
        refine q_move rfl rfl ?_
        refine q_lenS rfl (hS.isl 1 rfl) rfl ?_
        refine q_neq rfl rfl rfl ?_
        refine q_move rfl rfl ?_
        obtain ⟨x1934, hx1933, ho1085⟩ := Option.of_bind ho1085
        refine g_orM 4 hx1933 rfl trivial rfl rfl ?_ ?_ ?_
        · intro hg1933
          refine g_skip rfl rfl rfl ?_
          refine g_skip rfl rfl rfl ?_
          refine g_skip rfl rfl rfl ?_
          refine g_skip rfl rfl rfl ?_
          exact eseq_nil ⟨rfl, Sub.set rfl (Sub.set rfl (Sub.set rfl (Sub.set rfl (Sub.bool true rfl hg1933))))⟩
        · intro hg1933 hx1933
          clear ho1085
          have hT1933 := Below.refl (World.heap w1931).size w1931
          refine g_run rfl ?_; refine q_move rfl rfl ?_
          obtain ⟨r1936, hr1936, hx1933⟩ := Option.of_bind hx1933
          refine g_run rfl ?_; refine q_call rfl (incarnation_Next_w (Sep.all w1931) ((hS.isl 3 rfl)).old hr1936) rfl ?_
          rintro _ w1935 ⟨R1935, rfl, hC1935⟩
          have hB1935 : Below (World.heap w1931).size w1931 w1935 := hC1935.stepBF
          refine ⟨fun _ => .of_below hB1935, ?_⟩
          replace f1917 := f1917.ext hB1935
          replace hT1933 := hT1933.trans (Below.mono hB1935 hT1933.size)
          replace hS := hS.below hB1935
          refine g_run rfl ?_; refine q_move rfl rfl ?_
          refine g_run rfl ?_; refine q_neq rfl rfl rfl ?_
          cases hx1933
          exact eseq_nil ⟨hT1933, Sub.set rfl (Sub.set rfl (Sub.set rfl (Sub.set rfl (Sub.bool false rfl hg1933)))), rfl⟩
        intro wm1933 hBm1933; clear hx1933
        replace hS := hS.below hBm1933
        replace f1917 := f1917.ext hBm1933
        refine eseq_nil ?_
        refine hK1930 _ _ ?_
        refine e_cond rfl (fun hc1937 => ?_) (fun hc1937 => ?_)
        · replace ho1085 := (if_pos hc1937).symm.trans ho1085
          refine e_seq fun K1938 hK1938 => ?_
          refine e_region_text rfl ?_
          refine q_assign rfl rfl ?_
          refine eseq_nil ?_
          refine hK1938 _ _ ?_
          refine e_ret ?_
          obtain rfl := Option.some.inj ho1085
          obtain rfl := Option.some.inj ht1085
          obtain rfl := Option.some.inj h
          exact ⟨_, res1 rfl rfl, _, rfl, (hS.pickB [] 4 rfl rfl)⟩
        · replace ho1085 := (if_neg (not_true hc1937)).symm.trans ho1085
          refine e_skip ?_
          refine hK1929 _ _ ?_
          refine e_seq fun K1939 hK1939 => ?_
          refine e_region_text rfl ?_
          refine q_assign rfl rfl ?_
          refine eseq_nil ?_
          refine hK1939 _ _ ?_
          refine e_block ?_
          obtain ⟨tl1940, ht1940, ho1085⟩ := Option.of_bind ho1085
          refine e_loop (fun m_ E_ w1974 => ∃ (x1979 : Int), ∃ (R1973 : Nat → Prop), iter (fun s => law31_IncarnationLives_B2 fuel x1924 x1927 s) m_ x1979 = some tl1940 ∧ Sep F R R1973 w w1974 [HP.blk B1078 [v1079, .int .i64 x1918] 55, HP.own evtTy (fun _ => False) 53 v1920 x1921, HP.own labTy (fun _ => False) 24 v1923 x1924, HP.own endITy (fun _ => False) 34 v1926 x1927] ∧ IsSlice Ty.u8 w1974 R1973 v1079 r1077.1 ∧ E_ = [(3, .pointer (some ⟨B1078, 0, none⟩)), (4, v1920), (5, v1923), (6, v1926), (7, .int .i64 x1928), (11, .int .i64 x1979)]) _ ⟨_, ⟨0, _, ht1940, hS, f1917, rfl⟩, Sub.cons rfl (Sub.cons rfl (Sub.cons rfl (Sub.cons rfl (Sub.cons rfl (Sub.cons rfl (Sub.nil _))))))⟩ ?_
          clear ht1940 hS
          rintro m1940 _ w1974 ⟨x1979, R1973, ht1940, hS, f1975, rfl⟩
          obtain ⟨m1940, rfl, o1940, ho1940, ht1940⟩ := iter_some ht1940
          replace ho1940 : law31_IncarnationLives_B2 fuel x1924 x1927 x1979 = some o1940 := ho1940
          unfold law31_IncarnationLives_B2 at ho1940
          refine e_seq fun K2012 hK2012 => ?_
          refine e_seq fun K2013 hK2013 => ?_
          refine e_region_text rfl ?_
          refine q_move rfl rfl ?_
          refine q_move rfl rfl ?_
          refine q_lenS rfl (hS.isl 2 rfl) rfl ?_
          refine q_lss rfl rfl rfl ?_
          refine eseq_nil ?_
          refine hK2013 _ _ ?_
          refine e_cond rfl (fun hc2014 => ?_) (fun hc2014 => ?_)
          · replace ho1940 := (if_pos hc2014).symm.trans ho1940
            refine e_skip ?_
            refine hK2012 _ _ ?_
            refine e_seq fun K2015 hK2015 => ?_
            refine e_block ?_
            refine e_seq fun K2016 hK2016 => ?_
            refine e_region_text rfl ?_
            refine q_move rfl rfl ?_
            refine q_move rfl rfl ?_
            refine q_move rfl rfl ?_
            obtain ⟨x2017, hx2017, ho1940⟩ := Option.of_bind ho1940
            refine q_indexO (by infer_instance) rfl (hS.own 2 rfl) rfl hx2017 rfl ?_
            have f2018 := (hS.ownR 2 rfl).elt hx2017
            have hc2019 := Lab_open f2018
            refine q_loadAgg rfl hc2019 rfl rfl ?_
            obtain ⟨r2021, hr2021, ho1940⟩ := Option.of_bind ho1940
            refine q_call rfl (incarnation_Undone_w (a2 := x2017) (Sep.all w1974) ((hS.isl 3 rfl)).old hr2021) rfl ?_
            rintro _ w2020 ⟨R2020, rfl, hC2020⟩
            have hB2020 : Below (World.heap w1974).size w1974 w2020 := hC2020.stepBF
            refine ⟨fun _ => .of_below hB2020, ?_⟩
            replace f1975 := f1975.ext hB2020
            replace hS := hS.below hB2020
            refine q_not rfl rfl ?_
            refine q_move rfl rfl ?_
            obtain ⟨x2023, hx2022, ho1940⟩ := Option.of_bind ho1940
            refine g_orM 8 hx2022 rfl trivial rfl rfl ?_ ?_ ?_
            · intro hg2022
              refine g_skip rfl rfl rfl ?_
              refine g_skip rfl rfl rfl ?_
              refine g_skip rfl rfl rfl ?_
              refine g_skip rfl rfl rfl ?_
              refine g_skip rfl rfl rfl ?_
              refine g_skip rfl rfl rfl ?_
              refine g_skip rfl rfl rfl ?_
              refine g_skip rfl rfl rfl ?_
              exact eseq_nil ⟨rfl, Sub.set rfl (Sub.set rfl (Sub.set rfl (Sub.set rfl (Sub.set rfl (Sub.set rfl (Sub.set rfl (Sub.set rfl (Sub.bool true rfl hg2022))))))))⟩
            · intro hg2022 hx2022
              clear ho1940
              have hT2022 := Below.refl (World.heap w2020).size w2020
              refine g_run rfl ?_; refine q_move rfl rfl ?_
              refine g_run rfl ?_; refine q_move rfl rfl ?_
              refine g_run rfl ?_; refine q_move rfl rfl ?_
              obtain ⟨x2024, hx2024, hx2022⟩ := Option.of_bind hx2022
              refine g_run rfl ?_; refine q_indexO (by infer_instance) rfl (hS.own 2 rfl) rfl hx2024 rfl ?_
              have f2025 := (hS.ownR 2 rfl).elt hx2024
              have hc2026 := Lab_open f2025
              refine g_run rfl ?_; refine q_loadAgg rfl hc2026 rfl rfl ?_
              refine g_run rfl ?_; refine q_build (Parts.cons rfl rfl (Parts.cons rfl rfl Parts.nil)) rfl rfl ?_
              obtain ⟨r2028, hr2028, hx2022⟩ := Option.of_bind hx2022
              refine g_run rfl ?_; refine q_call rfl (incarnation_Obsolete_w (a1 := (⟨2, 0, x2024, 0, 0, 0, ([] : List Int), ([] : List Known)⟩ : Msg)) (Sep.all w2020) ((hS.isl 3 rfl)).old ((IsSlice.nil Ty.int _ (fun _ => False))).old ((IsSlice.nil knownTy _ (fun _ => False))).old hr2028) rfl ?_
              rintro _ w2027 ⟨R2027, rfl, hC2027⟩
              have hB2027 : Below (World.heap w2020).size w2020 w2027 := hC2027.stepBF
              refine ⟨fun _ => .of_below hB2027, ?_⟩
              replace f1975 := f1975.ext hB2027
              replace hT2022 := hT2022.trans (Below.mono hB2027 hT2022.size)
              replace hS := hS.below hB2027
              refine g_run rfl ?_; refine q_not rfl rfl ?_
              cases hx2022
              exact eseq_nil ⟨hT2022, Sub.set rfl (Sub.set rfl (Sub.set rfl (Sub.set rfl (Sub.set rfl (Sub.set rfl (Sub.set rfl (Sub.set rfl (Sub.bool false rfl hg2022)))))))), rfl⟩
            intro wm2022 hBm2022; clear hx2022
            replace hS := hS.below hBm2022
            replace f1975 := f1975.ext hBm2022
            refine eseq_nil ?_
            refine hK2016 _ _ ?_
            refine e_cond rfl (fun hc2029 => ?_) (fun hc2029 => ?_)
            · replace ho1940 := (if_pos hc2029).symm.trans ho1940
              refine e_seq fun K2030 hK2030 => ?_
              refine e_region_text rfl ?_
              refine q_assign rfl rfl ?_
              refine eseq_nil ?_
              refine hK2030 _ _ ?_
              refine e_ret ?_
              obtain rfl := Option.some.inj ho1940
              obtain rfl := Option.some.inj ht1940
              obtain rfl := Option.some.inj ho1085
              obtain rfl := Option.some.inj ht1085
              obtain rfl := Option.some.inj h
              exact ⟨_, res1 rfl rfl, _, rfl, (hS.pickB [] 4 rfl rfl)⟩
            · replace ho1940 := (if_neg (not_true hc2029)).symm.trans ho1940
              refine e_skip ?_
              refine hK2015 _ _ ?_
              refine e_region_text rfl ?_
              refine q_move rfl rfl ?_
              refine q_addW rfl rfl rfl ?_
              refine q_assign rfl rfl ?_
              refine eseq_nil ?_
              obtain rfl := Option.some.inj ho1940
              exact ⟨m1940, _, Nat.lt_succ_self _, ⟨(w64 (x1979 + 1)), _, ht1940, hS, f1975, rfl⟩, Sub.cons rfl (Sub.cons rfl (Sub.cons rfl (Sub.cons rfl (Sub.cons rfl (Sub.cons rfl (Sub.nil _))))))⟩
          · replace ho1940 := (if_neg (not_true hc2014)).symm.trans ho1940
            refine e_exit ?_
            obtain rfl := Option.some.inj ho1940
            obtain rfl := Option.some.inj ht1940
            replace ho1085 : law31_IncarnationLives_K2 fuel x1918 x1921 x1924 x1927 x1928 = some o1085 := ho1085
            unfold law31_IncarnationLives_K2 at ho1085
            obtain rfl := Option.some.inj ho1085
            exact ⟨m1085, _, Nat.lt_succ_self _, ⟨x1918, x1921, x1924, x1927, x1928, v1920, v1923, v1926, _, ht1085, hS, f1975, rfl⟩, Sub.cons rfl (Sub.cons rfl (Sub.cons rfl (Sub.cons rfl (Sub.cons rfl (Sub.nil _)))))⟩
      refine e_seq fun K2031 hK2031 => ?_
      refine e_region_text rfl ?_
      refine q_move rfl rfl ?_
      obtain ⟨r2033, hr2033, ho1085⟩ := Option.of_bind ho1085
      refine q_call rfl (make_Codes_Next_w (Sep.enter (As := [_]) hS) f1431 hr2033) rfl ?_
      rintro _ w2032 ⟨R2032, rfl, hC2032⟩
      refine ⟨(fun h => by cases h), ?_⟩
      have hk2032 := hC2032.keptR (Sep.offFeet (As := [_]) hS)
      replace f1431 := (f1431.kept hk2032).mono fun k hk _ => hC2032.ro0 k hk
      replace hS := Sep.leave (As := [_]) hS hC2032; simp only [List.cons_append, List.nil_append] at hS
      refine q_assign rfl rfl ?_
      refine eseq_nil ?_
      refine hK2031 _ _ ?_
      refine e_seq fun K2034 hK2034 => ?_
      refine e_region_text rfl ?_
      refine q_move rfl rfl ?_
      refine q_lss rfl rfl rfl ?_
      refine q_move rfl rfl ?_
      obtain ⟨x2036, hx2035, ho1085⟩ := Option.of_bind ho1085
      refine g_andM 3 hx2035 rfl trivial rfl rfl ?_ ?_ ?_
      · intro hg2035 hx2035
        clear ho1085
        have hT2035 := Below.refl (World.heap w2032).size w2032
        refine g_run rfl ?_; refine q_move rfl rfl ?_
        refine g_run rfl ?_; refine q_lenS rfl (hS.isl 1 rfl) rfl ?_
        refine g_run rfl ?_; refine q_lss rfl rfl rfl ?_
        cases hx2035
        exact eseq_nil ⟨hT2035, Sub.set rfl (Sub.set rfl (Sub.set rfl (Sub.bool true rfl hg2035))), rfl⟩
      · intro hg2035
        refine g_skip rfl rfl rfl ?_
        refine g_skip rfl rfl rfl ?_
        refine g_skip rfl rfl rfl ?_
        exact eseq_nil ⟨rfl, Sub.set rfl (Sub.set rfl (Sub.set rfl (Sub.bool false rfl hg2035)))⟩
      intro wm2035 hBm2035; clear hx2035
      replace hS := hS.below hBm2035
      replace f1431 := f1431.ext hBm2035
      refine eseq_nil ?_
      refine hK2034 _ _ ?_
      refine e_cond rfl (fun hc2037 => ?_) (fun hc2037 => ?_)
      · replace ho1085 := (if_pos hc2037).symm.trans ho1085
        refine e_region_text rfl ?_
        refine q_move rfl rfl ?_
        refine q_move rfl rfl ?_
        refine q_move rfl rfl ?_
        refine q_build (Parts.cons rfl rfl (Parts.cons rfl rfl (Parts.cons rfl rfl Parts.nil))) rfl rfl ?_
        refine q_litO (T := evtTy) (S := (fun _ => False)) (cells := [[.int .i64 2, .int .i64 x1442, .int .i64 0, .int .i64 0, .int .i64 0, .int .i64 0, .int .i64 r2033.1]]) (ys := [(⟨2, x1442, 0, (⟨0, 0⟩ : Lab), 0, r2033.1⟩ : Evt)]) ((Parts.cons rfl rfl Parts.nil)) rfl rfl rfl rfl rfl rfl rfl (fun w1 hB => ⟨⟨[_], _, rfl, rfl, ⟨[_], _, rfl, rfl, ⟨[_], _, rfl, rfl, ⟨[_, _], _, rfl, ⟨[_], _, rfl, rfl, rfl⟩, ⟨[_], _, rfl, rfl, rfl⟩⟩⟩⟩⟩, trivial⟩) (fun _ h => h.elim) rfl fun w2038 v2038 ho2038 hv2038 hB2038 => ?_
        replace f1431 := f1431.ext hB2038
        replace hS := hS.newOwnS hB2038 ho2038 hv2038 (fun _ h => h.elim)
        obtain ⟨x2041, hx2041, ho1085⟩ := Option.of_bind ho1085
        refine q_catOwn (T := evtTy) rfl rfl rfl rfl (hS.own 2 rfl) rfl (hS.own 0 rfl) (fun _ h _ => h.elim) (snoc_cat hx2041) (Nat.zero_le _) rfl (fun h => by cases h) fun v2040 w2040 hw2040 hgr2040 hnw2040 => ?_
        have hk2040 := hS.keptOwn 2 rfl hgr2040
        replace f1431 := f1431.kept hk2040
        replace hS := hS.setOwn 2 rfl hw2040 hgr2040 hnw2040; simp only [List.set] at hS
        refine q_assign rfl rfl ?_
        refine eseq_nil ?_
        exact hJ1812 r2033.2 x2041 x1438 x1441 x1442 v2040 v1437 v1440 _ _ _ ho1085 (hS.pickB [1, 2, 3, 4] 5 rfl rfl) f1431 (Sub.cons rfl (Sub.cons rfl (Sub.cons rfl (Sub.cons rfl (Sub.cons rfl (Sub.nil _))))))
      · replace ho1085 := (if_neg (not_true hc2037)).symm.trans ho1085
        refine e_seq fun K2042 hK2042 => ?_
        refine e_region_text rfl ?_
        refine q_move rfl rfl ?_
        refine q_move rfl rfl ?_
        refine q_lenS rfl (hS.isl 1 rfl) rfl ?_
        refine q_addW rfl rfl rfl ?_
        obtain ⟨r2044, hr2044, ho1085⟩ := Option.of_bind ho1085
        refine q_call rfl (make_Codes_Next_w (Sep.enter (As := [_]) hS) f1431 hr2044) rfl ?_
        rintro _ w2043 ⟨R2043, rfl, hC2043⟩
        refine ⟨(fun h => by cases h), ?_⟩
        have hk2043 := hC2043.keptR (Sep.offFeet (As := [_]) hS)
        replace f1431 := (f1431.kept hk2043).mono fun k hk _ => hC2043.ro0 k hk
        replace hS := Sep.leave (As := [_]) hS hC2043; simp only [List.cons_append, List.nil_append] at hS
        refine q_assign rfl rfl ?_
        refine eseq_nil ?_
        refine hK2042 _ _ ?_
        refine e_seq fun K2045 hK2045 => ?_
        refine e_seq fun K2046 hK2046 => ?_
        refine e_region_text rfl ?_
        refine q_move rfl rfl ?_
        refine q_assign rfl rfl ?_
        refine eseq_nil ?_
        refine hK2046 _ _ ?_
        refine e_block ?_
        obtain ⟨tl2047, ht2047, ho1085⟩ := Option.of_bind ho1085
        have hX2047_2 : ∀ (x2109 : (List Lab)) (v2108 : Value) (R2103 : Nat → Prop) (w2104 : World) (E_ : Env), law31_IncarnationLives_K3 fuel x1435 r2044 x1441 x1442 x2109 = some o1085 → Sep F R R2103 w w2104 [HP.blk B1078 [v1079, .int .i64 r2044.2] 55, HP.own evtTy (fun _ => False) 53 v1434 x1435, HP.own labTy (fun _ => False) 24 v2108 x2109, HP.own endITy (fun _ => False) 34 v1440 x1441] → IsSlice Ty.u8 w2104 R2103 v1079 r1077.1 → Sub [(3, .pointer (some ⟨B1078, 0, none⟩)), (4, v1434), (5, v2108), (6, v1440), (7, .int .i64 x1442), (9, .int .i64 r2044.1)] E_ → K2045 E_ w2104 := by
          intro x2109 v2108 R2103 w2104 E_ ho1085 hS f2105 hsub
          refine hK2045 _ _ (e_sub hsub ?_); clear hsub
          unfold law31_IncarnationLives_K3 at ho1085
          refine e_seq fun K2111 hK2111 => ?_
          refine e_region_text rfl ?_
          refine q_move rfl rfl ?_
          refine q_move rfl rfl ?_
          obtain ⟨R2112, hS, hm2112, f2112⟩ := hS.freezeOwn 1 rfl; simp only [List.eraseIdx] at hS
          replace f2105 := f2105.mono fun k hk _ => hm2112 k hk
          obtain ⟨x2114, hx2114, ho1085⟩ := Option.of_bind ho1085
          refine q_takeS (by infer_instance) rfl f2112 rfl hx2114 rfl fun v2113 f2113 => ?_
          replace hS := hS.nilOwn0 evtTy 53
          obtain ⟨x2117, hx2117, ho1085⟩ := Option.of_bind ho1085
          refine q_catE (T := evtTy) rfl rfl rfl rfl (hS.own 0 rfl) rfl f2113 hx2117 (Nat.zero_le _) rfl (fun h => by cases h) fun v2116 w2116 hw2116 hgr2116 hnw2116 => ?_
          have hk2116 := hS.keptOwn 0 rfl hgr2116
          replace f2105 := f2105.kept hk2116
          replace f2113 := f2113.kept hk2116
          replace hS := hS.setOwn 0 rfl hw2116 hgr2116 hnw2116; simp only [List.set] at hS
          refine q_assign rfl rfl ?_
          refine eseq_nil ?_
          refine hK2111 _ _ ?_
          refine e_seq fun K2118 hK2118 => ?_
          refine e_region_text rfl ?_
          refine q_move rfl rfl ?_
          refine q_move rfl rfl ?_
          refine q_move rfl rfl ?_
          refine q_build (Parts.cons rfl rfl (Parts.cons rfl rfl (Parts.cons rfl rfl Parts.nil))) rfl rfl ?_
          obtain ⟨r2120, hr2120, ho1085⟩ := Option.of_bind ho1085
          refine q_call rfl (incarnation_Add_w (a1 := (⟨2, x1442, r2044.1⟩ : EndI)) (Sep.all w2116) ((hS.isl 3 rfl)).old hr2120) rfl ?_
          rintro v2121 w2119 ⟨_, R2119, rfl, hC2119⟩
          have hB2119 : Below (World.heap w2116).size w2116 w2119 := hC2119.stepBF
          refine ⟨fun _ => .of_below hB2119, ?_⟩
          replace f2105 := f2105.ext hB2119
          replace hS := hS.newOwnS hB2119 (hC2119.own 0 rfl) (hC2119.fresh 0 rfl) (fun _ h => h.elim)
          refine q_assign rfl rfl ?_
          refine eseq_nil ?_
          refine hK2118 _ _ ?_
          refine e_region_text rfl ?_
          refine q_move rfl rfl ?_
          refine q_addW rfl rfl rfl ?_
          refine q_assign rfl rfl ?_
          refine eseq_nil ?_
          exact hJ1812 r2044.2 x2117 x2109 r2120 (w64 (x1442 + 1)) v2116 v2108 v2121 _ _ _ ho1085 (hS.pickB [2, 1, 3, 0] 5 rfl rfl) f2105 (Sub.cons rfl (Sub.cons rfl (Sub.cons rfl (Sub.cons rfl (Sub.cons rfl (Sub.nil _))))))
        refine e_loop (fun m_ E_ w2075 => ∃ (x2080 : (List Lab)), ∃ (x2082 : Int), ∃ (v2079 : Value), ∃ (R2074 : Nat → Prop), iter (fun s => law31_IncarnationLives_B3 fuel x1435 s.1 s.2) m_ (x2080, x2082) = some tl2047 ∧ Sep F R R2074 w w2075 [HP.blk B1078 [v1079, .int .i64 r2044.2] 55, HP.own evtTy (fun _ => False) 53 v1434 x1435, HP.own labTy (fun _ => False) 24 v2079 x2080, HP.own endITy (fun _ => False) 34 v1440 x1441] ∧ IsSlice Ty.u8 w2075 R2074 v1079 r1077.1 ∧ E_ = [(3, .pointer (some ⟨B1078, 0, none⟩)), (4, v1434), (5, v2079), (6, v1440), (7, .int .i64 x1442), (9, .int .i64 r2044.1), (10, .int .i64 x2082)]) _ ⟨_, ⟨x1438, r2044.1, v1437, _, ht2047, hS, f1431, rfl⟩, Sub.cons rfl (Sub.cons rfl (Sub.cons rfl (Sub.cons rfl (Sub.cons rfl (Sub.cons rfl (Sub.cons rfl (Sub.nil _)))))))⟩ ?_
        clear ht2047 hS
        rintro m2047 _ w2075 ⟨x2080, x2082, v2079, R2074, ht2047, hS, f2076, rfl⟩
        obtain ⟨m2047, rfl, o2047, ho2047, ht2047⟩ := iter_some ht2047
        replace ho2047 : law31_IncarnationLives_B3 fuel x1435 x2080 x2082 = some o2047 := ho2047
        unfold law31_IncarnationLives_B3 at ho2047
        refine e_seq fun K2122 hK2122 => ?_
        refine e_seq fun K2123 hK2123 => ?_
        refine e_region_text rfl ?_
        refine q_move rfl rfl ?_
        refine q_move rfl rfl ?_
        refine q_lenS rfl (hS.isl 1 rfl) rfl ?_
        refine q_lss rfl rfl rfl ?_
        refine eseq_nil ?_
        refine hK2123 _ _ ?_
        refine e_cond rfl (fun hc2124 => ?_) (fun hc2124 => ?_)
        · replace ho2047 := (if_pos hc2124).symm.trans ho2047
          refine e_skip ?_
          refine hK2122 _ _ ?_
          refine e_seq fun K2125 hK2125 => ?_
          refine e_block ?_
          refine e_region_text rfl ?_
          refine q_move rfl rfl ?_
          refine q_move rfl rfl ?_
          refine q_move rfl rfl ?_
          obtain ⟨x2126, hx2126, ho2047⟩ := Option.of_bind ho2047
          refine q_indexO (by infer_instance) rfl (hS.own 1 rfl) rfl hx2126 rfl ?_
          refine q_field rfl rfl ?_
          have f2127 := (hS.ownR 1 rfl).elt hx2126
          have f2128 := Evt_F1 f2127
          refine q_load rfl (Elt.intCell f2128) rfl ?_
          refine q_move rfl rfl ?_
          refine q_addW rfl rfl rfl ?_
          refine q_build (Parts.cons rfl rfl (Parts.cons rfl rfl Parts.nil)) rfl rfl ?_
          refine q_litO (T := labTy) (S := (fun _ => False)) (cells := [[.int .i64 x2126.inc, .int .i64 (w64 (x2082 + 1))]]) (ys := [(⟨x2126.inc, w64 (x2082 + 1)⟩ : Lab)]) ((Parts.cons rfl rfl Parts.nil)) rfl rfl rfl rfl rfl rfl rfl (fun w1 hB => ⟨⟨[_], _, rfl, rfl, rfl⟩, trivial⟩) (fun _ h => h.elim) rfl fun w2129 v2129 ho2129 hv2129 hB2129 => ?_
          replace f2076 := f2076.ext hB2129
          replace hS := hS.newOwnS hB2129 ho2129 hv2129 (fun _ h => h.elim)
          obtain ⟨x2132, hx2132, ho2047⟩ := Option.of_bind ho2047
          refine q_catOwn (T := labTy) rfl rfl rfl rfl (hS.own 3 rfl) rfl (hS.own 0 rfl) (fun _ h _ => h.elim) (snoc_cat hx2132) (Nat.zero_le _) rfl (fun h => by cases h) fun v2131 w2131 hw2131 hgr2131 hnw2131 => ?_
          have hk2131 := hS.keptOwn 3 rfl hgr2131
          replace f2076 := f2076.kept hk2131
          replace hS := hS.setOwn 3 rfl hw2131 hgr2131 hnw2131; simp only [List.set] at hS
          refine q_assign rfl rfl ?_
          refine eseq_nil ?_
          refine hK2125 _ _ ?_
          refine e_region_text rfl ?_
          refine q_move rfl rfl ?_
          refine q_addW rfl rfl rfl ?_
          refine q_assign rfl rfl ?_
          refine eseq_nil ?_
          obtain rfl := Option.some.inj ho2047
          exact ⟨m2047, _, Nat.lt_succ_self _, ⟨x2132, (w64 (x2082 + 1)), v2131, _, ht2047, (hS.pickB [1, 2, 3, 4] 5 rfl rfl), f2076, rfl⟩, Sub.cons rfl (Sub.cons rfl (Sub.cons rfl (Sub.cons rfl (Sub.cons rfl (Sub.cons rfl (Sub.cons rfl (Sub.nil _)))))))⟩
        · replace ho2047 := (if_neg (not_true hc2124)).symm.trans ho2047
          refine e_exit ?_
          obtain rfl := Option.some.inj ho2047
          obtain rfl := Option.some.inj ht2047
          exact hX2047_2 x2080 v2079 _ _ _ ho1085 hS f2076 (Sub.cons rfl (Sub.cons rfl (Sub.cons rfl (Sub.cons rfl (Sub.cons rfl (Sub.cons rfl (Sub.nil _)))))))
    · replace ho1085 := (if_neg (not_true hc1811)).symm.trans ho1085
      refine e_exit ?_
      obtain rfl := Option.some.inj ho1085
      obtain rfl := Option.some.inj ht1085
      exact hX1085_0  _ _ _ h (hS.pickB [] 4 rfl rfl)  (Sub.nil _)
end Go.Proofs.Ytfgmboklpjanlaa
