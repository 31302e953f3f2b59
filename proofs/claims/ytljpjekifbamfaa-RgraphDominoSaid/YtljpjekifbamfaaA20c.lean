/- Printed walks: A20c. -/
import Derived.Test.YtljpjekifbamfaaA20b
import Derived.Test.YtljpjekifbamfaaApat
import Derived.Test.YtljpjekifbamfaaA18a
import Derived.Test.YtljpjekifbamfaaA18r
set_option linter.unusedVariables false
set_option linter.unusedSimpArgs false
namespace Go.Mine
open Go.RowKit
def ref03_SameInts_K1 (fuel : Nat) : Option (Bool) :=
  some true
def ref03_SameInts_B1 (fuel : Nat) (a0 : (List Int)) (a1 : (List Int)) (x99 : Int) : Option ((Int) ⊕ (Unit ⊕ (Bool))) :=
  (if (decide (x99 < (a0.length : Int))) = true then (ati a0 x99).bind fun x124 => (ati a1 x99).bind fun x126 => (if (x124 != x126) = true then some (Sum.inr (Sum.inr false)) else some (Sum.inl (w64 (x99 + 1)))) else some (Sum.inr (Sum.inl ())))
def ref03_SameInts (fuel : Nat) (a0 : (List Int)) (a1 : (List Int)) : Option (Bool) :=
  (if ((a0.length : Int) != (a1.length : Int)) = true then some false else (iter (fun s => ref03_SameInts_B1 fuel a0 a1 s) fuel 0).bind (fun t => Sum.elim (fun t => ref03_SameInts_K1 fuel) (fun t => some t) t))
def make_Codes_Procs_K1 (fuel : Nat) (x165 : Int) (x168 : (List Int)) : Option ((List Int) × Int) :=
  some (x168, x165)
def make_Codes_Procs_B1 (fuel : Nat) (a1 : Int) (c0_0 : (List Int)) (x131 : Int) (x134 : (List Int)) (x135 : Int) : Option ((Int × (List Int) × Int) ⊕ (Int × (List Int))) :=
  (if (decide (x135 < a1)) = true then (make_Codes_Next fuel 2 c0_0 x131).bind fun r177 => (if (r177.1 == 1) = true then (snoc x134 x135).bind fun x182 => some (Sum.inl (r177.2, x182, (w64 (x135 + 1)))) else some (Sum.inl (r177.2, x134, (w64 (x135 + 1))))) else some (Sum.inr (x131, x134)))
def make_Codes_Procs (fuel : Nat) (a1 : Int) (c0_0 : (List Int)) (c0_1 : Int) : Option ((List Int) × Int) :=
  (iter (fun s => make_Codes_Procs_B1 fuel a1 c0_0 s.1 s.2.1 s.2.2) fuel (c0_1, ([] : List Int), 0)).bind (fun t => make_Codes_Procs_K1 fuel t.1 t.2)
def law20_nodes_K1 (fuel : Nat) (x198 : Int) (x201 : (List Pt)) : Option ((List Pt) × Int) :=
  some (x201, x198)
def law20_nodes_B1 (fuel : Nat) (a1 : Pat) (c0_0 : (List Int)) (x160 : Int) (x166 : (List Pt)) (x167 : Int) : Option ((Int × (List Pt) × Int) ⊕ (Int × (List Pt))) :=
  (if (decide (0 < x167)) = true then (make_Codes_Next fuel (a1.ckpts.length : Int) c0_0 x160).bind fun r210 => (ati a1.ckpts r210.1).bind fun x211 => (make_Codes_Next fuel (w64 ((x211.length : Int) + 1)) c0_0 r210.2).bind fun r215 => (snoc x166 (⟨r210.1, r215.1⟩ : Pt)).bind fun x219 => some (Sum.inl (r215.2, x219, (w64 (x167 - 1)))) else some (Sum.inr (x160, x166)))
def law20_nodes (fuel : Nat) (a1 : Pat) (c0_0 : (List Int)) (c0_1 : Int) : Option ((List Pt) × Int) :=
  (make_Codes_Next fuel 4 c0_0 c0_1).bind fun r121 => (iter (fun s => law20_nodes_B1 fuel a1 c0_0 s.1 s.2.1 s.2.2) fuel (r121.2, ([] : List Pt), r121.1)).bind (fun t => law20_nodes_K1 fuel t.1 t.2)
def law20_Domino_K1 (fuel : Nat) (x428 : (List Int)) (x432 : (List (List Int))) (x436 : (List Arc)) : Option (Pat) :=
  some (⟨x428, x432, x436⟩ : Pat)
def law20_Domino_B1 (fuel : Nat) (a0 : Int) (x350 : (List Int)) (x354 : (List (List Int))) (x358 : (List Arc)) (x359 : Int) : Option (((List Int) × (List (List Int)) × (List Arc) × Int) ⊕ ((List Int) × (List (List Int)) × (List Arc))) :=
  (if (decide (x359 < a0)) = true then (ref16_Append fuel (⟨x350, x354, x358⟩ : Pat) 0 (-1) 0).bind fun r450 => (ati r450.1.lens 0).bind fun x456 => (ref16_Append fuel (⟨r450.1.lens, r450.1.ckpts, r450.1.arcs⟩ : Pat) 1 0 x456).bind fun r460 => (ref16_Mark fuel (⟨r460.1.lens, r460.1.ckpts, r460.1.arcs⟩ : Pat) 1).bind fun r468 => (ref16_Append fuel (⟨r468.lens, r468.ckpts, r468.arcs⟩ : Pat) 1 (-1) 0).bind fun r475 => (ati r475.1.lens 1).bind fun x481 => (ref16_Append fuel (⟨r475.1.lens, r475.1.ckpts, r475.1.arcs⟩ : Pat) 0 1 x481).bind fun r485 => (ref16_Mark fuel (⟨r485.1.lens, r485.1.ckpts, r485.1.arcs⟩ : Pat) 0).bind fun r492 => some (Sum.inl (r492.lens, r492.ckpts, r492.arcs, (w64 (x359 + 1)))) else some (Sum.inr (x350, x354, x358)))
def law20_Domino (fuel : Nat) (a0 : Int) : Option (Pat) :=
  (iter (fun s => law20_Domino_B1 fuel a0 s.1 s.2.1 s.2.2.1 s.2.2.2) fuel (([0, 0]), ([[0], [0]]), ([] : List Arc), 0)).bind (fun t => law20_Domino_K1 fuel t.1 t.2.1 t.2.2)
def law20_awake (fuel : Nat) : Option (Bool) :=
  (law20_Domino fuel 1).bind fun r55 => (rgraph_Recovery fuel r55 ([1])).bind fun r62 => (andM ((r62.length : Int) == 2) ((ati r62 0).bind fun x72 => some (x72 == 0))).bind fun x71 => (andM x71 ((ati r62 1).bind fun x80 => some (x80 == 0))).bind fun x79 => (andM x79 ((law20_Domino fuel 1).bind fun r96 => (rgraph_Edges fuel r96).bind fun r102 => some (decide (0 < (r102.length : Int))))).bind fun x94 => some x94
def law20_RgraphEdges (fuel : Nat) (a0 : (List Int)) : Option (Bool) :=
  (law20_awake fuel).bind fun r45 => (if (!r45) = true then some false else (make_New fuel a0 240).bind fun r50 => (make_Codes_Pattern fuel 20 r50.1 r50.2).bind fun r54 => (rgraph_Edges fuel (⟨r54.1.lens, r54.1.ckpts, r54.1.arcs⟩ : Pat)).bind fun r74 => (ref20_Edges fuel (⟨r54.1.lens, r54.1.ckpts, r54.1.arcs⟩ : Pat)).bind fun r77 => (ref20_SameEdges fuel r74 r77).bind fun r80 => some r80)
def law20_RgraphReaches_K1 (fuel : Nat) (r526 : (Pat × Int)) (r548 : ((List Pt) × Int)) (r551 : ((List Int) × Int)) : Option (Bool) :=
  (rgraph_Undone fuel (⟨r526.1.lens, r526.1.ckpts, r526.1.arcs⟩ : Pat) r548.1).bind fun r881 => (ref20_Undone fuel (⟨r526.1.lens, r526.1.ckpts, r526.1.arcs⟩ : Pat) r548.1).bind fun r884 => (ref03_SameInts fuel r881 r884).bind fun r887 => (andM r887 ((rgraph_Recovery fuel (⟨r526.1.lens, r526.1.ckpts, r526.1.arcs⟩ : Pat) r551.1).bind fun r901 => (ref20_Recovery fuel (⟨r526.1.lens, r526.1.ckpts, r526.1.arcs⟩ : Pat) r551.1).bind fun r904 => (ref03_SameInts fuel r901 r904).bind fun r907 => some r907)).bind fun x899 => some x899
def law20_RgraphReaches_K2 (fuel : Nat) (x727 : Int) : Option ((Int) ⊕ (Unit ⊕ (Bool))) :=
  some (Sum.inl (w64 (x727 + 1)))
def law20_RgraphReaches_B2 (fuel : Nat) (x920 : (List Bool)) (r565 : ((List (List Bool)))) (x727 : Int) (r569 : ((List (List Bool)))) (x970 : Int) : Option ((Int) ⊕ (Unit ⊕ (Bool))) :=
  (if (decide (x970 < (x920.length : Int))) = true then (ati r565 x727).bind fun x1014 => (ati x1014 x970).bind fun x1015 => (ati r569 x727).bind fun x1017 => (ati x1017 x970).bind fun x1018 => (if (x1015 != x1018) = true then some (Sum.inr (Sum.inr false)) else some (Sum.inl (w64 (x970 + 1)))) else some (Sum.inr (Sum.inl ())))
def law20_RgraphReaches_B1 (fuel : Nat) (r565 : ((List (List Bool)))) (r569 : ((List (List Bool)))) (x727 : Int) : Option ((Int) ⊕ (Unit ⊕ (Bool))) :=
  (if (decide (x727 < (r565.length : Int))) = true then (ati r565 x727).bind fun x915 => (ati r569 x727).bind fun x916 => (if ((x915.length : Int) != (x916.length : Int)) = true then some (Sum.inr (Sum.inr false)) else (ati r565 x727).bind fun x920 => (iter (fun s => law20_RgraphReaches_B2 fuel x920 r565 x727 r569 s) fuel 0).bind (fun t => Sum.elim (fun t => law20_RgraphReaches_K2 fuel x727) (fun t => some (Sum.inr (Sum.inr t))) t)) else some (Sum.inr (Sum.inl ())))
def law20_RgraphReaches (fuel : Nat) (a0 : (List Int)) (a1 : (List Int)) : Option (Bool) :=
  (law20_awake fuel).bind fun r517 => (if (!r517) = true then some false else (make_New fuel a0 240).bind fun r522 => (make_Codes_Pattern fuel 20 r522.1 r522.2).bind fun r526 => (make_New fuel a1 20).bind fun r535 => (law20_nodes fuel (⟨r526.1.lens, r526.1.ckpts, r526.1.arcs⟩ : Pat) r535.1 r535.2).bind fun r548 => (make_Codes_Procs fuel (r526.1.lens.length : Int) r535.1 r548.2).bind fun r551 => (rgraph_Reach fuel (⟨r526.1.lens, r526.1.ckpts, r526.1.arcs⟩ : Pat) r548.1).bind fun r565 => (ref20_Reach fuel (⟨r526.1.lens, r526.1.ckpts, r526.1.arcs⟩ : Pat) r548.1).bind fun r569 => (if ((r565.length : Int) != (r569.length : Int)) = true then some false else (iter (fun s => law20_RgraphReaches_B1 fuel r565 r569 s) fuel 0).bind (fun t => Sum.elim (fun t => law20_RgraphReaches_K1 fuel r526 r548 r551) (fun t => some t) t)))
def hasR (fuel : Nat) (a0 : Pt) (c1_0 : (List (List Bool))) : Option (Bool) :=
  (andM (decide (0 ≤ a0.proc)) (some (decide (a0.proc < (c1_0.length : Int))))).bind fun x46 => (andM x46 (some (decide (0 ≤ a0.index)))).bind fun x50 => (andM x50 ((ati c1_0 a0.proc).bind fun x58 => some (decide (a0.index < (x58.length : Int))))).bind fun x57 => (andM x57 ((ati c1_0 a0.proc).bind fun x71 => (ati x71 a0.index).bind fun x74 => some x74)).bind fun x70 => some x70
def law20_RgraphClosed_K3 (fuel : Nat) : Option (Bool) :=
  some true
def law20_RgraphClosed_K4 (fuel : Nat) (x902 : Int) (r613 : ((List (List Bool)))) (x1081 : Bool) : Option ((Int) ⊕ (Unit ⊕ (Bool))) :=
  (hasR fuel (⟨x902, 0⟩ : Pt) r613).bind fun r1084 => (if (r1084 != x1081) = true then some (Sum.inr (Sum.inr false)) else some (Sum.inl (w64 (x902 + 1))))
def law20_RgraphClosed_B2 (fuel : Nat) (r608 : ((List Pt) × Int)) (x902 : Int) (x1050 : Bool) (x1052 : Int) : Option ((Bool × Int) ⊕ (Bool)) :=
  (if (decide (x1052 < (r608.1.length : Int))) = true then (ati r608.1 x1052).bind fun x1092 => (orM x1050 (some ((x1092.proc == x902) && ((x1092.index == 0) && true)))).bind fun x1101 => some (Sum.inl (x1101, (w64 (x1052 + 1)))) else some (Sum.inr x1050))
def law20_RgraphClosed_B1 (fuel : Nat) (r613 : ((List (List Bool)))) (r608 : ((List Pt) × Int)) (x902 : Int) : Option ((Int) ⊕ (Unit ⊕ (Bool))) :=
  (if (decide (x902 < (r613.length : Int))) = true then (iter (fun s => law20_RgraphClosed_B2 fuel r608 x902 s.1 s.2) fuel (false, 0)).bind (fun t => law20_RgraphClosed_K4 fuel x902 r613 t) else some (Sum.inr (Sum.inl ())))
def law20_RgraphClosed_K2 (fuel : Nat) (r613 : ((List (List Bool)))) (r608 : ((List Pt) × Int)) : Option (Bool) :=
  (iter (fun s => law20_RgraphClosed_B1 fuel r613 r608 s) fuel 0).bind (fun t => Sum.elim (fun t => law20_RgraphClosed_K3 fuel) (fun t => some t) t)
def law20_RgraphClosed_B3 (fuel : Nat) (r705 : ((List Pt2))) (r613 : ((List (List Bool)))) (x751 : Int) : Option ((Int) ⊕ (Unit ⊕ (Bool))) :=
  (if (decide (x751 < (r705.length : Int))) = true then (ati r705 x751).bind fun x1107 => (hasR fuel (⟨x1107.x0.proc, x1107.x0.index⟩ : Pt) r613).bind fun r1115 => (andM r1115 ((hasR fuel (⟨x1107.x1.proc, x1107.x1.index⟩ : Pt) r613).bind fun r1123 => some (!r1123))).bind fun x1121 => (if x1121 = true then some (Sum.inr (Sum.inr false)) else some (Sum.inl (w64 (x751 + 1)))) else some (Sum.inr (Sum.inl ())))
def law20_RgraphClosed_K1 (fuel : Nat) (r586 : (Pat × Int)) (r613 : ((List (List Bool)))) (r608 : ((List Pt) × Int)) : Option (Bool) :=
  (rgraph_Edges fuel (⟨r586.1.lens, r586.1.ckpts, r586.1.arcs⟩ : Pat)).bind fun r705 => (iter (fun s => law20_RgraphClosed_B3 fuel r705 r613 s) fuel 0).bind (fun t => Sum.elim (fun t => law20_RgraphClosed_K2 fuel r613 r608) (fun t => some t) t)
def law20_RgraphClosed_B4 (fuel : Nat) (r608 : ((List Pt) × Int)) (r613 : ((List (List Bool)))) (x667 : Int) : Option ((Int) ⊕ (Unit ⊕ (Bool))) :=
  (if (decide (x667 < (r608.1.length : Int))) = true then (ati r608.1 x667).bind fun x1131 => (hasR fuel (⟨x1131.proc, x1131.index⟩ : Pt) r613).bind fun r1139 => (if (!r1139) = true then some (Sum.inr (Sum.inr false)) else some (Sum.inl (w64 (x667 + 1)))) else some (Sum.inr (Sum.inl ())))
def law20_RgraphClosed (fuel : Nat) (a0 : (List Int)) (a1 : (List Int)) : Option (Bool) :=
  (law20_awake fuel).bind fun r577 => (if (!r577) = true then some false else (make_New fuel a0 240).bind fun r582 => (make_Codes_Pattern fuel 20 r582.1 r582.2).bind fun r586 => (make_New fuel a1 20).bind fun r603 => (law20_nodes fuel (⟨r586.1.lens, r586.1.ckpts, r586.1.arcs⟩ : Pat) r603.1 r603.2).bind fun r608 => (rgraph_Reach fuel (⟨r586.1.lens, r586.1.ckpts, r586.1.arcs⟩ : Pat) r608.1).bind fun r613 => (iter (fun s => law20_RgraphClosed_B4 fuel r608 r613 s) fuel 0).bind (fun t => Sum.elim (fun t => law20_RgraphClosed_K1 fuel r586 r613 r608) (fun t => some t) t))
def law20_RgraphCuts_K1 (fuel : Nat) : Option (Bool) :=
  some true
def law20_RgraphCuts_K3 (fuel : Nat) (x1271 : Bool) (r731 : ((List Int))) (x972 : Int) (r707 : (Pat × Int)) (x1338 : Bool) : Option ((Int) ⊕ (Unit ⊕ (Bool))) :=
  (andM (!x1271) ((orM x1338 ((ati r731 x972).bind fun x1352 => (ati r707.1.lens x972).bind fun x1354 => some (x1352 != x1354))).bind fun x1351 => some x1351)).bind fun x1349 => (if x1349 = true then some (Sum.inr (Sum.inr false)) else some (Sum.inl (w64 (x972 + 1))))
def law20_RgraphCuts_B2 (fuel : Nat) (r727 : ((List Int) × Int)) (x972 : Int) (x1309 : Bool) (x1310 : Int) : Option ((Bool × Int) ⊕ (Bool)) :=
  (if (decide (x1310 < (r727.1.length : Int))) = true then (ati r727.1 x1310).bind fun x1363 => (orM x1309 (some (x1363 == x972))).bind fun x1368 => some (Sum.inl (x1368, (w64 (x1310 + 1)))) else some (Sum.inr x1309))
def law20_RgraphCuts_K2 (fuel : Nat) (r727 : ((List Int) × Int)) (x972 : Int) (r731 : ((List Int))) (r707 : (Pat × Int)) (x1271 : Bool) : Option ((Int) ⊕ (Unit ⊕ (Bool))) :=
  (iter (fun s => law20_RgraphCuts_B2 fuel r727 x972 s.1 s.2) fuel (false, 0)).bind (fun t => law20_RgraphCuts_K3 fuel x1271 r731 x972 r707 t)
def law20_RgraphCuts_B3 (fuel : Nat) (x1192 : (List Int)) (r731 : ((List Int))) (x972 : Int) (x1236 : Bool) (x1238 : Int) : Option ((Bool × Int) ⊕ (Bool)) :=
  (if (decide (x1238 < (x1192.length : Int))) = true then (ati x1192 x1238).bind fun x1374 => (orM x1236 ((ati r731 x972).bind fun x1382 => some (x1374 == x1382))).bind fun x1381 => some (Sum.inl (x1381, (w64 (x1238 + 1)))) else some (Sum.inr x1236))
def law20_RgraphCuts_B1 (fuel : Nat) (r731 : ((List Int))) (r707 : (Pat × Int)) (r727 : ((List Int) × Int)) (x972 : Int) : Option ((Int) ⊕ (Unit ⊕ (Bool))) :=
  (if (decide (x972 < (r731.length : Int))) = true then (ati r707.1.ckpts x972).bind fun x1192 => (iter (fun s => law20_RgraphCuts_B3 fuel x1192 r731 x972 s.1 s.2) fuel (false, 0)).bind (fun t => law20_RgraphCuts_K2 fuel r727 x972 r731 r707 t) else some (Sum.inr (Sum.inl ())))
def law20_RgraphCuts (fuel : Nat) (a0 : (List Int)) (a1 : (List Int)) : Option (Bool) :=
  (law20_awake fuel).bind fun r698 => (if (!r698) = true then some false else (make_New fuel a0 240).bind fun r703 => (make_Codes_Pattern fuel 20 r703.1 r703.2).bind fun r707 => (make_New fuel a1 20).bind fun r723 => (make_Codes_Procs fuel (r707.1.lens.length : Int) r723.1 r723.2).bind fun r727 => (rgraph_Recovery fuel (⟨r707.1.lens, r707.1.ckpts, r707.1.arcs⟩ : Pat) r727.1).bind fun r731 => (cut_Valid fuel (⟨r707.1.lens, r707.1.ckpts, r707.1.arcs⟩ : Pat) r731).bind fun r736 => (orM (!r736) ((cut_Consistent fuel (⟨r707.1.lens, r707.1.ckpts, r707.1.arcs⟩ : Pat) r731).bind fun r744 => some (!r744))).bind fun x742 => (if x742 = true then some false else (iter (fun s => law20_RgraphCuts_B1 fuel r731 r707 r727 s) fuel 0).bind (fun t => Sum.elim (fun t => law20_RgraphCuts_K1 fuel) (fun t => some t) t)))
def law20_RgraphMeets_K1 (fuel : Nat) (r154 : (Pat × Int)) (r174 : ((List Int) × Int)) (x254 : (List Int)) : Option (Bool) :=
  (rgraph_Recovery fuel (⟨r154.1.lens, r154.1.ckpts, r154.1.arcs⟩ : Pat) r174.1).bind fun r258 => (ref03_SameInts fuel r258 x254).bind fun r261 => some r261
def law20_RgraphMeets_B1 (fuel : Nat) (r174 : ((List Int) × Int)) (r154 : (Pat × Int)) (x219 : (List Int)) (x221 : Int) : Option (((List Int) × Int) ⊕ ((List Int))) :=
  (if (decide (x221 < (r174.1.length : Int))) = true then (ati r174.1 x221).bind fun x267 => (rgraph_Recovery fuel (⟨r154.1.lens, r154.1.ckpts, r154.1.arcs⟩ : Pat) ([x267])).bind fun r272 => (cut_Meet fuel x219 r272).bind fun r275 => some (Sum.inl (r275, (w64 (x221 + 1)))) else some (Sum.inr x219))
def law20_RgraphMeets (fuel : Nat) (a0 : (List Int)) (a1 : (List Int)) : Option (Bool) :=
  (law20_awake fuel).bind fun r145 => (if (!r145) = true then some false else (make_New fuel a0 240).bind fun r150 => (make_Codes_Pattern fuel 20 r150.1 r150.2).bind fun r154 => (make_New fuel a1 20).bind fun r170 => (make_Codes_Procs fuel (r154.1.lens.length : Int) r170.1 r170.2).bind fun r174 => (iter (fun s => law20_RgraphMeets_B1 fuel r174 r154 s.1 s.2) fuel (r154.1.lens, 0)).bind (fun t => law20_RgraphMeets_K1 fuel r154 r174 t))
def law20_RgraphDomino (fuel : Nat) (a0 : Int) (a1 : Int) : Option (Bool) :=
  (law20_awake fuel).bind fun r85 => (if (!r85) = true then some false else (remI (w64 a0) 8).bind fun x89 => (law20_Domino fuel (w64 (1 + x89))).bind fun r92 => (rgraph_Recovery fuel (⟨r92.lens, r92.ckpts, r92.arcs⟩ : Pat) ([1])).bind fun r103 => (remI (w64 a1) 2).bind fun x106 => (rgraph_Recovery fuel (⟨r92.lens, r92.ckpts, r92.arcs⟩ : Pat) ([0])).bind fun r111 => (orM ((r103.length : Int) != 2) (some ((r111.length : Int) != 2))).bind fun x118 => (if x118 = true then some false else (ati r103 0).bind fun x122 => (andM (x122 == 0) ((ati r103 1).bind fun x130 => some (x130 == 0))).bind fun x129 => (andM x129 ((ref03_SameInts fuel r111 r92.lens).bind fun r139 => some r139)).bind fun x137 => (andM x137 ((ref18_Consistent fuel (⟨r92.lens, r92.ckpts, r92.arcs⟩ : Pat) r103).bind fun r147 => some r147)).bind fun x145 => (andM x145 ((ati r103 x106).bind fun x156 => (ati r111 x106).bind fun x158 => some (decide (x156 ≤ x158)))).bind fun x155 => some x155))
end Go.Mine
namespace Go.Proofs.Ytljpjekifbamfaa
open Go.RowKit Go.Mine
attribute [local irreducible] eseq ewp iter
theorem ref03_SameInts_w {F R : Nat → Prop} {w : World} {fuel : Nat} {a0 : (List Int)} {a1 : (List Int)} {v1 : Value} {v2 : Value} {r : (Bool)} (hS : Sep F R R w w []) (f1 : IsSlice Ty.int w R v1 a0) (f2 : IsSlice Ty.int w R v2 a1) (h : ref03_SameInts fuel a0 a1 = some r) :
    Gives Try.prog 20 [v1, v2] w fun u w1 => ∃ (R1 : Nat → Prop), u = .bool r ∧ Sep F R R1 w w1 [] := by
  refine fn_of Try.func20 rfl Try.ntmps20 (Nat.le_of_ble_eq_true rfl) ?_
  unfold ref03_SameInts at h
  refine e_seq fun K67 hK67 => ?_
  refine e_region_text rfl ?_
  refine q_assign rfl rfl ?_
  refine eseq_nil ?_
  refine hK67 _ _ ?_
  refine e_seq fun K68 hK68 => ?_
  refine e_seq fun K69 hK69 => ?_
  refine e_region_text rfl ?_
  refine q_move rfl rfl ?_
  refine q_lenS rfl f1 rfl ?_
  refine q_move rfl rfl ?_
  refine q_lenS rfl f2 rfl ?_
  refine q_neq rfl rfl rfl ?_
  refine eseq_nil ?_
  refine hK69 _ _ ?_
  refine e_cond rfl (fun hc70 => ?_) (fun hc70 => ?_)
  · replace h := (if_pos hc70).symm.trans h
    refine e_seq fun K71 hK71 => ?_
    refine e_region_text rfl ?_
    refine q_assign rfl rfl ?_
    refine eseq_nil ?_
    refine hK71 _ _ ?_
    refine e_ret ?_
    obtain rfl := Option.some.inj h
    exact ⟨_, res1 rfl rfl, _, rfl, hS⟩
  · replace h := (if_neg (not_true hc70)).symm.trans h
    refine e_skip ?_
    refine hK68 _ _ ?_
    refine e_seq fun K72 hK72 => ?_
    refine e_seq fun K73 hK73 => ?_
    refine e_region_text rfl ?_
    refine q_assign rfl rfl ?_
    refine eseq_nil ?_
    refine hK73 _ _ ?_
    refine e_block ?_
    obtain ⟨tl74, ht74, h⟩ := Option.of_bind h
    have hX74_0 : ∀ (R116 : Nat → Prop) (w117 : World) (E_ : Env), ref03_SameInts_K1 fuel = some r → Sep F R R116 w w117 [] → Sub [] E_ → K72 E_ w117 := by
      intro R116 w117 E_ h hS  hsub
      refine hK72 _ _ (e_sub hsub ?_); clear hsub
      unfold ref03_SameInts_K1 at h
      refine e_seq fun K118 hK118 => ?_
      refine e_region_text rfl ?_
      refine q_assign rfl rfl ?_
      refine eseq_nil ?_
      refine hK118 _ _ ?_
      refine e_ret ?_
      obtain rfl := Option.some.inj h
      exact ⟨_, res1 rfl rfl, _, rfl, hS⟩
    refine e_loop (fun m_ E_ w96 => ∃ (x99 : Int), ∃ (R95 : Nat → Prop), iter (fun s => ref03_SameInts_B1 fuel a0 a1 s) m_ x99 = some tl74 ∧ Sep F R R95 w w96 [] ∧ IsSlice Ty.int w96 R95 v1 a0 ∧ IsSlice Ty.int w96 R95 v2 a1 ∧ E_ = [(0, v1), (1, v2), (5, .int .i64 x99)]) _ ⟨_, ⟨0, _, ht74, hS, f1, f2, rfl⟩, Sub.cons rfl (Sub.cons rfl (Sub.cons rfl (Sub.nil _)))⟩ ?_
    clear ht74 hS
    rintro m74 _ w96 ⟨x99, R95, ht74, hS, f97, f98, rfl⟩
    obtain ⟨m74, rfl, o74, ho74, ht74⟩ := iter_some ht74
    replace ho74 : ref03_SameInts_B1 fuel a0 a1 x99 = some o74 := ho74
    unfold ref03_SameInts_B1 at ho74
    refine e_seq fun K119 hK119 => ?_
    refine e_seq fun K120 hK120 => ?_
    refine e_region_text rfl ?_
    refine q_move rfl rfl ?_
    refine q_move rfl rfl ?_
    refine q_lenS rfl f97 rfl ?_
    refine q_lss rfl rfl rfl ?_
    refine eseq_nil ?_
    refine hK120 _ _ ?_
    refine e_cond rfl (fun hc121 => ?_) (fun hc121 => ?_)
    · replace ho74 := (if_pos hc121).symm.trans ho74
      refine e_skip ?_
      refine hK119 _ _ ?_
      refine e_seq fun K122 hK122 => ?_
      refine e_block ?_
      refine e_seq fun K123 hK123 => ?_
      refine e_region_draw mixed (fun _ => False) [0, 0, 3, 7, 0, 0, 48, 112, 255] [] [0, 1, 2, 3, 4, 5, 6, 7, 8] (by kernel_rfl) ?_
      refine q_move rfl rfl ?_
      refine q_move rfl rfl ?_
      obtain ⟨x124, hx124, ho74⟩ := Option.of_bind ho74
      refine q_atS (by infer_instance) rfl f97 rfl hx124 rfl fun b125 o125 hm125 f125 => ?_
      refine q_load rfl (Elt.intCell f125) rfl ?_
      refine q_move rfl rfl ?_
      refine q_move rfl rfl ?_
      obtain ⟨x126, hx126, ho74⟩ := Option.of_bind ho74
      refine q_atS (by infer_instance) rfl f98 rfl hx126 rfl fun b127 o127 hm127 f127 => ?_
      refine q_load rfl (Elt.intCell f127) rfl ?_
      refine q_neq rfl rfl rfl ?_
      refine eseq_nil ?_
      refine hK123 _ _ ?_
      refine e_cond rfl (fun hc128 => ?_) (fun hc128 => ?_)
      · replace ho74 := (if_pos hc128).symm.trans ho74
        refine e_seq fun K129 hK129 => ?_
        refine e_region_text rfl ?_
        refine q_assign rfl rfl ?_
        refine eseq_nil ?_
        refine hK129 _ _ ?_
        refine e_ret ?_
        obtain rfl := Option.some.inj ho74
        obtain rfl := Option.some.inj ht74
        obtain rfl := Option.some.inj h
        exact ⟨_, res1 rfl rfl, _, rfl, hS⟩
      · replace ho74 := (if_neg (not_true hc128)).symm.trans ho74
        refine e_skip ?_
        refine hK122 _ _ ?_
        refine e_region_text rfl ?_
        refine q_move rfl rfl ?_
        refine q_addW rfl rfl rfl ?_
        refine q_assign rfl rfl ?_
        refine eseq_nil ?_
        obtain rfl := Option.some.inj ho74
        exact ⟨m74, _, Nat.lt_succ_self _, ⟨(w64 (x99 + 1)), _, ht74, hS, f97, f98, rfl⟩, Sub.cons rfl (Sub.cons rfl (Sub.cons rfl (Sub.nil _)))⟩
    · replace ho74 := (if_neg (not_true hc121)).symm.trans ho74
      refine e_exit ?_
      obtain rfl := Option.some.inj ho74
      obtain rfl := Option.some.inj ht74
      exact hX74_0  _ _ _ h hS  (Sub.nil _)
theorem make_Codes_Procs_w {F R : Nat → Prop} {w : World} {fuel : Nat} {a1 : Int} {c0_0 : (List Int)} {c0_1 : Int} {B0 : Nat} {v2 : Value} {r : ((List Int) × Int)} (hS : Sep F R R w w [HP.blk B0 [v2, .int .i64 c0_1] 54]) (f2 : IsSlice Ty.u8 w R v2 c0_0) (h : make_Codes_Procs fuel a1 c0_0 c0_1 = some r) :
    Gives Try.prog 17 [.pointer (some ⟨B0, 0, none⟩), .int .i64 a1] w fun u w1 => ∃ (v93 : Value), ∃ (R1 : Nat → Prop), u = v93 ∧ Sep F R R1 w w1 [HP.blk B0 [v2, .int .i64 r.2] 54, HP.own Ty.int (fun _ => False) 3 v93 r.1] := by
  refine fn_of Try.func17 rfl Try.ntmps17 (Nat.le_of_ble_eq_true rfl) ?_
  unfold make_Codes_Procs at h
  refine e_seq fun K94 hK94 => ?_
  refine e_region_text rfl ?_
  refine q_assign rfl rfl ?_
  refine eseq_nil ?_
  refine hK94 _ _ ?_
  refine e_seq fun K95 hK95 => ?_
  refine e_region_text rfl ?_
  refine q_assign rfl rfl ?_
  refine eseq_nil ?_
  refine hK95 _ _ ?_
  refine e_seq fun K96 hK96 => ?_
  refine e_seq fun K97 hK97 => ?_
  refine e_region_text rfl ?_
  refine q_assign rfl rfl ?_
  refine eseq_nil ?_
  refine hK97 _ _ ?_
  refine e_block ?_
  obtain ⟨tl98, ht98, h⟩ := Option.of_bind h
  have hX98_0 : ∀ (x165 : Int) (x168 : (List Int)) (v167 : Value) (R162 : Nat → Prop) (w163 : World) (E_ : Env), make_Codes_Procs_K1 fuel x165 x168 = some r → Sep F R R162 w w163 [HP.blk B0 [v2, .int .i64 x165] 54, HP.own Ty.int (fun _ => False) 3 v167 x168] → IsSlice Ty.u8 w163 R162 v2 c0_0 → Sub [(5, v167)] E_ → K96 E_ w163 := by
    intro x165 x168 v167 R162 w163 E_ h hS f164 hsub
    refine hK96 _ _ (e_sub hsub ?_); clear hsub
    unfold make_Codes_Procs_K1 at h
    refine e_seq fun K169 hK169 => ?_
    refine e_region_text rfl ?_
    refine q_move rfl rfl ?_
    refine q_assign rfl rfl ?_
    refine eseq_nil ?_
    refine hK169 _ _ ?_
    refine e_ret ?_
    obtain rfl := Option.some.inj h
    exact ⟨_, res1 rfl rfl, v167, _, rfl, hS⟩
  replace hS := hS.nilOwn0 Ty.int 3
  refine e_loop (fun m_ E_ w129 => ∃ (x131 : Int), ∃ (x134 : (List Int)), ∃ (x135 : Int), ∃ (v133 : Value), ∃ (R128 : Nat → Prop), iter (fun s => make_Codes_Procs_B1 fuel a1 c0_0 s.1 s.2.1 s.2.2) m_ (x131, x134, x135) = some tl98 ∧ Sep F R R128 w w129 [HP.blk B0 [v2, .int .i64 x131] 54, HP.own Ty.int (fun _ => False) 3 v133 x134] ∧ IsSlice Ty.u8 w129 R128 v2 c0_0 ∧ E_ = [(0, .pointer (some ⟨B0, 0, none⟩)), (1, .int .i64 a1), (5, v133), (6, .int .i64 x135)]) _ ⟨_, ⟨c0_1, ([] : List Int), 0, (.slice none 0 0), _, ht98, (hS.pickB [1, 0] 2 rfl rfl), f2, rfl⟩, Sub.cons rfl (Sub.cons rfl (Sub.cons rfl (Sub.cons rfl (Sub.nil _))))⟩ ?_
  clear ht98 hS
  rintro m98 _ w129 ⟨x131, x134, x135, v133, R128, ht98, hS, f130, rfl⟩
  obtain ⟨m98, rfl, o98, ho98, ht98⟩ := iter_some ht98
  replace ho98 : make_Codes_Procs_B1 fuel a1 c0_0 x131 x134 x135 = some o98 := ho98
  unfold make_Codes_Procs_B1 at ho98
  refine e_seq fun K171 hK171 => ?_
  refine e_seq fun K172 hK172 => ?_
  refine e_region_text rfl ?_
  refine q_move rfl rfl ?_
  refine q_move rfl rfl ?_
  refine q_lss rfl rfl rfl ?_
  refine eseq_nil ?_
  refine hK172 _ _ ?_
  refine e_cond rfl (fun hc173 => ?_) (fun hc173 => ?_)
  · replace ho98 := (if_pos hc173).symm.trans ho98
    refine e_skip ?_
    refine hK171 _ _ ?_
    refine e_seq fun K174 hK174 => ?_
    refine e_block ?_
    refine e_seq fun K175 hK175 => ?_
    refine e_region_text rfl ?_
    refine q_move rfl rfl ?_
    obtain ⟨r177, hr177, ho98⟩ := Option.of_bind ho98
    refine q_call rfl (make_Codes_Next_w (Sep.enter (As := [_]) hS) f130 hr177) rfl ?_
    rintro _ w176 ⟨R176, rfl, hC176⟩
    refine ⟨(fun h => by cases h), ?_⟩
    have hk176 := hC176.keptR (Sep.offFeet (As := [_]) hS)
    replace f130 := (f130.kept hk176).mono fun k hk _ => hC176.ro0 k hk
    replace hS := Sep.leave (As := [_]) hS hC176; simp only [List.cons_append, List.nil_append] at hS
    refine q_eql rfl rfl rfl ?_
    refine eseq_nil ?_
    refine hK175 _ _ ?_
    refine e_cond rfl (fun hc178 => ?_) (fun hc178 => ?_)
    · replace ho98 := (if_pos hc178).symm.trans ho98
      refine e_region_text rfl ?_
      refine q_move rfl rfl ?_
      refine q_move rfl rfl ?_
      refine q_litO (T := Ty.int) (S := (fun _ => False)) (cells := [[.int .i64 x135]]) (ys := [x135]) ((Parts.cons rfl rfl Parts.nil)) rfl rfl rfl rfl rfl rfl rfl (fun w1 hB => ⟨rfl, trivial⟩) (fun _ h => h.elim) rfl fun w179 v179 ho179 hv179 hB179 => ?_
      replace f130 := f130.ext hB179
      replace hS := hS.newOwnS hB179 ho179 hv179 (fun _ h => h.elim)
      obtain ⟨x182, hx182, ho98⟩ := Option.of_bind ho98
      refine q_catOwn (T := Ty.int) rfl rfl rfl rfl (hS.own 2 rfl) rfl (hS.own 0 rfl) (fun _ h _ => h.elim) (snoc_cat hx182) (Nat.zero_le _) rfl (fun h => by cases h) fun v181 w181 hw181 hgr181 hnw181 => ?_
      have hk181 := hS.keptOwn 2 rfl hgr181
      replace f130 := f130.kept hk181
      replace hS := hS.setOwn 2 rfl hw181 hgr181 hnw181; simp only [List.set] at hS
      refine q_assign rfl rfl ?_
      refine eseq_nil ?_
      refine hK174 _ _ ?_
      refine e_region_text rfl ?_
      refine q_move rfl rfl ?_
      refine q_addW rfl rfl rfl ?_
      refine q_assign rfl rfl ?_
      refine eseq_nil ?_
      obtain rfl := Option.some.inj ho98
      exact ⟨m98, _, Nat.lt_succ_self _, ⟨r177.2, x182, (w64 (x135 + 1)), v181, _, ht98, (hS.pickB [1, 2] 3 rfl rfl), f130, rfl⟩, Sub.cons rfl (Sub.cons rfl (Sub.cons rfl (Sub.cons rfl (Sub.nil _))))⟩
    · replace ho98 := (if_neg (not_true hc178)).symm.trans ho98
      refine e_skip ?_
      refine hK174 _ _ ?_
      refine e_region_text rfl ?_
      refine q_move rfl rfl ?_
      refine q_addW rfl rfl rfl ?_
      refine q_assign rfl rfl ?_
      refine eseq_nil ?_
      obtain rfl := Option.some.inj ho98
      exact ⟨m98, _, Nat.lt_succ_self _, ⟨r177.2, x134, (w64 (x135 + 1)), v133, _, ht98, hS, f130, rfl⟩, Sub.cons rfl (Sub.cons rfl (Sub.cons rfl (Sub.cons rfl (Sub.nil _))))⟩
  · replace ho98 := (if_neg (not_true hc173)).symm.trans ho98
    refine e_exit ?_
    obtain rfl := Option.some.inj ho98
    obtain rfl := Option.some.inj ht98
    exact hX98_0 x131 x134 v133 _ _ _ h hS f130 (Sub.cons rfl (Sub.nil _))
theorem law20_nodes_w {F R : Nat → Prop} {w : World} {fuel : Nat} {a1 : Pat} {c0_0 : (List Int)} {c0_1 : Int} {v1 : Value} {v2 : Value} {v3 : Value} {B0 : Nat} {v5 : Value} {r : ((List Pt) × Int)} (hS : Sep F R R w w [HP.blk B0 [v5, .int .i64 c0_1] 54]) (f1 : IsSlice Ty.int w R v1 a1.lens) (f2 : IsSlice (Ty.slice Ty.int) w R v2 a1.ckpts) (f3 : IsSlice arcTy w R v3 a1.arcs) (f5 : IsSlice Ty.u8 w R v5 c0_0) (h : law20_nodes fuel a1 c0_0 c0_1 = some r) :
    Gives Try.prog 16 [.pointer (some ⟨B0, 0, none⟩), .agg #[v1, v2, v3]] w fun u w1 => ∃ (v113 : Value), ∃ (R1 : Nat → Prop), u = v113 ∧ Sep F R R1 w w1 [HP.blk B0 [v5, .int .i64 r.2] 54, HP.own ptTy (fun _ => False) 47 v113 r.1] := by
  refine fn_of Try.func16 rfl Try.ntmps16 (Nat.le_of_ble_eq_true rfl) ?_
  unfold law20_nodes at h
  refine e_seq fun K114 hK114 => ?_
  refine e_region_text rfl ?_
  refine q_boxB rfl rfl rfl fun w115 bl115 hg115 hb115 hB115 => ?_
  replace f5 := f5.ext hB115
  replace f1 := f1.ext hB115
  replace f2 := f2.ext hB115
  replace f3 := f3.ext hB115
  replace hS := hS.newBlk hB115 hg115 hb115
  refine q_assign rfl rfl ?_
  refine eseq_nil ?_
  refine hK114 _ _ ?_
  refine e_seq fun K117 hK117 => ?_
  refine e_region_text rfl ?_
  refine q_assign rfl rfl ?_
  refine eseq_nil ?_
  refine hK117 _ _ ?_
  refine e_seq fun K118 hK118 => ?_
  refine e_seq fun K119 hK119 => ?_
  refine e_region_text rfl ?_
  refine q_move rfl rfl ?_
  obtain ⟨r121, hr121, h⟩ := Option.of_bind h
  replace hS := hS.pickB [1, 0] 2 rfl rfl; simp only [List.map_cons, List.map_nil, List.getD_cons_zero, List.getD_cons_succ] at hS
  refine q_call rfl (make_Codes_Next_w (Sep.enter (As := [_]) hS) f5 hr121) rfl ?_
  rintro _ w120 ⟨R120, rfl, hC120⟩
  refine ⟨(fun h => by cases h), ?_⟩
  have hk120 := hC120.keptR (Sep.offFeet (As := [_]) hS)
  replace f5 := (f5.kept hk120).mono fun k hk _ => hC120.ro0 k hk
  replace f1 := (f1.kept hk120).mono fun k hk _ => hC120.ro0 k hk
  replace f2 := (f2.kept hk120).mono fun k hk _ => hC120.ro0 k hk
  replace f3 := (f3.kept hk120).mono fun k hk _ => hC120.ro0 k hk
  replace hS := Sep.leave (As := [_]) hS hC120; simp only [List.cons_append, List.nil_append] at hS
  refine q_assign rfl rfl ?_
  refine eseq_nil ?_
  refine hK119 _ _ ?_
  refine e_block ?_
  obtain ⟨tl122, ht122, h⟩ := Option.of_bind h
  have hX122_0 : ∀ (x198 : Int) (x201 : (List Pt)) (v200 : Value) (R195 : Nat → Prop) (w196 : World) (E_ : Env), law20_nodes_K1 fuel x198 x201 = some r → Sep F R R195 w w196 [HP.blk B0 [v5, .int .i64 x198] 54, HP.own ptTy (fun _ => False) 47 v200 x201] → IsSlice Ty.u8 w196 R195 v5 c0_0 → Sub [(5, v200)] E_ → K118 E_ w196 := by
    intro x198 x201 v200 R195 w196 E_ h hS f197 hsub
    refine hK118 _ _ (e_sub hsub ?_); clear hsub
    unfold law20_nodes_K1 at h
    refine e_seq fun K202 hK202 => ?_
    refine e_region_text rfl ?_
    refine q_move rfl rfl ?_
    refine q_assign rfl rfl ?_
    refine eseq_nil ?_
    refine hK202 _ _ ?_
    refine e_ret ?_
    obtain rfl := Option.some.inj h
    exact ⟨_, res1 rfl rfl, v200, _, rfl, hS⟩
  replace hS := hS.nilOwn0 ptTy 47
  refine e_loop (fun m_ E_ w158 => ∃ (x160 : Int), ∃ (x166 : (List Pt)), ∃ (x167 : Int), ∃ (v165 : Value), ∃ (R157 : Nat → Prop), iter (fun s => law20_nodes_B1 fuel a1 c0_0 s.1 s.2.1 s.2.2) m_ (x160, x166, x167) = some tl122 ∧ Sep F R R157 w w158 [HP.blk B0 [v5, .int .i64 x160] 54, HP.blk bl115 [v1, v2, v3] 28, HP.own ptTy (fun _ => False) 47 v165 x166] ∧ IsSlice Ty.u8 w158 R157 v5 c0_0 ∧ IsSlice Ty.int w158 R157 v1 a1.lens ∧ IsSlice (Ty.slice Ty.int) w158 R157 v2 a1.ckpts ∧ IsSlice arcTy w158 R157 v3 a1.arcs ∧ E_ = [(0, .pointer (some ⟨B0, 0, none⟩)), (3, .pointer (some ⟨bl115, 0, none⟩)), (5, v165), (6, .int .i64 x167)]) _ ⟨_, ⟨r121.2, ([] : List Pt), r121.1, (.slice none 0 0), _, ht122, (hS.pickB [1, 2, 0] 3 rfl rfl), f5, f1, f2, f3, rfl⟩, Sub.cons rfl (Sub.cons rfl (Sub.cons rfl (Sub.cons rfl (Sub.nil _))))⟩ ?_
  clear ht122 hS
  rintro m122 _ w158 ⟨x160, x166, x167, v165, R157, ht122, hS, f159, f161, f162, f163, rfl⟩
  obtain ⟨m122, rfl, o122, ho122, ht122⟩ := iter_some ht122
  replace ho122 : law20_nodes_B1 fuel a1 c0_0 x160 x166 x167 = some o122 := ho122
  unfold law20_nodes_B1 at ho122
  refine e_seq fun K204 hK204 => ?_
  refine e_seq fun K205 hK205 => ?_
  refine e_region_text rfl ?_
  refine q_move rfl rfl ?_
  refine q_gtr rfl rfl rfl ?_
  refine eseq_nil ?_
  refine hK205 _ _ ?_
  refine e_cond rfl (fun hc206 => ?_) (fun hc206 => ?_)
  · replace ho122 := (if_pos hc206).symm.trans ho122
    refine e_skip ?_
    refine hK204 _ _ ?_
    refine e_seq fun K207 hK207 => ?_
    refine e_block ?_
    refine e_seq fun K208 hK208 => ?_
    refine e_region_text rfl ?_
    refine q_move rfl rfl ?_
    refine q_field rfl rfl ?_
    refine q_load rfl (Blk.cell (hS.blk 1 rfl) rfl) rfl ?_
    refine q_lenS rfl f162 rfl ?_
    obtain ⟨r210, hr210, ho122⟩ := Option.of_bind ho122
    refine q_call rfl (make_Codes_Next_w (Sep.enter (As := [_]) hS) f159 hr210) rfl ?_
    rintro _ w209 ⟨R209, rfl, hC209⟩
    refine ⟨(fun h => by cases h), ?_⟩
    have hk209 := hC209.keptR (Sep.offFeet (As := [_]) hS)
    replace f159 := (f159.kept hk209).mono fun k hk _ => hC209.ro0 k hk
    replace f161 := (f161.kept hk209).mono fun k hk _ => hC209.ro0 k hk
    replace f162 := (f162.kept hk209).mono fun k hk _ => hC209.ro0 k hk
    replace f163 := (f163.kept hk209).mono fun k hk _ => hC209.ro0 k hk
    replace hS := Sep.leave (As := [_]) hS hC209; simp only [List.cons_append, List.nil_append] at hS
    refine q_assign rfl rfl ?_
    refine eseq_nil ?_
    refine hK208 _ _ ?_
    refine e_region_text rfl ?_
    refine q_move rfl rfl ?_
    refine q_move rfl rfl ?_
    refine q_move rfl rfl ?_
    refine q_field rfl rfl ?_
    refine q_load rfl (Blk.cell (hS.blk 1 rfl) rfl) rfl ?_
    refine q_move rfl rfl ?_
    obtain ⟨x211, hx211, ho122⟩ := Option.of_bind ho122
    refine q_atS (by infer_instance) rfl f162 rfl hx211 rfl fun b212 o212 hm212 f212 => ?_
    refine q_loadE rfl f212 rfl (fun v213 f213 => ?_)
    refine q_lenS rfl f213 rfl ?_
    refine q_addW rfl rfl rfl ?_
    obtain ⟨r215, hr215, ho122⟩ := Option.of_bind ho122
    refine q_call rfl (make_Codes_Next_w (Sep.enter (As := [_]) hS) f159 hr215) rfl ?_
    rintro _ w214 ⟨R214, rfl, hC214⟩
    refine ⟨(fun h => by cases h), ?_⟩
    have hk214 := hC214.keptR (Sep.offFeet (As := [_]) hS)
    replace f159 := (f159.kept hk214).mono fun k hk _ => hC214.ro0 k hk
    replace f161 := (f161.kept hk214).mono fun k hk _ => hC214.ro0 k hk
    replace f162 := (f162.kept hk214).mono fun k hk _ => hC214.ro0 k hk
    replace f163 := (f163.kept hk214).mono fun k hk _ => hC214.ro0 k hk
    replace hS := Sep.leave (As := [_]) hS hC214; simp only [List.cons_append, List.nil_append] at hS
    refine q_build (Parts.cons rfl rfl (Parts.cons rfl rfl Parts.nil)) rfl rfl ?_
    refine q_litO (T := ptTy) (S := (fun _ => False)) (cells := [[.int .i64 r210.1, .int .i64 r215.1]]) (ys := [(⟨r210.1, r215.1⟩ : Pt)]) ((Parts.cons rfl rfl Parts.nil)) rfl rfl rfl rfl rfl rfl rfl (fun w1 hB => ⟨⟨[_], _, rfl, rfl, rfl⟩, trivial⟩) (fun _ h => h.elim) rfl fun w216 v216 ho216 hv216 hB216 => ?_
    replace f159 := f159.ext hB216
    replace f161 := f161.ext hB216
    replace f162 := f162.ext hB216
    replace f163 := f163.ext hB216
    replace hS := hS.newOwnS hB216 ho216 hv216 (fun _ h => h.elim)
    obtain ⟨x219, hx219, ho122⟩ := Option.of_bind ho122
    refine q_catOwn (T := ptTy) rfl rfl rfl rfl (hS.own 3 rfl) rfl (hS.own 0 rfl) (fun _ h _ => h.elim) (snoc_cat hx219) (Nat.zero_le _) rfl (fun h => by cases h) fun v218 w218 hw218 hgr218 hnw218 => ?_
    have hk218 := hS.keptOwn 3 rfl hgr218
    replace f159 := f159.kept hk218
    replace f161 := f161.kept hk218
    replace f162 := f162.kept hk218
    replace f163 := f163.kept hk218
    replace hS := hS.setOwn 3 rfl hw218 hgr218 hnw218; simp only [List.set] at hS
    refine q_assign rfl rfl ?_
    refine eseq_nil ?_
    refine hK207 _ _ ?_
    refine e_region_text rfl ?_
    refine q_move rfl rfl ?_
    refine q_subW rfl rfl rfl ?_
    refine q_assign rfl rfl ?_
    refine eseq_nil ?_
    obtain rfl := Option.some.inj ho122
    exact ⟨m122, _, Nat.lt_succ_self _, ⟨r215.2, x219, (w64 (x167 - 1)), v218, _, ht122, (hS.pickB [1, 2, 3] 4 rfl rfl), f159, f161, f162, f163, rfl⟩, Sub.cons rfl (Sub.cons rfl (Sub.cons rfl (Sub.cons rfl (Sub.nil _))))⟩
  · replace ho122 := (if_neg (not_true hc206)).symm.trans ho122
    refine e_exit ?_
    obtain rfl := Option.some.inj ho122
    obtain rfl := Option.some.inj ht122
    exact hX122_0 x160 x166 v165 _ _ _ h (hS.pickB [0, 2] 3 rfl rfl) f159 (Sub.cons rfl (Sub.nil _))
theorem law20_Domino_w {F R : Nat → Prop} {w : World} {fuel : Nat} {a0 : Int} {r : (Pat)} (hS : Sep F R R w w []) (h : law20_Domino fuel a0 = some r) :
    Gives Try.prog 26 [.int .i64 a0] w fun u w1 => ∃ (v248 : Value), ∃ (v249 : Value), ∃ (v250 : Value), ∃ (R1 : Nat → Prop), u = .agg #[v248, v249, v250] ∧ Sep F R R1 w w1 [HP.own arcTy (fun _ => False) 59 v250 r.arcs] ∧ IsSlice Ty.int w1 R1 v248 r.lens ∧ IsSlice (Ty.slice Ty.int) w1 R1 v249 r.ckpts := by
  refine fn_of Try.func26 rfl Try.ntmps26 (Nat.le_of_ble_eq_true rfl) ?_
  unfold law20_Domino at h
  refine e_seq fun K251 hK251 => ?_
  refine e_region_text rfl ?_
  refine q_allocB rfl fun w252 bl252 hg252 hb252 hB252 => ?_
  replace hS := hS.newBlk hB252 hg252 hb252
  refine eseq_nil ?_
  refine hK251 _ _ ?_
  refine e_seq fun K254 hK254 => ?_
  refine e_region_text rfl ?_
  refine q_litO (T := Ty.int) (S := (fun _ => False)) (cells := [[.int .i64 0], [.int .i64 0]]) (ys := [0, 0]) ((Parts.cons rfl rfl (Parts.cons rfl rfl Parts.nil))) rfl rfl rfl rfl rfl rfl rfl (fun w1 hB => ⟨rfl, rfl, trivial⟩) (fun _ h => h.elim) rfl fun w255 v255 ho255 hv255 hB255 => ?_
  replace hS := hS.newOwnS hB255 ho255 hv255 (fun _ h => h.elim)
  refine q_litO (T := Ty.int) (S := (fun _ => False)) (cells := [[.int .i64 0]]) (ys := [0]) ((Parts.cons rfl rfl Parts.nil)) rfl rfl rfl rfl rfl rfl rfl (fun w1 hB => ⟨rfl, trivial⟩) (fun _ h => h.elim) rfl fun w257 v257 ho257 hv257 hB257 => ?_
  replace hS := hS.newOwnS hB257 ho257 hv257 (fun _ h => h.elim)
  refine q_litO (T := Ty.int) (S := (fun _ => False)) (cells := [[.int .i64 0]]) (ys := [0]) ((Parts.cons rfl rfl Parts.nil)) rfl rfl rfl rfl rfl rfl rfl (fun w1 hB => ⟨rfl, trivial⟩) (fun _ h => h.elim) rfl fun w259 v259 ho259 hv259 hB259 => ?_
  replace hS := hS.newOwnS hB259 ho259 hv259 (fun _ h => h.elim)
  refine q_litO (T := Ty.raw) (S := (fun _ => False)) (cells := [[v257], [v259]]) (ys := [v257, v259]) ((Parts.cons rfl (cells_one (hS.own 1 rfl).one) (Parts.cons rfl (cells_one (hS.own 0 rfl).one) Parts.nil))) rfl rfl rfl rfl rfl rfl rfl (fun w1 hB => ⟨⟨rfl, (hS.own 1 rfl).one⟩, ⟨rfl, (hS.own 0 rfl).one⟩, trivial⟩) (fun _ h => h.elim) rfl fun w261 v261 ho261 hv261 hB261 => ?_
  replace hS := hS.newOwnS hB261 ho261 hv261 (fun _ h => h.elim)
  replace hS := hS.pickB [2, 0, 1, 3, 4] 5 rfl rfl; simp only [List.map_cons, List.map_nil, List.getD_cons_zero, List.getD_cons_succ] at hS
  replace hS := hS.famOne
  replace hS := hS.pickB [2, 0, 1, 3, 4] 5 rfl rfl; simp only [List.map_cons, List.map_nil, List.getD_cons_zero, List.getD_cons_succ] at hS
  replace hS := hS.famOne
  replace hS := hS.pickB [1, 0, 2, 3, 4] 5 rfl rfl; simp only [List.map_cons, List.map_nil, List.getD_cons_zero, List.getD_cons_succ] at hS
  replace hS := hS.famCat; simp only [List.cons_append, List.nil_append] at hS
  refine q_build (Parts.cons rfl (cells_one (hS.own 2 rfl).one) (Parts.cons rfl (cells_one (hS.own 1 rfl).one) Parts.nil)) rfl rfl ?_
  refine q_allocB rfl fun w265 bl265 hg265 hb265 hB265 => ?_
  replace hS := hS.newBlk hB265 hg265 hb265
  refine q_storeAgg rfl rfl (hS.blk 0 rfl) rfl (Nat.le_of_ble_eq_true rfl) (all_cons (hS.own 3 rfl).one (all_cons (hS.own 2 rfl).one (all_cons rfl (all_nil)))) rfl rfl fun w267 hb267 hO267 => ?_
  simp only [setN, List.set, List.take, List.drop] at hb267
  have hk267 := hS.keptBlk 0 rfl hO267
  replace hS := hS.setBlk 0 rfl hb267 hO267; simp only [List.set] at hS
  refine eseq_nil ?_
  refine hK254 _ _ ?_
  refine e_seq fun K268 hK268 => ?_
  refine e_seq fun K269 hK269 => ?_
  refine e_region_text rfl ?_
  refine q_assign rfl rfl ?_
  refine eseq_nil ?_
  refine hK269 _ _ ?_
  refine e_block ?_
  obtain ⟨tl270, ht270, h⟩ := Option.of_bind h
  have hX270_0 : ∀ (x428 : (List Int)) (x432 : (List (List Int))) (x436 : (List Arc)) (v427 : Value) (v431 : Value) (v435 : Value) (R425 : Nat → Prop) (w426 : World) (E_ : Env), law20_Domino_K1 fuel x428 x432 x436 = some r → Sep F R R425 w w426 [HP.blk bl252 [.slice none 0 0, .slice none 0 0, .slice none 0 0] 28, HP.blk bl265 [v427, v431, v435] 28, HP.own arcTy (fun _ => False) 59 v435 x436] → IsSlice Ty.int w426 R425 v427 x428 → IsSlice (Ty.slice Ty.int) w426 R425 v431 x432 → Sub [(2, .pointer (some ⟨bl252, 0, none⟩)), (3, .pointer (some ⟨bl265, 0, none⟩))] E_ → K268 E_ w426 := by
    intro x428 x432 x436 v427 v431 v435 R425 w426 E_ h hS f429 f433 hsub
    refine hK268 _ _ (e_sub hsub ?_); clear hsub
    unfold law20_Domino_K1 at h
    refine e_seq fun K437 hK437 => ?_
    refine e_region_text rfl ?_
    refine q_loadAgg rfl (Blk.cellsAt (hS.blk 1 rfl) 0 3 rfl) rfl rfl ?_
    refine q_storeAgg rfl rfl (hS.blk 0 rfl) rfl (Nat.le_of_ble_eq_true rfl) (all_cons f429.one (all_cons f433.one (all_cons (hS.own 2 rfl).one (all_nil)))) rfl rfl fun w438 hb438 hO438 => ?_
    simp only [setN, List.set, List.take, List.drop] at hb438
    have hk438 := hS.keptBlk 0 rfl hO438
    replace f429 := f429.kept hk438
    replace f433 := f433.kept hk438
    replace hS := hS.setBlk 0 rfl hb438 hO438; simp only [List.set] at hS
    refine eseq_nil ?_
    refine hK437 _ _ ?_
    refine e_ret ?_
    obtain rfl := Option.some.inj h
    exact ⟨_, resC1 rfl rfl ((hS.blk 0 rfl).cellsAt 0 3 rfl) rfl, v427, v431, v435, _, rfl, (hS.pickB [2] 3 rfl rfl), f429, f433⟩
  obtain ⟨R439, hS, hm439, f439⟩ := hS.freezeOwn 3 rfl; simp only [List.eraseIdx] at hS
  replace hS := hS.pickB [2, 1, 0, 3] 4 rfl rfl; simp only [List.map_cons, List.map_nil, List.getD_cons_zero, List.getD_cons_succ] at hS
  obtain ⟨R440, hS, hm440⟩ := hS.rowsFreeze
  replace f439 := f439.mono fun k hk _ => hm440 k hk
  obtain ⟨R442, hS, hm442, f442⟩ := hS.freezeOwn 0 rfl; simp only [List.eraseIdx] at hS
  replace f439 := f439.mono fun k hk _ => hm442 k hk
  replace hS := hS.nilOwn0 arcTy 59
  refine e_loop (fun m_ E_ w348 => ∃ (x350 : (List Int)), ∃ (x354 : (List (List Int))), ∃ (x358 : (List Arc)), ∃ (x359 : Int), ∃ (v349 : Value), ∃ (v353 : Value), ∃ (v357 : Value), ∃ (R347 : Nat → Prop), iter (fun s => law20_Domino_B1 fuel a0 s.1 s.2.1 s.2.2.1 s.2.2.2) m_ (x350, x354, x358, x359) = some tl270 ∧ Sep F R R347 w w348 [HP.blk bl252 [.slice none 0 0, .slice none 0 0, .slice none 0 0] 28, HP.blk bl265 [v349, v353, v357] 28, HP.own arcTy (fun _ => False) 59 v357 x358] ∧ IsSlice Ty.int w348 R347 v349 x350 ∧ IsSlice (Ty.slice Ty.int) w348 R347 v353 x354 ∧ E_ = [(0, .int .i64 a0), (2, .pointer (some ⟨bl252, 0, none⟩)), (3, .pointer (some ⟨bl265, 0, none⟩)), (4, .int .i64 x359)]) _ ⟨_, ⟨([0, 0]), ([[0], [0]]), ([] : List Arc), 0, v255, v261, (.slice none 0 0), _, ht270, (hS.pickB [2, 1, 0] 3 rfl rfl), f439, f442, rfl⟩, Sub.cons rfl (Sub.cons rfl (Sub.cons rfl (Sub.cons rfl (Sub.nil _))))⟩ ?_
  clear ht270 hS
  rintro m270 _ w348 ⟨x350, x354, x358, x359, v349, v353, v357, R347, ht270, hS, f351, f355, rfl⟩
  obtain ⟨m270, rfl, o270, ho270, ht270⟩ := iter_some ht270
  replace ho270 : law20_Domino_B1 fuel a0 x350 x354 x358 x359 = some o270 := ho270
  unfold law20_Domino_B1 at ho270
  refine e_seq fun K444 hK444 => ?_
  refine e_seq fun K445 hK445 => ?_
  refine e_region_text rfl ?_
  refine q_move rfl rfl ?_
  refine q_move rfl rfl ?_
  refine q_lss rfl rfl rfl ?_
  refine eseq_nil ?_
  refine hK445 _ _ ?_
  refine e_cond rfl (fun hc446 => ?_) (fun hc446 => ?_)
  · replace ho270 := (if_pos hc446).symm.trans ho270
    refine e_skip ?_
    refine hK444 _ _ ?_
    refine e_seq fun K447 hK447 => ?_
    refine e_block ?_
    refine e_seq fun K448 hK448 => ?_
    refine e_region_text rfl ?_
    refine q_loadAgg rfl (Blk.cellsAt (hS.blk 1 rfl) 0 3 rfl) rfl rfl ?_
    obtain ⟨r450, hr450, ho270⟩ := Option.of_bind ho270
    replace hS := hS.pickB [2, 0, 1] 3 rfl rfl; simp only [List.map_cons, List.map_nil, List.getD_cons_zero, List.getD_cons_succ] at hS
    refine q_call rfl (ref16_Append_w (a0 := (⟨x350, x354, x358⟩ : Pat)) (Sep.enter (As := [_]) hS) f351 f355 hr450) rfl ?_
    rintro _ w449 ⟨v451, v452, v453, R449, rfl, hC449, f452⟩
    refine ⟨(fun h => by cases h), ?_⟩
    have hk449 := hC449.keptR (Sep.offFeet (As := [_]) hS)
    replace f351 := (f351.kept hk449).mono fun k hk _ => hC449.ro0 k hk
    replace f355 := (f355.kept hk449).mono fun k hk _ => hC449.ro0 k hk
    replace hS := Sep.leave (As := [_]) hS hC449; simp only [List.cons_append, List.nil_append] at hS
    refine q_move rfl rfl ?_
    refine q_extract rfl rfl rfl ?_
    refine q_extract rfl rfl rfl ?_
    refine q_storeAgg rfl rfl (hS.blk 4 rfl) rfl (Nat.le_of_ble_eq_true rfl) (all_cons (hS.own 1 rfl).one (all_cons f452.one (all_cons (hS.own 2 rfl).one (all_nil)))) rfl rfl fun w454 hb454 hO454 => ?_
    simp only [setN, List.set, List.take, List.drop] at hb454
    have hk454 := hS.keptBlk 4 rfl hO454
    replace f452 := f452.kept hk454
    replace hS := hS.setBlk 4 rfl hb454 hO454; simp only [List.set] at hS
    refine eseq_nil ?_
    refine hK448 _ _ ?_
    refine e_seq fun K455 hK455 => ?_
    refine e_region_draw mixed (fun _ => False) [0, 0, 2, 6, 14, 31, 63, 127, 127, 255] [] [0, 1, 2, 3, 4, 5, 6, 7, 8, 9] (by kernel_rfl) ?_
    refine q_loadAgg rfl (Blk.cellsAt (hS.blk 4 rfl) 0 3 rfl) rfl rfl ?_
    refine q_field rfl rfl ?_
    refine q_load rfl (Blk.cell (hS.blk 4 rfl) rfl) rfl ?_
    obtain ⟨x456, hx456, ho270⟩ := Option.of_bind ho270
    refine q_indexO (by infer_instance) rfl (hS.own 1 rfl) rfl hx456 rfl ?_
    have f457 := (hS.ownR 1 rfl).elt hx456
    refine q_load rfl (Elt.intCell f457) rfl ?_
    obtain ⟨R459, hS, hm459, f459⟩ := hS.freezeOwn 1 rfl; simp only [List.eraseIdx] at hS
    replace f452 := f452.mono fun k hk _ => hm459 k hk
    obtain ⟨r460, hr460, ho270⟩ := Option.of_bind ho270
    replace hS := hS.pickB [1, 0, 2, 3] 4 rfl rfl; simp only [List.map_cons, List.map_nil, List.getD_cons_zero, List.getD_cons_succ] at hS
    refine q_call rfl (ref16_Append_w (a0 := (⟨r450.1.lens, r450.1.ckpts, r450.1.arcs⟩ : Pat)) (Sep.enter (As := [_]) hS) f459 f452 hr460) rfl ?_
    rintro _ w458 ⟨v461, v462, v463, R458, rfl, hC458, f462⟩
    refine ⟨(fun h => by cases h), ?_⟩
    have hk458 := hC458.keptR (Sep.offFeet (As := [_]) hS)
    replace f459 := (f459.kept hk458).mono fun k hk _ => hC458.ro0 k hk
    replace f452 := (f452.kept hk458).mono fun k hk _ => hC458.ro0 k hk
    replace hS := Sep.leave (As := [_]) hS hC458; simp only [List.cons_append, List.nil_append] at hS
    refine q_move rfl rfl ?_
    refine q_extract rfl rfl rfl ?_
    refine q_extract rfl rfl rfl ?_
    refine q_storeAgg rfl rfl (hS.blk 5 rfl) rfl (Nat.le_of_ble_eq_true rfl) (all_cons (hS.own 1 rfl).one (all_cons f462.one (all_cons (hS.own 2 rfl).one (all_nil)))) rfl rfl fun w464 hb464 hO464 => ?_
    simp only [setN, List.set, List.take, List.drop] at hb464
    have hk464 := hS.keptBlk 5 rfl hO464
    replace f462 := f462.kept hk464
    replace hS := hS.setBlk 5 rfl hb464 hO464; simp only [List.set] at hS
    refine eseq_nil ?_
    refine hK455 _ _ ?_
    refine e_seq fun K465 hK465 => ?_
    refine e_region_text rfl ?_
    refine q_loadAgg rfl (Blk.cellsAt (hS.blk 5 rfl) 0 3 rfl) rfl rfl ?_
    obtain ⟨R467, hS, hm467, f467⟩ := hS.freezeOwn 1 rfl; simp only [List.eraseIdx] at hS
    replace f462 := f462.mono fun k hk _ => hm467 k hk
    obtain ⟨r468, hr468, ho270⟩ := Option.of_bind ho270
    replace hS := hS.pickB [1, 0, 2, 3, 4] 5 rfl rfl; simp only [List.map_cons, List.map_nil, List.getD_cons_zero, List.getD_cons_succ] at hS
    refine q_call rfl (ref16_Mark_w (a0 := (⟨r460.1.lens, r460.1.ckpts, r460.1.arcs⟩ : Pat)) (Sep.enter (As := [_]) hS) f467 f462 hr468) rfl ?_
    rintro _ w466 ⟨v469, v470, v471, R466, rfl, hC466, f469, f470⟩
    refine ⟨(fun h => by cases h), ?_⟩
    have hk466 := hC466.keptR (Sep.offFeet (As := [_]) hS)
    replace f467 := (f467.kept hk466).mono fun k hk _ => hC466.ro0 k hk
    replace f462 := (f462.kept hk466).mono fun k hk _ => hC466.ro0 k hk
    replace hS := Sep.leave (As := [_]) hS hC466; simp only [List.cons_append, List.nil_append] at hS
    refine q_storeAgg rfl rfl (hS.blk 4 rfl) rfl (Nat.le_of_ble_eq_true rfl) (all_cons f469.one (all_cons f470.one (all_cons (hS.own 0 rfl).one (all_nil)))) rfl rfl fun w472 hb472 hO472 => ?_
    simp only [setN, List.set, List.take, List.drop] at hb472
    have hk472 := hS.keptBlk 4 rfl hO472
    replace f469 := f469.kept hk472
    replace f470 := f470.kept hk472
    replace hS := hS.setBlk 4 rfl hb472 hO472; simp only [List.set] at hS
    refine eseq_nil ?_
    refine hK465 _ _ ?_
    refine e_seq fun K473 hK473 => ?_
    refine e_region_text rfl ?_
    refine q_loadAgg rfl (Blk.cellsAt (hS.blk 4 rfl) 0 3 rfl) rfl rfl ?_
    obtain ⟨r475, hr475, ho270⟩ := Option.of_bind ho270
    refine q_call rfl (ref16_Append_w (a0 := (⟨r468.lens, r468.ckpts, r468.arcs⟩ : Pat)) (Sep.enter (As := [_]) hS) f469 f470 hr475) rfl ?_
    rintro _ w474 ⟨v476, v477, v478, R474, rfl, hC474, f477⟩
    refine ⟨(fun h => by cases h), ?_⟩
    have hk474 := hC474.keptR (Sep.offFeet (As := [_]) hS)
    replace f469 := (f469.kept hk474).mono fun k hk _ => hC474.ro0 k hk
    replace f470 := (f470.kept hk474).mono fun k hk _ => hC474.ro0 k hk
    replace hS := Sep.leave (As := [_]) hS hC474; simp only [List.cons_append, List.nil_append] at hS
    refine q_move rfl rfl ?_
    refine q_extract rfl rfl rfl ?_
    refine q_extract rfl rfl rfl ?_
    refine q_storeAgg rfl rfl (hS.blk 6 rfl) rfl (Nat.le_of_ble_eq_true rfl) (all_cons (hS.own 1 rfl).one (all_cons f477.one (all_cons (hS.own 2 rfl).one (all_nil)))) rfl rfl fun w479 hb479 hO479 => ?_
    simp only [setN, List.set, List.take, List.drop] at hb479
    have hk479 := hS.keptBlk 6 rfl hO479
    replace f477 := f477.kept hk479
    replace hS := hS.setBlk 6 rfl hb479 hO479; simp only [List.set] at hS
    refine eseq_nil ?_
    refine hK473 _ _ ?_
    refine e_seq fun K480 hK480 => ?_
    refine e_region_draw mixed (fun _ => False) [0, 0, 2, 6, 14, 31, 63, 127, 127, 255] [] [0, 1, 2, 3, 4, 5, 6, 7, 8, 9] (by kernel_rfl) ?_
    refine q_loadAgg rfl (Blk.cellsAt (hS.blk 6 rfl) 0 3 rfl) rfl rfl ?_
    refine q_field rfl rfl ?_
    refine q_load rfl (Blk.cell (hS.blk 6 rfl) rfl) rfl ?_
    obtain ⟨x481, hx481, ho270⟩ := Option.of_bind ho270
    refine q_indexO (by infer_instance) rfl (hS.own 1 rfl) rfl hx481 rfl ?_
    have f482 := (hS.ownR 1 rfl).elt hx481
    refine q_load rfl (Elt.intCell f482) rfl ?_
    obtain ⟨R484, hS, hm484, f484⟩ := hS.freezeOwn 1 rfl; simp only [List.eraseIdx] at hS
    replace f477 := f477.mono fun k hk _ => hm484 k hk
    obtain ⟨r485, hr485, ho270⟩ := Option.of_bind ho270
    replace hS := hS.pickB [1, 0, 2, 3, 4, 5] 6 rfl rfl; simp only [List.map_cons, List.map_nil, List.getD_cons_zero, List.getD_cons_succ] at hS
    refine q_call rfl (ref16_Append_w (a0 := (⟨r475.1.lens, r475.1.ckpts, r475.1.arcs⟩ : Pat)) (Sep.enter (As := [_]) hS) f484 f477 hr485) rfl ?_
    rintro _ w483 ⟨v486, v487, v488, R483, rfl, hC483, f487⟩
    refine ⟨(fun h => by cases h), ?_⟩
    have hk483 := hC483.keptR (Sep.offFeet (As := [_]) hS)
    replace f484 := (f484.kept hk483).mono fun k hk _ => hC483.ro0 k hk
    replace f477 := (f477.kept hk483).mono fun k hk _ => hC483.ro0 k hk
    replace hS := Sep.leave (As := [_]) hS hC483; simp only [List.cons_append, List.nil_append] at hS
    refine q_move rfl rfl ?_
    refine q_extract rfl rfl rfl ?_
    refine q_extract rfl rfl rfl ?_
    refine q_storeAgg rfl rfl (hS.blk 7 rfl) rfl (Nat.le_of_ble_eq_true rfl) (all_cons (hS.own 1 rfl).one (all_cons f487.one (all_cons (hS.own 2 rfl).one (all_nil)))) rfl rfl fun w489 hb489 hO489 => ?_
    simp only [setN, List.set, List.take, List.drop] at hb489
    have hk489 := hS.keptBlk 7 rfl hO489
    replace f487 := f487.kept hk489
    replace hS := hS.setBlk 7 rfl hb489 hO489; simp only [List.set] at hS
    refine eseq_nil ?_
    refine hK480 _ _ ?_
    refine e_region_text rfl ?_
    refine q_loadAgg rfl (Blk.cellsAt (hS.blk 7 rfl) 0 3 rfl) rfl rfl ?_
    obtain ⟨R491, hS, hm491, f491⟩ := hS.freezeOwn 1 rfl; simp only [List.eraseIdx] at hS
    replace f487 := f487.mono fun k hk _ => hm491 k hk
    obtain ⟨r492, hr492, ho270⟩ := Option.of_bind ho270
    replace hS := hS.pickB [1, 0, 2, 3, 4, 5, 6] 7 rfl rfl; simp only [List.map_cons, List.map_nil, List.getD_cons_zero, List.getD_cons_succ] at hS
    refine q_call rfl (ref16_Mark_w (a0 := (⟨r485.1.lens, r485.1.ckpts, r485.1.arcs⟩ : Pat)) (Sep.enter (As := [_]) hS) f491 f487 hr492) rfl ?_
    rintro _ w490 ⟨v493, v494, v495, R490, rfl, hC490, f493, f494⟩
    refine ⟨(fun h => by cases h), ?_⟩
    have hk490 := hC490.keptR (Sep.offFeet (As := [_]) hS)
    replace f491 := (f491.kept hk490).mono fun k hk _ => hC490.ro0 k hk
    replace f487 := (f487.kept hk490).mono fun k hk _ => hC490.ro0 k hk
    replace hS := Sep.leave (As := [_]) hS hC490; simp only [List.cons_append, List.nil_append] at hS
    refine q_storeAgg rfl rfl (hS.blk 6 rfl) rfl (Nat.le_of_ble_eq_true rfl) (all_cons f493.one (all_cons f494.one (all_cons (hS.own 0 rfl).one (all_nil)))) rfl rfl fun w496 hb496 hO496 => ?_
    simp only [setN, List.set, List.take, List.drop] at hb496
    have hk496 := hS.keptBlk 6 rfl hO496
    replace f493 := f493.kept hk496
    replace f494 := f494.kept hk496
    replace hS := hS.setBlk 6 rfl hb496 hO496; simp only [List.set] at hS
    refine eseq_nil ?_
    refine hK447 _ _ ?_
    refine e_region_text rfl ?_
    refine q_move rfl rfl ?_
    refine q_addW rfl rfl rfl ?_
    refine q_assign rfl rfl ?_
    refine eseq_nil ?_
    obtain rfl := Option.some.inj ho270
    exact ⟨m270, _, Nat.lt_succ_self _, ⟨r492.lens, r492.ckpts, r492.arcs, (w64 (x359 + 1)), v493, v494, v495, _, ht270, (hS.pickB [5, 6, 0] 7 rfl rfl), f493, f494, rfl⟩, Sub.cons rfl (Sub.cons rfl (Sub.cons rfl (Sub.cons rfl (Sub.nil _))))⟩
  · replace ho270 := (if_neg (not_true hc446)).symm.trans ho270
    refine e_exit ?_
    obtain rfl := Option.some.inj ho270
    obtain rfl := Option.some.inj ht270
    exact hX270_0 x350 x354 x358 v349 v353 v357 _ _ _ h hS f351 f355 (Sub.cons rfl (Sub.cons rfl (Sub.nil _)))
theorem law20_awake_w {F R : Nat → Prop} {w : World} {fuel : Nat} {r : (Bool)} (hS : Sep F R R w w []) (h : law20_awake fuel = some r) :
    Gives Try.prog 10 [] w fun u w1 => ∃ (R1 : Nat → Prop), u = .bool r ∧ Sep F R R1 w w1 [] := by
  refine fn_of Try.func10 rfl Try.ntmps10 (Nat.le_of_ble_eq_true rfl) ?_
  unfold law20_awake at h
  refine e_seq fun K52 hK52 => ?_
  refine e_region_text rfl ?_
  refine q_assign rfl rfl ?_
  refine eseq_nil ?_
  refine hK52 _ _ ?_
  refine e_seq fun K53 hK53 => ?_
  refine e_region_text rfl ?_
  obtain ⟨r55, hr55, h⟩ := Option.of_bind h
  refine q_call rfl (law20_Domino_w (Sep.enter (As := []) hS)  hr55) rfl ?_
  rintro _ w54 ⟨v56, v57, v58, R54, rfl, hC54, f56, f57⟩
  have hB54 : Below (World.heap w).size w w54 := hC54.stepB0
  refine ⟨fun _ => .of_below hB54, ?_⟩
  replace hS := Sep.leave (As := []) hS hC54; simp only [List.cons_append, List.nil_append] at hS
  refine q_litO (T := Ty.int) (S := (fun _ => False)) (cells := [[.int .i64 1]]) (ys := [1]) ((Parts.cons rfl rfl Parts.nil)) rfl rfl rfl rfl rfl rfl rfl (fun w1 hB => ⟨rfl, trivial⟩) (fun _ h => h.elim) rfl fun w59 v59 ho59 hv59 hB59 => ?_
  replace f56 := f56.ext hB59
  replace f57 := f57.ext hB59
  replace hS := hS.newOwnS hB59 ho59 hv59 (fun _ h => h.elim)
  obtain ⟨r62, hr62, h⟩ := Option.of_bind h
  refine q_call rfl (rgraph_Recovery_w (a0 := r55) (Sep.all w59) (f56).old (f57).old ((hS.isl 1 rfl)).old ((hS.isl 0 rfl)).old hr62) rfl ?_
  rintro v63 w61 ⟨_, R61, rfl, hC61⟩
  have hB61 : Below (World.heap w59).size w59 w61 := hC61.stepBF
  refine ⟨fun _ => .of_below hB61, ?_⟩
  replace f56 := f56.ext hB61
  replace f57 := f57.ext hB61
  replace hS := hS.newOwnS hB61 (hC61.own 0 rfl) (hC61.fresh 0 rfl) (fun _ h => h.elim)
  refine q_assign rfl rfl ?_
  refine eseq_nil ?_
  refine hK53 _ _ ?_
  refine e_seq fun K65 hK65 => ?_
  refine e_region_text rfl ?_
  refine q_move rfl rfl ?_
  refine q_lenS rfl (hS.isl 0 rfl) rfl ?_
  refine q_eql rfl rfl rfl ?_
  refine q_move rfl rfl ?_
  obtain ⟨x71, hx70, h⟩ := Option.of_bind h
  refine g_andM 4 hx70 rfl trivial rfl rfl ?_ ?_ ?_
  · intro hg70 hx70
    clear h
    have hT70 := Below.refl (World.heap w61).size w61
    refine g_run rfl ?_; refine q_move rfl rfl ?_
    obtain ⟨x72, hx72, hx70⟩ := Option.of_bind hx70
    refine g_run rfl ?_; refine q_indexO (by infer_instance) rfl (hS.own 0 rfl) rfl hx72 rfl ?_
    have f73 := (hS.ownR 0 rfl).elt hx72
    refine g_run rfl ?_; refine q_load rfl (Elt.intCell f73) rfl ?_
    refine g_run rfl ?_; refine q_eql rfl rfl rfl ?_
    cases hx70
    exact eseq_nil ⟨hT70, Sub.set rfl (Sub.set rfl (Sub.set rfl (Sub.set rfl (Sub.bool true rfl hg70)))), rfl⟩
  · intro hg70
    refine g_skip rfl rfl rfl ?_
    refine g_skip rfl rfl rfl ?_
    refine g_skip rfl rfl rfl ?_
    refine g_skip rfl rfl rfl ?_
    exact eseq_nil ⟨rfl, Sub.set rfl (Sub.set rfl (Sub.set rfl (Sub.set rfl (Sub.bool false rfl hg70))))⟩
  intro wm70 hBm70; clear hx70
  replace hS := hS.below hBm70
  refine q_move rfl rfl ?_
  obtain ⟨x79, hx78, h⟩ := Option.of_bind h
  refine g_andM 4 hx78 rfl trivial rfl rfl ?_ ?_ ?_
  · intro hg78 hx78
    clear h
    have hT78 := Below.refl (World.heap wm70).size wm70
    refine g_run rfl ?_; refine q_move rfl rfl ?_
    obtain ⟨x80, hx80, hx78⟩ := Option.of_bind hx78
    refine g_run rfl ?_; refine q_indexO (by infer_instance) rfl (hS.own 0 rfl) rfl hx80 rfl ?_
    have f81 := (hS.ownR 0 rfl).elt hx80
    refine g_run rfl ?_; refine q_load rfl (Elt.intCell f81) rfl ?_
    refine g_run rfl ?_; refine q_eql rfl rfl rfl ?_
    cases hx78
    exact eseq_nil ⟨hT78, Sub.set rfl (Sub.set rfl (Sub.set rfl (Sub.set rfl (Sub.bool true rfl hg78)))), rfl⟩
  · intro hg78
    refine g_skip rfl rfl rfl ?_
    refine g_skip rfl rfl rfl ?_
    refine g_skip rfl rfl rfl ?_
    refine g_skip rfl rfl rfl ?_
    exact eseq_nil ⟨rfl, Sub.set rfl (Sub.set rfl (Sub.set rfl (Sub.set rfl (Sub.bool false rfl hg78))))⟩
  intro wm78 hBm78; clear hx78
  replace hS := hS.below hBm78
  refine q_move rfl rfl ?_
  obtain ⟨x94, hx93, h⟩ := Option.of_bind h
  refine g_andM 4 hx93 rfl trivial rfl rfl ?_ ?_ ?_
  · intro hg93 hx93
    clear h
    have hT93 := Below.refl (World.heap wm78).size wm78
    obtain ⟨r96, hr96, hx93⟩ := Option.of_bind hx93
    refine g_run rfl ?_; refine q_call rfl (law20_Domino_w (Sep.enter (As := []) hS)  hr96) rfl ?_
    rintro _ w95 ⟨v97, v98, v99, R95, rfl, hC95, f97, f98⟩
    have hB95 : Below (World.heap wm78).size wm78 w95 := hC95.stepB0
    refine ⟨fun _ => .of_below hB95, ?_⟩
    replace hT93 := hT93.trans (Below.mono hB95 hT93.size)
    replace hS := Sep.leave (As := []) hS hC95; simp only [List.cons_append, List.nil_append] at hS
    obtain ⟨R101, hS, hm101, f101⟩ := hS.freezeOwn 0 rfl; simp only [List.eraseIdx] at hS
    replace f97 := f97.mono fun k hk _ => hm101 k hk
    replace f98 := f98.mono fun k hk _ => hm101 k hk
    obtain ⟨r102, hr102, hx93⟩ := Option.of_bind hx93
    refine g_run rfl ?_; refine q_call rfl (rgraph_Edges_w (a0 := r96) (Sep.enter (As := []) hS) f97 f98 f101 hr102) rfl ?_
    rintro v103 w100 ⟨_, R100, rfl, hC100, f103⟩
    have hB100 : Below (World.heap w95).size w95 w100 := hC100.stepB0
    refine ⟨fun _ => .of_below hB100, ?_⟩
    replace f97 := (f97.ext hB100).mono fun k hk _ => hC100.ro0 k hk
    replace f98 := (f98.ext hB100).mono fun k hk _ => hC100.ro0 k hk
    replace f101 := (f101.ext hB100).mono fun k hk _ => hC100.ro0 k hk
    replace hT93 := hT93.trans (Below.mono hB100 hT93.size)
    replace hS := Sep.leave (As := []) hS hC100; simp only [List.cons_append, List.nil_append] at hS
    refine g_run rfl ?_; refine q_lenS rfl f103 rfl ?_
    refine g_run rfl ?_; refine q_gtr rfl rfl rfl ?_
    cases hx93
    exact eseq_nil ⟨hT93, Sub.set rfl (Sub.set rfl (Sub.set rfl (Sub.set rfl (Sub.bool true rfl hg93)))), rfl⟩
  · intro hg93
    refine g_skip rfl rfl rfl ?_
    refine g_skip rfl rfl rfl ?_
    refine g_skip rfl rfl rfl ?_
    refine g_skip rfl rfl rfl ?_
    exact eseq_nil ⟨rfl, Sub.set rfl (Sub.set rfl (Sub.set rfl (Sub.set rfl (Sub.bool false rfl hg93))))⟩
  intro wm93 hBm93; clear hx93
  replace hS := hS.below hBm93
  refine q_assign rfl rfl ?_
  refine eseq_nil ?_
  refine hK65 _ _ ?_
  refine e_ret ?_
  obtain rfl := Option.some.inj h
  exact ⟨_, res1 rfl rfl, _, rfl, (hS.pickB [] 3 rfl rfl)⟩
theorem law20_RgraphEdges_w {F R : Nat → Prop} {w : World} {fuel : Nat} {a0 : (List Int)} {v1 : Value} {r : (Bool)} (hS : Sep F R R w w []) (f1 : IsSlice Ty.u8 w R v1 a0) (h : law20_RgraphEdges fuel a0 = some r) :
    Gives Try.prog 3 [v1] w fun u w1 => ∃ (R1 : Nat → Prop), u = .bool r ∧ Sep F R R1 w w1 [] := by
  refine fn_of Try.func3 rfl Try.ntmps3 (Nat.le_of_ble_eq_true rfl) ?_
  unfold law20_RgraphEdges at h
  refine e_seq fun K41 hK41 => ?_
  refine e_region_text rfl ?_
  refine q_assign rfl rfl ?_
  refine eseq_nil ?_
  refine hK41 _ _ ?_
  refine e_seq fun K42 hK42 => ?_
  refine e_seq fun K43 hK43 => ?_
  refine e_region_text rfl ?_
  obtain ⟨r45, hr45, h⟩ := Option.of_bind h
  refine q_call rfl (law20_awake_w (Sep.enter (As := []) hS)  hr45) rfl ?_
  rintro _ w44 ⟨R44, rfl, hC44⟩
  have hB44 : Below (World.heap w).size w w44 := hC44.stepB0
  refine ⟨fun _ => .of_below hB44, ?_⟩
  replace f1 := (f1.ext hB44).mono fun k hk _ => hC44.ro0 k hk
  replace hS := Sep.leave (As := []) hS hC44; simp only [List.cons_append, List.nil_append] at hS
  refine q_not rfl rfl ?_
  refine eseq_nil ?_
  refine hK43 _ _ ?_
  refine e_cond rfl (fun hc46 => ?_) (fun hc46 => ?_)
  · replace h := (if_pos hc46).symm.trans h
    refine e_seq fun K47 hK47 => ?_
    refine e_region_text rfl ?_
    refine q_assign rfl rfl ?_
    refine eseq_nil ?_
    refine hK47 _ _ ?_
    refine e_ret ?_
    obtain rfl := Option.some.inj h
    exact ⟨_, res1 rfl rfl, _, rfl, hS⟩
  · replace h := (if_neg (not_true hc46)).symm.trans h
    refine e_skip ?_
    refine hK42 _ _ ?_
    refine e_seq fun K48 hK48 => ?_
    refine e_region_text rfl ?_
    refine q_move rfl rfl ?_
    obtain ⟨r50, hr50, h⟩ := Option.of_bind h
    refine q_call rfl (make_New_w (Sep.enter (As := []) hS) f1 hr50) rfl ?_
    rintro _ w49 ⟨B51, v52, R49, rfl, hC49, f52⟩
    have hB49 : Below (World.heap w44).size w44 w49 := hC49.stepB0
    refine ⟨fun _ => .of_below hB49, ?_⟩
    replace f1 := (f1.ext hB49).mono fun k hk _ => hC49.ro0 k hk
    replace hS := Sep.leave (As := []) hS hC49; simp only [List.cons_append, List.nil_append] at hS
    obtain ⟨r54, hr54, h⟩ := Option.of_bind h
    refine q_call rfl (make_Codes_Pattern_w (Sep.enter (As := [_]) hS) f52 hr54) rfl ?_
    rintro _ w53 ⟨v55, v56, v57, R53, rfl, hC53, f55, f56⟩
    refine ⟨(fun h => by cases h), ?_⟩
    have hk53 := hC53.keptR (Sep.offFeet (As := [_]) hS)
    replace f52 := (f52.kept hk53).mono fun k hk _ => hC53.ro0 k hk
    replace hS := Sep.leave (As := [_]) hS hC53; simp only [List.cons_append, List.nil_append] at hS
    refine q_allocB rfl fun w58 bl58 hg58 hb58 hB58 => ?_
    replace f55 := f55.ext hB58
    replace f56 := f56.ext hB58
    replace hS := hS.newBlk hB58 hg58 hb58
    refine q_storeAgg rfl rfl (hS.blk 0 rfl) rfl (Nat.le_of_ble_eq_true rfl) (all_cons f55.one (all_cons f56.one (all_cons (hS.own 2 rfl).one (all_nil)))) rfl rfl fun w60 hb60 hO60 => ?_
    simp only [setN, List.set, List.take, List.drop] at hb60
    have hk60 := hS.keptBlk 0 rfl hO60
    replace f55 := f55.kept hk60
    replace f56 := f56.kept hk60
    replace hS := hS.setBlk 0 rfl hb60 hO60; simp only [List.set] at hS
    refine eseq_nil ?_
    refine hK48 _ _ ?_
    refine e_seq fun K61 hK61 => ?_
    refine e_region_draw mixed (fun _ => False) [0, 1, 0, 7, 15, 31] [1] [0, 2, 1, 3, 4, 5] (by kernel_rfl) ?_
    refine q_loadAgg rfl (Blk.cellsAt (hS.blk 0 rfl) 0 3 rfl) rfl rfl ?_
    refine q_loadAgg rfl (Blk.cellsAt (hS.blk 0 rfl) 0 3 rfl) rfl rfl ?_
    obtain ⟨R73, hS, hm73, f73⟩ := hS.freezeOwn 2 rfl; simp only [List.eraseIdx] at hS
    replace f55 := f55.mono fun k hk _ => hm73 k hk
    replace f56 := f56.mono fun k hk _ => hm73 k hk
    obtain ⟨r74, hr74, h⟩ := Option.of_bind h
    refine q_call rfl (rgraph_Edges_w (a0 := (⟨r54.1.lens, r54.1.ckpts, r54.1.arcs⟩ : Pat)) (Sep.enter (As := []) hS) f55 f56 f73 hr74) rfl ?_
    rintro v75 w72 ⟨_, R72, rfl, hC72, f75⟩
    have hB72 : Below (World.heap w60).size w60 w72 := hC72.stepB0
    refine ⟨fun _ => .of_below hB72, ?_⟩
    replace f55 := (f55.ext hB72).mono fun k hk _ => hC72.ro0 k hk
    replace f56 := (f56.ext hB72).mono fun k hk _ => hC72.ro0 k hk
    replace f73 := (f73.ext hB72).mono fun k hk _ => hC72.ro0 k hk
    replace hS := Sep.leave (As := []) hS hC72; simp only [List.cons_append, List.nil_append] at hS
    obtain ⟨r77, hr77, h⟩ := Option.of_bind h
    refine q_call rfl (ref20_Edges_w (a0 := (⟨r54.1.lens, r54.1.ckpts, r54.1.arcs⟩ : Pat)) (Sep.enter (As := []) hS) f55 f56 f73 hr77) rfl ?_
    rintro v78 w76 ⟨_, R76, rfl, hC76, f78⟩
    have hB76 : Below (World.heap w72).size w72 w76 := hC76.stepB0
    refine ⟨fun _ => .of_below hB76, ?_⟩
    replace f75 := (f75.ext hB76).mono fun k hk _ => hC76.ro0 k hk
    replace f55 := (f55.ext hB76).mono fun k hk _ => hC76.ro0 k hk
    replace f56 := (f56.ext hB76).mono fun k hk _ => hC76.ro0 k hk
    replace f73 := (f73.ext hB76).mono fun k hk _ => hC76.ro0 k hk
    replace hS := Sep.leave (As := []) hS hC76; simp only [List.cons_append, List.nil_append] at hS
    obtain ⟨r80, hr80, h⟩ := Option.of_bind h
    refine q_call rfl (ref20_SameEdges_w (Sep.enter (As := []) hS) f75 f78 hr80) rfl ?_
    rintro _ w79 ⟨R79, rfl, hC79⟩
    have hB79 : Below (World.heap w76).size w76 w79 := hC79.stepB0
    refine ⟨fun _ => .of_below hB79, ?_⟩
    replace f75 := (f75.ext hB79).mono fun k hk _ => hC79.ro0 k hk
    replace f78 := (f78.ext hB79).mono fun k hk _ => hC79.ro0 k hk
    replace hS := Sep.leave (As := []) hS hC79; simp only [List.cons_append, List.nil_append] at hS
    refine q_assign rfl rfl ?_
    refine eseq_nil ?_
    refine hK61 _ _ ?_
    refine e_ret ?_
    obtain rfl := Option.some.inj h
    exact ⟨_, res1 rfl rfl, _, rfl, (hS.pickB [] 2 rfl rfl)⟩
theorem law20_RgraphReaches_w {F R : Nat → Prop} {w : World} {fuel : Nat} {a0 : (List Int)} {a1 : (List Int)} {v1 : Value} {v2 : Value} {r : (Bool)} (hS : Sep F R R w w []) (f1 : IsSlice Ty.u8 w R v1 a0) (f2 : IsSlice Ty.u8 w R v2 a1) (h : law20_RgraphReaches fuel a0 a1 = some r) :
    Gives Try.prog 4 [v1, v2] w fun u w1 => ∃ (R1 : Nat → Prop), u = .bool r ∧ Sep F R R1 w w1 [] := by
  refine fn_of Try.func4 rfl Try.ntmps4 (Nat.le_of_ble_eq_true rfl) ?_
  unfold law20_RgraphReaches at h
  refine e_seq fun K513 hK513 => ?_
  refine e_region_text rfl ?_
  refine q_assign rfl rfl ?_
  refine eseq_nil ?_
  refine hK513 _ _ ?_
  refine e_seq fun K514 hK514 => ?_
  refine e_seq fun K515 hK515 => ?_
  refine e_region_text rfl ?_
  obtain ⟨r517, hr517, h⟩ := Option.of_bind h
  refine q_call rfl (law20_awake_w (Sep.enter (As := []) hS)  hr517) rfl ?_
  rintro _ w516 ⟨R516, rfl, hC516⟩
  have hB516 : Below (World.heap w).size w w516 := hC516.stepB0
  refine ⟨fun _ => .of_below hB516, ?_⟩
  replace f1 := (f1.ext hB516).mono fun k hk _ => hC516.ro0 k hk
  replace f2 := (f2.ext hB516).mono fun k hk _ => hC516.ro0 k hk
  replace hS := Sep.leave (As := []) hS hC516; simp only [List.cons_append, List.nil_append] at hS
  refine q_not rfl rfl ?_
  refine eseq_nil ?_
  refine hK515 _ _ ?_
  refine e_cond rfl (fun hc518 => ?_) (fun hc518 => ?_)
  · replace h := (if_pos hc518).symm.trans h
    refine e_seq fun K519 hK519 => ?_
    refine e_region_text rfl ?_
    refine q_assign rfl rfl ?_
    refine eseq_nil ?_
    refine hK519 _ _ ?_
    refine e_ret ?_
    obtain rfl := Option.some.inj h
    exact ⟨_, res1 rfl rfl, _, rfl, hS⟩
  · replace h := (if_neg (not_true hc518)).symm.trans h
    refine e_skip ?_
    refine hK514 _ _ ?_
    refine e_seq fun K520 hK520 => ?_
    refine e_region_text rfl ?_
    refine q_move rfl rfl ?_
    obtain ⟨r522, hr522, h⟩ := Option.of_bind h
    refine q_call rfl (make_New_w (Sep.enter (As := []) hS) f1 hr522) rfl ?_
    rintro _ w521 ⟨B523, v524, R521, rfl, hC521, f524⟩
    have hB521 : Below (World.heap w516).size w516 w521 := hC521.stepB0
    refine ⟨fun _ => .of_below hB521, ?_⟩
    replace f2 := (f2.ext hB521).mono fun k hk _ => hC521.ro0 k hk
    replace f1 := (f1.ext hB521).mono fun k hk _ => hC521.ro0 k hk
    replace hS := Sep.leave (As := []) hS hC521; simp only [List.cons_append, List.nil_append] at hS
    obtain ⟨r526, hr526, h⟩ := Option.of_bind h
    refine q_call rfl (make_Codes_Pattern_w (Sep.enter (As := [_]) hS) f524 hr526) rfl ?_
    rintro _ w525 ⟨v527, v528, v529, R525, rfl, hC525, f527, f528⟩
    refine ⟨(fun h => by cases h), ?_⟩
    have hk525 := hC525.keptR (Sep.offFeet (As := [_]) hS)
    replace f2 := (f2.kept hk525).mono fun k hk _ => hC525.ro0 k hk
    replace f524 := (f524.kept hk525).mono fun k hk _ => hC525.ro0 k hk
    replace hS := Sep.leave (As := [_]) hS hC525; simp only [List.cons_append, List.nil_append] at hS
    refine q_allocB rfl fun w530 bl530 hg530 hb530 hB530 => ?_
    replace f2 := f2.ext hB530
    replace f527 := f527.ext hB530
    replace f528 := f528.ext hB530
    replace hS := hS.newBlk hB530 hg530 hb530
    refine q_storeAgg rfl rfl (hS.blk 0 rfl) rfl (Nat.le_of_ble_eq_true rfl) (all_cons f527.one (all_cons f528.one (all_cons (hS.own 2 rfl).one (all_nil)))) rfl rfl fun w532 hb532 hO532 => ?_
    simp only [setN, List.set, List.take, List.drop] at hb532
    have hk532 := hS.keptBlk 0 rfl hO532
    replace f2 := f2.kept hk532
    replace f527 := f527.kept hk532
    replace f528 := f528.kept hk532
    replace hS := hS.setBlk 0 rfl hb532 hO532; simp only [List.set] at hS
    refine eseq_nil ?_
    refine hK520 _ _ ?_
    refine e_seq fun K533 hK533 => ?_
    refine e_region_text rfl ?_
    refine q_move rfl rfl ?_
    obtain ⟨r535, hr535, h⟩ := Option.of_bind h
    refine q_call rfl (make_New_w (Sep.enter (As := []) hS) f2 hr535) rfl ?_
    rintro _ w534 ⟨B536, v537, R534, rfl, hC534, f537⟩
    have hB534 : Below (World.heap w532).size w532 w534 := hC534.stepB0
    refine ⟨fun _ => .of_below hB534, ?_⟩
    replace f527 := (f527.ext hB534).mono fun k hk _ => hC534.ro0 k hk
    replace f528 := (f528.ext hB534).mono fun k hk _ => hC534.ro0 k hk
    replace f2 := (f2.ext hB534).mono fun k hk _ => hC534.ro0 k hk
    replace hS := Sep.leave (As := []) hS hC534; simp only [List.cons_append, List.nil_append] at hS
    refine q_assign rfl rfl ?_
    refine eseq_nil ?_
    refine hK533 _ _ ?_
    refine e_seq fun K538 hK538 => ?_
    refine e_region_draw mixed (fun k => k = B536) [0, 0, 3, 0, 0, 16, 48, 127, 255, 511] [2] [0, 1, 3, 4, 5, 6, 2, 7, 8, 9] (by kernel_rfl) ?_
    refine q_move rfl rfl ?_
    refine q_loadAgg rfl (Blk.cellsAt (hS.blk 1 rfl) 0 3 rfl) rfl rfl ?_ (hX := fun hx_ => hS.apart 1 0 rfl rfl (by decide) _ rfl hx_)
    refine q_move rfl rfl ?_
    refine q_field rfl rfl ?_
    refine q_load rfl (Blk.cell (hS.blk 1 rfl) rfl) rfl ?_ (hX := fun hx_ => hS.apart 1 0 rfl rfl (by decide) _ rfl hx_)
    refine q_lenS rfl f527 rfl ?_
    obtain ⟨R547, hS, hm547, f547⟩ := hS.freezeOwn 3 rfl; simp only [List.eraseIdx] at hS
    replace f527 := f527.mono fun k hk _ => hm547 k hk
    replace f528 := f528.mono fun k hk _ => hm547 k hk
    replace f537 := f537.mono fun k hk _ => hm547 k hk
    obtain ⟨r548, hr548, h⟩ := Option.of_bind h
    refine q_call rfl (law20_nodes_w (a1 := (⟨r526.1.lens, r526.1.ckpts, r526.1.arcs⟩ : Pat)) (Sep.enter (As := [_]) hS) f527 f528 f547 f537 hr548) rfl ?_
    rintro v549 w546 ⟨_, R546, rfl, hC546⟩
    refine ⟨fun _ => hC546.relX1, ?_⟩
    have hk546 := hC546.keptR (Sep.offFeet (As := [_]) hS)
    replace f527 := (f527.kept hk546).mono fun k hk _ => hC546.ro0 k hk
    replace f528 := (f528.kept hk546).mono fun k hk _ => hC546.ro0 k hk
    replace f547 := (f547.kept hk546).mono fun k hk _ => hC546.ro0 k hk
    replace f537 := (f537.kept hk546).mono fun k hk _ => hC546.ro0 k hk
    replace hS := Sep.leave (As := [_]) hS hC546; simp only [List.cons_append, List.nil_append] at hS
    obtain ⟨r551, hr551, h⟩ := Option.of_bind h
    refine q_call rfl (make_Codes_Procs_w (Sep.enter (As := [_]) hS) f537 hr551) rfl ?_
    rintro v552 w550 ⟨_, R550, rfl, hC550⟩
    refine ⟨(fun h => by cases h), ?_⟩
    have hk550 := hC550.keptR (Sep.offFeet (As := [_]) hS)
    replace f527 := (f527.kept hk550).mono fun k hk _ => hC550.ro0 k hk
    replace f528 := (f528.kept hk550).mono fun k hk _ => hC550.ro0 k hk
    replace f547 := (f547.kept hk550).mono fun k hk _ => hC550.ro0 k hk
    replace f537 := (f537.kept hk550).mono fun k hk _ => hC550.ro0 k hk
    replace hS := Sep.leave (As := [_]) hS hC550; simp only [List.cons_append, List.nil_append] at hS
    refine q_assign rfl rfl ?_
    refine q_assign rfl rfl ?_
    refine eseq_nil ?_
    refine hK538 _ _ ?_
    refine e_seq fun K553 hK553 => ?_
    refine e_region_draw mixed (fun _ => False) [0, 0, 3, 0, 0, 31, 63, 127] [2] [0, 1, 3, 4, 2, 5, 6, 7] (by kernel_rfl) ?_
    refine q_loadAgg rfl (Blk.cellsAt (hS.blk 3 rfl) 0 3 rfl) rfl rfl ?_
    refine q_move rfl rfl ?_
    refine q_loadAgg rfl (Blk.cellsAt (hS.blk 3 rfl) 0 3 rfl) rfl rfl ?_
    refine q_move rfl rfl ?_
    obtain ⟨R564, hS, hm564, f564⟩ := hS.freezeOwn 2 rfl; simp only [List.eraseIdx] at hS
    replace f527 := f527.mono fun k hk _ => hm564 k hk
    replace f528 := f528.mono fun k hk _ => hm564 k hk
    replace f547 := f547.mono fun k hk _ => hm564 k hk
    obtain ⟨r565, hr565, h⟩ := Option.of_bind h
    refine q_call rfl (rgraph_Reach_w (a0 := (⟨r526.1.lens, r526.1.ckpts, r526.1.arcs⟩ : Pat)) (Sep.enter (As := []) hS) f527 f528 f547 f564 hr565) rfl ?_
    rintro v566 w563 ⟨_, v567, R563, rfl, hC563⟩
    have hB563 : Below (World.heap w550).size w550 w563 := hC563.stepB0
    refine ⟨fun _ => .of_below hB563, ?_⟩
    replace f527 := (f527.ext hB563).mono fun k hk _ => hC563.ro0 k hk
    replace f528 := (f528.ext hB563).mono fun k hk _ => hC563.ro0 k hk
    replace f547 := (f547.ext hB563).mono fun k hk _ => hC563.ro0 k hk
    replace f564 := (f564.ext hB563).mono fun k hk _ => hC563.ro0 k hk
    replace hS := Sep.leave (As := []) hS hC563; simp only [List.cons_append, List.nil_append] at hS
    obtain ⟨r569, hr569, h⟩ := Option.of_bind h
    refine q_call rfl (ref20_Reach_w (a0 := (⟨r526.1.lens, r526.1.ckpts, r526.1.arcs⟩ : Pat)) (Sep.enter (As := []) hS) f527 f528 f547 f564 hr569) rfl ?_
    rintro v570 w568 ⟨_, v571, R568, rfl, hC568⟩
    have hB568 : Below (World.heap w563).size w563 w568 := hC568.stepB0
    refine ⟨fun _ => .of_below hB568, ?_⟩
    replace f527 := (f527.ext hB568).mono fun k hk _ => hC568.ro0 k hk
    replace f528 := (f528.ext hB568).mono fun k hk _ => hC568.ro0 k hk
    replace f547 := (f547.ext hB568).mono fun k hk _ => hC568.ro0 k hk
    replace f564 := (f564.ext hB568).mono fun k hk _ => hC568.ro0 k hk
    replace hS := Sep.leave (As := []) hS hC568; simp only [List.cons_append, List.nil_append] at hS
    refine q_assign rfl rfl ?_
    refine q_assign rfl rfl ?_
    refine eseq_nil ?_
    refine hK553 _ _ ?_
    refine e_seq fun K572 hK572 => ?_
    refine e_seq fun K573 hK573 => ?_
    refine e_region_text rfl ?_
    refine q_move rfl rfl ?_
    refine q_lenR rfl (hS.own 2 rfl) (hS.famLen 3 rfl) rfl ?_
    refine q_move rfl rfl ?_
    refine q_lenR rfl (hS.own 0 rfl) (hS.famLen 1 rfl) rfl ?_
    refine q_neq rfl rfl rfl ?_
    refine eseq_nil ?_
    refine hK573 _ _ ?_
    refine e_cond rfl (fun hc574 => ?_) (fun hc574 => ?_)
    · replace h := (if_pos hc574).symm.trans h
      refine e_seq fun K575 hK575 => ?_
      refine e_region_text rfl ?_
      refine q_assign rfl rfl ?_
      refine eseq_nil ?_
      refine hK575 _ _ ?_
      refine e_ret ?_
      obtain rfl := Option.some.inj h
      exact ⟨_, res1 rfl rfl, _, rfl, (hS.pickB [] 8 rfl rfl)⟩
    · replace h := (if_neg (not_true hc574)).symm.trans h
      refine e_skip ?_
      refine hK572 _ _ ?_
      refine e_seq fun K576 hK576 => ?_
      refine e_seq fun K577 hK577 => ?_
      refine e_region_text rfl ?_
      refine q_move rfl rfl ?_
      refine q_lenR rfl (hS.own 2 rfl) (hS.famLen 3 rfl) rfl ?_
      refine q_move rfl rfl ?_
      refine eseq_nil ?_
      refine hK577 _ _ ?_
      refine e_block ?_
      obtain ⟨tl578, ht578, h⟩ := Option.of_bind h
      have hX578_0 : ∀ (R854 : Nat → Prop) (w855 : World) (E_ : Env), law20_RgraphReaches_K1 fuel r526 r548 r551 = some r → Sep F R R854 w w855 [HP.blk bl530 [v527, v528, v529] 28, HP.own Ty.int (fun _ => False) 3 v552 r551.1] → IsSlice Ty.int w855 R854 v527 r526.1.lens → IsSlice (Ty.slice Ty.int) w855 R854 v528 r526.1.ckpts → IsSlice arcTy w855 R854 v529 r526.1.arcs → IsSlice ptTy w855 R854 v549 r548.1 → Sub [(5, .pointer (some ⟨bl530, 0, none⟩)), (7, v549), (8, v552)] E_ → K576 E_ w855 := by
        intro R854 w855 E_ h hS f856 f857 f858 f859 hsub
        refine hK576 _ _ (e_sub hsub ?_); clear hsub
        unfold law20_RgraphReaches_K1 at h
        refine e_seq fun K861 hK861 => ?_
        refine e_region_draw mixed (fun _ => False) [0, 0, 3, 0, 0, 31, 63, 127, 255, 255, 1023, 255, 255, 8191, 16383, 32767, 65535] [2, 10] [0, 1, 3, 4, 2, 5, 6, 7, 8, 9, 11, 12, 10, 13, 14, 15, 16] (by kernel_rfl) ?_
        refine q_loadAgg rfl (Blk.cellsAt (hS.blk 0 rfl) 0 3 rfl) rfl rfl ?_
        refine q_move rfl rfl ?_
        refine q_loadAgg rfl (Blk.cellsAt (hS.blk 0 rfl) 0 3 rfl) rfl rfl ?_
        refine q_move rfl rfl ?_
        obtain ⟨r881, hr881, h⟩ := Option.of_bind h
        refine q_call rfl (rgraph_Undone_w (a0 := (⟨r526.1.lens, r526.1.ckpts, r526.1.arcs⟩ : Pat)) (Sep.enter (As := []) hS) f856 f857 f858 f859 hr881) rfl ?_
        rintro v882 w880 ⟨_, R880, rfl, hC880⟩
        have hB880 : Below (World.heap w855).size w855 w880 := hC880.stepB0
        refine ⟨fun _ => .of_below hB880, ?_⟩
        replace f856 := (f856.ext hB880).mono fun k hk _ => hC880.ro0 k hk
        replace f857 := (f857.ext hB880).mono fun k hk _ => hC880.ro0 k hk
        replace f858 := (f858.ext hB880).mono fun k hk _ => hC880.ro0 k hk
        replace f859 := (f859.ext hB880).mono fun k hk _ => hC880.ro0 k hk
        replace hS := Sep.leave (As := []) hS hC880; simp only [List.cons_append, List.nil_append] at hS
        obtain ⟨r884, hr884, h⟩ := Option.of_bind h
        refine q_call rfl (ref20_Undone_w (a0 := (⟨r526.1.lens, r526.1.ckpts, r526.1.arcs⟩ : Pat)) (Sep.enter (As := []) hS) f856 f857 f858 f859 hr884) rfl ?_
        rintro v885 w883 ⟨_, R883, rfl, hC883⟩
        have hB883 : Below (World.heap w880).size w880 w883 := hC883.stepB0
        refine ⟨fun _ => .of_below hB883, ?_⟩
        replace f856 := (f856.ext hB883).mono fun k hk _ => hC883.ro0 k hk
        replace f857 := (f857.ext hB883).mono fun k hk _ => hC883.ro0 k hk
        replace f858 := (f858.ext hB883).mono fun k hk _ => hC883.ro0 k hk
        replace f859 := (f859.ext hB883).mono fun k hk _ => hC883.ro0 k hk
        replace hS := Sep.leave (As := []) hS hC883; simp only [List.cons_append, List.nil_append] at hS
        obtain ⟨r887, hr887, h⟩ := Option.of_bind h
        refine q_call rfl (ref03_SameInts_w (Sep.all w883) ((hS.isl 1 rfl)).old ((hS.isl 0 rfl)).old hr887) rfl ?_
        rintro _ w886 ⟨R886, rfl, hC886⟩
        have hB886 : Below (World.heap w883).size w883 w886 := hC886.stepBF
        refine ⟨fun _ => .of_below hB886, ?_⟩
        replace f856 := f856.ext hB886
        replace f857 := f857.ext hB886
        replace f858 := f858.ext hB886
        replace hS := hS.below hB886
        refine q_move rfl rfl ?_
        obtain ⟨x899, hx898, h⟩ := Option.of_bind h
        refine g_andM 7 hx898 rfl trivial rfl rfl ?_ ?_ ?_
        · intro hg898 hx898
          clear h
          have hT898 := Below.refl (World.heap w886).size w886
          refine g_run rfl ?_; refine q_loadAgg rfl (Blk.cellsAt (hS.blk 2 rfl) 0 3 rfl) rfl rfl ?_
          refine g_run rfl ?_; refine q_move rfl rfl ?_
          refine g_run rfl ?_; refine q_loadAgg rfl (Blk.cellsAt (hS.blk 2 rfl) 0 3 rfl) rfl rfl ?_
          refine g_run rfl ?_; refine q_move rfl rfl ?_
          obtain ⟨r901, hr901, hx898⟩ := Option.of_bind hx898
          refine g_run rfl ?_; refine q_call rfl (rgraph_Recovery_w (a0 := (⟨r526.1.lens, r526.1.ckpts, r526.1.arcs⟩ : Pat)) (Sep.all w886) (f856).old (f857).old (f858).old ((hS.isl 3 rfl)).old hr901) rfl ?_
          rintro v902 w900 ⟨_, R900, rfl, hC900⟩
          have hB900 : Below (World.heap w886).size w886 w900 := hC900.stepBF
          refine ⟨fun _ => .of_below hB900, ?_⟩
          replace f856 := f856.ext hB900
          replace f857 := f857.ext hB900
          replace f858 := f858.ext hB900
          replace hT898 := hT898.trans (Below.mono hB900 hT898.size)
          replace hS := hS.newOwnS hB900 (hC900.own 0 rfl) (hC900.fresh 0 rfl) (fun _ h => h.elim)
          obtain ⟨r904, hr904, hx898⟩ := Option.of_bind hx898
          refine g_run rfl ?_; refine q_call rfl (ref20_Recovery_w (a0 := (⟨r526.1.lens, r526.1.ckpts, r526.1.arcs⟩ : Pat)) (Sep.all w900) (f856).old (f857).old (f858).old ((hS.isl 4 rfl)).old hr904) rfl ?_
          rintro v905 w903 ⟨_, R903, rfl, hC903⟩
          have hB903 : Below (World.heap w900).size w900 w903 := hC903.stepBF
          refine ⟨fun _ => .of_below hB903, ?_⟩
          replace f856 := f856.ext hB903
          replace f857 := f857.ext hB903
          replace f858 := f858.ext hB903
          replace hT898 := hT898.trans (Below.mono hB903 hT898.size)
          replace hS := hS.newOwnS hB903 (hC903.own 0 rfl) (hC903.fresh 0 rfl) (fun _ h => h.elim)
          obtain ⟨r907, hr907, hx898⟩ := Option.of_bind hx898
          refine g_run rfl ?_; refine q_call rfl (ref03_SameInts_w (Sep.all w903) ((hS.isl 1 rfl)).old ((hS.isl 0 rfl)).old hr907) rfl ?_
          rintro _ w906 ⟨R906, rfl, hC906⟩
          have hB906 : Below (World.heap w903).size w903 w906 := hC906.stepBF
          refine ⟨fun _ => .of_below hB906, ?_⟩
          replace hT898 := hT898.trans (Below.mono hB906 hT898.size)
          replace hS := hS.below hB906
          cases hx898
          exact eseq_nil ⟨hT898, Sub.set rfl (Sub.set rfl (Sub.set rfl (Sub.set rfl (Sub.set rfl (Sub.set rfl (Sub.set rfl (Sub.bool true rfl hg898))))))), rfl⟩
        · intro hg898
          refine g_skip rfl rfl rfl ?_
          refine g_skip rfl rfl rfl ?_
          refine g_skip rfl rfl rfl ?_
          refine g_skip rfl rfl rfl ?_
          refine g_skip rfl rfl rfl ?_
          refine g_skip rfl rfl rfl ?_
          refine g_skip rfl rfl rfl ?_
          exact eseq_nil ⟨rfl, Sub.set rfl (Sub.set rfl (Sub.set rfl (Sub.set rfl (Sub.set rfl (Sub.set rfl (Sub.set rfl (Sub.bool false rfl hg898)))))))⟩
        intro wm898 hBm898; clear hx898
        replace hS := hS.below hBm898
        refine q_assign rfl rfl ?_
        refine eseq_nil ?_
        refine hK861 _ _ ?_
        refine e_ret ?_
        obtain rfl := Option.some.inj h
        exact ⟨_, res1 rfl rfl, _, rfl, (hS.pickB [] 4 rfl rfl)⟩
      refine e_loop (fun m_ E_ w717 => ∃ (x727 : Int), ∃ (R716 : Nat → Prop), iter (fun s => law20_RgraphReaches_B1 fuel r565 r569 s) m_ x727 = some tl578 ∧ Sep F R R716 w w717 [HP.blk bl530 [v527, v528, v529] 28, HP.own Ty.int (fun _ => False) 3 v552 r551.1, HP.own Ty.raw (fun _ => False) 41 v566 v567, HP.famS Ty.bool (fun _ => False) 4 v567 r565, HP.own Ty.raw (fun _ => False) 41 v570 v571, HP.famS Ty.bool (fun _ => False) 4 v571 r569] ∧ IsSlice Ty.int w717 R716 v527 r526.1.lens ∧ IsSlice (Ty.slice Ty.int) w717 R716 v528 r526.1.ckpts ∧ IsSlice arcTy w717 R716 v529 r526.1.arcs ∧ IsSlice ptTy w717 R716 v549 r548.1 ∧ E_ = [(5, .pointer (some ⟨bl530, 0, none⟩)), (7, v549), (8, v552), (9, v566), (10, v570), (40, .int .i64 (r565.length : Int)), (41, .int .i64 x727)]) _ ⟨_, ⟨0, _, ht578, (hS.pickB [6, 5, 2, 3, 0, 1] 8 rfl rfl), f527, f528, f547, f564, rfl⟩, Sub.cons rfl (Sub.cons rfl (Sub.cons rfl (Sub.cons rfl (Sub.cons rfl (Sub.cons rfl (Sub.cons rfl (Sub.nil _)))))))⟩ ?_
      clear ht578 hS
      rintro m578 _ w717 ⟨x727, R716, ht578, hS, f718, f719, f720, f721, rfl⟩
      obtain ⟨m578, rfl, o578, ho578, ht578⟩ := iter_some ht578
      replace ho578 : law20_RgraphReaches_B1 fuel r565 r569 x727 = some o578 := ho578
      unfold law20_RgraphReaches_B1 at ho578
      refine e_seq fun K908 hK908 => ?_
      refine e_region_text rfl ?_
      refine q_lss rfl rfl rfl ?_
      refine eseq_nil ?_
      refine hK908 _ _ ?_
      refine e_seq fun K909 hK909 => ?_
      refine e_cond rfl (fun hc910 => ?_) (fun hc910 => ?_)
      · replace ho578 := (if_pos hc910).symm.trans ho578
        refine e_skip ?_
        refine hK909 _ _ ?_
        refine e_seq fun K911 hK911 => ?_
        refine e_block ?_
        refine e_seq fun K912 hK912 => ?_
        refine e_region_text rfl ?_
        refine q_move rfl rfl ?_
        refine q_assign rfl rfl ?_
        refine eseq_nil ?_
        refine hK912 _ _ ?_
        refine e_seq fun K913 hK913 => ?_
        refine e_seq fun K914 hK914 => ?_
        refine e_region_draw mixed (fun _ => False) [0, 0, 3, 7, 15, 0, 0, 96, 224, 480, 1023] [] [0, 1, 2, 3, 4, 5, 6, 7, 8, 9, 10] (by kernel_rfl) ?_
        refine q_move rfl rfl ?_
        refine q_move rfl rfl ?_
        obtain ⟨x915, hx915, ho578⟩ := Option.of_bind ho578
        have hax915 := ati_nth (hS.famLen 3 rfl) hx915
        refine q_indexO (T := Ty.raw) (by infer_instance) rfl (hS.own 2 rfl) rfl hax915 rfl ?_
        refine q_load rfl (Elt.rawCell ((hS.own 2 rfl).elt hax915)) rfl ?_
        refine q_lenS rfl (hS.famI 3 rfl hx915) rfl ?_
        refine q_move rfl rfl ?_
        refine q_move rfl rfl ?_
        obtain ⟨x916, hx916, ho578⟩ := Option.of_bind ho578
        have hax916 := ati_nth (hS.famLen 5 rfl) hx916
        refine q_indexO (T := Ty.raw) (by infer_instance) rfl (hS.own 4 rfl) rfl hax916 rfl ?_
        refine q_load rfl (Elt.rawCell ((hS.own 4 rfl).elt hax916)) rfl ?_
        refine q_lenS rfl (hS.famI 5 rfl hx916) rfl ?_
        refine q_neq rfl rfl rfl ?_
        refine eseq_nil ?_
        refine hK914 _ _ ?_
        refine e_cond rfl (fun hc917 => ?_) (fun hc917 => ?_)
        · replace ho578 := (if_pos hc917).symm.trans ho578
          refine e_seq fun K918 hK918 => ?_
          refine e_region_text rfl ?_
          refine q_assign rfl rfl ?_
          refine eseq_nil ?_
          refine hK918 _ _ ?_
          refine e_ret ?_
          obtain rfl := Option.some.inj ho578
          obtain rfl := Option.some.inj ht578
          obtain rfl := Option.some.inj h
          exact ⟨_, res1 rfl rfl, _, rfl, (hS.pickB [] 6 rfl rfl)⟩
        · replace ho578 := (if_neg (not_true hc917)).symm.trans ho578
          refine e_skip ?_
          refine hK913 _ _ ?_
          refine e_seq fun K919 hK919 => ?_
          refine e_region_text rfl ?_
          refine q_move rfl rfl ?_
          refine q_move rfl rfl ?_
          obtain ⟨x920, hx920, ho578⟩ := Option.of_bind ho578
          have hax920 := ati_nth (hS.famLen 3 rfl) hx920
          refine q_indexO (T := Ty.raw) (by infer_instance) rfl (hS.own 2 rfl) rfl hax920 rfl ?_
          refine q_load rfl (Elt.rawCell ((hS.own 2 rfl).elt hax920)) rfl ?_
          refine q_lenS rfl (hS.famI 3 rfl hx920) rfl ?_
          refine q_move rfl rfl ?_
          refine eseq_nil ?_
          refine hK919 _ _ ?_
          refine e_block ?_
          obtain ⟨tl921, ht921, ho578⟩ := Option.of_bind ho578
          have hX921_2 : ∀ (R997 : Nat → Prop) (w998 : World) (E_ : Env), law20_RgraphReaches_K2 fuel x727 = some o578 → Sep F R R997 w w998 [HP.blk bl530 [v527, v528, v529] 28, HP.own Ty.int (fun _ => False) 3 v552 r551.1, HP.own Ty.raw (fun _ => False) 41 v566 v567, HP.famS Ty.bool (fun _ => False) 4 v567 r565, HP.own Ty.raw (fun _ => False) 41 v570 v571, HP.famS Ty.bool (fun _ => False) 4 v571 r569] → IsSlice Ty.int w998 R997 v527 r526.1.lens → IsSlice (Ty.slice Ty.int) w998 R997 v528 r526.1.ckpts → IsSlice arcTy w998 R997 v529 r526.1.arcs → IsSlice ptTy w998 R997 v549 r548.1 → Sub [(5, .pointer (some ⟨bl530, 0, none⟩)), (7, v549), (8, v552), (9, v566), (10, v570), (40, .int .i64 (r565.length : Int)), (41, .int .i64 x727)] E_ → K911 E_ w998 := by
            intro R997 w998 E_ ho578 hS f999 f1000 f1001 f1002 hsub
            refine hK911 _ _ (e_sub hsub ?_); clear hsub
            unfold law20_RgraphReaches_K2 at ho578
            refine e_region_text rfl ?_
            refine q_addW rfl rfl rfl ?_
            refine q_move rfl rfl ?_
            refine eseq_nil ?_
            obtain rfl := Option.some.inj ho578
            exact ⟨m578, _, Nat.lt_succ_self _, ⟨(w64 (x727 + 1)), _, ht578, hS, f999, f1000, f1001, f1002, rfl⟩, Sub.cons rfl (Sub.cons rfl (Sub.cons rfl (Sub.cons rfl (Sub.cons rfl (Sub.cons rfl (Sub.cons rfl (Sub.nil _)))))))⟩
          refine e_loop (fun m_ E_ w960 => ∃ (x970 : Int), ∃ (R959 : Nat → Prop), iter (fun s => law20_RgraphReaches_B2 fuel x920 r565 x727 r569 s) m_ x970 = some tl921 ∧ Sep F R R959 w w960 [HP.blk bl530 [v527, v528, v529] 28, HP.own Ty.int (fun _ => False) 3 v552 r551.1, HP.own Ty.raw (fun _ => False) 41 v566 v567, HP.famS Ty.bool (fun _ => False) 4 v567 r565, HP.own Ty.raw (fun _ => False) 41 v570 v571, HP.famS Ty.bool (fun _ => False) 4 v571 r569] ∧ IsSlice Ty.int w960 R959 v527 r526.1.lens ∧ IsSlice (Ty.slice Ty.int) w960 R959 v528 r526.1.ckpts ∧ IsSlice arcTy w960 R959 v529 r526.1.arcs ∧ IsSlice ptTy w960 R959 v549 r548.1 ∧ E_ = [(5, .pointer (some ⟨bl530, 0, none⟩)), (7, v549), (8, v552), (9, v566), (10, v570), (11, .int .i64 x727), (40, .int .i64 (r565.length : Int)), (41, .int .i64 x727), (59, .int .i64 (x920.length : Int)), (60, .int .i64 x970)]) _ ⟨_, ⟨0, _, ht921, hS, f718, f719, f720, f721, rfl⟩, Sub.cons rfl (Sub.cons rfl (Sub.cons rfl (Sub.cons rfl (Sub.cons rfl (Sub.cons rfl (Sub.cons rfl (Sub.cons rfl (Sub.cons rfl (Sub.cons rfl (Sub.nil _))))))))))⟩ ?_
          clear ht921 hS
          rintro m921 _ w960 ⟨x970, R959, ht921, hS, f961, f962, f963, f964, rfl⟩
          obtain ⟨m921, rfl, o921, ho921, ht921⟩ := iter_some ht921
          replace ho921 : law20_RgraphReaches_B2 fuel x920 r565 x727 r569 x970 = some o921 := ho921
          unfold law20_RgraphReaches_B2 at ho921
          refine e_seq fun K1008 hK1008 => ?_
          refine e_region_text rfl ?_
          refine q_lss rfl rfl rfl ?_
          refine eseq_nil ?_
          refine hK1008 _ _ ?_
          refine e_seq fun K1009 hK1009 => ?_
          refine e_cond rfl (fun hc1010 => ?_) (fun hc1010 => ?_)
          · replace ho921 := (if_pos hc1010).symm.trans ho921
            refine e_skip ?_
            refine hK1009 _ _ ?_
            refine e_seq fun K1011 hK1011 => ?_
            refine e_block ?_
            refine e_seq fun K1012 hK1012 => ?_
            refine e_region_text rfl ?_
            refine q_move rfl rfl ?_
            refine q_assign rfl rfl ?_
            refine eseq_nil ?_
            refine hK1012 _ _ ?_
            refine e_seq fun K1013 hK1013 => ?_
            refine e_region_draw mixed (fun _ => False) [0, 0, 3, 7, 0, 31, 63, 0, 0, 384, 896, 0, 3968, 8064, 16383] [] [0, 1, 2, 3, 4, 5, 6, 7, 8, 9, 10, 11, 12, 13, 14] (by kernel_rfl) ?_
            refine q_move rfl rfl ?_
            refine q_move rfl rfl ?_
            obtain ⟨x1014, hx1014, ho921⟩ := Option.of_bind ho921
            have hax1014 := ati_nth (hS.famLen 3 rfl) hx1014
            refine q_indexO (T := Ty.raw) (by infer_instance) rfl (hS.own 2 rfl) rfl hax1014 rfl ?_
            refine q_load rfl (Elt.rawCell ((hS.own 2 rfl).elt hax1014)) rfl ?_
            refine q_move rfl rfl ?_
            obtain ⟨x1015, hx1015, ho921⟩ := Option.of_bind ho921
            refine q_indexO (by infer_instance) rfl (hS.famO 3 rfl hx1014) rfl hx1015 rfl ?_
            have f1016 := (hS.famOR 3 rfl hx1014).elt hx1015
            refine q_load rfl (Elt.boolCell f1016) rfl ?_
            refine q_move rfl rfl ?_
            refine q_move rfl rfl ?_
            obtain ⟨x1017, hx1017, ho921⟩ := Option.of_bind ho921
            have hax1017 := ati_nth (hS.famLen 5 rfl) hx1017
            refine q_indexO (T := Ty.raw) (by infer_instance) rfl (hS.own 4 rfl) rfl hax1017 rfl ?_
            refine q_load rfl (Elt.rawCell ((hS.own 4 rfl).elt hax1017)) rfl ?_
            refine q_move rfl rfl ?_
            obtain ⟨x1018, hx1018, ho921⟩ := Option.of_bind ho921
            refine q_indexO (by infer_instance) rfl (hS.famO 5 rfl hx1017) rfl hx1018 rfl ?_
            have f1019 := (hS.famOR 5 rfl hx1017).elt hx1018
            refine q_load rfl (Elt.boolCell f1019) rfl ?_
            refine q_neqB rfl rfl rfl ?_
            refine eseq_nil ?_
            refine hK1013 _ _ ?_
            refine e_cond rfl (fun hc1020 => ?_) (fun hc1020 => ?_)
            · replace ho921 := (if_pos hc1020).symm.trans ho921
              refine e_seq fun K1021 hK1021 => ?_
              refine e_region_text rfl ?_
              refine q_assign rfl rfl ?_
              refine eseq_nil ?_
              refine hK1021 _ _ ?_
              refine e_ret ?_
              obtain rfl := Option.some.inj ho921
              obtain rfl := Option.some.inj ht921
              obtain rfl := Option.some.inj ho578
              obtain rfl := Option.some.inj ht578
              obtain rfl := Option.some.inj h
              exact ⟨_, res1 rfl rfl, _, rfl, (hS.pickB [] 6 rfl rfl)⟩
            · replace ho921 := (if_neg (not_true hc1020)).symm.trans ho921
              refine e_skip ?_
              refine hK1011 _ _ ?_
              refine e_region_text rfl ?_
              refine q_addW rfl rfl rfl ?_
              refine q_move rfl rfl ?_
              refine eseq_nil ?_
              obtain rfl := Option.some.inj ho921
              exact ⟨m921, _, Nat.lt_succ_self _, ⟨(w64 (x970 + 1)), _, ht921, hS, f961, f962, f963, f964, rfl⟩, Sub.cons rfl (Sub.cons rfl (Sub.cons rfl (Sub.cons rfl (Sub.cons rfl (Sub.cons rfl (Sub.cons rfl (Sub.cons rfl (Sub.cons rfl (Sub.cons rfl (Sub.nil _))))))))))⟩
          · replace ho921 := (if_neg (not_true hc1010)).symm.trans ho921
            refine e_exit ?_
            obtain rfl := Option.some.inj ho921
            obtain rfl := Option.some.inj ht921
            exact hX921_2  _ _ _ ho578 hS f961 f962 f963 f964 (Sub.cons rfl (Sub.cons rfl (Sub.cons rfl (Sub.cons rfl (Sub.cons rfl (Sub.cons rfl (Sub.cons rfl (Sub.nil _))))))))
      · replace ho578 := (if_neg (not_true hc910)).symm.trans ho578
        refine e_exit ?_
        obtain rfl := Option.some.inj ho578
        obtain rfl := Option.some.inj ht578
        exact hX578_0  _ _ _ h (hS.pickB [0, 1] 6 rfl rfl) f718 f719 f720 f721 (Sub.cons rfl (Sub.cons rfl (Sub.cons rfl (Sub.nil _))))
theorem hasR_w {F R : Nat → Prop} {w : World} {fuel : Nat} {a0 : Pt} {c1_0 : (List (List Bool))} {B1 : Nat} {v2 : Value} {r : (Bool)} (hS : Sep F R R w w []) (f1 : Lent w R B1 [v2] 39) (f2 : IsSlice (Ty.slice Ty.bool) w R v2 c1_0) (h : hasR fuel a0 c1_0 = some r) :
    Gives Try.prog 25 [.agg #[.int .i64 a0.proc, .int .i64 a0.index], .pointer (some ⟨B1, 0, none⟩)] w fun u w1 => ∃ (R1 : Nat → Prop), u = .bool r ∧ Sep F R R1 w w1 [] := by
  refine fn_of Try.func25 rfl Try.ntmps25 (Nat.le_of_ble_eq_true rfl) ?_
  unfold hasR at h
  refine e_seq fun K39 hK39 => ?_
  refine e_region_text rfl ?_
  refine q_boxB rfl rfl rfl fun w40 bl40 hg40 hb40 hB40 => ?_
  replace f1 := f1.ext hB40
  replace f2 := f2.ext hB40
  replace hS := hS.newBlk hB40 hg40 hb40
  refine q_assign rfl rfl ?_
  refine eseq_nil ?_
  refine hK39 _ _ ?_
  refine e_seq fun K42 hK42 => ?_
  refine e_region_draw mixed (fun _ => False) [0, 1, 3, 7, 15, 31, 15, 79, 255, 511, 1023, 2047, 4095, 8191, 16383, 32767, 65535, 131071, 65535, 65535, 589823, 1900543, 3997695, 8191999, 16777215, 33554431, 67108863, 134217727, 134217727, 402653183, 1073741823, 2147483647, 134217727, 4429185023, 17179869183, 34359738367, 68719476735, 137438953471] [] [0, 1, 2, 3, 4, 5, 6, 7, 8, 9, 10, 11, 12, 13, 14, 15, 16, 17, 18, 19, 20, 21, 22, 23, 24, 25, 26, 27, 28, 29, 30, 31, 32, 33, 34, 35, 36, 37] (by kernel_rfl) ?_
  refine q_field rfl rfl ?_
  refine q_load rfl (Blk.cell (hS.blk 0 rfl) rfl) rfl ?_
  refine q_geq rfl rfl rfl ?_
  refine q_move rfl rfl ?_
  obtain ⟨x46, hx45, h⟩ := Option.of_bind h
  refine g_andM 5 hx45 rfl trivial rfl rfl ?_ ?_ ?_
  · intro hg45 hx45
    clear h
    have hT45 := Below.refl (World.heap w40).size w40
    refine g_run rfl ?_; refine q_field rfl rfl ?_
    refine g_run rfl ?_; refine q_load rfl (Blk.cell (hS.blk 0 rfl) rfl) rfl ?_
    refine g_run rfl ?_; refine q_load rfl (Blk.cell f1.blk rfl) rfl ?_
    refine g_run rfl ?_; refine q_lenS rfl f2 rfl ?_
    refine g_run rfl ?_; refine q_lss rfl rfl rfl ?_
    cases hx45
    exact eseq_nil ⟨hT45, Sub.set rfl (Sub.set rfl (Sub.set rfl (Sub.set rfl (Sub.set rfl (Sub.bool true rfl hg45))))), rfl⟩
  · intro hg45
    refine g_skip rfl rfl rfl ?_
    refine g_skip rfl rfl rfl ?_
    refine g_skip rfl rfl rfl ?_
    refine g_skip rfl rfl rfl ?_
    refine g_skip rfl rfl rfl ?_
    exact eseq_nil ⟨rfl, Sub.set rfl (Sub.set rfl (Sub.set rfl (Sub.set rfl (Sub.set rfl (Sub.bool false rfl hg45)))))⟩
  intro wm45 hBm45; clear hx45
  replace hS := hS.below hBm45
  replace f1 := f1.ext hBm45
  replace f2 := f2.ext hBm45
  refine q_move rfl rfl ?_
  obtain ⟨x50, hx49, h⟩ := Option.of_bind h
  refine g_andM 3 hx49 rfl trivial rfl rfl ?_ ?_ ?_
  · intro hg49 hx49
    clear h
    have hT49 := Below.refl (World.heap wm45).size wm45
    refine g_run rfl ?_; refine q_field rfl rfl ?_
    refine g_run rfl ?_; refine q_load rfl (Blk.cell (hS.blk 0 rfl) rfl) rfl ?_
    refine g_run rfl ?_; refine q_geq rfl rfl rfl ?_
    cases hx49
    exact eseq_nil ⟨hT49, Sub.set rfl (Sub.set rfl (Sub.set rfl (Sub.bool true rfl hg49))), rfl⟩
  · intro hg49
    refine g_skip rfl rfl rfl ?_
    refine g_skip rfl rfl rfl ?_
    refine g_skip rfl rfl rfl ?_
    exact eseq_nil ⟨rfl, Sub.set rfl (Sub.set rfl (Sub.set rfl (Sub.bool false rfl hg49)))⟩
  intro wm49 hBm49; clear hx49
  replace hS := hS.below hBm49
  replace f1 := f1.ext hBm49
  replace f2 := f2.ext hBm49
  refine q_move rfl rfl ?_
  obtain ⟨x57, hx56, h⟩ := Option.of_bind h
  refine g_andM 9 hx56 rfl trivial rfl rfl ?_ ?_ ?_
  · intro hg56 hx56
    clear h
    have hT56 := Below.refl (World.heap wm49).size wm49
    refine g_run rfl ?_; refine q_field rfl rfl ?_
    refine g_run rfl ?_; refine q_load rfl (Blk.cell (hS.blk 0 rfl) rfl) rfl ?_
    refine g_run rfl ?_; refine q_load rfl (Blk.cell f1.blk rfl) rfl ?_
    refine g_run rfl ?_; refine q_field rfl rfl ?_
    refine g_run rfl ?_; refine q_load rfl (Blk.cell (hS.blk 0 rfl) rfl) rfl ?_
    obtain ⟨x58, hx58, hx56⟩ := Option.of_bind hx56
    refine g_run rfl ?_; refine q_atS (by infer_instance) rfl f2 rfl hx58 rfl fun b59 o59 hm59 f59 => ?_
    refine g_run rfl ?_; refine q_loadE rfl f59 rfl (fun v60 f60 => ?_)
    refine g_run rfl ?_; refine q_lenS rfl f60 rfl ?_
    refine g_run rfl ?_; refine q_lss rfl rfl rfl ?_
    cases hx56
    exact eseq_nil ⟨hT56, Sub.set rfl (Sub.set rfl (Sub.set rfl (Sub.set rfl (Sub.set rfl (Sub.set rfl (Sub.set rfl (Sub.set rfl (Sub.set rfl (Sub.bool true rfl hg56))))))))), rfl⟩
  · intro hg56
    refine g_skip rfl rfl rfl ?_
    refine g_skip rfl rfl rfl ?_
    refine g_skip rfl rfl rfl ?_
    refine g_skip rfl rfl rfl ?_
    refine g_skip rfl rfl rfl ?_
    refine g_skip rfl rfl rfl ?_
    refine g_skip rfl rfl rfl ?_
    refine g_skip rfl rfl rfl ?_
    refine g_skip rfl rfl rfl ?_
    exact eseq_nil ⟨rfl, Sub.set rfl (Sub.set rfl (Sub.set rfl (Sub.set rfl (Sub.set rfl (Sub.set rfl (Sub.set rfl (Sub.set rfl (Sub.set rfl (Sub.bool false rfl hg56)))))))))⟩
  intro wm56 hBm56; clear hx56
  replace hS := hS.below hBm56
  replace f1 := f1.ext hBm56
  replace f2 := f2.ext hBm56
  refine q_move rfl rfl ?_
  obtain ⟨x70, hx69, h⟩ := Option.of_bind h
  refine g_andM 9 hx69 rfl trivial rfl rfl ?_ ?_ ?_
  · intro hg69 hx69
    clear h
    have hT69 := Below.refl (World.heap wm56).size wm56
    refine g_run rfl ?_; refine q_load rfl (Blk.cell f1.blk rfl) rfl ?_
    refine g_run rfl ?_; refine q_field rfl rfl ?_
    refine g_run rfl ?_; refine q_load rfl (Blk.cell (hS.blk 0 rfl) rfl) rfl ?_
    obtain ⟨x71, hx71, hx69⟩ := Option.of_bind hx69
    refine g_run rfl ?_; refine q_atS (by infer_instance) rfl f2 rfl hx71 rfl fun b72 o72 hm72 f72 => ?_
    refine g_run rfl ?_; refine q_loadE rfl f72 rfl (fun v73 f73 => ?_)
    refine g_run rfl ?_; refine q_field rfl rfl ?_
    refine g_run rfl ?_; refine q_load rfl (Blk.cell (hS.blk 0 rfl) rfl) rfl ?_
    obtain ⟨x74, hx74, hx69⟩ := Option.of_bind hx69
    refine g_run rfl ?_; refine q_atS (by infer_instance) rfl f73 rfl hx74 rfl fun b75 o75 hm75 f75 => ?_
    refine g_run rfl ?_; refine q_load rfl (Elt.boolCell f75) rfl ?_
    cases hx69
    exact eseq_nil ⟨hT69, Sub.set rfl (Sub.set rfl (Sub.set rfl (Sub.set rfl (Sub.set rfl (Sub.set rfl (Sub.set rfl (Sub.set rfl (Sub.set rfl (Sub.bool true rfl hg69))))))))), rfl⟩
  · intro hg69
    refine g_skip rfl rfl rfl ?_
    refine g_skip rfl rfl rfl ?_
    refine g_skip rfl rfl rfl ?_
    refine g_skip rfl rfl rfl ?_
    refine g_skip rfl rfl rfl ?_
    refine g_skip rfl rfl rfl ?_
    refine g_skip rfl rfl rfl ?_
    refine g_skip rfl rfl rfl ?_
    refine g_skip rfl rfl rfl ?_
    exact eseq_nil ⟨rfl, Sub.set rfl (Sub.set rfl (Sub.set rfl (Sub.set rfl (Sub.set rfl (Sub.set rfl (Sub.set rfl (Sub.set rfl (Sub.set rfl (Sub.bool false rfl hg69)))))))))⟩
  intro wm69 hBm69; clear hx69
  replace hS := hS.below hBm69
  refine q_assign rfl rfl ?_
  refine eseq_nil ?_
  refine hK42 _ _ ?_
  refine e_ret ?_
  obtain rfl := Option.some.inj h
  exact ⟨_, res1 rfl rfl, _, rfl, (hS.pickB [] 1 rfl rfl)⟩
theorem law20_RgraphClosed_w {F R : Nat → Prop} {w : World} {fuel : Nat} {a0 : (List Int)} {a1 : (List Int)} {v1 : Value} {v2 : Value} {r : (Bool)} (hS : Sep F R R w w []) (f1 : IsSlice Ty.u8 w R v1 a0) (f2 : IsSlice Ty.u8 w R v2 a1) (h : law20_RgraphClosed fuel a0 a1 = some r) :
    Gives Try.prog 5 [v1, v2] w fun u w1 => ∃ (R1 : Nat → Prop), u = .bool r ∧ Sep F R R1 w w1 [] := by
  refine fn_of Try.func5 rfl Try.ntmps5 (Nat.le_of_ble_eq_true rfl) ?_
  unfold law20_RgraphClosed at h
  refine e_seq fun K573 hK573 => ?_
  refine e_region_text rfl ?_
  refine q_assign rfl rfl ?_
  refine eseq_nil ?_
  refine hK573 _ _ ?_
  refine e_seq fun K574 hK574 => ?_
  refine e_seq fun K575 hK575 => ?_
  refine e_region_text rfl ?_
  obtain ⟨r577, hr577, h⟩ := Option.of_bind h
  refine q_call rfl (law20_awake_w (Sep.enter (As := []) hS)  hr577) rfl ?_
  rintro _ w576 ⟨R576, rfl, hC576⟩
  have hB576 : Below (World.heap w).size w w576 := hC576.stepB0
  refine ⟨fun _ => .of_below hB576, ?_⟩
  replace f1 := (f1.ext hB576).mono fun k hk _ => hC576.ro0 k hk
  replace f2 := (f2.ext hB576).mono fun k hk _ => hC576.ro0 k hk
  replace hS := Sep.leave (As := []) hS hC576; simp only [List.cons_append, List.nil_append] at hS
  refine q_not rfl rfl ?_
  refine eseq_nil ?_
  refine hK575 _ _ ?_
  refine e_cond rfl (fun hc578 => ?_) (fun hc578 => ?_)
  · replace h := (if_pos hc578).symm.trans h
    refine e_seq fun K579 hK579 => ?_
    refine e_region_text rfl ?_
    refine q_assign rfl rfl ?_
    refine eseq_nil ?_
    refine hK579 _ _ ?_
    refine e_ret ?_
    obtain rfl := Option.some.inj h
    exact ⟨_, res1 rfl rfl, _, rfl, hS⟩
  · replace h := (if_neg (not_true hc578)).symm.trans h
    refine e_skip ?_
    refine hK574 _ _ ?_
    refine e_seq fun K580 hK580 => ?_
    refine e_region_text rfl ?_
    refine q_move rfl rfl ?_
    obtain ⟨r582, hr582, h⟩ := Option.of_bind h
    refine q_call rfl (make_New_w (Sep.enter (As := []) hS) f1 hr582) rfl ?_
    rintro _ w581 ⟨B583, v584, R581, rfl, hC581, f584⟩
    have hB581 : Below (World.heap w576).size w576 w581 := hC581.stepB0
    refine ⟨fun _ => .of_below hB581, ?_⟩
    replace f2 := (f2.ext hB581).mono fun k hk _ => hC581.ro0 k hk
    replace f1 := (f1.ext hB581).mono fun k hk _ => hC581.ro0 k hk
    replace hS := Sep.leave (As := []) hS hC581; simp only [List.cons_append, List.nil_append] at hS
    obtain ⟨r586, hr586, h⟩ := Option.of_bind h
    refine q_call rfl (make_Codes_Pattern_w (Sep.enter (As := [_]) hS) f584 hr586) rfl ?_
    rintro _ w585 ⟨v587, v588, v589, R585, rfl, hC585, f587, f588⟩
    refine ⟨(fun h => by cases h), ?_⟩
    have hk585 := hC585.keptR (Sep.offFeet (As := [_]) hS)
    replace f2 := (f2.kept hk585).mono fun k hk _ => hC585.ro0 k hk
    replace f584 := (f584.kept hk585).mono fun k hk _ => hC585.ro0 k hk
    replace hS := Sep.leave (As := [_]) hS hC585; simp only [List.cons_append, List.nil_append] at hS
    refine q_allocB rfl fun w590 bl590 hg590 hb590 hB590 => ?_
    replace f2 := f2.ext hB590
    replace f587 := f587.ext hB590
    replace f588 := f588.ext hB590
    replace hS := hS.newBlk hB590 hg590 hb590
    refine q_storeAgg rfl rfl (hS.blk 0 rfl) rfl (Nat.le_of_ble_eq_true rfl) (all_cons f587.one (all_cons f588.one (all_cons (hS.own 2 rfl).one (all_nil)))) rfl rfl fun w592 hb592 hO592 => ?_
    simp only [setN, List.set, List.take, List.drop] at hb592
    have hk592 := hS.keptBlk 0 rfl hO592
    replace f2 := f2.kept hk592
    replace f587 := f587.kept hk592
    replace f588 := f588.kept hk592
    replace hS := hS.setBlk 0 rfl hb592 hO592; simp only [List.set] at hS
    refine eseq_nil ?_
    refine hK580 _ _ ?_
    refine e_seq fun K593 hK593 => ?_
    refine e_region_draw mixed (fun _ => False) [0, 1, 0, 7, 15] [1] [0, 2, 1, 3, 4] (by kernel_rfl) ?_
    refine q_move rfl rfl ?_
    refine q_loadAgg rfl (Blk.cellsAt (hS.blk 0 rfl) 0 3 rfl) rfl rfl ?_
    obtain ⟨r603, hr603, h⟩ := Option.of_bind h
    refine q_call rfl (make_New_w (Sep.enter (As := []) hS) f2 hr603) rfl ?_
    rintro _ w602 ⟨B604, v605, R602, rfl, hC602, f605⟩
    have hB602 : Below (World.heap w592).size w592 w602 := hC602.stepB0
    refine ⟨fun _ => .of_below hB602, ?_⟩
    replace f587 := (f587.ext hB602).mono fun k hk _ => hC602.ro0 k hk
    replace f588 := (f588.ext hB602).mono fun k hk _ => hC602.ro0 k hk
    replace f2 := (f2.ext hB602).mono fun k hk _ => hC602.ro0 k hk
    replace hS := Sep.leave (As := []) hS hC602; simp only [List.cons_append, List.nil_append] at hS
    obtain ⟨R607, hS, hm607, f607⟩ := hS.freezeOwn 3 rfl; simp only [List.eraseIdx] at hS
    replace f587 := f587.mono fun k hk _ => hm607 k hk
    replace f588 := f588.mono fun k hk _ => hm607 k hk
    replace f605 := f605.mono fun k hk _ => hm607 k hk
    obtain ⟨r608, hr608, h⟩ := Option.of_bind h
    refine q_call rfl (law20_nodes_w (a1 := (⟨r586.1.lens, r586.1.ckpts, r586.1.arcs⟩ : Pat)) (Sep.enter (As := [_]) hS) f587 f588 f607 f605 hr608) rfl ?_
    rintro v609 w606 ⟨_, R606, rfl, hC606⟩
    refine ⟨(fun h => by cases h), ?_⟩
    have hk606 := hC606.keptR (Sep.offFeet (As := [_]) hS)
    replace f587 := (f587.kept hk606).mono fun k hk _ => hC606.ro0 k hk
    replace f588 := (f588.kept hk606).mono fun k hk _ => hC606.ro0 k hk
    replace f607 := (f607.kept hk606).mono fun k hk _ => hC606.ro0 k hk
    replace f605 := (f605.kept hk606).mono fun k hk _ => hC606.ro0 k hk
    replace hS := Sep.leave (As := [_]) hS hC606; simp only [List.cons_append, List.nil_append] at hS
    refine q_assign rfl rfl ?_
    refine eseq_nil ?_
    refine hK593 _ _ ?_
    refine e_seq fun K610 hK610 => ?_
    refine e_region_text rfl ?_
    refine q_loadAgg rfl (Blk.cellsAt (hS.blk 2 rfl) 0 3 rfl) rfl rfl ?_
    refine q_move rfl rfl ?_
    obtain ⟨R612, hS, hm612, f612⟩ := hS.freezeOwn 1 rfl; simp only [List.eraseIdx] at hS
    replace f587 := f587.mono fun k hk _ => hm612 k hk
    replace f588 := f588.mono fun k hk _ => hm612 k hk
    replace f607 := f607.mono fun k hk _ => hm612 k hk
    obtain ⟨r613, hr613, h⟩ := Option.of_bind h
    refine q_call rfl (rgraph_Reach_w (a0 := (⟨r586.1.lens, r586.1.ckpts, r586.1.arcs⟩ : Pat)) (Sep.enter (As := []) hS) f587 f588 f607 f612 hr613) rfl ?_
    rintro v614 w611 ⟨_, v615, R611, rfl, hC611⟩
    have hB611 : Below (World.heap w606).size w606 w611 := hC611.stepB0
    refine ⟨fun _ => .of_below hB611, ?_⟩
    replace f587 := (f587.ext hB611).mono fun k hk _ => hC611.ro0 k hk
    replace f588 := (f588.ext hB611).mono fun k hk _ => hC611.ro0 k hk
    replace f607 := (f607.ext hB611).mono fun k hk _ => hC611.ro0 k hk
    replace f612 := (f612.ext hB611).mono fun k hk _ => hC611.ro0 k hk
    replace hS := Sep.leave (As := []) hS hC611; simp only [List.cons_append, List.nil_append] at hS
    refine q_allocB rfl fun w616 bl616 hg616 hb616 hB616 => ?_
    replace f587 := f587.ext hB616
    replace f588 := f588.ext hB616
    replace f607 := f607.ext hB616
    replace f612 := f612.ext hB616
    replace hS := hS.newBlk hB616 hg616 hb616
    refine q_store rfl rfl (hS.blk 0 rfl) (Nat.le_of_ble_eq_true rfl) (hS.own 1 rfl).one rfl rfl fun w618 hb618 hO618 => ?_
    have hk618 := hS.keptBlk 0 rfl hO618
    replace f587 := f587.kept hk618
    replace f588 := f588.kept hk618
    replace f607 := f607.kept hk618
    replace f612 := f612.kept hk618
    replace hS := hS.setBlk 0 rfl hb618 hO618; simp only [List.set] at hS
    refine eseq_nil ?_
    refine hK610 _ _ ?_
    refine e_seq fun K619 hK619 => ?_
    refine e_region_text rfl ?_
    refine q_makeFunc rfl rfl ?_
    refine q_assign rfl rfl ?_
    refine eseq_nil ?_
    refine hK619 _ _ ?_
    refine e_seq fun K620 hK620 => ?_
    refine e_seq fun K621 hK621 => ?_
    refine e_region_text rfl ?_
    refine q_move rfl rfl ?_
    refine q_lenS rfl f612 rfl ?_
    refine q_move rfl rfl ?_
    refine eseq_nil ?_
    refine hK621 _ _ ?_
    refine e_block ?_
    obtain ⟨tl622, ht622, h⟩ := Option.of_bind h
    have hX622_0 : ∀ (R694 : Nat → Prop) (w695 : World) (E_ : Env), law20_RgraphClosed_K1 fuel r586 r613 r608 = some r → Sep F R R694 w w695 [HP.blk bl590 [v587, v588, v589] 28, HP.blk bl616 [v614] 39, HP.own Ty.raw (fun _ => False) 41 v614 v615, HP.famS Ty.bool (fun _ => False) 4 v615 r613] → IsSlice Ty.int w695 R694 v587 r586.1.lens → IsSlice (Ty.slice Ty.int) w695 R694 v588 r586.1.ckpts → IsSlice arcTy w695 R694 v589 r586.1.arcs → IsSlice ptTy w695 R694 v609 r608.1 → Sub [(5, .pointer (some ⟨bl590, 0, none⟩)), (6, v609), (7, .pointer (some ⟨bl616, 0, none⟩)), (8, .func (.func 25) #[] #[.pointer (some ⟨bl616, 0, none⟩)])] E_ → K620 E_ w695 := by
      intro R694 w695 E_ h hS f696 f697 f698 f699 hsub
      refine hK620 _ _ (e_sub hsub ?_); clear hsub
      unfold law20_RgraphClosed_K1 at h
      refine e_seq fun K702 hK702 => ?_
      refine e_seq fun K703 hK703 => ?_
      refine e_region_text rfl ?_
      refine q_loadAgg rfl (Blk.cellsAt (hS.blk 0 rfl) 0 3 rfl) rfl rfl ?_
      obtain ⟨r705, hr705, h⟩ := Option.of_bind h
      refine q_call rfl (rgraph_Edges_w (a0 := (⟨r586.1.lens, r586.1.ckpts, r586.1.arcs⟩ : Pat)) (Sep.enter (As := []) hS) f696 f697 f698 hr705) rfl ?_
      rintro v706 w704 ⟨_, R704, rfl, hC704, f706⟩
      have hB704 : Below (World.heap w695).size w695 w704 := hC704.stepB0
      refine ⟨fun _ => .of_below hB704, ?_⟩
      replace f699 := (f699.ext hB704).mono fun k hk _ => hC704.ro0 k hk
      replace f696 := (f696.ext hB704).mono fun k hk _ => hC704.ro0 k hk
      replace f697 := (f697.ext hB704).mono fun k hk _ => hC704.ro0 k hk
      replace f698 := (f698.ext hB704).mono fun k hk _ => hC704.ro0 k hk
      replace hS := Sep.leave (As := []) hS hC704; simp only [List.cons_append, List.nil_append] at hS
      refine q_lenS rfl f706 rfl ?_
      refine q_move rfl rfl ?_
      refine eseq_nil ?_
      refine hK703 _ _ ?_
      refine e_block ?_
      obtain ⟨tl707, ht707, h⟩ := Option.of_bind h
      have hX707_2 : ∀ (R783 : Nat → Prop) (w784 : World) (E_ : Env), law20_RgraphClosed_K2 fuel r613 r608 = some r → Sep F R R783 w w784 [HP.blk bl616 [v614] 39, HP.own Ty.raw (fun _ => False) 41 v614 v615, HP.famS Ty.bool (fun _ => False) 4 v615 r613] → IsSlice ptTy w784 R783 v609 r608.1 → Sub [(6, v609), (7, .pointer (some ⟨bl616, 0, none⟩)), (8, .func (.func 25) #[] #[.pointer (some ⟨bl616, 0, none⟩)])] E_ → K702 E_ w784 := by
        intro R783 w784 E_ h hS f785 hsub
        refine hK702 _ _ (e_sub hsub ?_); clear hsub
        unfold law20_RgraphClosed_K2 at h
        refine e_seq fun K788 hK788 => ?_
        refine e_seq fun K789 hK789 => ?_
        refine e_region_text rfl ?_
        refine q_load rfl (Blk.cell (hS.blk 0 rfl) rfl) rfl ?_
        refine q_lenR rfl (hS.own 1 rfl) (hS.famLen 2 rfl) rfl ?_
        refine q_move rfl rfl ?_
        refine eseq_nil ?_
        refine hK789 _ _ ?_
        refine e_block ?_
        obtain ⟨tl790, ht790, h⟩ := Option.of_bind h
        have hX790_4 : ∀ (R1004 : Nat → Prop) (w1005 : World) (E_ : Env), law20_RgraphClosed_K3 fuel = some r → Sep F R R1004 w w1005 [] → Sub [] E_ → K788 E_ w1005 := by
          intro R1004 w1005 E_ h hS  hsub
          refine hK788 _ _ (e_sub hsub ?_); clear hsub
          unfold law20_RgraphClosed_K3 at h
          refine e_seq fun K1006 hK1006 => ?_
          refine e_region_text rfl ?_
          refine q_assign rfl rfl ?_
          refine eseq_nil ?_
          refine hK1006 _ _ ?_
          refine e_ret ?_
          obtain rfl := Option.some.inj h
          exact ⟨_, res1 rfl rfl, _, rfl, hS⟩
        refine e_loop (fun m_ E_ w898 => ∃ (x902 : Int), ∃ (R897 : Nat → Prop), iter (fun s => law20_RgraphClosed_B1 fuel r613 r608 s) m_ x902 = some tl790 ∧ Sep F R R897 w w898 [HP.blk bl616 [v614] 39, HP.own Ty.raw (fun _ => False) 41 v614 v615, HP.famS Ty.bool (fun _ => False) 4 v615 r613] ∧ IsSlice ptTy w898 R897 v609 r608.1 ∧ E_ = [(6, v609), (8, .func (.func 25) #[] #[.pointer (some ⟨bl616, 0, none⟩)]), (61, .int .i64 (r613.length : Int)), (62, .int .i64 x902)]) _ ⟨_, ⟨0, _, ht790, hS, f785, rfl⟩, Sub.cons rfl (Sub.cons rfl (Sub.cons rfl (Sub.cons rfl (Sub.nil _))))⟩ ?_
        clear ht790 hS
        rintro m790 _ w898 ⟨x902, R897, ht790, hS, f899, rfl⟩
        obtain ⟨m790, rfl, o790, ho790, ht790⟩ := iter_some ht790
        replace ho790 : law20_RgraphClosed_B1 fuel r613 r608 x902 = some o790 := ho790
        unfold law20_RgraphClosed_B1 at ho790
        refine e_seq fun K1007 hK1007 => ?_
        refine e_region_text rfl ?_
        refine q_lss rfl rfl rfl ?_
        refine eseq_nil ?_
        refine hK1007 _ _ ?_
        refine e_seq fun K1008 hK1008 => ?_
        refine e_cond rfl (fun hc1009 => ?_) (fun hc1009 => ?_)
        · replace ho790 := (if_pos hc1009).symm.trans ho790
          refine e_skip ?_
          refine hK1008 _ _ ?_
          refine e_seq fun K1010 hK1010 => ?_
          refine e_block ?_
          refine e_seq fun K1011 hK1011 => ?_
          refine e_region_text rfl ?_
          refine q_move rfl rfl ?_
          refine q_assign rfl rfl ?_
          refine eseq_nil ?_
          refine hK1011 _ _ ?_
          refine e_seq fun K1012 hK1012 => ?_
          refine e_region_text rfl ?_
          refine q_assign rfl rfl ?_
          refine eseq_nil ?_
          refine hK1012 _ _ ?_
          refine e_seq fun K1013 hK1013 => ?_
          refine e_seq fun K1014 hK1014 => ?_
          refine e_region_text rfl ?_
          refine q_move rfl rfl ?_
          refine q_lenS rfl f899 rfl ?_
          refine q_move rfl rfl ?_
          refine eseq_nil ?_
          refine hK1014 _ _ ?_
          refine e_block ?_
          obtain ⟨tl1015, ht1015, ho790⟩ := Option.of_bind ho790
          have hX1015_6 : ∀ (x1081 : Bool) (R1076 : Nat → Prop) (w1077 : World) (E_ : Env), law20_RgraphClosed_K4 fuel x902 r613 x1081 = some o790 → Sep F R R1076 w w1077 [HP.blk bl616 [v614] 39, HP.own Ty.raw (fun _ => False) 41 v614 v615, HP.famS Ty.bool (fun _ => False) 4 v615 r613] → IsSlice ptTy w1077 R1076 v609 r608.1 → Sub [(6, v609), (8, .func (.func 25) #[] #[.pointer (some ⟨bl616, 0, none⟩)]), (13, .int .i64 x902), (14, .bool x1081), (61, .int .i64 (r613.length : Int)), (62, .int .i64 x902)] E_ → K1013 E_ w1077 := by
            intro x1081 R1076 w1077 E_ ho790 hS f1078 hsub
            refine hK1013 _ _ (e_sub hsub ?_); clear hsub
            unfold law20_RgraphClosed_K4 at ho790
            refine e_seq fun K1082 hK1082 => ?_
            refine e_region_text rfl ?_
            refine q_move rfl rfl ?_
            refine q_move rfl rfl ?_
            refine q_build (Parts.cons rfl rfl Parts.nil) rfl rfl ?_
            obtain ⟨r1084, hr1084, ho790⟩ := Option.of_bind ho790
            refine q_callC rfl rfl (hasR_w (a0 := (⟨x902, 0⟩ : Pt)) (Sep.all w1077) (Lent.of (hS.blk 0 rfl)) ((hS.rowsI 1 2 rfl rfl (by decide))).old hr1084) rfl ?_
            rintro _ w1083 ⟨R1083, rfl, hC1083⟩
            have hB1083 : Below (World.heap w1077).size w1077 w1083 := hC1083.stepBF
            refine ⟨fun _ => .of_below hB1083, ?_⟩
            replace f1078 := f1078.ext hB1083
            replace hS := hS.below hB1083
            refine q_move rfl rfl ?_
            refine q_neqB rfl rfl rfl ?_
            refine eseq_nil ?_
            refine hK1082 _ _ ?_
            refine e_cond rfl (fun hc1085 => ?_) (fun hc1085 => ?_)
            · replace ho790 := (if_pos hc1085).symm.trans ho790
              refine e_seq fun K1086 hK1086 => ?_
              refine e_region_text rfl ?_
              refine q_assign rfl rfl ?_
              refine eseq_nil ?_
              refine hK1086 _ _ ?_
              refine e_ret ?_
              obtain rfl := Option.some.inj ho790
              obtain rfl := Option.some.inj ht790
              obtain rfl := Option.some.inj h
              exact ⟨_, res1 rfl rfl, _, rfl, (hS.pickB [] 3 rfl rfl)⟩
            · replace ho790 := (if_neg (not_true hc1085)).symm.trans ho790
              refine e_skip ?_
              refine hK1010 _ _ ?_
              refine e_region_text rfl ?_
              refine q_addW rfl rfl rfl ?_
              refine q_move rfl rfl ?_
              refine eseq_nil ?_
              obtain rfl := Option.some.inj ho790
              exact ⟨m790, _, Nat.lt_succ_self _, ⟨(w64 (x902 + 1)), _, ht790, hS, f1078, rfl⟩, Sub.cons rfl (Sub.cons rfl (Sub.cons rfl (Sub.cons rfl (Sub.nil _))))⟩
          refine e_loop (fun m_ E_ w1046 => ∃ (x1050 : Bool), ∃ (x1052 : Int), ∃ (R1045 : Nat → Prop), iter (fun s => law20_RgraphClosed_B2 fuel r608 x902 s.1 s.2) m_ (x1050, x1052) = some tl1015 ∧ Sep F R R1045 w w1046 [HP.blk bl616 [v614] 39, HP.own Ty.raw (fun _ => False) 41 v614 v615, HP.famS Ty.bool (fun _ => False) 4 v615 r613] ∧ IsSlice ptTy w1046 R1045 v609 r608.1 ∧ IsSlice ptTy w1046 R1045 v609 r608.1 ∧ E_ = [(6, v609), (8, .func (.func 25) #[] #[.pointer (some ⟨bl616, 0, none⟩)]), (13, .int .i64 x902), (14, .bool x1050), (61, .int .i64 (r613.length : Int)), (62, .int .i64 x902), (65, v609), (66, .int .i64 (r608.1.length : Int)), (67, .int .i64 x1052)]) _ ⟨_, ⟨false, 0, _, ht1015, hS, f899, f899, rfl⟩, Sub.cons rfl (Sub.cons rfl (Sub.cons rfl (Sub.cons rfl (Sub.cons rfl (Sub.cons rfl (Sub.cons rfl (Sub.cons rfl (Sub.cons rfl (Sub.nil _)))))))))⟩ ?_
          clear ht1015 hS
          rintro m1015 _ w1046 ⟨x1050, x1052, R1045, ht1015, hS, f1047, f1051, rfl⟩
          obtain ⟨m1015, rfl, o1015, ho1015, ht1015⟩ := iter_some ht1015
          replace ho1015 : law20_RgraphClosed_B2 fuel r608 x902 x1050 x1052 = some o1015 := ho1015
          unfold law20_RgraphClosed_B2 at ho1015
          refine e_seq fun K1087 hK1087 => ?_
          refine e_region_text rfl ?_
          refine q_lss rfl rfl rfl ?_
          refine eseq_nil ?_
          refine hK1087 _ _ ?_
          refine e_seq fun K1088 hK1088 => ?_
          refine e_cond rfl (fun hc1089 => ?_) (fun hc1089 => ?_)
          · replace ho1015 := (if_pos hc1089).symm.trans ho1015
            refine e_skip ?_
            refine hK1088 _ _ ?_
            refine e_seq fun K1090 hK1090 => ?_
            refine e_block ?_
            refine e_seq fun K1091 hK1091 => ?_
            refine e_region_text rfl ?_
            obtain ⟨x1092, hx1092, ho1015⟩ := Option.of_bind ho1015
            refine q_atS (by infer_instance) rfl f1051 rfl hx1092 rfl fun b1093 o1093 hm1093 f1093 => ?_
            have hc1094 := Pt_open f1093
            refine q_loadAgg rfl hc1094 rfl rfl ?_
            refine q_allocB rfl fun w1095 bl1095 hg1095 hb1095 hB1095 => ?_
            replace f1047 := f1047.ext hB1095
            replace f1051 := f1051.ext hB1095
            replace hS := hS.newBlk hB1095 hg1095 hb1095
            refine q_storeAgg rfl rfl (hS.blk 0 rfl) rfl (Nat.le_of_ble_eq_true rfl) (all_cons rfl (all_cons rfl (all_nil))) rfl rfl fun w1097 hb1097 hO1097 => ?_
            simp only [setN, List.set, List.take, List.drop] at hb1097
            have hk1097 := hS.keptBlk 0 rfl hO1097
            replace f1047 := f1047.kept hk1097
            replace f1051 := f1051.kept hk1097
            replace hS := hS.setBlk 0 rfl hb1097 hO1097; simp only [List.set] at hS
            refine eseq_nil ?_
            refine hK1091 _ _ ?_
            refine e_region_text rfl ?_
            refine q_move rfl rfl ?_
            refine q_move rfl rfl ?_
            obtain ⟨x1101, hx1100, ho1015⟩ := Option.of_bind ho1015
            refine g_orM 4 hx1100 rfl trivial rfl rfl ?_ ?_ ?_
            · intro hg1100
              refine g_skip rfl rfl rfl ?_
              refine g_skip rfl rfl rfl ?_
              refine g_skip rfl rfl rfl ?_
              refine g_skip rfl rfl rfl ?_
              exact eseq_nil ⟨rfl, Sub.set rfl (Sub.set rfl (Sub.set rfl (Sub.set rfl (Sub.bool true rfl hg1100))))⟩
            · intro hg1100 hx1100
              clear ho1015
              have hT1100 := Below.refl (World.heap w1097).size w1097
              refine g_run rfl ?_; refine q_loadAgg rfl (Blk.cellsAt (hS.blk 0 rfl) 0 2 rfl) rfl rfl ?_
              refine g_run rfl ?_; refine q_move rfl rfl ?_
              refine g_run rfl ?_; refine q_build (Parts.cons rfl rfl Parts.nil) rfl rfl ?_
              refine g_run rfl ?_; refine q_eqlA eqT47 (by kernel_rfl) rfl rfl rfl ?_
              cases hx1100
              exact eseq_nil ⟨hT1100, Sub.set rfl (Sub.set rfl (Sub.set rfl (Sub.set rfl (Sub.bool false rfl hg1100)))), rfl⟩
            intro wm1100 hBm1100; clear hx1100
            replace hS := hS.below hBm1100
            replace f1047 := f1047.ext hBm1100
            replace f1051 := f1051.ext hBm1100
            refine q_assign rfl rfl ?_
            refine eseq_nil ?_
            refine hK1090 _ _ ?_
            refine e_region_text rfl ?_
            refine q_addW rfl rfl rfl ?_
            refine q_move rfl rfl ?_
            refine eseq_nil ?_
            obtain rfl := Option.some.inj ho1015
            exact ⟨m1015, _, Nat.lt_succ_self _, ⟨x1101, (w64 (x1052 + 1)), _, ht1015, (hS.pickB [1, 2, 3] 4 rfl rfl), f1047, f1051, rfl⟩, Sub.cons rfl (Sub.cons rfl (Sub.cons rfl (Sub.cons rfl (Sub.cons rfl (Sub.cons rfl (Sub.cons rfl (Sub.cons rfl (Sub.cons rfl (Sub.nil _)))))))))⟩
          · replace ho1015 := (if_neg (not_true hc1089)).symm.trans ho1015
            refine e_exit ?_
            obtain rfl := Option.some.inj ho1015
            obtain rfl := Option.some.inj ht1015
            exact hX1015_6 x1050 _ _ _ ho790 hS f1047 (Sub.cons rfl (Sub.cons rfl (Sub.cons rfl (Sub.cons rfl (Sub.cons rfl (Sub.cons rfl (Sub.nil _)))))))
        · replace ho790 := (if_neg (not_true hc1009)).symm.trans ho790
          refine e_exit ?_
          obtain rfl := Option.some.inj ho790
          obtain rfl := Option.some.inj ht790
          exact hX790_4  _ _ _ h (hS.pickB [] 3 rfl rfl)  (Sub.nil _)
      refine e_loop (fun m_ E_ w746 => ∃ (x751 : Int), ∃ (R745 : Nat → Prop), iter (fun s => law20_RgraphClosed_B3 fuel r705 r613 s) m_ x751 = some tl707 ∧ Sep F R R745 w w746 [HP.blk bl616 [v614] 39, HP.own Ty.raw (fun _ => False) 41 v614 v615, HP.famS Ty.bool (fun _ => False) 4 v615 r613] ∧ IsSlice ptTy w746 R745 v609 r608.1 ∧ IsSlice pt2Ty w746 R745 v706 r705 ∧ E_ = [(6, v609), (7, .pointer (some ⟨bl616, 0, none⟩)), (8, .func (.func 25) #[] #[.pointer (some ⟨bl616, 0, none⟩)]), (42, v706), (43, .int .i64 (r705.length : Int)), (44, .int .i64 x751)]) _ ⟨_, ⟨0, _, ht707, (hS.pickB [1, 2, 3] 4 rfl rfl), f699, f706, rfl⟩, Sub.cons rfl (Sub.cons rfl (Sub.cons rfl (Sub.cons rfl (Sub.cons rfl (Sub.cons rfl (Sub.nil _))))))⟩ ?_
      clear ht707 hS
      rintro m707 _ w746 ⟨x751, R745, ht707, hS, f747, f750, rfl⟩
      obtain ⟨m707, rfl, o707, ho707, ht707⟩ := iter_some ht707
      replace ho707 : law20_RgraphClosed_B3 fuel r705 r613 x751 = some o707 := ho707
      unfold law20_RgraphClosed_B3 at ho707
      refine e_seq fun K1102 hK1102 => ?_
      refine e_region_text rfl ?_
      refine q_lss rfl rfl rfl ?_
      refine eseq_nil ?_
      refine hK1102 _ _ ?_
      refine e_seq fun K1103 hK1103 => ?_
      refine e_cond rfl (fun hc1104 => ?_) (fun hc1104 => ?_)
      · replace ho707 := (if_pos hc1104).symm.trans ho707
        refine e_skip ?_
        refine hK1103 _ _ ?_
        refine e_seq fun K1105 hK1105 => ?_
        refine e_block ?_
        refine e_seq fun K1106 hK1106 => ?_
        refine e_region_text rfl ?_
        obtain ⟨x1107, hx1107, ho707⟩ := Option.of_bind ho707
        refine q_atS (by infer_instance) rfl f750 rfl hx1107 rfl fun b1108 o1108 hm1108 f1108 => ?_
        have hc1109 := Pt2_open f1108
        refine q_loadAgg rfl hc1109 rfl rfl ?_
        refine q_allocB rfl fun w1110 bl1110 hg1110 hb1110 hB1110 => ?_
        replace f747 := f747.ext hB1110
        replace f750 := f750.ext hB1110
        replace hS := hS.newBlk hB1110 hg1110 hb1110
        refine q_storeAgg rfl rfl (hS.blk 0 rfl) rfl (Nat.le_of_ble_eq_true rfl) (all_cons rfl (all_cons rfl (all_cons rfl (all_cons rfl (all_nil))))) rfl rfl fun w1112 hb1112 hO1112 => ?_
        simp only [setN, List.set, List.take, List.drop] at hb1112
        have hk1112 := hS.keptBlk 0 rfl hO1112
        replace f747 := f747.kept hk1112
        replace f750 := f750.kept hk1112
        replace hS := hS.setBlk 0 rfl hb1112 hO1112; simp only [List.set] at hS
        refine eseq_nil ?_
        refine hK1106 _ _ ?_
        refine e_seq fun K1113 hK1113 => ?_
        refine e_region_text rfl ?_
        refine q_move rfl rfl ?_
        refine q_indexC (k := 0) rfl rfl rfl rfl rfl ?_
        refine q_loadAgg rfl (Blk.cellsAt (hS.blk 0 rfl) 0 2 rfl) rfl rfl ?_
        obtain ⟨r1115, hr1115, ho707⟩ := Option.of_bind ho707
        refine q_callC rfl rfl (hasR_w (a0 := (⟨x1107.x0.proc, x1107.x0.index⟩ : Pt)) (Sep.all w1112) (Lent.of (hS.blk 1 rfl)) ((hS.rowsI 2 3 rfl rfl (by decide))).old hr1115) rfl ?_
        rintro _ w1114 ⟨R1114, rfl, hC1114⟩
        have hB1114 : Below (World.heap w1112).size w1112 w1114 := hC1114.stepBF
        refine ⟨fun _ => .of_below hB1114, ?_⟩
        replace f747 := f747.ext hB1114
        replace f750 := f750.ext hB1114
        replace hS := hS.below hB1114
        refine q_move rfl rfl ?_
        obtain ⟨x1121, hx1120, ho707⟩ := Option.of_bind ho707
        refine g_andM 5 hx1120 rfl trivial rfl rfl ?_ ?_ ?_
        · intro hg1120 hx1120
          clear ho707
          have hT1120 := Below.refl (World.heap w1114).size w1114
          refine g_run rfl ?_; refine q_move rfl rfl ?_
          refine g_run rfl ?_; refine q_indexC (k := 1) rfl rfl rfl rfl rfl ?_
          refine g_run rfl ?_; refine q_loadAgg rfl (Blk.cellsAt (hS.blk 0 rfl) 2 2 rfl) rfl rfl ?_
          obtain ⟨r1123, hr1123, hx1120⟩ := Option.of_bind hx1120
          refine g_run rfl ?_; refine q_callC rfl rfl (hasR_w (a0 := (⟨x1107.x1.proc, x1107.x1.index⟩ : Pt)) (Sep.all w1114) (Lent.of (hS.blk 1 rfl)) ((hS.rowsI 2 3 rfl rfl (by decide))).old hr1123) rfl ?_
          rintro _ w1122 ⟨R1122, rfl, hC1122⟩
          have hB1122 : Below (World.heap w1114).size w1114 w1122 := hC1122.stepBF
          refine ⟨fun _ => .of_below hB1122, ?_⟩
          replace f747 := f747.ext hB1122
          replace f750 := f750.ext hB1122
          replace hT1120 := hT1120.trans (Below.mono hB1122 hT1120.size)
          replace hS := hS.below hB1122
          refine g_run rfl ?_; refine q_not rfl rfl ?_
          cases hx1120
          exact eseq_nil ⟨hT1120, Sub.set rfl (Sub.set rfl (Sub.set rfl (Sub.set rfl (Sub.set rfl (Sub.bool true rfl hg1120))))), rfl⟩
        · intro hg1120
          refine g_skip rfl rfl rfl ?_
          refine g_skip rfl rfl rfl ?_
          refine g_skip rfl rfl rfl ?_
          refine g_skip rfl rfl rfl ?_
          refine g_skip rfl rfl rfl ?_
          exact eseq_nil ⟨rfl, Sub.set rfl (Sub.set rfl (Sub.set rfl (Sub.set rfl (Sub.set rfl (Sub.bool false rfl hg1120)))))⟩
        intro wm1120 hBm1120; clear hx1120
        replace hS := hS.below hBm1120
        replace f747 := f747.ext hBm1120
        replace f750 := f750.ext hBm1120
        refine eseq_nil ?_
        refine hK1113 _ _ ?_
        refine e_cond rfl (fun hc1124 => ?_) (fun hc1124 => ?_)
        · replace ho707 := (if_pos hc1124).symm.trans ho707
          refine e_seq fun K1125 hK1125 => ?_
          refine e_region_text rfl ?_
          refine q_assign rfl rfl ?_
          refine eseq_nil ?_
          refine hK1125 _ _ ?_
          refine e_ret ?_
          obtain rfl := Option.some.inj ho707
          obtain rfl := Option.some.inj ht707
          obtain rfl := Option.some.inj h
          exact ⟨_, res1 rfl rfl, _, rfl, (hS.pickB [] 4 rfl rfl)⟩
        · replace ho707 := (if_neg (not_true hc1124)).symm.trans ho707
          refine e_skip ?_
          refine hK1105 _ _ ?_
          refine e_region_text rfl ?_
          refine q_addW rfl rfl rfl ?_
          refine q_move rfl rfl ?_
          refine eseq_nil ?_
          obtain rfl := Option.some.inj ho707
          exact ⟨m707, _, Nat.lt_succ_self _, ⟨(w64 (x751 + 1)), _, ht707, (hS.pickB [1, 2, 3] 4 rfl rfl), f747, f750, rfl⟩, Sub.cons rfl (Sub.cons rfl (Sub.cons rfl (Sub.cons rfl (Sub.cons rfl (Sub.cons rfl (Sub.nil _))))))⟩
      · replace ho707 := (if_neg (not_true hc1104)).symm.trans ho707
        refine e_exit ?_
        obtain rfl := Option.some.inj ho707
        obtain rfl := Option.some.inj ht707
        exact hX707_2  _ _ _ h hS f747 (Sub.cons rfl (Sub.cons rfl (Sub.cons rfl (Sub.nil _))))
    refine e_loop (fun m_ E_ w659 => ∃ (x667 : Int), ∃ (R658 : Nat → Prop), iter (fun s => law20_RgraphClosed_B4 fuel r608 r613 s) m_ x667 = some tl622 ∧ Sep F R R658 w w659 [HP.blk bl590 [v587, v588, v589] 28, HP.blk bl616 [v614] 39, HP.own Ty.raw (fun _ => False) 41 v614 v615, HP.famS Ty.bool (fun _ => False) 4 v615 r613] ∧ IsSlice Ty.int w659 R658 v587 r586.1.lens ∧ IsSlice (Ty.slice Ty.int) w659 R658 v588 r586.1.ckpts ∧ IsSlice arcTy w659 R658 v589 r586.1.arcs ∧ IsSlice ptTy w659 R658 v609 r608.1 ∧ IsSlice ptTy w659 R658 v609 r608.1 ∧ E_ = [(5, .pointer (some ⟨bl590, 0, none⟩)), (6, v609), (7, .pointer (some ⟨bl616, 0, none⟩)), (8, .func (.func 25) #[] #[.pointer (some ⟨bl616, 0, none⟩)]), (30, v609), (31, .int .i64 (r608.1.length : Int)), (32, .int .i64 x667)]) _ ⟨_, ⟨0, _, ht622, (hS.pickB [4, 0, 1, 2] 6 rfl rfl), f587, f588, f607, f612, f612, rfl⟩, Sub.cons rfl (Sub.cons rfl (Sub.cons rfl (Sub.cons rfl (Sub.cons rfl (Sub.cons rfl (Sub.cons rfl (Sub.nil _)))))))⟩ ?_
    clear ht622 hS
    rintro m622 _ w659 ⟨x667, R658, ht622, hS, f660, f661, f662, f663, f666, rfl⟩
    obtain ⟨m622, rfl, o622, ho622, ht622⟩ := iter_some ht622
    replace ho622 : law20_RgraphClosed_B4 fuel r608 r613 x667 = some o622 := ho622
    unfold law20_RgraphClosed_B4 at ho622
    refine e_seq fun K1126 hK1126 => ?_
    refine e_region_text rfl ?_
    refine q_lss rfl rfl rfl ?_
    refine eseq_nil ?_
    refine hK1126 _ _ ?_
    refine e_seq fun K1127 hK1127 => ?_
    refine e_cond rfl (fun hc1128 => ?_) (fun hc1128 => ?_)
    · replace ho622 := (if_pos hc1128).symm.trans ho622
      refine e_skip ?_
      refine hK1127 _ _ ?_
      refine e_seq fun K1129 hK1129 => ?_
      refine e_block ?_
      refine e_seq fun K1130 hK1130 => ?_
      refine e_region_text rfl ?_
      obtain ⟨x1131, hx1131, ho622⟩ := Option.of_bind ho622
      refine q_atS (by infer_instance) rfl f666 rfl hx1131 rfl fun b1132 o1132 hm1132 f1132 => ?_
      have hc1133 := Pt_open f1132
      refine q_loadAgg rfl hc1133 rfl rfl ?_
      refine q_allocB rfl fun w1134 bl1134 hg1134 hb1134 hB1134 => ?_
      replace f660 := f660.ext hB1134
      replace f661 := f661.ext hB1134
      replace f662 := f662.ext hB1134
      replace f663 := f663.ext hB1134
      replace f666 := f666.ext hB1134
      replace hS := hS.newBlk hB1134 hg1134 hb1134
      refine q_storeAgg rfl rfl (hS.blk 0 rfl) rfl (Nat.le_of_ble_eq_true rfl) (all_cons rfl (all_cons rfl (all_nil))) rfl rfl fun w1136 hb1136 hO1136 => ?_
      simp only [setN, List.set, List.take, List.drop] at hb1136
      have hk1136 := hS.keptBlk 0 rfl hO1136
      replace f660 := f660.kept hk1136
      replace f661 := f661.kept hk1136
      replace f662 := f662.kept hk1136
      replace f663 := f663.kept hk1136
      replace f666 := f666.kept hk1136
      replace hS := hS.setBlk 0 rfl hb1136 hO1136; simp only [List.set] at hS
      refine eseq_nil ?_
      refine hK1130 _ _ ?_
      refine e_seq fun K1137 hK1137 => ?_
      refine e_region_text rfl ?_
      refine q_move rfl rfl ?_
      refine q_loadAgg rfl (Blk.cellsAt (hS.blk 0 rfl) 0 2 rfl) rfl rfl ?_
      obtain ⟨r1139, hr1139, ho622⟩ := Option.of_bind ho622
      refine q_callC rfl rfl (hasR_w (a0 := (⟨x1131.proc, x1131.index⟩ : Pt)) (Sep.all w1136) (Lent.of (hS.blk 2 rfl)) ((hS.rowsI 3 4 rfl rfl (by decide))).old hr1139) rfl ?_
      rintro _ w1138 ⟨R1138, rfl, hC1138⟩
      have hB1138 : Below (World.heap w1136).size w1136 w1138 := hC1138.stepBF
      refine ⟨fun _ => .of_below hB1138, ?_⟩
      replace f660 := f660.ext hB1138
      replace f661 := f661.ext hB1138
      replace f662 := f662.ext hB1138
      replace f663 := f663.ext hB1138
      replace f666 := f666.ext hB1138
      replace hS := hS.below hB1138
      refine q_not rfl rfl ?_
      refine eseq_nil ?_
      refine hK1137 _ _ ?_
      refine e_cond rfl (fun hc1140 => ?_) (fun hc1140 => ?_)
      · replace ho622 := (if_pos hc1140).symm.trans ho622
        refine e_seq fun K1141 hK1141 => ?_
        refine e_region_text rfl ?_
        refine q_assign rfl rfl ?_
        refine eseq_nil ?_
        refine hK1141 _ _ ?_
        refine e_ret ?_
        obtain rfl := Option.some.inj ho622
        obtain rfl := Option.some.inj ht622
        obtain rfl := Option.some.inj h
        exact ⟨_, res1 rfl rfl, _, rfl, (hS.pickB [] 5 rfl rfl)⟩
      · replace ho622 := (if_neg (not_true hc1140)).symm.trans ho622
        refine e_skip ?_
        refine hK1129 _ _ ?_
        refine e_region_text rfl ?_
        refine q_addW rfl rfl rfl ?_
        refine q_move rfl rfl ?_
        refine eseq_nil ?_
        obtain rfl := Option.some.inj ho622
        exact ⟨m622, _, Nat.lt_succ_self _, ⟨(w64 (x667 + 1)), _, ht622, (hS.pickB [1, 2, 3, 4] 5 rfl rfl), f660, f661, f662, f663, f666, rfl⟩, Sub.cons rfl (Sub.cons rfl (Sub.cons rfl (Sub.cons rfl (Sub.cons rfl (Sub.cons rfl (Sub.cons rfl (Sub.nil _)))))))⟩
    · replace ho622 := (if_neg (not_true hc1128)).symm.trans ho622
      refine e_exit ?_
      obtain rfl := Option.some.inj ho622
      obtain rfl := Option.some.inj ht622
      exact hX622_0  _ _ _ h hS f660 f661 f662 f663 (Sub.cons rfl (Sub.cons rfl (Sub.cons rfl (Sub.cons rfl (Sub.nil _)))))
theorem law20_RgraphCuts_w {F R : Nat → Prop} {w : World} {fuel : Nat} {a0 : (List Int)} {a1 : (List Int)} {v1 : Value} {v2 : Value} {r : (Bool)} (hS : Sep F R R w w []) (f1 : IsSlice Ty.u8 w R v1 a0) (f2 : IsSlice Ty.u8 w R v2 a1) (h : law20_RgraphCuts fuel a0 a1 = some r) :
    Gives Try.prog 8 [v1, v2] w fun u w1 => ∃ (R1 : Nat → Prop), u = .bool r ∧ Sep F R R1 w w1 [] := by
  refine fn_of Try.func8 rfl Try.ntmps8 (Nat.le_of_ble_eq_true rfl) ?_
  unfold law20_RgraphCuts at h
  refine e_seq fun K694 hK694 => ?_
  refine e_region_text rfl ?_
  refine q_assign rfl rfl ?_
  refine eseq_nil ?_
  refine hK694 _ _ ?_
  refine e_seq fun K695 hK695 => ?_
  refine e_seq fun K696 hK696 => ?_
  refine e_region_text rfl ?_
  obtain ⟨r698, hr698, h⟩ := Option.of_bind h
  refine q_call rfl (law20_awake_w (Sep.enter (As := []) hS)  hr698) rfl ?_
  rintro _ w697 ⟨R697, rfl, hC697⟩
  have hB697 : Below (World.heap w).size w w697 := hC697.stepB0
  refine ⟨fun _ => .of_below hB697, ?_⟩
  replace f1 := (f1.ext hB697).mono fun k hk _ => hC697.ro0 k hk
  replace f2 := (f2.ext hB697).mono fun k hk _ => hC697.ro0 k hk
  replace hS := Sep.leave (As := []) hS hC697; simp only [List.cons_append, List.nil_append] at hS
  refine q_not rfl rfl ?_
  refine eseq_nil ?_
  refine hK696 _ _ ?_
  refine e_cond rfl (fun hc699 => ?_) (fun hc699 => ?_)
  · replace h := (if_pos hc699).symm.trans h
    refine e_seq fun K700 hK700 => ?_
    refine e_region_text rfl ?_
    refine q_assign rfl rfl ?_
    refine eseq_nil ?_
    refine hK700 _ _ ?_
    refine e_ret ?_
    obtain rfl := Option.some.inj h
    exact ⟨_, res1 rfl rfl, _, rfl, hS⟩
  · replace h := (if_neg (not_true hc699)).symm.trans h
    refine e_skip ?_
    refine hK695 _ _ ?_
    refine e_seq fun K701 hK701 => ?_
    refine e_region_text rfl ?_
    refine q_move rfl rfl ?_
    obtain ⟨r703, hr703, h⟩ := Option.of_bind h
    refine q_call rfl (make_New_w (Sep.enter (As := []) hS) f1 hr703) rfl ?_
    rintro _ w702 ⟨B704, v705, R702, rfl, hC702, f705⟩
    have hB702 : Below (World.heap w697).size w697 w702 := hC702.stepB0
    refine ⟨fun _ => .of_below hB702, ?_⟩
    replace f2 := (f2.ext hB702).mono fun k hk _ => hC702.ro0 k hk
    replace f1 := (f1.ext hB702).mono fun k hk _ => hC702.ro0 k hk
    replace hS := Sep.leave (As := []) hS hC702; simp only [List.cons_append, List.nil_append] at hS
    obtain ⟨r707, hr707, h⟩ := Option.of_bind h
    refine q_call rfl (make_Codes_Pattern_w (Sep.enter (As := [_]) hS) f705 hr707) rfl ?_
    rintro _ w706 ⟨v708, v709, v710, R706, rfl, hC706, f708, f709⟩
    refine ⟨(fun h => by cases h), ?_⟩
    have hk706 := hC706.keptR (Sep.offFeet (As := [_]) hS)
    replace f2 := (f2.kept hk706).mono fun k hk _ => hC706.ro0 k hk
    replace f705 := (f705.kept hk706).mono fun k hk _ => hC706.ro0 k hk
    replace hS := Sep.leave (As := [_]) hS hC706; simp only [List.cons_append, List.nil_append] at hS
    refine q_allocB rfl fun w711 bl711 hg711 hb711 hB711 => ?_
    replace f2 := f2.ext hB711
    replace f708 := f708.ext hB711
    replace f709 := f709.ext hB711
    replace hS := hS.newBlk hB711 hg711 hb711
    refine q_storeAgg rfl rfl (hS.blk 0 rfl) rfl (Nat.le_of_ble_eq_true rfl) (all_cons f708.one (all_cons f709.one (all_cons (hS.own 2 rfl).one (all_nil)))) rfl rfl fun w713 hb713 hO713 => ?_
    simp only [setN, List.set, List.take, List.drop] at hb713
    have hk713 := hS.keptBlk 0 rfl hO713
    replace f2 := f2.kept hk713
    replace f708 := f708.kept hk713
    replace f709 := f709.kept hk713
    replace hS := hS.setBlk 0 rfl hb713 hO713; simp only [List.set] at hS
    refine eseq_nil ?_
    refine hK701 _ _ ?_
    refine e_seq fun K714 hK714 => ?_
    refine e_region_draw mixed (fun _ => False) [0, 1, 0, 4, 12, 31, 63] [1] [0, 2, 3, 4, 1, 5, 6] (by kernel_rfl) ?_
    refine q_move rfl rfl ?_
    refine q_field rfl rfl ?_
    refine q_load rfl (Blk.cell (hS.blk 0 rfl) rfl) rfl ?_
    refine q_lenS rfl f708 rfl ?_
    obtain ⟨r723, hr723, h⟩ := Option.of_bind h
    refine q_call rfl (make_New_w (Sep.enter (As := []) hS) f2 hr723) rfl ?_
    rintro _ w722 ⟨B724, v725, R722, rfl, hC722, f725⟩
    have hB722 : Below (World.heap w713).size w713 w722 := hC722.stepB0
    refine ⟨fun _ => .of_below hB722, ?_⟩
    replace f708 := (f708.ext hB722).mono fun k hk _ => hC722.ro0 k hk
    replace f709 := (f709.ext hB722).mono fun k hk _ => hC722.ro0 k hk
    replace f2 := (f2.ext hB722).mono fun k hk _ => hC722.ro0 k hk
    replace hS := Sep.leave (As := []) hS hC722; simp only [List.cons_append, List.nil_append] at hS
    obtain ⟨r727, hr727, h⟩ := Option.of_bind h
    refine q_call rfl (make_Codes_Procs_w (Sep.enter (As := [_]) hS) f725 hr727) rfl ?_
    rintro v728 w726 ⟨_, R726, rfl, hC726⟩
    refine ⟨(fun h => by cases h), ?_⟩
    have hk726 := hC726.keptR (Sep.offFeet (As := [_]) hS)
    replace f708 := (f708.kept hk726).mono fun k hk _ => hC726.ro0 k hk
    replace f709 := (f709.kept hk726).mono fun k hk _ => hC726.ro0 k hk
    replace f725 := (f725.kept hk726).mono fun k hk _ => hC726.ro0 k hk
    replace hS := Sep.leave (As := [_]) hS hC726; simp only [List.cons_append, List.nil_append] at hS
    refine q_assign rfl rfl ?_
    refine eseq_nil ?_
    refine hK714 _ _ ?_
    refine e_seq fun K729 hK729 => ?_
    refine e_region_text rfl ?_
    refine q_loadAgg rfl (Blk.cellsAt (hS.blk 2 rfl) 0 3 rfl) rfl rfl ?_
    refine q_move rfl rfl ?_
    obtain ⟨r731, hr731, h⟩ := Option.of_bind h
    refine q_call rfl (rgraph_Recovery_w (a0 := (⟨r707.1.lens, r707.1.ckpts, r707.1.arcs⟩ : Pat)) (Sep.all w726) (f708).old (f709).old ((hS.isl 4 rfl)).old ((hS.isl 1 rfl)).old hr731) rfl ?_
    rintro v732 w730 ⟨_, R730, rfl, hC730⟩
    have hB730 : Below (World.heap w726).size w726 w730 := hC730.stepBF
    refine ⟨fun _ => .of_below hB730, ?_⟩
    replace f708 := f708.ext hB730
    replace f709 := f709.ext hB730
    replace hS := hS.newOwnS hB730 (hC730.own 0 rfl) (hC730.fresh 0 rfl) (fun _ h => h.elim)
    refine q_assign rfl rfl ?_
    refine eseq_nil ?_
    refine hK729 _ _ ?_
    refine e_seq fun K733 hK733 => ?_
    refine e_seq fun K734 hK734 => ?_
    refine e_region_text rfl ?_
    refine q_loadAgg rfl (Blk.cellsAt (hS.blk 3 rfl) 0 3 rfl) rfl rfl ?_
    refine q_move rfl rfl ?_
    obtain ⟨r736, hr736, h⟩ := Option.of_bind h
    refine q_call rfl (cut_Valid_w (a0 := (⟨r707.1.lens, r707.1.ckpts, r707.1.arcs⟩ : Pat)) (Sep.all w730) (f708).old (f709).old ((hS.isl 5 rfl)).old ((hS.isl 0 rfl)).old hr736) rfl ?_
    rintro _ w735 ⟨R735, rfl, hC735⟩
    have hB735 : Below (World.heap w730).size w730 w735 := hC735.stepBF
    refine ⟨fun _ => .of_below hB735, ?_⟩
    replace f708 := f708.ext hB735
    replace f709 := f709.ext hB735
    replace hS := hS.below hB735
    refine q_not rfl rfl ?_
    refine q_move rfl rfl ?_
    obtain ⟨x742, hx741, h⟩ := Option.of_bind h
    refine g_orM 4 hx741 rfl trivial rfl rfl ?_ ?_ ?_
    · intro hg741
      refine g_skip rfl rfl rfl ?_
      refine g_skip rfl rfl rfl ?_
      refine g_skip rfl rfl rfl ?_
      refine g_skip rfl rfl rfl ?_
      exact eseq_nil ⟨rfl, Sub.set rfl (Sub.set rfl (Sub.set rfl (Sub.set rfl (Sub.bool true rfl hg741))))⟩
    · intro hg741 hx741
      clear h
      have hT741 := Below.refl (World.heap w735).size w735
      refine g_run rfl ?_; refine q_loadAgg rfl (Blk.cellsAt (hS.blk 3 rfl) 0 3 rfl) rfl rfl ?_
      refine g_run rfl ?_; refine q_move rfl rfl ?_
      obtain ⟨r744, hr744, hx741⟩ := Option.of_bind hx741
      refine g_run rfl ?_; refine q_call rfl (cut_Consistent_w (a0 := (⟨r707.1.lens, r707.1.ckpts, r707.1.arcs⟩ : Pat)) (Sep.all w735) (f708).old (f709).old ((hS.isl 5 rfl)).old ((hS.isl 0 rfl)).old hr744) rfl ?_
      rintro _ w743 ⟨R743, rfl, hC743⟩
      have hB743 : Below (World.heap w735).size w735 w743 := hC743.stepBF
      refine ⟨fun _ => .of_below hB743, ?_⟩
      replace f708 := f708.ext hB743
      replace f709 := f709.ext hB743
      replace hT741 := hT741.trans (Below.mono hB743 hT741.size)
      replace hS := hS.below hB743
      refine g_run rfl ?_; refine q_not rfl rfl ?_
      cases hx741
      exact eseq_nil ⟨hT741, Sub.set rfl (Sub.set rfl (Sub.set rfl (Sub.set rfl (Sub.bool false rfl hg741)))), rfl⟩
    intro wm741 hBm741; clear hx741
    replace hS := hS.below hBm741
    replace f708 := f708.ext hBm741
    replace f709 := f709.ext hBm741
    refine eseq_nil ?_
    refine hK734 _ _ ?_
    refine e_cond rfl (fun hc745 => ?_) (fun hc745 => ?_)
    · replace h := (if_pos hc745).symm.trans h
      refine e_seq fun K746 hK746 => ?_
      refine e_region_text rfl ?_
      refine q_assign rfl rfl ?_
      refine eseq_nil ?_
      refine hK746 _ _ ?_
      refine e_ret ?_
      obtain rfl := Option.some.inj h
      exact ⟨_, res1 rfl rfl, _, rfl, (hS.pickB [] 6 rfl rfl)⟩
    · replace h := (if_neg (not_true hc745)).symm.trans h
      refine e_skip ?_
      refine hK733 _ _ ?_
      refine e_seq fun K747 hK747 => ?_
      refine e_seq fun K748 hK748 => ?_
      refine e_region_text rfl ?_
      refine q_move rfl rfl ?_
      refine q_lenS rfl (hS.isl 0 rfl) rfl ?_
      refine q_move rfl rfl ?_
      refine eseq_nil ?_
      refine hK748 _ _ ?_
      refine e_block ?_
      obtain ⟨tl749, ht749, h⟩ := Option.of_bind h
      have hX749_0 : ∀ (R1181 : Nat → Prop) (w1182 : World) (E_ : Env), law20_RgraphCuts_K1 fuel = some r → Sep F R R1181 w w1182 [] → Sub [] E_ → K747 E_ w1182 := by
        intro R1181 w1182 E_ h hS  hsub
        refine hK747 _ _ (e_sub hsub ?_); clear hsub
        unfold law20_RgraphCuts_K1 at h
        refine e_seq fun K1183 hK1183 => ?_
        refine e_region_text rfl ?_
        refine q_assign rfl rfl ?_
        refine eseq_nil ?_
        refine hK1183 _ _ ?_
        refine e_ret ?_
        obtain rfl := Option.some.inj h
        exact ⟨_, res1 rfl rfl, _, rfl, hS⟩
      refine e_loop (fun m_ E_ w966 => ∃ (x972 : Int), ∃ (R965 : Nat → Prop), iter (fun s => law20_RgraphCuts_B1 fuel r731 r707 r727 s) m_ x972 = some tl749 ∧ Sep F R R965 w w966 [HP.blk bl711 [v708, v709, v710] 28, HP.own arcTy (fun _ => False) 59 v710 r707.1.arcs, HP.own Ty.int (fun _ => False) 3 v728 r727.1, HP.own Ty.int (fun _ => False) 3 v732 r731] ∧ IsSlice Ty.int w966 R965 v708 r707.1.lens ∧ IsSlice (Ty.slice Ty.int) w966 R965 v709 r707.1.ckpts ∧ E_ = [(5, .pointer (some ⟨bl711, 0, none⟩)), (6, v728), (7, v732), (40, .int .i64 (r731.length : Int)), (41, .int .i64 x972)]) _ ⟨_, ⟨0, _, ht749, (hS.pickB [3, 5, 2, 0] 6 rfl rfl), f708, f709, rfl⟩, Sub.cons rfl (Sub.cons rfl (Sub.cons rfl (Sub.cons rfl (Sub.cons rfl (Sub.nil _)))))⟩ ?_
      clear ht749 hS
      rintro m749 _ w966 ⟨x972, R965, ht749, hS, f967, f968, rfl⟩
      obtain ⟨m749, rfl, o749, ho749, ht749⟩ := iter_some ht749
      replace ho749 : law20_RgraphCuts_B1 fuel r731 r707 r727 x972 = some o749 := ho749
      unfold law20_RgraphCuts_B1 at ho749
      refine e_seq fun K1184 hK1184 => ?_
      refine e_region_text rfl ?_
      refine q_lss rfl rfl rfl ?_
      refine eseq_nil ?_
      refine hK1184 _ _ ?_
      refine e_seq fun K1185 hK1185 => ?_
      refine e_cond rfl (fun hc1186 => ?_) (fun hc1186 => ?_)
      · replace ho749 := (if_pos hc1186).symm.trans ho749
        refine e_skip ?_
        refine hK1185 _ _ ?_
        refine e_seq fun K1187 hK1187 => ?_
        refine e_block ?_
        refine e_seq fun K1188 hK1188 => ?_
        refine e_region_text rfl ?_
        refine q_move rfl rfl ?_
        refine q_assign rfl rfl ?_
        refine eseq_nil ?_
        refine hK1188 _ _ ?_
        refine e_seq fun K1189 hK1189 => ?_
        refine e_region_text rfl ?_
        refine q_assign rfl rfl ?_
        refine q_assign rfl rfl ?_
        refine eseq_nil ?_
        refine hK1189 _ _ ?_
        refine e_seq fun K1190 hK1190 => ?_
        refine e_seq fun K1191 hK1191 => ?_
        refine e_region_text rfl ?_
        refine q_field rfl rfl ?_
        refine q_load rfl (Blk.cell (hS.blk 0 rfl) rfl) rfl ?_
        refine q_move rfl rfl ?_
        obtain ⟨x1192, hx1192, ho749⟩ := Option.of_bind ho749
        refine q_atS (by infer_instance) rfl f968 rfl hx1192 rfl fun b1193 o1193 hm1193 f1193 => ?_
        refine q_loadE rfl f1193 rfl (fun v1194 f1194 => ?_)
        refine q_lenS rfl f1194 rfl ?_
        refine q_move rfl rfl ?_
        refine eseq_nil ?_
        refine hK1191 _ _ ?_
        refine e_block ?_
        obtain ⟨tl1195, ht1195, ho749⟩ := Option.of_bind ho749
        have hX1195_2 : ∀ (x1271 : Bool) (R1264 : Nat → Prop) (w1265 : World) (E_ : Env), law20_RgraphCuts_K2 fuel r727 x972 r731 r707 x1271 = some o749 → Sep F R R1264 w w1265 [HP.blk bl711 [v708, v709, v710] 28, HP.own arcTy (fun _ => False) 59 v710 r707.1.arcs, HP.own Ty.int (fun _ => False) 3 v728 r727.1, HP.own Ty.int (fun _ => False) 3 v732 r731] → IsSlice Ty.int w1265 R1264 v708 r707.1.lens → IsSlice (Ty.slice Ty.int) w1265 R1264 v709 r707.1.ckpts → Sub [(5, .pointer (some ⟨bl711, 0, none⟩)), (6, v728), (7, v732), (8, .int .i64 x972), (9, .bool x1271), (10, .bool false), (40, .int .i64 (r731.length : Int)), (41, .int .i64 x972)] E_ → K1190 E_ w1265 := by
          intro x1271 R1264 w1265 E_ ho749 hS f1266 f1267 hsub
          refine hK1190 _ _ (e_sub hsub ?_); clear hsub
          unfold law20_RgraphCuts_K2 at ho749
          refine e_seq fun K1272 hK1272 => ?_
          refine e_seq fun K1273 hK1273 => ?_
          refine e_region_text rfl ?_
          refine q_move rfl rfl ?_
          refine q_lenS rfl (hS.isl 2 rfl) rfl ?_
          refine q_move rfl rfl ?_
          refine eseq_nil ?_
          refine hK1273 _ _ ?_
          refine e_block ?_
          obtain ⟨tl1274, ht1274, ho749⟩ := Option.of_bind ho749
          have hX1274_4 : ∀ (x1338 : Bool) (R1331 : Nat → Prop) (w1332 : World) (E_ : Env), law20_RgraphCuts_K3 fuel x1271 r731 x972 r707 x1338 = some o749 → Sep F R R1331 w w1332 [HP.blk bl711 [v708, v709, v710] 28, HP.own arcTy (fun _ => False) 59 v710 r707.1.arcs, HP.own Ty.int (fun _ => False) 3 v728 r727.1, HP.own Ty.int (fun _ => False) 3 v732 r731] → IsSlice Ty.int w1332 R1331 v708 r707.1.lens → IsSlice (Ty.slice Ty.int) w1332 R1331 v709 r707.1.ckpts → Sub [(5, .pointer (some ⟨bl711, 0, none⟩)), (6, v728), (7, v732), (8, .int .i64 x972), (9, .bool x1271), (10, .bool x1338), (40, .int .i64 (r731.length : Int)), (41, .int .i64 x972)] E_ → K1272 E_ w1332 := by
            intro x1338 R1331 w1332 E_ ho749 hS f1333 f1334 hsub
            refine hK1272 _ _ (e_sub hsub ?_); clear hsub
            unfold law20_RgraphCuts_K3 at ho749
            refine e_seq fun K1339 hK1339 => ?_
            refine e_region_draw mixed (fun _ => False) [0, 1, 3, 7, 15, 31, 31, 127, 255, 31, 543, 31, 3615, 7711, 16383, 32767, 65535] [] [0, 1, 2, 3, 4, 5, 6, 7, 8, 9, 10, 11, 12, 13, 14, 15, 16] (by kernel_rfl) ?_
            refine q_move rfl rfl ?_
            refine q_not rfl rfl ?_
            refine q_move rfl rfl ?_
            obtain ⟨x1349, hx1348, ho749⟩ := Option.of_bind ho749
            refine g_andM 13 hx1348 rfl trivial rfl rfl ?_ ?_ ?_
            · intro hg1348 hx1348
              clear ho749
              have hT1348 := Below.refl (World.heap w1332).size w1332
              refine g_run rfl ?_; refine q_move rfl rfl ?_
              refine g_run rfl ?_; refine q_move rfl rfl ?_
              obtain ⟨x1351, hx1350, hx1348⟩ := Option.of_bind hx1348
              refine g_orM 10 hx1350 rfl rfl rfl rfl ?_ ?_ ?_
              · intro hg1350
                refine g_skip rfl rfl rfl ?_
                refine g_skip rfl rfl rfl ?_
                refine g_skip rfl rfl rfl ?_
                refine g_skip rfl rfl rfl ?_
                refine g_skip rfl rfl rfl ?_
                refine g_skip rfl rfl rfl ?_
                refine g_skip rfl rfl rfl ?_
                refine g_skip rfl rfl rfl ?_
                refine g_skip rfl rfl rfl ?_
                refine g_skip rfl rfl rfl ?_
                exact eseq_nil ⟨rfl, Sub.set rfl (Sub.set rfl (Sub.set rfl (Sub.set rfl (Sub.set rfl (Sub.set rfl (Sub.set rfl (Sub.set rfl (Sub.set rfl (Sub.set rfl (Sub.bool true rfl hg1350))))))))))⟩
              · intro hg1350 hx1350
                clear hx1348
                have hT1350 := Below.refl (World.heap w1332).size w1332
                refine g_run rfl ?_; refine q_move rfl rfl ?_
                refine g_run rfl ?_; refine q_move rfl rfl ?_
                obtain ⟨x1352, hx1352, hx1350⟩ := Option.of_bind hx1350
                refine g_run rfl ?_; refine q_indexO (by infer_instance) rfl (hS.own 3 rfl) rfl hx1352 rfl ?_
                have f1353 := (hS.ownR 3 rfl).elt hx1352
                refine g_run rfl ?_; refine q_load rfl (Elt.intCell f1353) rfl ?_
                refine g_run rfl ?_; refine q_field rfl rfl ?_
                refine g_run rfl ?_; refine q_load rfl (Blk.cell (hS.blk 0 rfl) rfl) rfl ?_
                refine g_run rfl ?_; refine q_move rfl rfl ?_
                obtain ⟨x1354, hx1354, hx1350⟩ := Option.of_bind hx1350
                refine g_run rfl ?_; refine q_atS (by infer_instance) rfl f1333 rfl hx1354 rfl fun b1355 o1355 hm1355 f1355 => ?_
                refine g_run rfl ?_; refine q_load rfl (Elt.intCell f1355) rfl ?_
                refine g_run rfl ?_; refine q_neq rfl rfl rfl ?_
                cases hx1350
                exact eseq_nil ⟨hT1350, Sub.set rfl (Sub.set rfl (Sub.set rfl (Sub.set rfl (Sub.set rfl (Sub.set rfl (Sub.set rfl (Sub.set rfl (Sub.set rfl (Sub.set rfl (Sub.bool false rfl hg1350)))))))))), rfl⟩
              intro wm1350 hBm1350; clear hx1350
              replace hS := hS.below hBm1350
              replace f1333 := f1333.ext hBm1350
              replace f1334 := f1334.ext hBm1350
              replace hT1348 := hT1348.trans (Below.mono hBm1350 hT1348.size)
              cases hx1348
              exact eseq_nil ⟨hT1348, Sub.set rfl (Sub.set rfl (Sub.set rfl (Sub.bool true rfl hg1348))), rfl⟩
            · intro hg1348
              refine g_skip rfl rfl rfl ?_
              refine g_skip rfl rfl rfl ?_
              refine g_skipU rfl rfl ?_
              refine g_skipU rfl rfl ?_
              refine g_skipU rfl rfl ?_
              refine g_skipU rfl rfl ?_
              refine g_skipU rfl rfl ?_
              refine g_skipU rfl rfl ?_
              refine g_skipU rfl rfl ?_
              refine g_skipU rfl rfl ?_
              refine g_skipU rfl rfl ?_
              refine g_skipU rfl rfl ?_
              refine g_skip rfl rfl rfl ?_
              exact eseq_nil ⟨rfl, Sub.set rfl (Sub.set rfl (Sub.set rfl (Sub.set rfl (Sub.set rfl (Sub.set rfl (Sub.set rfl (Sub.set rfl (Sub.set rfl (Sub.set rfl (Sub.set rfl (Sub.set rfl (Sub.set rfl (Sub.bool false rfl hg1348)))))))))))))⟩
            intro wm1348 hBm1348; clear hx1348
            replace hS := hS.below hBm1348
            replace f1333 := f1333.ext hBm1348
            replace f1334 := f1334.ext hBm1348
            refine eseq_nil ?_
            refine hK1339 _ _ ?_
            refine e_cond rfl (fun hc1356 => ?_) (fun hc1356 => ?_)
            · replace ho749 := (if_pos hc1356).symm.trans ho749
              refine e_seq fun K1357 hK1357 => ?_
              refine e_region_text rfl ?_
              refine q_assign rfl rfl ?_
              refine eseq_nil ?_
              refine hK1357 _ _ ?_
              refine e_ret ?_
              obtain rfl := Option.some.inj ho749
              obtain rfl := Option.some.inj ht749
              obtain rfl := Option.some.inj h
              exact ⟨_, res1 rfl rfl, _, rfl, (hS.pickB [] 4 rfl rfl)⟩
            · replace ho749 := (if_neg (not_true hc1356)).symm.trans ho749
              refine e_skip ?_
              refine hK1187 _ _ ?_
              refine e_region_text rfl ?_
              refine q_addW rfl rfl rfl ?_
              refine q_move rfl rfl ?_
              refine eseq_nil ?_
              obtain rfl := Option.some.inj ho749
              exact ⟨m749, _, Nat.lt_succ_self _, ⟨(w64 (x972 + 1)), _, ht749, hS, f1333, f1334, rfl⟩, Sub.cons rfl (Sub.cons rfl (Sub.cons rfl (Sub.cons rfl (Sub.cons rfl (Sub.nil _)))))⟩
          refine e_loop (fun m_ E_ w1303 => ∃ (x1309 : Bool), ∃ (x1310 : Int), ∃ (R1302 : Nat → Prop), iter (fun s => law20_RgraphCuts_B2 fuel r727 x972 s.1 s.2) m_ (x1309, x1310) = some tl1274 ∧ Sep F R R1302 w w1303 [HP.blk bl711 [v708, v709, v710] 28, HP.own arcTy (fun _ => False) 59 v710 r707.1.arcs, HP.own Ty.int (fun _ => False) 3 v728 r727.1, HP.own Ty.int (fun _ => False) 3 v732 r731] ∧ IsSlice Ty.int w1303 R1302 v708 r707.1.lens ∧ IsSlice (Ty.slice Ty.int) w1303 R1302 v709 r707.1.ckpts ∧ E_ = [(5, .pointer (some ⟨bl711, 0, none⟩)), (6, v728), (7, v732), (8, .int .i64 x972), (9, .bool x1271), (10, .bool x1309), (40, .int .i64 (r731.length : Int)), (41, .int .i64 x972), (64, v728), (65, .int .i64 (r727.1.length : Int)), (66, .int .i64 x1310)]) _ ⟨_, ⟨false, 0, _, ht1274, hS, f1266, f1267, rfl⟩, Sub.cons rfl (Sub.cons rfl (Sub.cons rfl (Sub.cons rfl (Sub.cons rfl (Sub.cons rfl (Sub.cons rfl (Sub.cons rfl (Sub.cons rfl (Sub.cons rfl (Sub.cons rfl (Sub.nil _)))))))))))⟩ ?_
          clear ht1274 hS
          rintro m1274 _ w1303 ⟨x1309, x1310, R1302, ht1274, hS, f1304, f1305, rfl⟩
          obtain ⟨m1274, rfl, o1274, ho1274, ht1274⟩ := iter_some ht1274
          replace ho1274 : law20_RgraphCuts_B2 fuel r727 x972 x1309 x1310 = some o1274 := ho1274
          unfold law20_RgraphCuts_B2 at ho1274
          refine e_seq fun K1358 hK1358 => ?_
          refine e_region_text rfl ?_
          refine q_lss rfl rfl rfl ?_
          refine eseq_nil ?_
          refine hK1358 _ _ ?_
          refine e_seq fun K1359 hK1359 => ?_
          refine e_cond rfl (fun hc1360 => ?_) (fun hc1360 => ?_)
          · replace ho1274 := (if_pos hc1360).symm.trans ho1274
            refine e_skip ?_
            refine hK1359 _ _ ?_
            refine e_seq fun K1361 hK1361 => ?_
            refine e_block ?_
            refine e_seq fun K1362 hK1362 => ?_
            refine e_region_text rfl ?_
            obtain ⟨x1363, hx1363, ho1274⟩ := Option.of_bind ho1274
            refine q_indexO (by infer_instance) rfl (hS.own 2 rfl) rfl hx1363 rfl ?_
            have f1364 := (hS.ownR 2 rfl).elt hx1363
            refine q_load rfl (Elt.intCell f1364) rfl ?_
            refine q_assign rfl rfl ?_
            refine eseq_nil ?_
            refine hK1362 _ _ ?_
            refine e_region_text rfl ?_
            refine q_move rfl rfl ?_
            refine q_move rfl rfl ?_
            obtain ⟨x1368, hx1367, ho1274⟩ := Option.of_bind ho1274
            refine g_orM 3 hx1367 rfl trivial rfl rfl ?_ ?_ ?_
            · intro hg1367
              refine g_skip rfl rfl rfl ?_
              refine g_skip rfl rfl rfl ?_
              refine g_skip rfl rfl rfl ?_
              exact eseq_nil ⟨rfl, Sub.set rfl (Sub.set rfl (Sub.set rfl (Sub.bool true rfl hg1367)))⟩
            · intro hg1367 hx1367
              clear ho1274
              have hT1367 := Below.refl (World.heap w1303).size w1303
              refine g_run rfl ?_; refine q_move rfl rfl ?_
              refine g_run rfl ?_; refine q_move rfl rfl ?_
              refine g_run rfl ?_; refine q_eql rfl rfl rfl ?_
              cases hx1367
              exact eseq_nil ⟨hT1367, Sub.set rfl (Sub.set rfl (Sub.set rfl (Sub.bool false rfl hg1367))), rfl⟩
            intro wm1367 hBm1367; clear hx1367
            replace hS := hS.below hBm1367
            replace f1304 := f1304.ext hBm1367
            replace f1305 := f1305.ext hBm1367
            refine q_assign rfl rfl ?_
            refine eseq_nil ?_
            refine hK1361 _ _ ?_
            refine e_region_text rfl ?_
            refine q_addW rfl rfl rfl ?_
            refine q_move rfl rfl ?_
            refine eseq_nil ?_
            obtain rfl := Option.some.inj ho1274
            exact ⟨m1274, _, Nat.lt_succ_self _, ⟨x1368, (w64 (x1310 + 1)), _, ht1274, hS, f1304, f1305, rfl⟩, Sub.cons rfl (Sub.cons rfl (Sub.cons rfl (Sub.cons rfl (Sub.cons rfl (Sub.cons rfl (Sub.cons rfl (Sub.cons rfl (Sub.cons rfl (Sub.cons rfl (Sub.cons rfl (Sub.nil _)))))))))))⟩
          · replace ho1274 := (if_neg (not_true hc1360)).symm.trans ho1274
            refine e_exit ?_
            obtain rfl := Option.some.inj ho1274
            obtain rfl := Option.some.inj ht1274
            exact hX1274_4 x1309 _ _ _ ho749 hS f1304 f1305 (Sub.cons rfl (Sub.cons rfl (Sub.cons rfl (Sub.cons rfl (Sub.cons rfl (Sub.cons rfl (Sub.cons rfl (Sub.cons rfl (Sub.nil _)))))))))
        refine e_loop (fun m_ E_ w1230 => ∃ (x1236 : Bool), ∃ (x1238 : Int), ∃ (R1229 : Nat → Prop), iter (fun s => law20_RgraphCuts_B3 fuel x1192 r731 x972 s.1 s.2) m_ (x1236, x1238) = some tl1195 ∧ Sep F R R1229 w w1230 [HP.blk bl711 [v708, v709, v710] 28, HP.own arcTy (fun _ => False) 59 v710 r707.1.arcs, HP.own Ty.int (fun _ => False) 3 v728 r727.1, HP.own Ty.int (fun _ => False) 3 v732 r731] ∧ IsSlice Ty.int w1230 R1229 v708 r707.1.lens ∧ IsSlice (Ty.slice Ty.int) w1230 R1229 v709 r707.1.ckpts ∧ IsSlice Ty.int w1230 R1229 v1194 x1192 ∧ E_ = [(5, .pointer (some ⟨bl711, 0, none⟩)), (6, v728), (7, v732), (8, .int .i64 x972), (9, .bool x1236), (10, .bool false), (40, .int .i64 (r731.length : Int)), (41, .int .i64 x972), (48, v1194), (49, .int .i64 (x1192.length : Int)), (50, .int .i64 x1238)]) _ ⟨_, ⟨false, 0, _, ht1195, hS, f967, f968, f1194, rfl⟩, Sub.cons rfl (Sub.cons rfl (Sub.cons rfl (Sub.cons rfl (Sub.cons rfl (Sub.cons rfl (Sub.cons rfl (Sub.cons rfl (Sub.cons rfl (Sub.cons rfl (Sub.cons rfl (Sub.nil _)))))))))))⟩ ?_
        clear ht1195 hS
        rintro m1195 _ w1230 ⟨x1236, x1238, R1229, ht1195, hS, f1231, f1232, f1237, rfl⟩
        obtain ⟨m1195, rfl, o1195, ho1195, ht1195⟩ := iter_some ht1195
        replace ho1195 : law20_RgraphCuts_B3 fuel x1192 r731 x972 x1236 x1238 = some o1195 := ho1195
        unfold law20_RgraphCuts_B3 at ho1195
        refine e_seq fun K1369 hK1369 => ?_
        refine e_region_text rfl ?_
        refine q_lss rfl rfl rfl ?_
        refine eseq_nil ?_
        refine hK1369 _ _ ?_
        refine e_seq fun K1370 hK1370 => ?_
        refine e_cond rfl (fun hc1371 => ?_) (fun hc1371 => ?_)
        · replace ho1195 := (if_pos hc1371).symm.trans ho1195
          refine e_skip ?_
          refine hK1370 _ _ ?_
          refine e_seq fun K1372 hK1372 => ?_
          refine e_block ?_
          refine e_seq fun K1373 hK1373 => ?_
          refine e_region_text rfl ?_
          obtain ⟨x1374, hx1374, ho1195⟩ := Option.of_bind ho1195
          refine q_atS (by infer_instance) rfl f1237 rfl hx1374 rfl fun b1375 o1375 hm1375 f1375 => ?_
          refine q_load rfl (Elt.intCell f1375) rfl ?_
          refine q_assign rfl rfl ?_
          refine eseq_nil ?_
          refine hK1373 _ _ ?_
          refine e_region_text rfl ?_
          refine q_move rfl rfl ?_
          refine q_move rfl rfl ?_
          obtain ⟨x1381, hx1380, ho1195⟩ := Option.of_bind ho1195
          refine g_orM 6 hx1380 rfl trivial rfl rfl ?_ ?_ ?_
          · intro hg1380
            refine g_skip rfl rfl rfl ?_
            refine g_skip rfl rfl rfl ?_
            refine g_skip rfl rfl rfl ?_
            refine g_skip rfl rfl rfl ?_
            refine g_skip rfl rfl rfl ?_
            refine g_skip rfl rfl rfl ?_
            exact eseq_nil ⟨rfl, Sub.set rfl (Sub.set rfl (Sub.set rfl (Sub.set rfl (Sub.set rfl (Sub.set rfl (Sub.bool true rfl hg1380))))))⟩
          · intro hg1380 hx1380
            clear ho1195
            have hT1380 := Below.refl (World.heap w1230).size w1230
            refine g_run rfl ?_; refine q_move rfl rfl ?_
            refine g_run rfl ?_; refine q_move rfl rfl ?_
            refine g_run rfl ?_; refine q_move rfl rfl ?_
            obtain ⟨x1382, hx1382, hx1380⟩ := Option.of_bind hx1380
            refine g_run rfl ?_; refine q_indexO (by infer_instance) rfl (hS.own 3 rfl) rfl hx1382 rfl ?_
            have f1383 := (hS.ownR 3 rfl).elt hx1382
            refine g_run rfl ?_; refine q_load rfl (Elt.intCell f1383) rfl ?_
            refine g_run rfl ?_; refine q_eql rfl rfl rfl ?_
            cases hx1380
            exact eseq_nil ⟨hT1380, Sub.set rfl (Sub.set rfl (Sub.set rfl (Sub.set rfl (Sub.set rfl (Sub.set rfl (Sub.bool false rfl hg1380)))))), rfl⟩
          intro wm1380 hBm1380; clear hx1380
          replace hS := hS.below hBm1380
          replace f1231 := f1231.ext hBm1380
          replace f1232 := f1232.ext hBm1380
          replace f1237 := f1237.ext hBm1380
          refine q_assign rfl rfl ?_
          refine eseq_nil ?_
          refine hK1372 _ _ ?_
          refine e_region_text rfl ?_
          refine q_addW rfl rfl rfl ?_
          refine q_move rfl rfl ?_
          refine eseq_nil ?_
          obtain rfl := Option.some.inj ho1195
          exact ⟨m1195, _, Nat.lt_succ_self _, ⟨x1381, (w64 (x1238 + 1)), _, ht1195, hS, f1231, f1232, f1237, rfl⟩, Sub.cons rfl (Sub.cons rfl (Sub.cons rfl (Sub.cons rfl (Sub.cons rfl (Sub.cons rfl (Sub.cons rfl (Sub.cons rfl (Sub.cons rfl (Sub.cons rfl (Sub.cons rfl (Sub.nil _)))))))))))⟩
        · replace ho1195 := (if_neg (not_true hc1371)).symm.trans ho1195
          refine e_exit ?_
          obtain rfl := Option.some.inj ho1195
          obtain rfl := Option.some.inj ht1195
          exact hX1195_2 x1236 _ _ _ ho749 hS f1231 f1232 (Sub.cons rfl (Sub.cons rfl (Sub.cons rfl (Sub.cons rfl (Sub.cons rfl (Sub.cons rfl (Sub.cons rfl (Sub.cons rfl (Sub.nil _)))))))))
      · replace ho749 := (if_neg (not_true hc1186)).symm.trans ho749
        refine e_exit ?_
        obtain rfl := Option.some.inj ho749
        obtain rfl := Option.some.inj ht749
        exact hX749_0  _ _ _ h (hS.pickB [] 4 rfl rfl)  (Sub.nil _)
theorem law20_RgraphMeets_w {F R : Nat → Prop} {w : World} {fuel : Nat} {a0 : (List Int)} {a1 : (List Int)} {v1 : Value} {v2 : Value} {r : (Bool)} (hS : Sep F R R w w []) (f1 : IsSlice Ty.u8 w R v1 a0) (f2 : IsSlice Ty.u8 w R v2 a1) (h : law20_RgraphMeets fuel a0 a1 = some r) :
    Gives Try.prog 7 [v1, v2] w fun u w1 => ∃ (R1 : Nat → Prop), u = .bool r ∧ Sep F R R1 w w1 [] := by
  refine fn_of Try.func7 rfl Try.ntmps7 (Nat.le_of_ble_eq_true rfl) ?_
  unfold law20_RgraphMeets at h
  refine e_seq fun K141 hK141 => ?_
  refine e_region_text rfl ?_
  refine q_assign rfl rfl ?_
  refine eseq_nil ?_
  refine hK141 _ _ ?_
  refine e_seq fun K142 hK142 => ?_
  refine e_seq fun K143 hK143 => ?_
  refine e_region_text rfl ?_
  obtain ⟨r145, hr145, h⟩ := Option.of_bind h
  refine q_call rfl (law20_awake_w (Sep.enter (As := []) hS)  hr145) rfl ?_
  rintro _ w144 ⟨R144, rfl, hC144⟩
  have hB144 : Below (World.heap w).size w w144 := hC144.stepB0
  refine ⟨fun _ => .of_below hB144, ?_⟩
  replace f1 := (f1.ext hB144).mono fun k hk _ => hC144.ro0 k hk
  replace f2 := (f2.ext hB144).mono fun k hk _ => hC144.ro0 k hk
  replace hS := Sep.leave (As := []) hS hC144; simp only [List.cons_append, List.nil_append] at hS
  refine q_not rfl rfl ?_
  refine eseq_nil ?_
  refine hK143 _ _ ?_
  refine e_cond rfl (fun hc146 => ?_) (fun hc146 => ?_)
  · replace h := (if_pos hc146).symm.trans h
    refine e_seq fun K147 hK147 => ?_
    refine e_region_text rfl ?_
    refine q_assign rfl rfl ?_
    refine eseq_nil ?_
    refine hK147 _ _ ?_
    refine e_ret ?_
    obtain rfl := Option.some.inj h
    exact ⟨_, res1 rfl rfl, _, rfl, hS⟩
  · replace h := (if_neg (not_true hc146)).symm.trans h
    refine e_skip ?_
    refine hK142 _ _ ?_
    refine e_seq fun K148 hK148 => ?_
    refine e_region_text rfl ?_
    refine q_move rfl rfl ?_
    obtain ⟨r150, hr150, h⟩ := Option.of_bind h
    refine q_call rfl (make_New_w (Sep.enter (As := []) hS) f1 hr150) rfl ?_
    rintro _ w149 ⟨B151, v152, R149, rfl, hC149, f152⟩
    have hB149 : Below (World.heap w144).size w144 w149 := hC149.stepB0
    refine ⟨fun _ => .of_below hB149, ?_⟩
    replace f2 := (f2.ext hB149).mono fun k hk _ => hC149.ro0 k hk
    replace f1 := (f1.ext hB149).mono fun k hk _ => hC149.ro0 k hk
    replace hS := Sep.leave (As := []) hS hC149; simp only [List.cons_append, List.nil_append] at hS
    obtain ⟨r154, hr154, h⟩ := Option.of_bind h
    refine q_call rfl (make_Codes_Pattern_w (Sep.enter (As := [_]) hS) f152 hr154) rfl ?_
    rintro _ w153 ⟨v155, v156, v157, R153, rfl, hC153, f155, f156⟩
    refine ⟨(fun h => by cases h), ?_⟩
    have hk153 := hC153.keptR (Sep.offFeet (As := [_]) hS)
    replace f2 := (f2.kept hk153).mono fun k hk _ => hC153.ro0 k hk
    replace f152 := (f152.kept hk153).mono fun k hk _ => hC153.ro0 k hk
    replace hS := Sep.leave (As := [_]) hS hC153; simp only [List.cons_append, List.nil_append] at hS
    refine q_allocB rfl fun w158 bl158 hg158 hb158 hB158 => ?_
    replace f2 := f2.ext hB158
    replace f155 := f155.ext hB158
    replace f156 := f156.ext hB158
    replace hS := hS.newBlk hB158 hg158 hb158
    refine q_storeAgg rfl rfl (hS.blk 0 rfl) rfl (Nat.le_of_ble_eq_true rfl) (all_cons f155.one (all_cons f156.one (all_cons (hS.own 2 rfl).one (all_nil)))) rfl rfl fun w160 hb160 hO160 => ?_
    simp only [setN, List.set, List.take, List.drop] at hb160
    have hk160 := hS.keptBlk 0 rfl hO160
    replace f2 := f2.kept hk160
    replace f155 := f155.kept hk160
    replace f156 := f156.kept hk160
    replace hS := hS.setBlk 0 rfl hb160 hO160; simp only [List.set] at hS
    refine eseq_nil ?_
    refine hK148 _ _ ?_
    refine e_seq fun K161 hK161 => ?_
    refine e_region_draw mixed (fun _ => False) [0, 1, 0, 4, 12, 31, 63] [1] [0, 2, 3, 4, 1, 5, 6] (by kernel_rfl) ?_
    refine q_move rfl rfl ?_
    refine q_field rfl rfl ?_
    refine q_load rfl (Blk.cell (hS.blk 0 rfl) rfl) rfl ?_
    refine q_lenS rfl f155 rfl ?_
    obtain ⟨r170, hr170, h⟩ := Option.of_bind h
    refine q_call rfl (make_New_w (Sep.enter (As := []) hS) f2 hr170) rfl ?_
    rintro _ w169 ⟨B171, v172, R169, rfl, hC169, f172⟩
    have hB169 : Below (World.heap w160).size w160 w169 := hC169.stepB0
    refine ⟨fun _ => .of_below hB169, ?_⟩
    replace f155 := (f155.ext hB169).mono fun k hk _ => hC169.ro0 k hk
    replace f156 := (f156.ext hB169).mono fun k hk _ => hC169.ro0 k hk
    replace f2 := (f2.ext hB169).mono fun k hk _ => hC169.ro0 k hk
    replace hS := Sep.leave (As := []) hS hC169; simp only [List.cons_append, List.nil_append] at hS
    obtain ⟨r174, hr174, h⟩ := Option.of_bind h
    refine q_call rfl (make_Codes_Procs_w (Sep.enter (As := [_]) hS) f172 hr174) rfl ?_
    rintro v175 w173 ⟨_, R173, rfl, hC173⟩
    refine ⟨(fun h => by cases h), ?_⟩
    have hk173 := hC173.keptR (Sep.offFeet (As := [_]) hS)
    replace f155 := (f155.kept hk173).mono fun k hk _ => hC173.ro0 k hk
    replace f156 := (f156.kept hk173).mono fun k hk _ => hC173.ro0 k hk
    replace f172 := (f172.kept hk173).mono fun k hk _ => hC173.ro0 k hk
    replace hS := Sep.leave (As := [_]) hS hC173; simp only [List.cons_append, List.nil_append] at hS
    refine q_assign rfl rfl ?_
    refine eseq_nil ?_
    refine hK161 _ _ ?_
    refine e_seq fun K176 hK176 => ?_
    refine e_region_text rfl ?_
    refine q_field rfl rfl ?_
    refine q_load rfl (Blk.cell (hS.blk 2 rfl) rfl) rfl ?_
    refine q_assign rfl rfl ?_
    refine eseq_nil ?_
    refine hK176 _ _ ?_
    refine e_seq fun K177 hK177 => ?_
    refine e_seq fun K178 hK178 => ?_
    refine e_region_text rfl ?_
    refine q_move rfl rfl ?_
    refine q_lenS rfl (hS.isl 1 rfl) rfl ?_
    refine q_move rfl rfl ?_
    refine eseq_nil ?_
    refine hK178 _ _ ?_
    refine e_block ?_
    obtain ⟨tl179, ht179, h⟩ := Option.of_bind h
    have hX179_0 : ∀ (x254 : (List Int)) (v253 : Value) (R247 : Nat → Prop) (w248 : World) (E_ : Env), law20_RgraphMeets_K1 fuel r154 r174 x254 = some r → Sep F R R247 w w248 [HP.blk bl158 [v155, v156, v157] 28, HP.own arcTy (fun _ => False) 59 v157 r154.1.arcs, HP.own Ty.int (fun _ => False) 3 v175 r174.1] → IsSlice Ty.int w248 R247 v155 r154.1.lens → IsSlice (Ty.slice Ty.int) w248 R247 v156 r154.1.ckpts → IsSlice Ty.int w248 R247 v253 x254 → Sub [(5, .pointer (some ⟨bl158, 0, none⟩)), (6, v175), (7, v253)] E_ → K177 E_ w248 := by
      intro x254 v253 R247 w248 E_ h hS f249 f250 f255 hsub
      refine hK177 _ _ (e_sub hsub ?_); clear hsub
      unfold law20_RgraphMeets_K1 at h
      refine e_seq fun K256 hK256 => ?_
      refine e_region_text rfl ?_
      refine q_loadAgg rfl (Blk.cellsAt (hS.blk 0 rfl) 0 3 rfl) rfl rfl ?_
      refine q_move rfl rfl ?_
      obtain ⟨r258, hr258, h⟩ := Option.of_bind h
      refine q_call rfl (rgraph_Recovery_w (a0 := (⟨r154.1.lens, r154.1.ckpts, r154.1.arcs⟩ : Pat)) (Sep.all w248) (f249).old (f250).old ((hS.isl 1 rfl)).old ((hS.isl 2 rfl)).old hr258) rfl ?_
      rintro v259 w257 ⟨_, R257, rfl, hC257⟩
      have hB257 : Below (World.heap w248).size w248 w257 := hC257.stepBF
      refine ⟨fun _ => .of_below hB257, ?_⟩
      replace f255 := f255.ext hB257
      replace f249 := f249.ext hB257
      replace f250 := f250.ext hB257
      replace hS := hS.newOwnS hB257 (hC257.own 0 rfl) (hC257.fresh 0 rfl) (fun _ h => h.elim)
      refine q_move rfl rfl ?_
      obtain ⟨r261, hr261, h⟩ := Option.of_bind h
      refine q_call rfl (ref03_SameInts_w (Sep.all w257) ((hS.isl 0 rfl)).old (f255).old hr261) rfl ?_
      rintro _ w260 ⟨R260, rfl, hC260⟩
      have hB260 : Below (World.heap w257).size w257 w260 := hC260.stepBF
      refine ⟨fun _ => .of_below hB260, ?_⟩
      replace f255 := f255.ext hB260
      replace hS := hS.below hB260
      refine q_assign rfl rfl ?_
      refine eseq_nil ?_
      refine hK256 _ _ ?_
      refine e_ret ?_
      obtain rfl := Option.some.inj h
      exact ⟨_, res1 rfl rfl, _, rfl, (hS.pickB [] 4 rfl rfl)⟩
    refine e_loop (fun m_ E_ w213 => ∃ (x219 : (List Int)), ∃ (x221 : Int), ∃ (v218 : Value), ∃ (R212 : Nat → Prop), iter (fun s => law20_RgraphMeets_B1 fuel r174 r154 s.1 s.2) m_ (x219, x221) = some tl179 ∧ Sep F R R212 w w213 [HP.blk bl158 [v155, v156, v157] 28, HP.own arcTy (fun _ => False) 59 v157 r154.1.arcs, HP.own Ty.int (fun _ => False) 3 v175 r174.1] ∧ IsSlice Ty.int w213 R212 v155 r154.1.lens ∧ IsSlice (Ty.slice Ty.int) w213 R212 v156 r154.1.ckpts ∧ IsSlice Ty.int w213 R212 v218 x219 ∧ E_ = [(5, .pointer (some ⟨bl158, 0, none⟩)), (6, v175), (7, v218), (23, v175), (24, .int .i64 (r174.1.length : Int)), (25, .int .i64 x221)]) _ ⟨_, ⟨r154.1.lens, 0, v155, _, ht179, (hS.pickB [2, 4, 1] 5 rfl rfl), f155, f156, f155, rfl⟩, Sub.cons rfl (Sub.cons rfl (Sub.cons rfl (Sub.cons rfl (Sub.cons rfl (Sub.cons rfl (Sub.nil _))))))⟩ ?_
    clear ht179 hS
    rintro m179 _ w213 ⟨x219, x221, v218, R212, ht179, hS, f214, f215, f220, rfl⟩
    obtain ⟨m179, rfl, o179, ho179, ht179⟩ := iter_some ht179
    replace ho179 : law20_RgraphMeets_B1 fuel r174 r154 x219 x221 = some o179 := ho179
    unfold law20_RgraphMeets_B1 at ho179
    refine e_seq fun K262 hK262 => ?_
    refine e_region_text rfl ?_
    refine q_lss rfl rfl rfl ?_
    refine eseq_nil ?_
    refine hK262 _ _ ?_
    refine e_seq fun K263 hK263 => ?_
    refine e_cond rfl (fun hc264 => ?_) (fun hc264 => ?_)
    · replace ho179 := (if_pos hc264).symm.trans ho179
      refine e_skip ?_
      refine hK263 _ _ ?_
      refine e_seq fun K265 hK265 => ?_
      refine e_block ?_
      refine e_seq fun K266 hK266 => ?_
      refine e_region_text rfl ?_
      obtain ⟨x267, hx267, ho179⟩ := Option.of_bind ho179
      refine q_indexO (by infer_instance) rfl (hS.own 2 rfl) rfl hx267 rfl ?_
      have f268 := (hS.ownR 2 rfl).elt hx267
      refine q_load rfl (Elt.intCell f268) rfl ?_
      refine q_assign rfl rfl ?_
      refine eseq_nil ?_
      refine hK266 _ _ ?_
      refine e_region_text rfl ?_
      refine q_move rfl rfl ?_
      refine q_loadAgg rfl (Blk.cellsAt (hS.blk 0 rfl) 0 3 rfl) rfl rfl ?_
      refine q_move rfl rfl ?_
      refine q_litO (T := Ty.int) (S := (fun _ => False)) (cells := [[.int .i64 x267]]) (ys := [x267]) ((Parts.cons rfl rfl Parts.nil)) rfl rfl rfl rfl rfl rfl rfl (fun w1 hB => ⟨rfl, trivial⟩) (fun _ h => h.elim) rfl fun w269 v269 ho269 hv269 hB269 => ?_
      replace f214 := f214.ext hB269
      replace f215 := f215.ext hB269
      replace f220 := f220.ext hB269
      replace hS := hS.newOwnS hB269 ho269 hv269 (fun _ h => h.elim)
      obtain ⟨r272, hr272, ho179⟩ := Option.of_bind ho179
      refine q_call rfl (rgraph_Recovery_w (a0 := (⟨r154.1.lens, r154.1.ckpts, r154.1.arcs⟩ : Pat)) (Sep.all w269) (f214).old (f215).old ((hS.isl 2 rfl)).old ((hS.isl 0 rfl)).old hr272) rfl ?_
      rintro v273 w271 ⟨_, R271, rfl, hC271⟩
      have hB271 : Below (World.heap w269).size w269 w271 := hC271.stepBF
      refine ⟨fun _ => .of_below hB271, ?_⟩
      replace f214 := f214.ext hB271
      replace f215 := f215.ext hB271
      replace f220 := f220.ext hB271
      replace hS := hS.newOwnS hB271 (hC271.own 0 rfl) (hC271.fresh 0 rfl) (fun _ h => h.elim)
      obtain ⟨r275, hr275, ho179⟩ := Option.of_bind ho179
      refine q_call rfl (cut_Meet_w (Sep.all w271) (f220).old ((hS.isl 0 rfl)).old hr275) rfl ?_
      rintro v276 w274 ⟨_, R274, rfl, hC274⟩
      have hB274 : Below (World.heap w271).size w271 w274 := hC274.stepBF
      refine ⟨fun _ => .of_below hB274, ?_⟩
      replace f214 := f214.ext hB274
      replace f215 := f215.ext hB274
      replace f220 := f220.ext hB274
      replace hS := hS.newOwnS hB274 (hC274.own 0 rfl) (hC274.fresh 0 rfl) (fun _ h => h.elim)
      refine q_assign rfl rfl ?_
      refine eseq_nil ?_
      refine hK265 _ _ ?_
      refine e_region_text rfl ?_
      refine q_addW rfl rfl rfl ?_
      refine q_move rfl rfl ?_
      refine eseq_nil ?_
      obtain ⟨R277, hS, hm277, f277⟩ := hS.freezeOwn 0 rfl; simp only [List.eraseIdx] at hS
      replace f214 := f214.mono fun k hk _ => hm277 k hk
      replace f215 := f215.mono fun k hk _ => hm277 k hk
      obtain rfl := Option.some.inj ho179
      exact ⟨m179, _, Nat.lt_succ_self _, ⟨r275, (w64 (x221 + 1)), v276, _, ht179, (hS.pickB [2, 3, 4] 5 rfl rfl), f214, f215, f277, rfl⟩, Sub.cons rfl (Sub.cons rfl (Sub.cons rfl (Sub.cons rfl (Sub.cons rfl (Sub.cons rfl (Sub.nil _))))))⟩
    · replace ho179 := (if_neg (not_true hc264)).symm.trans ho179
      refine e_exit ?_
      obtain rfl := Option.some.inj ho179
      obtain rfl := Option.some.inj ht179
      exact hX179_0 x219 v218 _ _ _ h hS f214 f215 f220 (Sub.cons rfl (Sub.cons rfl (Sub.cons rfl (Sub.nil _))))
theorem law20_RgraphDomino_w {F R : Nat → Prop} {w : World} {fuel : Nat} {a0 : Int} {a1 : Int} {r : (Bool)} (hS : Sep F R R w w []) (h : law20_RgraphDomino fuel a0 a1 = some r) :
    Gives Try.prog 6 [.int .u8 a0, .int .u8 a1] w fun u w1 => ∃ (R1 : Nat → Prop), u = .bool r ∧ Sep F R R1 w w1 [] := by
  refine fn_of Try.func6 rfl Try.ntmps6 (Nat.le_of_ble_eq_true rfl) ?_
  unfold law20_RgraphDomino at h
  refine e_seq fun K81 hK81 => ?_
  refine e_region_text rfl ?_
  refine q_assign rfl rfl ?_
  refine eseq_nil ?_
  refine hK81 _ _ ?_
  refine e_seq fun K82 hK82 => ?_
  refine e_seq fun K83 hK83 => ?_
  refine e_region_text rfl ?_
  obtain ⟨r85, hr85, h⟩ := Option.of_bind h
  refine q_call rfl (law20_awake_w (Sep.enter (As := []) hS)  hr85) rfl ?_
  rintro _ w84 ⟨R84, rfl, hC84⟩
  have hB84 : Below (World.heap w).size w w84 := hC84.stepB0
  refine ⟨fun _ => .of_below hB84, ?_⟩
  replace hS := Sep.leave (As := []) hS hC84; simp only [List.cons_append, List.nil_append] at hS
  refine q_not rfl rfl ?_
  refine eseq_nil ?_
  refine hK83 _ _ ?_
  refine e_cond rfl (fun hc86 => ?_) (fun hc86 => ?_)
  · replace h := (if_pos hc86).symm.trans h
    refine e_seq fun K87 hK87 => ?_
    refine e_region_text rfl ?_
    refine q_assign rfl rfl ?_
    refine eseq_nil ?_
    refine hK87 _ _ ?_
    refine e_ret ?_
    obtain rfl := Option.some.inj h
    exact ⟨_, res1 rfl rfl, _, rfl, hS⟩
  · replace h := (if_neg (not_true hc86)).symm.trans h
    refine e_skip ?_
    refine hK82 _ _ ?_
    refine e_seq fun K88 hK88 => ?_
    refine e_region_text rfl ?_
    refine q_move rfl rfl ?_
    refine q_conv64 rfl rfl ?_
    obtain ⟨x89, hx89, h⟩ := Option.of_bind h
    refine q_remM rfl rfl hx89 rfl ?_
    refine q_addW rfl rfl rfl ?_
    refine q_assign rfl rfl ?_
    refine eseq_nil ?_
    refine hK88 _ _ ?_
    refine e_seq fun K90 hK90 => ?_
    refine e_region_text rfl ?_
    refine q_move rfl rfl ?_
    obtain ⟨r92, hr92, h⟩ := Option.of_bind h
    refine q_call rfl (law20_Domino_w (Sep.enter (As := []) hS)  hr92) rfl ?_
    rintro _ w91 ⟨v93, v94, v95, R91, rfl, hC91, f93, f94⟩
    have hB91 : Below (World.heap w84).size w84 w91 := hC91.stepB0
    refine ⟨fun _ => .of_below hB91, ?_⟩
    replace hS := Sep.leave (As := []) hS hC91; simp only [List.cons_append, List.nil_append] at hS
    refine q_allocB rfl fun w96 bl96 hg96 hb96 hB96 => ?_
    replace f93 := f93.ext hB96
    replace f94 := f94.ext hB96
    replace hS := hS.newBlk hB96 hg96 hb96
    refine q_storeAgg rfl rfl (hS.blk 0 rfl) rfl (Nat.le_of_ble_eq_true rfl) (all_cons f93.one (all_cons f94.one (all_cons (hS.own 1 rfl).one (all_nil)))) rfl rfl fun w98 hb98 hO98 => ?_
    simp only [setN, List.set, List.take, List.drop] at hb98
    have hk98 := hS.keptBlk 0 rfl hO98
    replace f93 := f93.kept hk98
    replace f94 := f94.kept hk98
    replace hS := hS.setBlk 0 rfl hb98 hO98; simp only [List.set] at hS
    refine eseq_nil ?_
    refine hK90 _ _ ?_
    refine e_seq fun K99 hK99 => ?_
    refine e_region_text rfl ?_
    refine q_loadAgg rfl (Blk.cellsAt (hS.blk 0 rfl) 0 3 rfl) rfl rfl ?_
    refine q_litO (T := Ty.int) (S := (fun _ => False)) (cells := [[.int .i64 1]]) (ys := [1]) ((Parts.cons rfl rfl Parts.nil)) rfl rfl rfl rfl rfl rfl rfl (fun w1 hB => ⟨rfl, trivial⟩) (fun _ h => h.elim) rfl fun w100 v100 ho100 hv100 hB100 => ?_
    replace f93 := f93.ext hB100
    replace f94 := f94.ext hB100
    replace hS := hS.newOwnS hB100 ho100 hv100 (fun _ h => h.elim)
    obtain ⟨r103, hr103, h⟩ := Option.of_bind h
    refine q_call rfl (rgraph_Recovery_w (a0 := (⟨r92.lens, r92.ckpts, r92.arcs⟩ : Pat)) (Sep.all w100) (f93).old (f94).old ((hS.isl 2 rfl)).old ((hS.isl 0 rfl)).old hr103) rfl ?_
    rintro v104 w102 ⟨_, R102, rfl, hC102⟩
    have hB102 : Below (World.heap w100).size w100 w102 := hC102.stepBF
    refine ⟨fun _ => .of_below hB102, ?_⟩
    replace f93 := f93.ext hB102
    replace f94 := f94.ext hB102
    replace hS := hS.newOwnS hB102 (hC102.own 0 rfl) (hC102.fresh 0 rfl) (fun _ h => h.elim)
    refine q_assign rfl rfl ?_
    refine eseq_nil ?_
    refine hK99 _ _ ?_
    refine e_seq fun K105 hK105 => ?_
    refine e_region_text rfl ?_
    refine q_move rfl rfl ?_
    refine q_conv64 rfl rfl ?_
    obtain ⟨x106, hx106, h⟩ := Option.of_bind h
    refine q_remM rfl rfl hx106 rfl ?_
    refine q_assign rfl rfl ?_
    refine eseq_nil ?_
    refine hK105 _ _ ?_
    refine e_seq fun K107 hK107 => ?_
    refine e_region_text rfl ?_
    refine q_loadAgg rfl (Blk.cellsAt (hS.blk 2 rfl) 0 3 rfl) rfl rfl ?_
    refine q_litO (T := Ty.int) (S := (fun _ => False)) (cells := [[.int .i64 0]]) (ys := [0]) ((Parts.cons rfl rfl Parts.nil)) rfl rfl rfl rfl rfl rfl rfl (fun w1 hB => ⟨rfl, trivial⟩) (fun _ h => h.elim) rfl fun w108 v108 ho108 hv108 hB108 => ?_
    replace f93 := f93.ext hB108
    replace f94 := f94.ext hB108
    replace hS := hS.newOwnS hB108 ho108 hv108 (fun _ h => h.elim)
    obtain ⟨r111, hr111, h⟩ := Option.of_bind h
    refine q_call rfl (rgraph_Recovery_w (a0 := (⟨r92.lens, r92.ckpts, r92.arcs⟩ : Pat)) (Sep.all w108) (f93).old (f94).old ((hS.isl 4 rfl)).old ((hS.isl 0 rfl)).old hr111) rfl ?_
    rintro v112 w110 ⟨_, R110, rfl, hC110⟩
    have hB110 : Below (World.heap w108).size w108 w110 := hC110.stepBF
    refine ⟨fun _ => .of_below hB110, ?_⟩
    replace f93 := f93.ext hB110
    replace f94 := f94.ext hB110
    replace hS := hS.newOwnS hB110 (hC110.own 0 rfl) (hC110.fresh 0 rfl) (fun _ h => h.elim)
    refine q_assign rfl rfl ?_
    refine eseq_nil ?_
    refine hK107 _ _ ?_
    refine e_seq fun K113 hK113 => ?_
    refine e_seq fun K114 hK114 => ?_
    refine e_region_text rfl ?_
    refine q_move rfl rfl ?_
    refine q_lenS rfl (hS.isl 2 rfl) rfl ?_
    refine q_neq rfl rfl rfl ?_
    refine q_move rfl rfl ?_
    obtain ⟨x118, hx117, h⟩ := Option.of_bind h
    refine g_orM 3 hx117 rfl trivial rfl rfl ?_ ?_ ?_
    · intro hg117
      refine g_skip rfl rfl rfl ?_
      refine g_skip rfl rfl rfl ?_
      refine g_skip rfl rfl rfl ?_
      exact eseq_nil ⟨rfl, Sub.set rfl (Sub.set rfl (Sub.set rfl (Sub.bool true rfl hg117)))⟩
    · intro hg117 hx117
      clear h
      have hT117 := Below.refl (World.heap w110).size w110
      refine g_run rfl ?_; refine q_move rfl rfl ?_
      refine g_run rfl ?_; refine q_lenS rfl (hS.isl 0 rfl) rfl ?_
      refine g_run rfl ?_; refine q_neq rfl rfl rfl ?_
      cases hx117
      exact eseq_nil ⟨hT117, Sub.set rfl (Sub.set rfl (Sub.set rfl (Sub.bool false rfl hg117))), rfl⟩
    intro wm117 hBm117; clear hx117
    replace hS := hS.below hBm117
    replace f93 := f93.ext hBm117
    replace f94 := f94.ext hBm117
    refine eseq_nil ?_
    refine hK114 _ _ ?_
    refine e_cond rfl (fun hc119 => ?_) (fun hc119 => ?_)
    · replace h := (if_pos hc119).symm.trans h
      refine e_seq fun K120 hK120 => ?_
      refine e_region_text rfl ?_
      refine q_assign rfl rfl ?_
      refine eseq_nil ?_
      refine hK120 _ _ ?_
      refine e_ret ?_
      obtain rfl := Option.some.inj h
      exact ⟨_, res1 rfl rfl, _, rfl, (hS.pickB [] 6 rfl rfl)⟩
    · replace h := (if_neg (not_true hc119)).symm.trans h
      refine e_skip ?_
      refine hK113 _ _ ?_
      refine e_seq fun K121 hK121 => ?_
      refine e_region_draw mixed (fun _ => False) [0, 1, 3, 7, 15, 31, 63, 127, 255, 511, 1023, 2047, 2047, 6143, 16383, 32767, 65535, 131071, 131071, 524287, 1048575, 2097151, 4194303, 4194303, 16777215, 33554431, 4194303, 4194303, 205520895, 473956351, 1073741823, 2147483647, 4294967295] [] [0, 1, 2, 3, 4, 5, 6, 7, 8, 9, 10, 11, 12, 13, 14, 15, 16, 17, 18, 19, 20, 21, 22, 23, 24, 25, 26, 27, 28, 29, 30, 31, 32] (by kernel_rfl) ?_
      refine q_move rfl rfl ?_
      obtain ⟨x122, hx122, h⟩ := Option.of_bind h
      refine q_indexO (by infer_instance) rfl (hS.own 2 rfl) rfl hx122 rfl ?_
      have f123 := (hS.ownR 2 rfl).elt hx122
      refine q_load rfl (Elt.intCell f123) rfl ?_
      refine q_eql rfl rfl rfl ?_
      refine q_move rfl rfl ?_
      obtain ⟨x129, hx128, h⟩ := Option.of_bind h
      refine g_andM 4 hx128 rfl trivial rfl rfl ?_ ?_ ?_
      · intro hg128 hx128
        clear h
        have hT128 := Below.refl (World.heap wm117).size wm117
        refine g_run rfl ?_; refine q_move rfl rfl ?_
        obtain ⟨x130, hx130, hx128⟩ := Option.of_bind hx128
        refine g_run rfl ?_; refine q_indexO (by infer_instance) rfl (hS.own 2 rfl) rfl hx130 rfl ?_
        have f131 := (hS.ownR 2 rfl).elt hx130
        refine g_run rfl ?_; refine q_load rfl (Elt.intCell f131) rfl ?_
        refine g_run rfl ?_; refine q_eql rfl rfl rfl ?_
        cases hx128
        exact eseq_nil ⟨hT128, Sub.set rfl (Sub.set rfl (Sub.set rfl (Sub.set rfl (Sub.bool true rfl hg128)))), rfl⟩
      · intro hg128
        refine g_skip rfl rfl rfl ?_
        refine g_skip rfl rfl rfl ?_
        refine g_skip rfl rfl rfl ?_
        refine g_skip rfl rfl rfl ?_
        exact eseq_nil ⟨rfl, Sub.set rfl (Sub.set rfl (Sub.set rfl (Sub.set rfl (Sub.bool false rfl hg128))))⟩
      intro wm128 hBm128; clear hx128
      replace hS := hS.below hBm128
      replace f93 := f93.ext hBm128
      replace f94 := f94.ext hBm128
      refine q_move rfl rfl ?_
      obtain ⟨x137, hx136, h⟩ := Option.of_bind h
      refine g_andM 4 hx136 rfl trivial rfl rfl ?_ ?_ ?_
      · intro hg136 hx136
        clear h
        have hT136 := Below.refl (World.heap wm128).size wm128
        refine g_run rfl ?_; refine q_move rfl rfl ?_
        refine g_run rfl ?_; refine q_field rfl rfl ?_
        refine g_run rfl ?_; refine q_load rfl (Blk.cell (hS.blk 4 rfl) rfl) rfl ?_
        obtain ⟨r139, hr139, hx136⟩ := Option.of_bind hx136
        refine g_run rfl ?_; refine q_call rfl (ref03_SameInts_w (Sep.all wm128) ((hS.isl 0 rfl)).old (f93).old hr139) rfl ?_
        rintro _ w138 ⟨R138, rfl, hC138⟩
        have hB138 : Below (World.heap wm128).size wm128 w138 := hC138.stepBF
        refine ⟨fun _ => .of_below hB138, ?_⟩
        replace f93 := f93.ext hB138
        replace f94 := f94.ext hB138
        replace hT136 := hT136.trans (Below.mono hB138 hT136.size)
        replace hS := hS.below hB138
        cases hx136
        exact eseq_nil ⟨hT136, Sub.set rfl (Sub.set rfl (Sub.set rfl (Sub.set rfl (Sub.bool true rfl hg136)))), rfl⟩
      · intro hg136
        refine g_skip rfl rfl rfl ?_
        refine g_skip rfl rfl rfl ?_
        refine g_skip rfl rfl rfl ?_
        refine g_skip rfl rfl rfl ?_
        exact eseq_nil ⟨rfl, Sub.set rfl (Sub.set rfl (Sub.set rfl (Sub.set rfl (Sub.bool false rfl hg136))))⟩
      intro wm136 hBm136; clear hx136
      replace hS := hS.below hBm136
      replace f93 := f93.ext hBm136
      replace f94 := f94.ext hBm136
      refine q_move rfl rfl ?_
      obtain ⟨x145, hx144, h⟩ := Option.of_bind h
      refine g_andM 3 hx144 rfl trivial rfl rfl ?_ ?_ ?_
      · intro hg144 hx144
        clear h
        have hT144 := Below.refl (World.heap wm136).size wm136
        refine g_run rfl ?_; refine q_loadAgg rfl (Blk.cellsAt (hS.blk 4 rfl) 0 3 rfl) rfl rfl ?_
        refine g_run rfl ?_; refine q_move rfl rfl ?_
        obtain ⟨r147, hr147, hx144⟩ := Option.of_bind hx144
        refine g_run rfl ?_; refine q_call rfl (ref18_Consistent_w (a0 := (⟨r92.lens, r92.ckpts, r92.arcs⟩ : Pat)) (Sep.all wm136) (f93).old (f94).old ((hS.isl 5 rfl)).old ((hS.isl 2 rfl)).old hr147) rfl ?_
        rintro _ w146 ⟨R146, rfl, hC146⟩
        have hB146 : Below (World.heap wm136).size wm136 w146 := hC146.stepBF
        refine ⟨fun _ => .of_below hB146, ?_⟩
        replace f93 := f93.ext hB146
        replace f94 := f94.ext hB146
        replace hT144 := hT144.trans (Below.mono hB146 hT144.size)
        replace hS := hS.below hB146
        cases hx144
        exact eseq_nil ⟨hT144, Sub.set rfl (Sub.set rfl (Sub.set rfl (Sub.bool true rfl hg144))), rfl⟩
      · intro hg144
        refine g_skip rfl rfl rfl ?_
        refine g_skip rfl rfl rfl ?_
        refine g_skip rfl rfl rfl ?_
        exact eseq_nil ⟨rfl, Sub.set rfl (Sub.set rfl (Sub.set rfl (Sub.bool false rfl hg144)))⟩
      intro wm144 hBm144; clear hx144
      replace hS := hS.below hBm144
      refine q_move rfl rfl ?_
      obtain ⟨x155, hx154, h⟩ := Option.of_bind h
      refine g_andM 9 hx154 rfl trivial rfl rfl ?_ ?_ ?_
      · intro hg154 hx154
        clear h
        have hT154 := Below.refl (World.heap wm144).size wm144
        refine g_run rfl ?_; refine q_move rfl rfl ?_
        refine g_run rfl ?_; refine q_move rfl rfl ?_
        obtain ⟨x156, hx156, hx154⟩ := Option.of_bind hx154
        refine g_run rfl ?_; refine q_indexO (by infer_instance) rfl (hS.own 2 rfl) rfl hx156 rfl ?_
        have f157 := (hS.ownR 2 rfl).elt hx156
        refine g_run rfl ?_; refine q_load rfl (Elt.intCell f157) rfl ?_
        refine g_run rfl ?_; refine q_move rfl rfl ?_
        refine g_run rfl ?_; refine q_move rfl rfl ?_
        obtain ⟨x158, hx158, hx154⟩ := Option.of_bind hx154
        refine g_run rfl ?_; refine q_indexO (by infer_instance) rfl (hS.own 0 rfl) rfl hx158 rfl ?_
        have f159 := (hS.ownR 0 rfl).elt hx158
        refine g_run rfl ?_; refine q_load rfl (Elt.intCell f159) rfl ?_
        refine g_run rfl ?_; refine q_leq rfl rfl rfl ?_
        cases hx154
        exact eseq_nil ⟨hT154, Sub.set rfl (Sub.set rfl (Sub.set rfl (Sub.set rfl (Sub.set rfl (Sub.set rfl (Sub.set rfl (Sub.set rfl (Sub.set rfl (Sub.bool true rfl hg154))))))))), rfl⟩
      · intro hg154
        refine g_skip rfl rfl rfl ?_
        refine g_skip rfl rfl rfl ?_
        refine g_skip rfl rfl rfl ?_
        refine g_skip rfl rfl rfl ?_
        refine g_skip rfl rfl rfl ?_
        refine g_skip rfl rfl rfl ?_
        refine g_skip rfl rfl rfl ?_
        refine g_skip rfl rfl rfl ?_
        refine g_skip rfl rfl rfl ?_
        exact eseq_nil ⟨rfl, Sub.set rfl (Sub.set rfl (Sub.set rfl (Sub.set rfl (Sub.set rfl (Sub.set rfl (Sub.set rfl (Sub.set rfl (Sub.set rfl (Sub.bool false rfl hg154)))))))))⟩
      intro wm154 hBm154; clear hx154
      replace hS := hS.below hBm154
      refine q_assign rfl rfl ?_
      refine eseq_nil ?_
      refine hK121 _ _ ?_
      refine e_ret ?_
      obtain rfl := Option.some.inj h
      exact ⟨_, res1 rfl rfl, _, rfl, (hS.pickB [] 6 rfl rfl)⟩
end Go.Proofs.Ytljpjekifbamfaa
