/- Printed walks: A21lf. -/
import Derived.Test.YtlceljfigccllaaA21k
import Derived.Test.YtlceljfigccllaaA16r
set_option linter.unusedVariables false
set_option linter.unusedSimpArgs false
namespace Go.Mine
open Go.RowKit
def law21_ZigzagTracks_K2 (fuel : Nat) (r1003 : (Pat × Int)) (r1025 : ((List Pt) × Int)) : Option (Bool) :=
  (zigzag_Extension fuel (⟨r1003.1.lens, r1003.1.ckpts, r1003.1.arcs⟩ : Pat) r1025.1).bind fun r1698 => some r1698.2
def law21_ZigzagTracks_K3 (fuel : Nat) (x1558 : Int) : Option ((Int) ⊕ (Unit ⊕ (Bool))) :=
  some (Sum.inl (w64 (x1558 + 1)))
def law21_ZigzagTracks_B2 (fuel : Nat) (r1025 : ((List Pt) × Int)) (x1558 : Int) (r1003 : (Pat × Int)) (x1755 : Int) : Option ((Int) ⊕ (Unit ⊕ (Bool))) :=
  (if (decide (x1755 < (r1025.1.length : Int))) = true then (andM (x1558 != x1755) ((ati r1025.1 x1558).bind fun x1815 => (ati r1025.1 x1755).bind fun x1818 => (depend_Depends fuel (⟨r1003.1.lens, r1003.1.ckpts, r1003.1.arcs⟩ : Pat) x1815 x1818).bind fun r1822 => some r1822)).bind fun x1814 => (if x1814 = true then some (Sum.inr (Sum.inr true)) else some (Sum.inl (w64 (x1755 + 1)))) else some (Sum.inr (Sum.inl ())))
def law21_ZigzagTracks_B1 (fuel : Nat) (r1025 : ((List Pt) × Int)) (r1003 : (Pat × Int)) (x1558 : Int) : Option ((Int) ⊕ (Unit ⊕ (Bool))) :=
  (if (decide (x1558 < (r1025.1.length : Int))) = true then (iter (fun s => law21_ZigzagTracks_B2 fuel r1025 x1558 r1003 s) fuel 0).bind (fun t => Sum.elim (fun t => law21_ZigzagTracks_K3 fuel x1558) (fun t => some (Sum.inr (Sum.inr t))) t) else some (Sum.inr (Sum.inl ())))
def law21_ZigzagTracks_K1 (fuel : Nat) (r1003 : (Pat × Int)) (r1025 : ((List Pt) × Int)) (x1379 : (List (List Int))) : Option (Bool) :=
  (zigzag_Trackable fuel (⟨r1003.1.lens, x1379, r1003.1.arcs⟩ : Pat)).bind fun r1386 => (orM (!r1386) ((zigzag_Useless fuel (⟨r1003.1.lens, x1379, r1003.1.arcs⟩ : Pat)).bind fun r1395 => some (decide (0 < (r1395.length : Int))))).bind fun x1393 => (if x1393 = true then some false else (zigzag_Trackable fuel (⟨r1003.1.lens, r1003.1.ckpts, r1003.1.arcs⟩ : Pat)).bind fun r1402 => (if (!r1402) = true then some true else (zigzag_Useless fuel (⟨r1003.1.lens, r1003.1.ckpts, r1003.1.arcs⟩ : Pat)).bind fun r1408 => (if (decide (0 < (r1408.length : Int))) = true then some false else (iter (fun s => law21_ZigzagTracks_B1 fuel r1025 r1003 s) fuel 0).bind (fun t => Sum.elim (fun t => law21_ZigzagTracks_K2 fuel r1003 r1025) (fun t => some t) t))))
def law21_ZigzagTracks_K4 (fuel : Nat) (x1202 : (List (List Int))) (x1206 : Int) (x1955 : (List Int)) : Option (((List (List Int)) × Int) ⊕ ((List (List Int)))) :=
  (snoc x1202 x1955).bind fun x1960 => some (Sum.inl (x1960, (w64 (x1206 + 1))))
def law21_ZigzagTracks_B4 (fuel : Nat) (r1003 : (Pat × Int)) (x1206 : Int) (x1901 : (List Int)) (x1902 : Int) : Option (((List Int) × Int) ⊕ ((List Int))) :=
  (ati r1003.1.lens x1206).bind fun x1964 => (if (decide (x1902 < x1964)) = true then (ref16_Received fuel (⟨r1003.1.lens, r1003.1.ckpts, r1003.1.arcs⟩ : Pat) x1206 (w64 (x1902 + 1))).bind fun r1970 => (if (decide (0 ≤ r1970)) = true then (snoc x1901 x1902).bind fun x1975 => some (Sum.inl (x1975, (w64 (x1902 + 1)))) else some (Sum.inl (x1901, (w64 (x1902 + 1))))) else some (Sum.inr x1901))
def law21_ZigzagTracks_B3 (fuel : Nat) (r1003 : (Pat × Int)) (x1202 : (List (List Int))) (x1206 : Int) : Option (((List (List Int)) × Int) ⊕ ((List (List Int)))) :=
  (if (decide (x1206 < (r1003.1.lens.length : Int))) = true then (iter (fun s => law21_ZigzagTracks_B4 fuel r1003 x1206 s.1 s.2) fuel (([0]), 1)).bind (fun t => law21_ZigzagTracks_K4 fuel x1202 x1206 t) else some (Sum.inr x1202))
def law21_ZigzagTracks (fuel : Nat) (a0 : (List Int)) (a1 : (List Int)) : Option (Bool) :=
  (law21_awake fuel).bind fun r994 => (if (!r994) = true then some false else (make_New fuel a0 240).bind fun r999 => (make_Codes_Pattern fuel 12 r999.1 r999.2).bind fun r1003 => (make_New fuel a1 20).bind fun r1020 => (make_Codes_Ckpts fuel (⟨r1003.1.lens, r1003.1.ckpts, r1003.1.arcs⟩ : Pat) r1020.1 r1020.2).bind fun r1025 => (iter (fun s => law21_ZigzagTracks_B3 fuel r1003 s.1 s.2) fuel (([] : List (List Int)), 0)).bind (fun t => law21_ZigzagTracks_K1 fuel r1003 r1025 t))
end Go.Mine
namespace Go.Proofs.Ytlceljfigccllaa
open Go.RowKit Go.Mine
attribute [local irreducible] eseq ewp iter
theorem law21_ZigzagTracks_w {F R : Nat → Prop} {w : World} {fuel : Nat} {a0 : (List Int)} {a1 : (List Int)} {v1 : Value} {v2 : Value} {r : (Bool)} (hS : Sep F R R w w []) (f1 : IsSlice Ty.u8 w R v1 a0) (f2 : IsSlice Ty.u8 w R v2 a1) (h : law21_ZigzagTracks fuel a0 a1 = some r) :
    Gives Try.prog 7 [v1, v2] w fun u w1 => ∃ (R1 : Nat → Prop), u = .bool r ∧ Sep F R R1 w w1 [] := by
  refine fn_of Try.func7 rfl Try.ntmps7 (Nat.le_of_ble_eq_true rfl) ?_
  unfold law21_ZigzagTracks at h
  refine e_seq fun K990 hK990 => ?_
  refine e_region_text rfl ?_
  refine q_assign rfl rfl ?_
  refine eseq_nil ?_
  refine hK990 _ _ ?_
  refine e_seq fun K991 hK991 => ?_
  refine e_seq fun K992 hK992 => ?_
  refine e_region_text rfl ?_
  obtain ⟨r994, hr994, h⟩ := Option.of_bind h
  refine q_call rfl (law21_awake_w (Sep.enter (As := []) hS)  hr994) rfl ?_
  rintro _ w993 ⟨R993, rfl, hC993⟩
  have hB993 : Below (World.heap w).size w w993 := hC993.stepB0
  refine ⟨fun _ => .of_below hB993, ?_⟩
  replace f1 := (f1.ext hB993).mono fun k hk _ => hC993.ro0 k hk
  replace f2 := (f2.ext hB993).mono fun k hk _ => hC993.ro0 k hk
  replace hS := Sep.leave (As := []) hS hC993; simp only [List.cons_append, List.nil_append] at hS
  refine q_not rfl rfl ?_
  refine eseq_nil ?_
  refine hK992 _ _ ?_
  refine e_cond rfl (fun hc995 => ?_) (fun hc995 => ?_)
  · replace h := (if_pos hc995).symm.trans h
    refine e_seq fun K996 hK996 => ?_
    refine e_region_text rfl ?_
    refine q_assign rfl rfl ?_
    refine eseq_nil ?_
    refine hK996 _ _ ?_
    refine e_ret ?_
    obtain rfl := Option.some.inj h
    exact ⟨_, res1 rfl rfl, _, rfl, hS⟩
  · replace h := (if_neg (not_true hc995)).symm.trans h
    refine e_skip ?_
    refine hK991 _ _ ?_
    refine e_seq fun K997 hK997 => ?_
    refine e_region_text rfl ?_
    refine q_move rfl rfl ?_
    obtain ⟨r999, hr999, h⟩ := Option.of_bind h
    refine q_call rfl (make_New_w (Sep.enter (As := []) hS) f1 hr999) rfl ?_
    rintro _ w998 ⟨B1000, v1001, R998, rfl, hC998, f1001⟩
    have hB998 : Below (World.heap w993).size w993 w998 := hC998.stepB0
    refine ⟨fun _ => .of_below hB998, ?_⟩
    replace f2 := (f2.ext hB998).mono fun k hk _ => hC998.ro0 k hk
    replace f1 := (f1.ext hB998).mono fun k hk _ => hC998.ro0 k hk
    replace hS := Sep.leave (As := []) hS hC998; simp only [List.cons_append, List.nil_append] at hS
    obtain ⟨r1003, hr1003, h⟩ := Option.of_bind h
    refine q_call rfl (make_Codes_Pattern_w (Sep.enter (As := [_]) hS) f1001 hr1003) rfl ?_
    rintro _ w1002 ⟨v1004, v1005, v1006, R1002, rfl, hC1002, f1004, f1005⟩
    refine ⟨(fun h => by cases h), ?_⟩
    have hk1002 := hC1002.keptR (Sep.offFeet (As := [_]) hS)
    replace f2 := (f2.kept hk1002).mono fun k hk _ => hC1002.ro0 k hk
    replace f1001 := (f1001.kept hk1002).mono fun k hk _ => hC1002.ro0 k hk
    replace hS := Sep.leave (As := [_]) hS hC1002; simp only [List.cons_append, List.nil_append] at hS
    refine q_allocB rfl fun w1007 bl1007 hg1007 hb1007 hB1007 => ?_
    replace f2 := f2.ext hB1007
    replace f1004 := f1004.ext hB1007
    replace f1005 := f1005.ext hB1007
    replace hS := hS.newBlk hB1007 hg1007 hb1007
    refine q_storeAgg rfl rfl (hS.blk 0 rfl) rfl (Nat.le_of_ble_eq_true rfl) (all_cons f1004.one (all_cons f1005.one (all_cons (hS.own 2 rfl).one (all_nil)))) rfl rfl fun w1009 hb1009 hO1009 => ?_
    simp only [setN, List.set, List.take, List.drop] at hb1009
    have hk1009 := hS.keptBlk 0 rfl hO1009
    replace f2 := f2.kept hk1009
    replace f1004 := f1004.kept hk1009
    replace f1005 := f1005.kept hk1009
    replace hS := hS.setBlk 0 rfl hb1009 hO1009; simp only [List.set] at hS
    refine eseq_nil ?_
    refine hK997 _ _ ?_
    refine e_seq fun K1010 hK1010 => ?_
    refine e_region_draw mixed (fun _ => False) [0, 1, 0, 7, 15] [1] [0, 2, 1, 3, 4] (by kernel_rfl) ?_
    refine q_move rfl rfl ?_
    refine q_loadAgg rfl (Blk.cellsAt (hS.blk 0 rfl) 0 3 rfl) rfl rfl ?_
    obtain ⟨r1020, hr1020, h⟩ := Option.of_bind h
    refine q_call rfl (make_New_w (Sep.enter (As := []) hS) f2 hr1020) rfl ?_
    rintro _ w1019 ⟨B1021, v1022, R1019, rfl, hC1019, f1022⟩
    have hB1019 : Below (World.heap w1009).size w1009 w1019 := hC1019.stepB0
    refine ⟨fun _ => .of_below hB1019, ?_⟩
    replace f1004 := (f1004.ext hB1019).mono fun k hk _ => hC1019.ro0 k hk
    replace f1005 := (f1005.ext hB1019).mono fun k hk _ => hC1019.ro0 k hk
    replace f2 := (f2.ext hB1019).mono fun k hk _ => hC1019.ro0 k hk
    replace hS := Sep.leave (As := []) hS hC1019; simp only [List.cons_append, List.nil_append] at hS
    obtain ⟨R1024, hS, hm1024, f1024⟩ := hS.freezeOwn 3 rfl; simp only [List.eraseIdx] at hS
    replace f1004 := f1004.mono fun k hk _ => hm1024 k hk
    replace f1005 := f1005.mono fun k hk _ => hm1024 k hk
    replace f1022 := f1022.mono fun k hk _ => hm1024 k hk
    obtain ⟨r1025, hr1025, h⟩ := Option.of_bind h
    refine q_call rfl (make_Codes_Ckpts_w (a1 := (⟨r1003.1.lens, r1003.1.ckpts, r1003.1.arcs⟩ : Pat)) (Sep.enter (As := [_]) hS) f1004 f1005 f1024 f1022 hr1025) rfl ?_
    rintro v1026 w1023 ⟨_, R1023, rfl, hC1023⟩
    refine ⟨(fun h => by cases h), ?_⟩
    have hk1023 := hC1023.keptR (Sep.offFeet (As := [_]) hS)
    replace f1004 := (f1004.kept hk1023).mono fun k hk _ => hC1023.ro0 k hk
    replace f1005 := (f1005.kept hk1023).mono fun k hk _ => hC1023.ro0 k hk
    replace f1024 := (f1024.kept hk1023).mono fun k hk _ => hC1023.ro0 k hk
    replace f1022 := (f1022.kept hk1023).mono fun k hk _ => hC1023.ro0 k hk
    replace hS := Sep.leave (As := [_]) hS hC1023; simp only [List.cons_append, List.nil_append] at hS
    refine q_assign rfl rfl ?_
    refine eseq_nil ?_
    refine hK1010 _ _ ?_
    refine e_seq fun K1027 hK1027 => ?_
    refine e_region_text rfl ?_
    refine q_field rfl rfl ?_
    refine q_load rfl (Blk.cell (hS.blk 2 rfl) rfl) rfl ?_
    refine q_field rfl rfl ?_
    refine q_load rfl (Blk.cell (hS.blk 2 rfl) rfl) rfl ?_
    refine q_build (Parts.cons rfl (cells_one f1004.one) (Parts.cons rfl (cells_one f1024.one) Parts.nil)) rfl rfl ?_
    refine q_allocB rfl fun w1028 bl1028 hg1028 hb1028 hB1028 => ?_
    replace f1004 := f1004.ext hB1028
    replace f1005 := f1005.ext hB1028
    replace f1024 := f1024.ext hB1028
    replace hS := hS.newBlk hB1028 hg1028 hb1028
    refine q_storeAgg rfl rfl (hS.blk 0 rfl) rfl (Nat.le_of_ble_eq_true rfl) (all_cons f1004.one (all_cons rfl (all_cons f1024.one (all_nil)))) rfl rfl fun w1030 hb1030 hO1030 => ?_
    simp only [setN, List.set, List.take, List.drop] at hb1030
    have hk1030 := hS.keptBlk 0 rfl hO1030
    replace f1004 := f1004.kept hk1030
    replace f1005 := f1005.kept hk1030
    replace f1024 := f1024.kept hk1030
    replace hS := hS.setBlk 0 rfl hb1030 hO1030; simp only [List.set] at hS
    refine eseq_nil ?_
    refine hK1027 _ _ ?_
    refine e_seq fun K1031 hK1031 => ?_
    refine e_seq fun K1032 hK1032 => ?_
    refine e_region_text rfl ?_
    refine q_field rfl rfl ?_
    refine q_load rfl (Blk.cell (hS.blk 3 rfl) rfl) rfl ?_
    refine q_lenS rfl f1004 rfl ?_
    refine q_move rfl rfl ?_
    refine eseq_nil ?_
    refine hK1032 _ _ ?_
    refine e_block ?_
    obtain ⟨tl1033, ht1033, h⟩ := Option.of_bind h
    have hX1033_0 : ∀ (x1379 : (List (List Int))) (v1377 : Value) (v1378 : List Value) (R1370 : Nat → Prop) (w1371 : World) (E_ : Env), law21_ZigzagTracks_K1 fuel r1003 r1025 x1379 = some r → Sep F R R1370 w w1371 [HP.blk bl1007 [v1004, v1005, v1006] 28, HP.own ptTy (fun _ => False) 36 v1026 r1025.1, HP.blk bl1028 [v1004, v1377, v1006] 28, HP.own Ty.raw (fun _ => False) 24 v1377 v1378, HP.famS Ty.int (fun _ => False) 3 v1378 x1379] → IsSlice Ty.int w1371 R1370 v1004 r1003.1.lens → IsSlice (Ty.slice Ty.int) w1371 R1370 v1005 r1003.1.ckpts → IsSlice arcTy w1371 R1370 v1006 r1003.1.arcs → IsSlice Ty.int w1371 R1370 v1004 r1003.1.lens → IsSlice arcTy w1371 R1370 v1006 r1003.1.arcs → Sub [(5, .pointer (some ⟨bl1007, 0, none⟩)), (6, v1026), (7, .pointer (some ⟨bl1028, 0, none⟩))] E_ → K1031 E_ w1371 := by
      intro x1379 v1377 v1378 R1370 w1371 E_ h hS f1372 f1373 f1374 f1376 f1382 hsub
      refine hK1031 _ _ (e_sub hsub ?_); clear hsub
      unfold law21_ZigzagTracks_K1 at h
      refine e_seq fun K1383 hK1383 => ?_
      refine e_seq fun K1384 hK1384 => ?_
      refine e_region_text rfl ?_
      refine q_loadAgg rfl (Blk.cellsAt (hS.blk 2 rfl) 0 3 rfl) rfl rfl ?_
      obtain ⟨r1386, hr1386, h⟩ := Option.of_bind h
      refine q_call rfl (zigzag_Trackable_w (a0 := (⟨r1003.1.lens, x1379, r1003.1.arcs⟩ : Pat)) (Sep.all w1371) (f1376).old ((hS.rowsI 3 4 rfl rfl (by decide))).old (f1382).old hr1386) rfl ?_
      rintro _ w1385 ⟨R1385, rfl, hC1385⟩
      have hB1385 : Below (World.heap w1371).size w1371 w1385 := hC1385.stepBF
      refine ⟨fun _ => .of_below hB1385, ?_⟩
      replace f1372 := f1372.ext hB1385
      replace f1373 := f1373.ext hB1385
      replace f1374 := f1374.ext hB1385
      replace f1376 := f1376.ext hB1385
      replace f1382 := f1382.ext hB1385
      replace hS := hS.below hB1385
      refine q_not rfl rfl ?_
      refine q_move rfl rfl ?_
      obtain ⟨x1393, hx1392, h⟩ := Option.of_bind h
      refine g_orM 4 hx1392 rfl trivial rfl rfl ?_ ?_ ?_
      · intro hg1392
        refine g_skip rfl rfl rfl ?_
        refine g_skip rfl rfl rfl ?_
        refine g_skip rfl rfl rfl ?_
        refine g_skip rfl rfl rfl ?_
        exact eseq_nil ⟨rfl, Sub.set rfl (Sub.set rfl (Sub.set rfl (Sub.set rfl (Sub.bool true rfl hg1392))))⟩
      · intro hg1392 hx1392
        clear h
        have hT1392 := Below.refl (World.heap w1385).size w1385
        refine g_run rfl ?_; refine q_loadAgg rfl (Blk.cellsAt (hS.blk 2 rfl) 0 3 rfl) rfl rfl ?_
        obtain ⟨r1395, hr1395, hx1392⟩ := Option.of_bind hx1392
        refine g_run rfl ?_; refine q_call rfl (zigzag_Useless_w (a0 := (⟨r1003.1.lens, x1379, r1003.1.arcs⟩ : Pat)) (Sep.all w1385) (f1376).old ((hS.rowsI 3 4 rfl rfl (by decide))).old (f1382).old hr1395) rfl ?_
        rintro v1396 w1394 ⟨_, R1394, rfl, hC1394⟩
        have hB1394 : Below (World.heap w1385).size w1385 w1394 := hC1394.stepBF
        refine ⟨fun _ => .of_below hB1394, ?_⟩
        replace f1372 := f1372.ext hB1394
        replace f1373 := f1373.ext hB1394
        replace f1374 := f1374.ext hB1394
        replace f1376 := f1376.ext hB1394
        replace f1382 := f1382.ext hB1394
        replace hT1392 := hT1392.trans (Below.mono hB1394 hT1392.size)
        replace hS := hS.newOwnS hB1394 (hC1394.own 0 rfl) (hC1394.fresh 0 rfl) (fun _ h => h.elim)
        refine g_run rfl ?_; refine q_lenS rfl (hS.isl 0 rfl) rfl ?_
        refine g_run rfl ?_; refine q_gtr rfl rfl rfl ?_
        cases hx1392
        exact eseq_nil ⟨hT1392, Sub.set rfl (Sub.set rfl (Sub.set rfl (Sub.set rfl (Sub.bool false rfl hg1392)))), rfl⟩
      intro wm1392 hBm1392; clear hx1392
      replace hS := hS.below hBm1392
      replace f1372 := f1372.ext hBm1392
      replace f1373 := f1373.ext hBm1392
      replace f1374 := f1374.ext hBm1392
      refine eseq_nil ?_
      refine hK1384 _ _ ?_
      refine e_cond rfl (fun hc1397 => ?_) (fun hc1397 => ?_)
      · replace h := (if_pos hc1397).symm.trans h
        refine e_seq fun K1398 hK1398 => ?_
        refine e_region_text rfl ?_
        refine q_assign rfl rfl ?_
        refine eseq_nil ?_
        refine hK1398 _ _ ?_
        refine e_ret ?_
        obtain rfl := Option.some.inj h
        exact ⟨_, res1 rfl rfl, _, rfl, (hS.pickB [] 5 rfl rfl)⟩
      · replace h := (if_neg (not_true hc1397)).symm.trans h
        refine e_skip ?_
        refine hK1383 _ _ ?_
        refine e_seq fun K1399 hK1399 => ?_
        refine e_seq fun K1400 hK1400 => ?_
        refine e_region_text rfl ?_
        refine q_loadAgg rfl (Blk.cellsAt (hS.blk 0 rfl) 0 3 rfl) rfl rfl ?_
        obtain ⟨r1402, hr1402, h⟩ := Option.of_bind h
        refine q_call rfl (zigzag_Trackable_w (a0 := (⟨r1003.1.lens, r1003.1.ckpts, r1003.1.arcs⟩ : Pat)) (Sep.enter (As := []) hS) f1372 f1373 f1374 hr1402) rfl ?_
        rintro _ w1401 ⟨R1401, rfl, hC1401⟩
        have hB1401 : Below (World.heap wm1392).size wm1392 w1401 := hC1401.stepB0
        refine ⟨fun _ => .of_below hB1401, ?_⟩
        replace f1372 := (f1372.ext hB1401).mono fun k hk _ => hC1401.ro0 k hk
        replace f1373 := (f1373.ext hB1401).mono fun k hk _ => hC1401.ro0 k hk
        replace f1374 := (f1374.ext hB1401).mono fun k hk _ => hC1401.ro0 k hk
        replace hS := Sep.leave (As := []) hS hC1401; simp only [List.cons_append, List.nil_append] at hS
        refine q_not rfl rfl ?_
        refine eseq_nil ?_
        refine hK1400 _ _ ?_
        refine e_cond rfl (fun hc1403 => ?_) (fun hc1403 => ?_)
        · replace h := (if_pos hc1403).symm.trans h
          refine e_seq fun K1404 hK1404 => ?_
          refine e_region_text rfl ?_
          refine q_assign rfl rfl ?_
          refine eseq_nil ?_
          refine hK1404 _ _ ?_
          refine e_ret ?_
          obtain rfl := Option.some.inj h
          exact ⟨_, res1 rfl rfl, _, rfl, (hS.pickB [] 5 rfl rfl)⟩
        · replace h := (if_neg (not_true hc1403)).symm.trans h
          refine e_skip ?_
          refine hK1399 _ _ ?_
          refine e_seq fun K1405 hK1405 => ?_
          refine e_seq fun K1406 hK1406 => ?_
          refine e_region_text rfl ?_
          refine q_loadAgg rfl (Blk.cellsAt (hS.blk 0 rfl) 0 3 rfl) rfl rfl ?_
          obtain ⟨r1408, hr1408, h⟩ := Option.of_bind h
          refine q_call rfl (zigzag_Useless_w (a0 := (⟨r1003.1.lens, r1003.1.ckpts, r1003.1.arcs⟩ : Pat)) (Sep.enter (As := []) hS) f1372 f1373 f1374 hr1408) rfl ?_
          rintro v1409 w1407 ⟨_, R1407, rfl, hC1407⟩
          have hB1407 : Below (World.heap w1401).size w1401 w1407 := hC1407.stepB0
          refine ⟨fun _ => .of_below hB1407, ?_⟩
          replace f1372 := (f1372.ext hB1407).mono fun k hk _ => hC1407.ro0 k hk
          replace f1373 := (f1373.ext hB1407).mono fun k hk _ => hC1407.ro0 k hk
          replace f1374 := (f1374.ext hB1407).mono fun k hk _ => hC1407.ro0 k hk
          replace hS := Sep.leave (As := []) hS hC1407; simp only [List.cons_append, List.nil_append] at hS
          refine q_lenS rfl (hS.isl 0 rfl) rfl ?_
          refine q_gtr rfl rfl rfl ?_
          refine eseq_nil ?_
          refine hK1406 _ _ ?_
          refine e_cond rfl (fun hc1410 => ?_) (fun hc1410 => ?_)
          · replace h := (if_pos hc1410).symm.trans h
            refine e_seq fun K1411 hK1411 => ?_
            refine e_region_text rfl ?_
            refine q_assign rfl rfl ?_
            refine eseq_nil ?_
            refine hK1411 _ _ ?_
            refine e_ret ?_
            obtain rfl := Option.some.inj h
            exact ⟨_, res1 rfl rfl, _, rfl, (hS.pickB [] 6 rfl rfl)⟩
          · replace h := (if_neg (not_true hc1410)).symm.trans h
            refine e_skip ?_
            refine hK1405 _ _ ?_
            refine e_seq fun K1412 hK1412 => ?_
            refine e_seq fun K1413 hK1413 => ?_
            refine e_region_text rfl ?_
            refine q_move rfl rfl ?_
            refine q_lenS rfl (hS.isl 2 rfl) rfl ?_
            refine q_move rfl rfl ?_
            refine eseq_nil ?_
            refine hK1413 _ _ ?_
            refine e_block ?_
            obtain ⟨tl1414, ht1414, h⟩ := Option.of_bind h
            have hX1414_4 : ∀ (R1690 : Nat → Prop) (w1691 : World) (E_ : Env), law21_ZigzagTracks_K2 fuel r1003 r1025 = some r → Sep F R R1690 w w1691 [HP.blk bl1007 [v1004, v1005, v1006] 28, HP.own ptTy (fun _ => False) 36 v1026 r1025.1] → IsSlice Ty.int w1691 R1690 v1004 r1003.1.lens → IsSlice (Ty.slice Ty.int) w1691 R1690 v1005 r1003.1.ckpts → IsSlice arcTy w1691 R1690 v1006 r1003.1.arcs → Sub [(5, .pointer (some ⟨bl1007, 0, none⟩)), (6, v1026)] E_ → K1412 E_ w1691 := by
              intro R1690 w1691 E_ h hS f1692 f1693 f1694 hsub
              refine hK1412 _ _ (e_sub hsub ?_); clear hsub
              unfold law21_ZigzagTracks_K2 at h
              refine e_seq fun K1696 hK1696 => ?_
              refine e_region_text rfl ?_
              refine q_loadAgg rfl (Blk.cellsAt (hS.blk 0 rfl) 0 3 rfl) rfl rfl ?_
              refine q_move rfl rfl ?_
              obtain ⟨r1698, hr1698, h⟩ := Option.of_bind h
              refine q_call rfl (zigzag_Extension_w (a0 := (⟨r1003.1.lens, r1003.1.ckpts, r1003.1.arcs⟩ : Pat)) (Sep.all w1691) (f1692).old (f1693).old (f1694).old ((hS.isl 1 rfl)).old hr1698) rfl ?_
              rintro _ w1697 ⟨v1699, R1697, rfl, hC1697⟩
              have hB1697 : Below (World.heap w1691).size w1691 w1697 := hC1697.stepBF
              refine ⟨fun _ => .of_below hB1697, ?_⟩
              replace f1692 := f1692.ext hB1697
              replace f1693 := f1693.ext hB1697
              replace f1694 := f1694.ext hB1697
              replace hS := hS.newOwnS hB1697 (hC1697.own 0 rfl) (hC1697.fresh 0 rfl) (fun _ h => h.elim)
              refine q_move rfl rfl ?_
              refine q_extract rfl rfl rfl ?_
              refine q_extract rfl rfl rfl ?_
              refine q_assign rfl rfl ?_
              refine q_assign rfl rfl ?_
              refine eseq_nil ?_
              refine hK1696 _ _ ?_
              refine e_seq fun K1700 hK1700 => ?_
              refine e_region_text rfl ?_
              refine q_move rfl rfl ?_
              refine q_assign rfl rfl ?_
              refine eseq_nil ?_
              refine hK1700 _ _ ?_
              refine e_ret ?_
              obtain rfl := Option.some.inj h
              exact ⟨_, res1 rfl rfl, _, rfl, (hS.pickB [] 3 rfl rfl)⟩
            refine e_loop (fun m_ E_ w1553 => ∃ (x1558 : Int), ∃ (R1552 : Nat → Prop), iter (fun s => law21_ZigzagTracks_B1 fuel r1025 r1003 s) m_ x1558 = some tl1414 ∧ Sep F R R1552 w w1553 [HP.blk bl1007 [v1004, v1005, v1006] 28, HP.own ptTy (fun _ => False) 36 v1026 r1025.1] ∧ IsSlice Ty.int w1553 R1552 v1004 r1003.1.lens ∧ IsSlice (Ty.slice Ty.int) w1553 R1552 v1005 r1003.1.ckpts ∧ IsSlice arcTy w1553 R1552 v1006 r1003.1.arcs ∧ E_ = [(5, .pointer (some ⟨bl1007, 0, none⟩)), (6, v1026), (79, .int .i64 (r1025.1.length : Int)), (80, .int .i64 x1558)]) _ ⟨_, ⟨0, _, ht1414, (hS.pickB [1, 2] 6 rfl rfl), f1372, f1373, f1374, rfl⟩, Sub.cons rfl (Sub.cons rfl (Sub.cons rfl (Sub.cons rfl (Sub.nil _))))⟩ ?_
            clear ht1414 hS
            rintro m1414 _ w1553 ⟨x1558, R1552, ht1414, hS, f1554, f1555, f1556, rfl⟩
            obtain ⟨m1414, rfl, o1414, ho1414, ht1414⟩ := iter_some ht1414
            replace ho1414 : law21_ZigzagTracks_B1 fuel r1025 r1003 x1558 = some o1414 := ho1414
            unfold law21_ZigzagTracks_B1 at ho1414
            refine e_seq fun K1701 hK1701 => ?_
            refine e_region_text rfl ?_
            refine q_lss rfl rfl rfl ?_
            refine eseq_nil ?_
            refine hK1701 _ _ ?_
            refine e_seq fun K1702 hK1702 => ?_
            refine e_cond rfl (fun hc1703 => ?_) (fun hc1703 => ?_)
            · replace ho1414 := (if_pos hc1703).symm.trans ho1414
              refine e_skip ?_
              refine hK1702 _ _ ?_
              refine e_seq fun K1704 hK1704 => ?_
              refine e_block ?_
              refine e_seq fun K1705 hK1705 => ?_
              refine e_region_text rfl ?_
              refine q_move rfl rfl ?_
              refine q_assign rfl rfl ?_
              refine eseq_nil ?_
              refine hK1705 _ _ ?_
              refine e_seq fun K1706 hK1706 => ?_
              refine e_region_text rfl ?_
              refine q_move rfl rfl ?_
              refine q_lenS rfl (hS.isl 1 rfl) rfl ?_
              refine q_move rfl rfl ?_
              refine eseq_nil ?_
              refine hK1706 _ _ ?_
              refine e_block ?_
              obtain ⟨tl1707, ht1707, ho1414⟩ := Option.of_bind ho1414
              have hX1707_6 : ∀ (R1791 : Nat → Prop) (w1792 : World) (E_ : Env), law21_ZigzagTracks_K3 fuel x1558 = some o1414 → Sep F R R1791 w w1792 [HP.blk bl1007 [v1004, v1005, v1006] 28, HP.own ptTy (fun _ => False) 36 v1026 r1025.1] → IsSlice Ty.int w1792 R1791 v1004 r1003.1.lens → IsSlice (Ty.slice Ty.int) w1792 R1791 v1005 r1003.1.ckpts → IsSlice arcTy w1792 R1791 v1006 r1003.1.arcs → Sub [(5, .pointer (some ⟨bl1007, 0, none⟩)), (6, v1026), (79, .int .i64 (r1025.1.length : Int)), (80, .int .i64 x1558)] E_ → K1704 E_ w1792 := by
                intro R1791 w1792 E_ ho1414 hS f1793 f1794 f1795 hsub
                refine hK1704 _ _ (e_sub hsub ?_); clear hsub
                unfold law21_ZigzagTracks_K3 at ho1414
                refine e_region_text rfl ?_
                refine q_addW rfl rfl rfl ?_
                refine q_move rfl rfl ?_
                refine eseq_nil ?_
                obtain rfl := Option.some.inj ho1414
                exact ⟨m1414, _, Nat.lt_succ_self _, ⟨(w64 (x1558 + 1)), _, ht1414, hS, f1793, f1794, f1795, rfl⟩, Sub.cons rfl (Sub.cons rfl (Sub.cons rfl (Sub.cons rfl (Sub.nil _))))⟩
              refine e_loop (fun m_ E_ w1750 => ∃ (x1755 : Int), ∃ (R1749 : Nat → Prop), iter (fun s => law21_ZigzagTracks_B2 fuel r1025 x1558 r1003 s) m_ x1755 = some tl1707 ∧ Sep F R R1749 w w1750 [HP.blk bl1007 [v1004, v1005, v1006] 28, HP.own ptTy (fun _ => False) 36 v1026 r1025.1] ∧ IsSlice Ty.int w1750 R1749 v1004 r1003.1.lens ∧ IsSlice (Ty.slice Ty.int) w1750 R1749 v1005 r1003.1.ckpts ∧ IsSlice arcTy w1750 R1749 v1006 r1003.1.arcs ∧ E_ = [(5, .pointer (some ⟨bl1007, 0, none⟩)), (6, v1026), (11, .int .i64 x1558), (79, .int .i64 (r1025.1.length : Int)), (80, .int .i64 x1558), (84, .int .i64 (r1025.1.length : Int)), (85, .int .i64 x1755)]) _ ⟨_, ⟨0, _, ht1707, hS, f1554, f1555, f1556, rfl⟩, Sub.cons rfl (Sub.cons rfl (Sub.cons rfl (Sub.cons rfl (Sub.cons rfl (Sub.cons rfl (Sub.cons rfl (Sub.nil _)))))))⟩ ?_
              clear ht1707 hS
              rintro m1707 _ w1750 ⟨x1755, R1749, ht1707, hS, f1751, f1752, f1753, rfl⟩
              obtain ⟨m1707, rfl, o1707, ho1707, ht1707⟩ := iter_some ht1707
              replace ho1707 : law21_ZigzagTracks_B2 fuel r1025 x1558 r1003 x1755 = some o1707 := ho1707
              unfold law21_ZigzagTracks_B2 at ho1707
              refine e_seq fun K1797 hK1797 => ?_
              refine e_region_text rfl ?_
              refine q_lss rfl rfl rfl ?_
              refine eseq_nil ?_
              refine hK1797 _ _ ?_
              refine e_seq fun K1798 hK1798 => ?_
              refine e_cond rfl (fun hc1799 => ?_) (fun hc1799 => ?_)
              · replace ho1707 := (if_pos hc1799).symm.trans ho1707
                refine e_skip ?_
                refine hK1798 _ _ ?_
                refine e_seq fun K1800 hK1800 => ?_
                refine e_block ?_
                refine e_seq fun K1801 hK1801 => ?_
                refine e_region_text rfl ?_
                refine q_move rfl rfl ?_
                refine q_assign rfl rfl ?_
                refine eseq_nil ?_
                refine hK1801 _ _ ?_
                refine e_seq fun K1802 hK1802 => ?_
                refine e_region_draw mixed (fun _ => False) [0, 0, 3, 7, 15, 15, 15, 111, 239, 15, 15, 1551, 3599, 8191, 16383] [] [0, 1, 2, 3, 4, 5, 6, 7, 8, 9, 10, 11, 12, 13, 14] (by kernel_rfl) ?_
                refine q_move rfl rfl ?_
                refine q_move rfl rfl ?_
                refine q_neq rfl rfl rfl ?_
                refine q_move rfl rfl ?_
                obtain ⟨x1814, hx1813, ho1707⟩ := Option.of_bind ho1707
                refine g_andM 10 hx1813 rfl trivial rfl rfl ?_ ?_ ?_
                · intro hg1813 hx1813
                  clear ho1707
                  have hT1813 := Below.refl (World.heap w1750).size w1750
                  refine g_run rfl ?_; refine q_loadAgg rfl (Blk.cellsAt (hS.blk 0 rfl) 0 3 rfl) rfl rfl ?_
                  refine g_run rfl ?_; refine q_move rfl rfl ?_
                  refine g_run rfl ?_; refine q_move rfl rfl ?_
                  obtain ⟨x1815, hx1815, hx1813⟩ := Option.of_bind hx1813
                  refine g_run rfl ?_; refine q_indexO (by infer_instance) rfl (hS.own 1 rfl) rfl hx1815 rfl ?_
                  have f1816 := (hS.ownR 1 rfl).elt hx1815
                  have hc1817 := Pt_open f1816
                  refine g_run rfl ?_; refine q_loadAgg rfl hc1817 rfl rfl ?_
                  refine g_run rfl ?_; refine q_move rfl rfl ?_
                  refine g_run rfl ?_; refine q_move rfl rfl ?_
                  obtain ⟨x1818, hx1818, hx1813⟩ := Option.of_bind hx1813
                  refine g_run rfl ?_; refine q_indexO (by infer_instance) rfl (hS.own 1 rfl) rfl hx1818 rfl ?_
                  have f1819 := (hS.ownR 1 rfl).elt hx1818
                  have hc1820 := Pt_open f1819
                  refine g_run rfl ?_; refine q_loadAgg rfl hc1820 rfl rfl ?_
                  obtain ⟨r1822, hr1822, hx1813⟩ := Option.of_bind hx1813
                  refine g_run rfl ?_; refine q_call rfl (depend_Depends_w (a0 := (⟨r1003.1.lens, r1003.1.ckpts, r1003.1.arcs⟩ : Pat)) (a1 := x1815) (a2 := x1818) (Sep.enter (As := []) hS) f1751 f1752 f1753 hr1822) rfl ?_
                  rintro _ w1821 ⟨R1821, rfl, hC1821⟩
                  have hB1821 : Below (World.heap w1750).size w1750 w1821 := hC1821.stepB0
                  refine ⟨fun _ => .of_below hB1821, ?_⟩
                  replace f1751 := (f1751.ext hB1821).mono fun k hk _ => hC1821.ro0 k hk
                  replace f1752 := (f1752.ext hB1821).mono fun k hk _ => hC1821.ro0 k hk
                  replace f1753 := (f1753.ext hB1821).mono fun k hk _ => hC1821.ro0 k hk
                  replace hT1813 := hT1813.trans (Below.mono hB1821 hT1813.size)
                  replace hS := Sep.leave (As := []) hS hC1821; simp only [List.cons_append, List.nil_append] at hS
                  cases hx1813
                  exact eseq_nil ⟨hT1813, Sub.set rfl (Sub.set rfl (Sub.set rfl (Sub.set rfl (Sub.set rfl (Sub.set rfl (Sub.set rfl (Sub.set rfl (Sub.set rfl (Sub.set rfl (Sub.bool true rfl hg1813)))))))))), rfl⟩
                · intro hg1813
                  refine g_skip rfl rfl rfl ?_
                  refine g_skip rfl rfl rfl ?_
                  refine g_skip rfl rfl rfl ?_
                  refine g_skip rfl rfl rfl ?_
                  refine g_skip rfl rfl rfl ?_
                  refine g_skip rfl rfl rfl ?_
                  refine g_skip rfl rfl rfl ?_
                  refine g_skip rfl rfl rfl ?_
                  refine g_skip rfl rfl rfl ?_
                  refine g_skip rfl rfl rfl ?_
                  exact eseq_nil ⟨rfl, Sub.set rfl (Sub.set rfl (Sub.set rfl (Sub.set rfl (Sub.set rfl (Sub.set rfl (Sub.set rfl (Sub.set rfl (Sub.set rfl (Sub.set rfl (Sub.bool false rfl hg1813))))))))))⟩
                intro wm1813 hBm1813; clear hx1813
                replace hS := hS.below hBm1813
                replace f1751 := f1751.ext hBm1813
                replace f1752 := f1752.ext hBm1813
                replace f1753 := f1753.ext hBm1813
                refine eseq_nil ?_
                refine hK1802 _ _ ?_
                refine e_cond rfl (fun hc1823 => ?_) (fun hc1823 => ?_)
                · replace ho1707 := (if_pos hc1823).symm.trans ho1707
                  refine e_seq fun K1824 hK1824 => ?_
                  refine e_region_text rfl ?_
                  refine q_assign rfl rfl ?_
                  refine eseq_nil ?_
                  refine hK1824 _ _ ?_
                  refine e_ret ?_
                  obtain rfl := Option.some.inj ho1707
                  obtain rfl := Option.some.inj ht1707
                  obtain rfl := Option.some.inj ho1414
                  obtain rfl := Option.some.inj ht1414
                  obtain rfl := Option.some.inj h
                  exact ⟨_, res1 rfl rfl, _, rfl, (hS.pickB [] 2 rfl rfl)⟩
                · replace ho1707 := (if_neg (not_true hc1823)).symm.trans ho1707
                  refine e_skip ?_
                  refine hK1800 _ _ ?_
                  refine e_region_text rfl ?_
                  refine q_addW rfl rfl rfl ?_
                  refine q_move rfl rfl ?_
                  refine eseq_nil ?_
                  obtain rfl := Option.some.inj ho1707
                  exact ⟨m1707, _, Nat.lt_succ_self _, ⟨(w64 (x1755 + 1)), _, ht1707, hS, f1751, f1752, f1753, rfl⟩, Sub.cons rfl (Sub.cons rfl (Sub.cons rfl (Sub.cons rfl (Sub.cons rfl (Sub.cons rfl (Sub.cons rfl (Sub.nil _)))))))⟩
              · replace ho1707 := (if_neg (not_true hc1799)).symm.trans ho1707
                refine e_exit ?_
                obtain rfl := Option.some.inj ho1707
                obtain rfl := Option.some.inj ht1707
                exact hX1707_6  _ _ _ ho1414 hS f1751 f1752 f1753 (Sub.cons rfl (Sub.cons rfl (Sub.cons rfl (Sub.cons rfl (Sub.nil _)))))
            · replace ho1414 := (if_neg (not_true hc1703)).symm.trans ho1414
              refine e_exit ?_
              obtain rfl := Option.some.inj ho1414
              obtain rfl := Option.some.inj ht1414
              exact hX1414_4  _ _ _ h hS f1554 f1555 f1556 (Sub.cons rfl (Sub.cons rfl (Sub.nil _)))
    replace hS := hS.nilRows0 Ty.int 3 24
    refine e_loop (fun m_ E_ w1194 => ∃ (x1202 : (List (List Int))), ∃ (x1206 : Int), ∃ (v1200 : Value), ∃ (v1201 : List Value), ∃ (R1193 : Nat → Prop), iter (fun s => law21_ZigzagTracks_B3 fuel r1003 s.1 s.2) m_ (x1202, x1206) = some tl1033 ∧ Sep F R R1193 w w1194 [HP.blk bl1007 [v1004, v1005, v1006] 28, HP.own ptTy (fun _ => False) 36 v1026 r1025.1, HP.blk bl1028 [v1004, v1200, v1006] 28, HP.own Ty.raw (fun _ => False) 24 v1200 v1201, HP.famS Ty.int (fun _ => False) 3 v1201 x1202] ∧ IsSlice Ty.int w1194 R1193 v1004 r1003.1.lens ∧ IsSlice (Ty.slice Ty.int) w1194 R1193 v1005 r1003.1.ckpts ∧ IsSlice arcTy w1194 R1193 v1006 r1003.1.arcs ∧ IsSlice Ty.int w1194 R1193 v1004 r1003.1.lens ∧ IsSlice arcTy w1194 R1193 v1006 r1003.1.arcs ∧ E_ = [(5, .pointer (some ⟨bl1007, 0, none⟩)), (6, v1026), (7, .pointer (some ⟨bl1028, 0, none⟩)), (31, .int .i64 (r1003.1.lens.length : Int)), (32, .int .i64 x1206)]) _ ⟨_, ⟨([] : List (List Int)), 0, (.slice none 0 0), ([] : List Value), _, ht1033, (hS.pickB [5, 4, 2, 0, 1] 7 rfl rfl), f1004, f1005, f1024, f1004, f1024, rfl⟩, Sub.cons rfl (Sub.cons rfl (Sub.cons rfl (Sub.cons rfl (Sub.cons rfl (Sub.nil _)))))⟩ ?_
    clear ht1033 hS
    rintro m1033 _ w1194 ⟨x1202, x1206, v1200, v1201, R1193, ht1033, hS, f1195, f1196, f1197, f1199, f1205, rfl⟩
    obtain ⟨m1033, rfl, o1033, ho1033, ht1033⟩ := iter_some ht1033
    replace ho1033 : law21_ZigzagTracks_B3 fuel r1003 x1202 x1206 = some o1033 := ho1033
    unfold law21_ZigzagTracks_B3 at ho1033
    refine e_seq fun K1827 hK1827 => ?_
    refine e_region_text rfl ?_
    refine q_lss rfl rfl rfl ?_
    refine eseq_nil ?_
    refine hK1827 _ _ ?_
    refine e_seq fun K1828 hK1828 => ?_
    refine e_cond rfl (fun hc1829 => ?_) (fun hc1829 => ?_)
    · replace ho1033 := (if_pos hc1829).symm.trans ho1033
      refine e_skip ?_
      refine hK1828 _ _ ?_
      refine e_seq fun K1830 hK1830 => ?_
      refine e_block ?_
      refine e_seq fun K1831 hK1831 => ?_
      refine e_region_text rfl ?_
      refine q_move rfl rfl ?_
      refine q_assign rfl rfl ?_
      refine eseq_nil ?_
      refine hK1831 _ _ ?_
      refine e_seq fun K1832 hK1832 => ?_
      refine e_region_text rfl ?_
      refine q_litO (T := Ty.int) (S := (fun _ => False)) (cells := [[.int .i64 0]]) (ys := [0]) ((Parts.cons rfl rfl Parts.nil)) rfl rfl rfl rfl rfl rfl rfl (fun w1 hB => ⟨rfl, trivial⟩) (fun _ h => h.elim) rfl fun w1833 v1833 ho1833 hv1833 hB1833 => ?_
      replace f1195 := f1195.ext hB1833
      replace f1196 := f1196.ext hB1833
      replace f1197 := f1197.ext hB1833
      replace f1199 := f1199.ext hB1833
      replace f1205 := f1205.ext hB1833
      replace hS := hS.newOwnS hB1833 ho1833 hv1833 (fun _ h => h.elim)
      refine q_assign rfl rfl ?_
      refine eseq_nil ?_
      refine hK1832 _ _ ?_
      refine e_seq fun K1835 hK1835 => ?_
      refine e_seq fun K1836 hK1836 => ?_
      refine e_region_text rfl ?_
      refine q_assign rfl rfl ?_
      refine eseq_nil ?_
      refine hK1836 _ _ ?_
      refine e_block ?_
      obtain ⟨tl1837, ht1837, ho1033⟩ := Option.of_bind ho1033
      have hX1837_2 : ∀ (x1955 : (List Int)) (v1954 : Value) (R1943 : Nat → Prop) (w1944 : World) (E_ : Env), law21_ZigzagTracks_K4 fuel x1202 x1206 x1955 = some o1033 → Sep F R R1943 w w1944 [HP.blk bl1007 [v1004, v1005, v1006] 28, HP.own ptTy (fun _ => False) 36 v1026 r1025.1, HP.blk bl1028 [v1004, v1200, v1006] 28, HP.own Ty.raw (fun _ => False) 24 v1200 v1201, HP.famS Ty.int (fun _ => False) 3 v1201 x1202, HP.own Ty.int (fun _ => False) 3 v1954 x1955] → IsSlice Ty.int w1944 R1943 v1004 r1003.1.lens → IsSlice (Ty.slice Ty.int) w1944 R1943 v1005 r1003.1.ckpts → IsSlice arcTy w1944 R1943 v1006 r1003.1.arcs → IsSlice Ty.int w1944 R1943 v1004 r1003.1.lens → IsSlice arcTy w1944 R1943 v1006 r1003.1.arcs → Sub [(5, .pointer (some ⟨bl1007, 0, none⟩)), (6, v1026), (7, .pointer (some ⟨bl1028, 0, none⟩)), (9, v1954), (31, .int .i64 (r1003.1.lens.length : Int)), (32, .int .i64 x1206)] E_ → K1835 E_ w1944 := by
        intro x1955 v1954 R1943 w1944 E_ ho1033 hS f1945 f1946 f1947 f1949 f1952 hsub
        refine hK1835 _ _ (e_sub hsub ?_); clear hsub
        unfold law21_ZigzagTracks_K4 at ho1033
        refine e_region_text rfl ?_
        refine q_field rfl rfl ?_
        refine q_load rfl (Blk.cell (hS.blk 2 rfl) rfl) rfl ?_
        refine q_move rfl rfl ?_
        refine q_litO (T := Ty.raw) (S := (fun _ => False)) (cells := [[v1954]]) (ys := [v1954]) ((Parts.cons rfl (cells_one (hS.own 5 rfl).one) Parts.nil)) rfl rfl rfl rfl rfl rfl rfl (fun w1 hB => ⟨⟨rfl, (hS.own 5 rfl).one⟩, trivial⟩) (fun _ h => h.elim) rfl fun w1956 v1956 ho1956 hv1956 hB1956 => ?_
        replace f1945 := f1945.ext hB1956
        replace f1946 := f1946.ext hB1956
        replace f1947 := f1947.ext hB1956
        replace f1949 := f1949.ext hB1956
        replace f1952 := f1952.ext hB1956
        replace hS := hS.newOwnS hB1956 ho1956 hv1956 (fun _ h => h.elim)
        replace hS := hS.pickB [6, 0, 1, 2, 3, 4, 5] 7 rfl rfl; simp only [List.map_cons, List.map_nil, List.getD_cons_zero, List.getD_cons_succ] at hS
        replace hS := hS.famOne
        obtain ⟨x1960, hx1960, ho1033⟩ := Option.of_bind ho1033
        obtain ⟨hcr1959, hce1959⟩ := catL_raw (hS.famLen 6 rfl) (hS.famLen 0 rfl) (snoc_cat hx1960)
        refine q_catOwn (T := Ty.raw) rfl rfl rfl rfl (hS.own 5 rfl) rfl (hS.own 1 rfl) (fun _ h _ => h.elim) hcr1959 (Nat.zero_le _) rfl (fun h => by cases h) fun v1959 w1959 hw1959 hgr1959 hnw1959 => ?_
        have hk1959 := hS.keptOwn 5 rfl hgr1959
        replace f1945 := f1945.kept hk1959
        replace f1946 := f1946.kept hk1959
        replace f1947 := f1947.kept hk1959
        replace f1949 := f1949.kept hk1959
        replace f1952 := f1952.kept hk1959
        replace hS := hS.setOwn 5 rfl hw1959 hgr1959 hnw1959; simp only [List.set] at hS
        replace hS := hS.pickB [6, 0, 1, 2, 3, 4, 5] 7 rfl rfl; simp only [List.map_cons, List.map_nil, List.getD_cons_zero, List.getD_cons_succ] at hS
        replace hS := hS.famCat; rw [hce1959] at hS
        refine q_field rfl rfl ?_
        refine q_store rfl rfl (hS.blk 4 rfl) (Nat.le_of_ble_eq_true rfl) (hS.own 5 rfl).one rfl rfl fun w1961 hb1961 hO1961 => ?_
        have hk1961 := hS.keptBlk 4 rfl hO1961
        replace f1945 := f1945.kept hk1961
        replace f1946 := f1946.kept hk1961
        replace f1947 := f1947.kept hk1961
        replace f1949 := f1949.kept hk1961
        replace f1952 := f1952.kept hk1961
        replace hS := hS.setBlk 4 rfl hb1961 hO1961; simp only [List.set] at hS
        refine eseq_nil ?_
        refine hK1830 _ _ ?_
        refine e_region_text rfl ?_
        refine q_addW rfl rfl rfl ?_
        refine q_move rfl rfl ?_
        refine eseq_nil ?_
        obtain rfl := Option.some.inj ho1033
        exact ⟨m1033, _, Nat.lt_succ_self _, ⟨x1960, (w64 (x1206 + 1)), v1959, (v1201 ++ ([v1954])), _, ht1033, (hS.pickB [2, 3, 4, 5, 0] 6 rfl rfl), f1945, f1946, f1947, f1949, f1952, rfl⟩, Sub.cons rfl (Sub.cons rfl (Sub.cons rfl (Sub.cons rfl (Sub.cons rfl (Sub.nil _)))))⟩
      refine e_loop (fun m_ E_ w1890 => ∃ (x1901 : (List Int)), ∃ (x1902 : Int), ∃ (v1900 : Value), ∃ (R1889 : Nat → Prop), iter (fun s => law21_ZigzagTracks_B4 fuel r1003 x1206 s.1 s.2) m_ (x1901, x1902) = some tl1837 ∧ Sep F R R1889 w w1890 [HP.blk bl1007 [v1004, v1005, v1006] 28, HP.own ptTy (fun _ => False) 36 v1026 r1025.1, HP.blk bl1028 [v1004, v1200, v1006] 28, HP.own Ty.raw (fun _ => False) 24 v1200 v1201, HP.famS Ty.int (fun _ => False) 3 v1201 x1202, HP.own Ty.int (fun _ => False) 3 v1900 x1901] ∧ IsSlice Ty.int w1890 R1889 v1004 r1003.1.lens ∧ IsSlice (Ty.slice Ty.int) w1890 R1889 v1005 r1003.1.ckpts ∧ IsSlice arcTy w1890 R1889 v1006 r1003.1.arcs ∧ IsSlice Ty.int w1890 R1889 v1004 r1003.1.lens ∧ IsSlice arcTy w1890 R1889 v1006 r1003.1.arcs ∧ E_ = [(5, .pointer (some ⟨bl1007, 0, none⟩)), (6, v1026), (7, .pointer (some ⟨bl1028, 0, none⟩)), (8, .int .i64 x1206), (9, v1900), (10, .int .i64 x1902), (31, .int .i64 (r1003.1.lens.length : Int)), (32, .int .i64 x1206)]) _ ⟨_, ⟨([0]), 1, v1833, _, ht1837, (hS.pickB [1, 2, 3, 4, 5, 0] 6 rfl rfl), f1195, f1196, f1197, f1199, f1205, rfl⟩, Sub.cons rfl (Sub.cons rfl (Sub.cons rfl (Sub.cons rfl (Sub.cons rfl (Sub.cons rfl (Sub.cons rfl (Sub.cons rfl (Sub.nil _))))))))⟩ ?_
      clear ht1837 hS
      rintro m1837 _ w1890 ⟨x1901, x1902, v1900, R1889, ht1837, hS, f1891, f1892, f1893, f1895, f1898, rfl⟩
      obtain ⟨m1837, rfl, o1837, ho1837, ht1837⟩ := iter_some ht1837
      replace ho1837 : law21_ZigzagTracks_B4 fuel r1003 x1206 x1901 x1902 = some o1837 := ho1837
      unfold law21_ZigzagTracks_B4 at ho1837
      refine e_seq fun K1962 hK1962 => ?_
      refine e_seq fun K1963 hK1963 => ?_
      refine e_region_text rfl ?_
      refine q_move rfl rfl ?_
      refine q_field rfl rfl ?_
      refine q_load rfl (Blk.cell (hS.blk 0 rfl) rfl) rfl ?_
      refine q_move rfl rfl ?_
      obtain ⟨x1964, hx1964, ho1837⟩ := Option.of_bind ho1837
      refine q_atS (by infer_instance) rfl f1891 rfl hx1964 rfl fun b1965 o1965 hm1965 f1965 => ?_
      refine q_load rfl (Elt.intCell f1965) rfl ?_
      refine q_lss rfl rfl rfl ?_
      refine eseq_nil ?_
      refine hK1963 _ _ ?_
      refine e_cond rfl (fun hc1966 => ?_) (fun hc1966 => ?_)
      · replace ho1837 := (if_pos hc1966).symm.trans ho1837
        refine e_skip ?_
        refine hK1962 _ _ ?_
        refine e_seq fun K1967 hK1967 => ?_
        refine e_block ?_
        refine e_seq fun K1968 hK1968 => ?_
        refine e_region_text rfl ?_
        refine q_loadAgg rfl (Blk.cellsAt (hS.blk 0 rfl) 0 3 rfl) rfl rfl ?_
        refine q_move rfl rfl ?_
        refine q_move rfl rfl ?_
        refine q_addW rfl rfl rfl ?_
        obtain ⟨r1970, hr1970, ho1837⟩ := Option.of_bind ho1837
        refine q_call rfl (ref16_Received_w (a0 := (⟨r1003.1.lens, r1003.1.ckpts, r1003.1.arcs⟩ : Pat)) (Sep.enter (As := []) hS) f1891 f1892 f1893 hr1970) rfl ?_
        rintro _ w1969 ⟨R1969, rfl, hC1969⟩
        have hB1969 : Below (World.heap w1890).size w1890 w1969 := hC1969.stepB0
        refine ⟨fun _ => .of_below hB1969, ?_⟩
        replace f1891 := (f1891.ext hB1969).mono fun k hk _ => hC1969.ro0 k hk
        replace f1892 := (f1892.ext hB1969).mono fun k hk _ => hC1969.ro0 k hk
        replace f1893 := (f1893.ext hB1969).mono fun k hk _ => hC1969.ro0 k hk
        replace f1895 := (f1895.ext hB1969).mono fun k hk _ => hC1969.ro0 k hk
        replace f1898 := (f1898.ext hB1969).mono fun k hk _ => hC1969.ro0 k hk
        replace hS := Sep.leave (As := []) hS hC1969; simp only [List.cons_append, List.nil_append] at hS
        refine q_geq rfl rfl rfl ?_
        refine eseq_nil ?_
        refine hK1968 _ _ ?_
        refine e_cond rfl (fun hc1971 => ?_) (fun hc1971 => ?_)
        · replace ho1837 := (if_pos hc1971).symm.trans ho1837
          refine e_region_text rfl ?_
          refine q_move rfl rfl ?_
          refine q_move rfl rfl ?_
          refine q_litO (T := Ty.int) (S := (fun _ => False)) (cells := [[.int .i64 x1902]]) (ys := [x1902]) ((Parts.cons rfl rfl Parts.nil)) rfl rfl rfl rfl rfl rfl rfl (fun w1 hB => ⟨rfl, trivial⟩) (fun _ h => h.elim) rfl fun w1972 v1972 ho1972 hv1972 hB1972 => ?_
          replace f1891 := f1891.ext hB1972
          replace f1892 := f1892.ext hB1972
          replace f1893 := f1893.ext hB1972
          replace f1895 := f1895.ext hB1972
          replace f1898 := f1898.ext hB1972
          replace hS := hS.newOwnS hB1972 ho1972 hv1972 (fun _ h => h.elim)
          obtain ⟨x1975, hx1975, ho1837⟩ := Option.of_bind ho1837
          refine q_catOwn (T := Ty.int) rfl rfl rfl rfl (hS.own 6 rfl) rfl (hS.own 0 rfl) (fun _ h _ => h.elim) (snoc_cat hx1975) (Nat.zero_le _) rfl (fun h => by cases h) fun v1974 w1974 hw1974 hgr1974 hnw1974 => ?_
          have hk1974 := hS.keptOwn 6 rfl hgr1974
          replace f1891 := f1891.kept hk1974
          replace f1892 := f1892.kept hk1974
          replace f1893 := f1893.kept hk1974
          replace f1895 := f1895.kept hk1974
          replace f1898 := f1898.kept hk1974
          replace hS := hS.setOwn 6 rfl hw1974 hgr1974 hnw1974; simp only [List.set] at hS
          refine q_assign rfl rfl ?_
          refine eseq_nil ?_
          refine hK1967 _ _ ?_
          refine e_region_text rfl ?_
          refine q_move rfl rfl ?_
          refine q_addW rfl rfl rfl ?_
          refine q_assign rfl rfl ?_
          refine eseq_nil ?_
          obtain rfl := Option.some.inj ho1837
          exact ⟨m1837, _, Nat.lt_succ_self _, ⟨x1975, (w64 (x1902 + 1)), v1974, _, ht1837, (hS.pickB [1, 2, 3, 4, 5, 6] 7 rfl rfl), f1891, f1892, f1893, f1895, f1898, rfl⟩, Sub.cons rfl (Sub.cons rfl (Sub.cons rfl (Sub.cons rfl (Sub.cons rfl (Sub.cons rfl (Sub.cons rfl (Sub.cons rfl (Sub.nil _))))))))⟩
        · replace ho1837 := (if_neg (not_true hc1971)).symm.trans ho1837
          refine e_skip ?_
          refine hK1967 _ _ ?_
          refine e_region_text rfl ?_
          refine q_move rfl rfl ?_
          refine q_addW rfl rfl rfl ?_
          refine q_assign rfl rfl ?_
          refine eseq_nil ?_
          obtain rfl := Option.some.inj ho1837
          exact ⟨m1837, _, Nat.lt_succ_self _, ⟨x1901, (w64 (x1902 + 1)), v1900, _, ht1837, hS, f1891, f1892, f1893, f1895, f1898, rfl⟩, Sub.cons rfl (Sub.cons rfl (Sub.cons rfl (Sub.cons rfl (Sub.cons rfl (Sub.cons rfl (Sub.cons rfl (Sub.cons rfl (Sub.nil _))))))))⟩
      · replace ho1837 := (if_neg (not_true hc1966)).symm.trans ho1837
        refine e_exit ?_
        obtain rfl := Option.some.inj ho1837
        obtain rfl := Option.some.inj ht1837
        exact hX1837_2 x1901 v1900 _ _ _ ho1033 hS f1891 f1892 f1893 f1895 f1898 (Sub.cons rfl (Sub.cons rfl (Sub.cons rfl (Sub.cons rfl (Sub.cons rfl (Sub.cons rfl (Sub.nil _)))))))
    · replace ho1033 := (if_neg (not_true hc1829)).symm.trans ho1033
      refine e_exit ?_
      obtain rfl := Option.some.inj ho1033
      obtain rfl := Option.some.inj ht1033
      exact hX1033_0 x1202 v1200 v1201 _ _ _ h hS f1195 f1196 f1197 f1199 f1205 (Sub.cons rfl (Sub.cons rfl (Sub.cons rfl (Sub.nil _))))
end Go.Proofs.Ytlceljfigccllaa
