/- Printed walks: A31b. -/
import Derived.Test.YtfgmboklpjanlaaA31a
set_option linter.unusedVariables false
set_option linter.unusedSimpArgs false
namespace Go.Mine
open Go.RowKit
def ref31_Merge_K1 (fuel : Nat) (x1172 : (List EndI)) : Option ((List EndI)) :=
  some x1172
def ref31_Merge_K3 (fuel : Nat) (x936 : (List EndI)) (x1180 : EndI) (x937 : Int) (x1338 : Int) : Option (((List EndI) × Int) ⊕ ((List EndI))) :=
  (snoc x936 (⟨0, 0, 0⟩ : EndI)).bind fun x1343 => (dropL x1343 (w64 (x1338 + 1))).bind fun x1345 => (dropL x1343 x1338).bind fun x1346 => (some (shiftL x1343 (w64 (x1338 + 1)).toNat (x1338).toNat)).bind fun x1348 => (ati x1348 x1338).bind fun x1349 => (seti x1348 x1338 (⟨x1180.proc, x1180.inc, x1180.index⟩ : EndI)).bind fun x1351 => some (Sum.inl (x1351, (w64 (x937 + 1))))
def ref31_Merge_B2 (fuel : Nat) (x936 : (List EndI)) (x1180 : EndI) (x1310 : Int) : Option ((Int) ⊕ (Int)) :=
  (andM (decide (0 < x1310)) ((ati x936 (w64 (x1310 - 1))).bind fun x1356 => (orM (decide (x1180.proc < x1356.proc)) ((ati x936 (w64 (x1310 - 1))).bind fun x1361 => (andM (x1361.proc == x1180.proc) ((ati x936 (w64 (x1310 - 1))).bind fun x1366 => some (decide (x1180.inc < x1366.inc)))).bind fun x1365 => some x1365)).bind fun x1360 => some x1360)).bind fun x1355 => (if x1355 = true then some (Sum.inl (w64 (x1310 - 1))) else some (Sum.inr x1310))
def ref31_Merge_K2 (fuel : Nat) (x936 : (List EndI)) (x937 : Int) (x1180 : EndI) (x1272 : Bool) : Option (((List EndI) × Int) ⊕ ((List EndI))) :=
  (if (!x1272) = true then some (Sum.inl (x936, (w64 (x937 + 1)))) else (iter (fun s => ref31_Merge_B2 fuel x936 x1180 s) fuel (x936.length : Int)).bind (fun t => ref31_Merge_K3 fuel x936 x1180 x937 t))
def ref31_Merge_B3 (fuel : Nat) (x705 : (List EndI)) (x1180 : EndI) (x937 : Int) (x1232 : Bool) (x1233 : Int) : Option ((Bool × Int) ⊕ (Bool)) :=
  (if (decide (x1233 < (x705.length : Int))) = true then (ati x705 x1233).bind fun x1375 => (andM (!((x1375.proc == x1180.proc) && ((x1375.inc == x1180.inc) && ((x1375.index == x1180.index) && true)))) ((ati x705 x1233).bind fun x1380 => (ref31_implied fuel (⟨x1180.proc, x1180.inc, x1180.index⟩ : EndI) x1380).bind fun r1384 => some r1384)).bind fun x1379 => (orM x1379 ((andM (decide (x1233 < x937)) ((ati x705 x1233).bind fun x1389 => some ((x1389.proc == x1180.proc) && ((x1389.inc == x1180.inc) && ((x1389.index == x1180.index) && true))))).bind fun x1388 => some x1388)).bind fun x1386 => (if x1386 = true then some (Sum.inl (false, (w64 (x1233 + 1)))) else some (Sum.inl (x1232, (w64 (x1233 + 1))))) else some (Sum.inr x1232))
def ref31_Merge_B1 (fuel : Nat) (x705 : (List EndI)) (x936 : (List EndI)) (x937 : Int) : Option (((List EndI) × Int) ⊕ ((List EndI))) :=
  (if (decide (x937 < (x705.length : Int))) = true then (ati x705 x937).bind fun x1180 => (iter (fun s => ref31_Merge_B3 fuel x705 x1180 x937 s.1 s.2) fuel (true, 0)).bind (fun t => ref31_Merge_K2 fuel x936 x937 x1180 t) else some (Sum.inr x936))
def ref31_Merge (fuel : Nat) (a0 : (List EndI)) (a1 : (List EndI)) : Option ((List EndI)) :=
  (catL ([] : List EndI) a0).bind fun x703 => (catL x703 a1).bind fun x705 => (iter (fun s => ref31_Merge_B1 fuel x705 s.1 s.2) fuel (([] : List EndI), 0)).bind (fun t => ref31_Merge_K1 fuel t)
def ref31_Add (fuel : Nat) (a0 : (List EndI)) (a1 : EndI) : Option ((List EndI)) :=
  (ref31_Merge fuel a0 ([(⟨a1.proc, a1.inc, a1.index⟩ : EndI)])).bind fun r19 => some r19
end Go.Mine
namespace Go.Proofs.Ytfgmboklpjanlaa
open Go.RowKit Go.Mine
attribute [local irreducible] eseq ewp iter
theorem ref31_Merge_w {F R : Nat → Prop} {w : World} {fuel : Nat} {a0 : (List EndI)} {a1 : (List EndI)} {v1 : Value} {v2 : Value} {r : ((List EndI))} (hS : Sep F R R w w []) (f1 : IsSlice endITy w R v1 a0) (f2 : IsSlice endITy w R v2 a1) (h : ref31_Merge fuel a0 a1 = some r) :
    Gives Try.prog 17 [v1, v2] w fun u w1 => ∃ (v698 : Value), ∃ (R1 : Nat → Prop), u = v698 ∧ Sep F R R1 w w1 [HP.own endITy (fun _ => False) 34 v698 r] := by
  refine fn_of Try.func17 rfl Try.ntmps17 (Nat.le_of_ble_eq_true rfl) ?_
  unfold ref31_Merge at h
  refine e_seq fun K699 hK699 => ?_
  refine e_region_text rfl ?_
  refine q_assign rfl rfl ?_
  refine eseq_nil ?_
  refine hK699 _ _ ?_
  refine e_seq fun K700 hK700 => ?_
  refine e_region_text rfl ?_
  refine q_move rfl rfl ?_
  replace hS := hS.nilOwn0 endITy 34
  obtain ⟨x703, hx703, h⟩ := Option.of_bind h
  refine q_catE (T := endITy) rfl rfl rfl rfl (hS.own 0 rfl) rfl f1 hx703 (Nat.zero_le _) rfl (fun h => by cases h) fun v702 w702 hw702 hgr702 hnw702 => ?_
  have hk702 := hS.keptOwn 0 rfl hgr702
  replace f2 := f2.kept hk702
  replace f1 := f1.kept hk702
  replace hS := hS.setOwn 0 rfl hw702 hgr702 hnw702; simp only [List.set] at hS
  refine q_move rfl rfl ?_
  obtain ⟨x705, hx705, h⟩ := Option.of_bind h
  refine q_catE (T := endITy) rfl rfl rfl rfl (hS.own 0 rfl) rfl f2 hx705 (Nat.zero_le _) rfl (fun h => by cases h) fun v704 w704 hw704 hgr704 hnw704 => ?_
  have hk704 := hS.keptOwn 0 rfl hgr704
  replace f2 := f2.kept hk704
  replace hS := hS.setOwn 0 rfl hw704 hgr704 hnw704; simp only [List.set] at hS
  refine q_assign rfl rfl ?_
  refine eseq_nil ?_
  refine hK700 _ _ ?_
  refine e_seq fun K706 hK706 => ?_
  refine e_region_text rfl ?_
  refine q_assign rfl rfl ?_
  refine eseq_nil ?_
  refine hK706 _ _ ?_
  refine e_seq fun K707 hK707 => ?_
  refine e_seq fun K708 hK708 => ?_
  refine e_region_text rfl ?_
  refine q_assign rfl rfl ?_
  refine eseq_nil ?_
  refine hK708 _ _ ?_
  refine e_block ?_
  obtain ⟨tl709, ht709, h⟩ := Option.of_bind h
  have hX709_0 : ∀ (x1172 : (List EndI)) (v1171 : Value) (R1168 : Nat → Prop) (w1169 : World) (E_ : Env), ref31_Merge_K1 fuel x1172 = some r → Sep F R R1168 w w1169 [HP.own endITy (fun _ => False) 34 v1171 x1172] → Sub [(6, v1171)] E_ → K707 E_ w1169 := by
    intro x1172 v1171 R1168 w1169 E_ h hS  hsub
    refine hK707 _ _ (e_sub hsub ?_); clear hsub
    unfold ref31_Merge_K1 at h
    refine e_seq fun K1173 hK1173 => ?_
    refine e_region_text rfl ?_
    refine q_move rfl rfl ?_
    refine q_assign rfl rfl ?_
    refine eseq_nil ?_
    refine hK1173 _ _ ?_
    refine e_ret ?_
    obtain rfl := Option.some.inj h
    exact ⟨_, res1 rfl rfl, v1171, _, rfl, hS⟩
  replace hS := hS.nilOwn0 endITy 34
  refine e_loop (fun m_ E_ w932 => ∃ (x936 : (List EndI)), ∃ (x937 : Int), ∃ (v935 : Value), ∃ (R931 : Nat → Prop), iter (fun s => ref31_Merge_B1 fuel x705 s.1 s.2) m_ (x936, x937) = some tl709 ∧ Sep F R R931 w w932 [HP.own endITy (fun _ => False) 34 v704 x705, HP.own endITy (fun _ => False) 34 v935 x936] ∧ E_ = [(5, v704), (6, v935), (7, .int .i64 x937)]) _ ⟨_, ⟨([] : List EndI), 0, (.slice none 0 0), _, ht709, (hS.pickB [1, 0] 2 rfl rfl), rfl⟩, Sub.cons rfl (Sub.cons rfl (Sub.cons rfl (Sub.nil _)))⟩ ?_
  clear ht709 hS
  rintro m709 _ w932 ⟨x936, x937, v935, R931, ht709, hS, rfl⟩
  obtain ⟨m709, rfl, o709, ho709, ht709⟩ := iter_some ht709
  replace ho709 : ref31_Merge_B1 fuel x705 x936 x937 = some o709 := ho709
  unfold ref31_Merge_B1 at ho709
  refine e_seq fun K1175 hK1175 => ?_
  refine e_seq fun K1176 hK1176 => ?_
  refine e_region_text rfl ?_
  refine q_move rfl rfl ?_
  refine q_move rfl rfl ?_
  refine q_lenS rfl (hS.isl 0 rfl) rfl ?_
  refine q_lss rfl rfl rfl ?_
  refine eseq_nil ?_
  refine hK1176 _ _ ?_
  refine e_cond rfl (fun hc1177 => ?_) (fun hc1177 => ?_)
  · replace ho709 := (if_pos hc1177).symm.trans ho709
    refine e_skip ?_
    refine hK1175 _ _ ?_
    refine e_seq fun K1178 hK1178 => ?_
    refine e_block ?_
    refine e_seq fun K1179 hK1179 => ?_
    refine e_region_text rfl ?_
    refine q_move rfl rfl ?_
    refine q_move rfl rfl ?_
    obtain ⟨x1180, hx1180, ho709⟩ := Option.of_bind ho709
    refine q_indexO (by infer_instance) rfl (hS.own 0 rfl) rfl hx1180 rfl ?_
    have f1181 := (hS.ownR 0 rfl).elt hx1180
    have hc1182 := EndI_open f1181
    refine q_loadAgg rfl hc1182 rfl rfl ?_
    refine q_allocB rfl fun w1183 bl1183 hg1183 hb1183 hB1183 => ?_
    replace hS := hS.newBlk hB1183 hg1183 hb1183
    refine q_storeAgg rfl rfl (hS.blk 0 rfl) rfl (Nat.le_of_ble_eq_true rfl) (all_cons rfl (all_cons rfl (all_cons rfl (all_nil)))) rfl rfl fun w1185 hb1185 hO1185 => ?_
    simp only [setN, List.set, List.take, List.drop] at hb1185
    have hk1185 := hS.keptBlk 0 rfl hO1185
    replace hS := hS.setBlk 0 rfl hb1185 hO1185; simp only [List.set] at hS
    refine eseq_nil ?_
    refine hK1179 _ _ ?_
    refine e_seq fun K1186 hK1186 => ?_
    refine e_region_text rfl ?_
    refine q_assign rfl rfl ?_
    refine eseq_nil ?_
    refine hK1186 _ _ ?_
    refine e_seq fun K1187 hK1187 => ?_
    refine e_seq fun K1188 hK1188 => ?_
    refine e_region_text rfl ?_
    refine q_assign rfl rfl ?_
    refine eseq_nil ?_
    refine hK1188 _ _ ?_
    refine e_block ?_
    obtain ⟨tl1189, ht1189, ho709⟩ := Option.of_bind ho709
    have hX1189_2 : ∀ (x1272 : Bool) (R1268 : Nat → Prop) (w1269 : World) (E_ : Env), ref31_Merge_K2 fuel x936 x937 x1180 x1272 = some o709 → Sep F R R1268 w w1269 [HP.own endITy (fun _ => False) 34 v704 x705, HP.own endITy (fun _ => False) 34 v935 x936, HP.blk bl1183 [.int .i64 x1180.proc, .int .i64 x1180.inc, .int .i64 x1180.index] 34] → Sub [(5, v704), (6, v935), (7, .int .i64 x937), (8, .pointer (some ⟨bl1183, 0, none⟩)), (9, .bool x1272)] E_ → K1187 E_ w1269 := by
      intro x1272 R1268 w1269 E_ ho709 hS  hsub
      refine hK1187 _ _ (e_sub hsub ?_); clear hsub
      unfold ref31_Merge_K2 at ho709
      refine e_seq fun K1273 hK1273 => ?_
      refine e_seq fun K1274 hK1274 => ?_
      refine e_region_text rfl ?_
      refine q_move rfl rfl ?_
      refine q_not rfl rfl ?_
      refine eseq_nil ?_
      refine hK1274 _ _ ?_
      refine e_cond rfl (fun hc1275 => ?_) (fun hc1275 => ?_)
      · replace ho709 := (if_pos hc1275).symm.trans ho709
        refine e_exit ?_
        refine hK1178 _ _ ?_
        refine e_region_text rfl ?_
        refine q_move rfl rfl ?_
        refine q_addW rfl rfl rfl ?_
        refine q_assign rfl rfl ?_
        refine eseq_nil ?_
        obtain rfl := Option.some.inj ho709
        exact ⟨m709, _, Nat.lt_succ_self _, ⟨x936, (w64 (x937 + 1)), v935, _, ht709, (hS.pickB [0, 1] 3 rfl rfl), rfl⟩, Sub.cons rfl (Sub.cons rfl (Sub.cons rfl (Sub.nil _)))⟩
      · replace ho709 := (if_neg (not_true hc1275)).symm.trans ho709
        refine e_skip ?_
        refine hK1273 _ _ ?_
        refine e_seq fun K1276 hK1276 => ?_
        refine e_region_text rfl ?_
        refine q_move rfl rfl ?_
        refine q_lenS rfl (hS.isl 1 rfl) rfl ?_
        refine q_assign rfl rfl ?_
        refine eseq_nil ?_
        refine hK1276 _ _ ?_
        refine e_seq fun K1277 hK1277 => ?_
        refine e_block ?_
        obtain ⟨tl1278, ht1278, ho709⟩ := Option.of_bind ho709
        have hX1278_4 : ∀ (x1338 : Int) (R1334 : Nat → Prop) (w1335 : World) (E_ : Env), ref31_Merge_K3 fuel x936 x1180 x937 x1338 = some o709 → Sep F R R1334 w w1335 [HP.own endITy (fun _ => False) 34 v704 x705, HP.own endITy (fun _ => False) 34 v935 x936, HP.blk bl1183 [.int .i64 x1180.proc, .int .i64 x1180.inc, .int .i64 x1180.index] 34] → Sub [(5, v704), (6, v935), (7, .int .i64 x937), (8, .pointer (some ⟨bl1183, 0, none⟩)), (11, .int .i64 x1338)] E_ → K1277 E_ w1335 := by
          intro x1338 R1334 w1335 E_ ho709 hS  hsub
          refine hK1277 _ _ (e_sub hsub ?_); clear hsub
          unfold ref31_Merge_K3 at ho709
          refine e_seq fun K1339 hK1339 => ?_
          refine e_region_text rfl ?_
          refine q_move rfl rfl ?_
          refine q_build Parts.nil rfl rfl ?_
          refine q_litO (T := endITy) (S := (fun _ => False)) (cells := [[.int .i64 0, .int .i64 0, .int .i64 0]]) (ys := [(⟨0, 0, 0⟩ : EndI)]) ((Parts.cons rfl rfl Parts.nil)) rfl rfl rfl rfl rfl rfl rfl (fun w1 hB => ⟨⟨[_], _, rfl, rfl, ⟨[_], _, rfl, rfl, rfl⟩⟩, trivial⟩) (fun _ h => h.elim) rfl fun w1340 v1340 ho1340 hv1340 hB1340 => ?_
          replace hS := hS.newOwnS hB1340 ho1340 hv1340 (fun _ h => h.elim)
          obtain ⟨x1343, hx1343, ho709⟩ := Option.of_bind ho709
          refine q_catOwn (T := endITy) rfl rfl rfl rfl (hS.own 2 rfl) rfl (hS.own 0 rfl) (fun _ h _ => h.elim) (snoc_cat hx1343) (Nat.zero_le _) rfl (fun h => by cases h) fun v1342 w1342 hw1342 hgr1342 hnw1342 => ?_
          have hk1342 := hS.keptOwn 2 rfl hgr1342
          replace hS := hS.setOwn 2 rfl hw1342 hgr1342 hnw1342; simp only [List.set] at hS
          refine q_assign rfl rfl ?_
          refine eseq_nil ?_
          refine hK1339 _ _ ?_
          refine e_seq fun K1344 hK1344 => ?_
          refine e_region_draw mixed (fun _ => False) [0, 0, 2, 7, 0, 0, 48, 127] [] [0, 1, 2, 3, 4, 5, 6, 7] (by kernel_rfl) ?_
          refine q_move rfl rfl ?_
          refine q_move rfl rfl ?_
          refine q_addW rfl rfl rfl ?_
          obtain ⟨x1345, hx1345, ho709⟩ := Option.of_bind ho709
          refine q_sufO (T := endITy) (by infer_instance) rfl (hS.own 2 rfl) rfl hx1345 rfl ?_
          refine q_move rfl rfl ?_
          refine q_move rfl rfl ?_
          obtain ⟨x1346, hx1346, ho709⟩ := Option.of_bind ho709
          refine q_sufO (T := endITy) (by infer_instance) rfl (hS.own 2 rfl) rfl hx1346 rfl ?_
          obtain ⟨x1348, hx1348, ho709⟩ := Option.of_bind ho709
          refine q_copySuf (T := endITy) rfl (hS.own 2 rfl) rfl (dropL_le hx1345) (dropL_le hx1346) rfl rfl fun w1347 ho1347 hst1347 => ?_
          rw [Option.some.inj hx1348] at ho1347
          have hk1347 := hS.keptF 2 rfl hst1347
          replace hS := hS.set 2 rfl hst1347 (c' := HP.own _ _ _ _ _) ho1347 (fun k hk => .inl hk) (fun k hk => hS.depR 2 rfl k hk); simp only [List.set] at hS
          refine eseq_nil ?_
          refine hK1344 _ _ ?_
          refine e_region_text rfl ?_
          refine q_move rfl rfl ?_
          refine q_move rfl rfl ?_
          refine q_loadAgg rfl (Blk.cellsAt (hS.blk 3 rfl) 0 3 rfl) rfl rfl ?_
          obtain ⟨x1349, hx1349, ho709⟩ := Option.of_bind ho709
          refine q_indexO (by infer_instance) rfl (hS.own 2 rfl) rfl hx1349 rfl ?_
          obtain ⟨x1351, hx1351, ho709⟩ := Option.of_bind ho709
          refine q_storeOA (T := endITy) (j := 0) rfl rfl (hS.own 2 rfl) hx1349 hx1351 rfl rfl (all_cons rfl (all_cons rfl (all_cons rfl (all_nil)))) rfl (Enc.setNL rfl) fun w1350 ho1350 hO1350 => ?_
          have hk1350 := hS.keptO 2 rfl hx1349 hO1350
          replace hS := hS.putO 2 rfl hx1349 ho1350 hO1350; simp only [List.set] at hS
          refine eseq_nil ?_
          refine hK1178 _ _ ?_
          refine e_region_text rfl ?_
          refine q_move rfl rfl ?_
          refine q_addW rfl rfl rfl ?_
          refine q_assign rfl rfl ?_
          refine eseq_nil ?_
          obtain rfl := Option.some.inj ho709
          exact ⟨m709, _, Nat.lt_succ_self _, ⟨x1351, (w64 (x937 + 1)), v1342, _, ht709, (hS.pickB [1, 2] 4 rfl rfl), rfl⟩, Sub.cons rfl (Sub.cons rfl (Sub.cons rfl (Sub.nil _)))⟩
        refine e_loop (fun m_ E_ w1307 => ∃ (x1310 : Int), ∃ (R1306 : Nat → Prop), iter (fun s => ref31_Merge_B2 fuel x936 x1180 s) m_ x1310 = some tl1278 ∧ Sep F R R1306 w w1307 [HP.own endITy (fun _ => False) 34 v704 x705, HP.own endITy (fun _ => False) 34 v935 x936, HP.blk bl1183 [.int .i64 x1180.proc, .int .i64 x1180.inc, .int .i64 x1180.index] 34] ∧ E_ = [(5, v704), (6, v935), (7, .int .i64 x937), (8, .pointer (some ⟨bl1183, 0, none⟩)), (11, .int .i64 x1310)]) _ ⟨_, ⟨(x936.length : Int), _, ht1278, hS, rfl⟩, Sub.cons rfl (Sub.cons rfl (Sub.cons rfl (Sub.cons rfl (Sub.cons rfl (Sub.nil _)))))⟩ ?_
        clear ht1278 hS
        rintro m1278 _ w1307 ⟨x1310, R1306, ht1278, hS, rfl⟩
        obtain ⟨m1278, rfl, o1278, ho1278, ht1278⟩ := iter_some ht1278
        replace ho1278 : ref31_Merge_B2 fuel x936 x1180 x1310 = some o1278 := ho1278
        unfold ref31_Merge_B2 at ho1278
        refine e_seq fun K1352 hK1352 => ?_
        refine e_seq fun K1353 hK1353 => ?_
        refine e_region_draw mixed (fun _ => False) [0, 1, 3, 7, 7, 23, 63, 127, 255, 7, 519, 2047, 4095, 8191, 8191, 24575, 65535, 131071, 262143, 8191, 532479, 2097151, 4194303, 8388607, 8388607, 25165823, 67108863, 134217727, 268435455, 8388607, 545259519, 2147483647, 4294967295, 8589934591, 17179869183] [] [0, 1, 2, 3, 4, 5, 6, 7, 8, 9, 10, 11, 12, 13, 14, 15, 16, 17, 18, 19, 20, 21, 22, 23, 24, 25, 26, 27, 28, 29, 30, 31, 32, 33, 34] (by kernel_rfl) ?_
        refine q_move rfl rfl ?_
        refine q_gtr rfl rfl rfl ?_
        refine q_move rfl rfl ?_
        obtain ⟨x1355, hx1354, ho1278⟩ := Option.of_bind ho1278
        refine g_andM 31 hx1354 rfl trivial rfl rfl ?_ ?_ ?_
        · intro hg1354 hx1354
          clear ho1278
          have hT1354 := Below.refl (World.heap w1307).size w1307
          refine g_run rfl ?_; refine q_move rfl rfl ?_
          refine g_run rfl ?_; refine q_move rfl rfl ?_
          refine g_run rfl ?_; refine q_subW rfl rfl rfl ?_
          obtain ⟨x1356, hx1356, hx1354⟩ := Option.of_bind hx1354
          refine g_run rfl ?_; refine q_indexO (by infer_instance) rfl (hS.own 1 rfl) rfl hx1356 rfl ?_
          refine g_run rfl ?_; refine q_field rfl rfl ?_
          have f1357 := (hS.ownR 1 rfl).elt hx1356
          have f1358 := EndI_F0 f1357
          refine g_run rfl ?_; refine q_load rfl (Elt.intCell f1358) rfl ?_
          refine g_run rfl ?_; refine q_field rfl rfl ?_
          refine g_run rfl ?_; refine q_load rfl (Blk.cell (hS.blk 2 rfl) rfl) rfl ?_
          refine g_run rfl ?_; refine q_gtr rfl rfl rfl ?_
          refine g_run rfl ?_; refine q_move rfl rfl ?_
          obtain ⟨x1360, hx1359, hx1354⟩ := Option.of_bind hx1354
          refine g_orM 20 hx1359 rfl rfl rfl rfl ?_ ?_ ?_
          · intro hg1359
            refine g_skip rfl rfl rfl ?_
            refine g_skip rfl rfl rfl ?_
            refine g_skip rfl rfl rfl ?_
            refine g_skip rfl rfl rfl ?_
            refine g_skip rfl rfl rfl ?_
            refine g_skip rfl rfl rfl ?_
            refine g_skip rfl rfl rfl ?_
            refine g_skip rfl rfl rfl ?_
            refine g_skip rfl rfl rfl ?_
            refine g_skip rfl rfl rfl ?_
            refine g_skipU rfl rfl ?_
            refine g_skipU rfl rfl ?_
            refine g_skipU rfl rfl ?_
            refine g_skipU rfl rfl ?_
            refine g_skipU rfl rfl ?_
            refine g_skipU rfl rfl ?_
            refine g_skipU rfl rfl ?_
            refine g_skipU rfl rfl ?_
            refine g_skipU rfl rfl ?_
            refine g_skip rfl rfl rfl ?_
            exact eseq_nil ⟨rfl, Sub.set rfl (Sub.set rfl (Sub.set rfl (Sub.set rfl (Sub.set rfl (Sub.set rfl (Sub.set rfl (Sub.set rfl (Sub.set rfl (Sub.set rfl (Sub.set rfl (Sub.set rfl (Sub.set rfl (Sub.set rfl (Sub.set rfl (Sub.set rfl (Sub.set rfl (Sub.set rfl (Sub.set rfl (Sub.set rfl (Sub.bool true rfl hg1359))))))))))))))))))))⟩
          · intro hg1359 hx1359
            clear hx1354
            have hT1359 := Below.refl (World.heap w1307).size w1307
            refine g_run rfl ?_; refine q_move rfl rfl ?_
            refine g_run rfl ?_; refine q_move rfl rfl ?_
            refine g_run rfl ?_; refine q_subW rfl rfl rfl ?_
            obtain ⟨x1361, hx1361, hx1359⟩ := Option.of_bind hx1359
            refine g_run rfl ?_; refine q_indexO (by infer_instance) rfl (hS.own 1 rfl) rfl hx1361 rfl ?_
            refine g_run rfl ?_; refine q_field rfl rfl ?_
            have f1362 := (hS.ownR 1 rfl).elt hx1361
            have f1363 := EndI_F0 f1362
            refine g_run rfl ?_; refine q_load rfl (Elt.intCell f1363) rfl ?_
            refine g_run rfl ?_; refine q_field rfl rfl ?_
            refine g_run rfl ?_; refine q_load rfl (Blk.cell (hS.blk 2 rfl) rfl) rfl ?_
            refine g_run rfl ?_; refine q_eql rfl rfl rfl ?_
            refine g_run rfl ?_; refine q_move rfl rfl ?_
            obtain ⟨x1365, hx1364, hx1359⟩ := Option.of_bind hx1359
            refine g_andM 9 hx1364 rfl rfl rfl rfl ?_ ?_ ?_
            · intro hg1364 hx1364
              clear hx1359
              have hT1364 := Below.refl (World.heap w1307).size w1307
              refine g_run rfl ?_; refine q_move rfl rfl ?_
              refine g_run rfl ?_; refine q_move rfl rfl ?_
              refine g_run rfl ?_; refine q_subW rfl rfl rfl ?_
              obtain ⟨x1366, hx1366, hx1364⟩ := Option.of_bind hx1364
              refine g_run rfl ?_; refine q_indexO (by infer_instance) rfl (hS.own 1 rfl) rfl hx1366 rfl ?_
              refine g_run rfl ?_; refine q_field rfl rfl ?_
              have f1367 := (hS.ownR 1 rfl).elt hx1366
              have f1368 := EndI_F1 f1367
              refine g_run rfl ?_; refine q_load rfl (Elt.intCell f1368) rfl ?_
              refine g_run rfl ?_; refine q_field rfl rfl ?_
              refine g_run rfl ?_; refine q_load rfl (Blk.cell (hS.blk 2 rfl) rfl) rfl ?_
              refine g_run rfl ?_; refine q_gtr rfl rfl rfl ?_
              cases hx1364
              exact eseq_nil ⟨hT1364, Sub.set rfl (Sub.set rfl (Sub.set rfl (Sub.set rfl (Sub.set rfl (Sub.set rfl (Sub.set rfl (Sub.set rfl (Sub.set rfl (Sub.bool true rfl hg1364))))))))), rfl⟩
            · intro hg1364
              refine g_skip rfl rfl rfl ?_
              refine g_skip rfl rfl rfl ?_
              refine g_skip rfl rfl rfl ?_
              refine g_skip rfl rfl rfl ?_
              refine g_skip rfl rfl rfl ?_
              refine g_skip rfl rfl rfl ?_
              refine g_skip rfl rfl rfl ?_
              refine g_skip rfl rfl rfl ?_
              refine g_skip rfl rfl rfl ?_
              exact eseq_nil ⟨rfl, Sub.set rfl (Sub.set rfl (Sub.set rfl (Sub.set rfl (Sub.set rfl (Sub.set rfl (Sub.set rfl (Sub.set rfl (Sub.set rfl (Sub.bool false rfl hg1364)))))))))⟩
            intro wm1364 hBm1364; clear hx1364
            replace hS := hS.below hBm1364
            replace hT1354 := hT1354.trans (Below.mono hBm1364 hT1354.size)
            replace hT1359 := hT1359.trans (Below.mono hBm1364 hT1359.size)
            cases hx1359
            exact eseq_nil ⟨hT1359, Sub.set rfl (Sub.set rfl (Sub.set rfl (Sub.set rfl (Sub.set rfl (Sub.set rfl (Sub.set rfl (Sub.set rfl (Sub.set rfl (Sub.set rfl (Sub.set rfl (Sub.bool false rfl hg1359))))))))))), rfl⟩
          intro wm1359 hBm1359; clear hx1359
          replace hS := hS.below hBm1359
          replace hT1354 := hT1354.trans (Below.mono hBm1359 hT1354.size)
          cases hx1354
          exact eseq_nil ⟨hT1354, Sub.set rfl (Sub.set rfl (Sub.set rfl (Sub.set rfl (Sub.set rfl (Sub.set rfl (Sub.set rfl (Sub.set rfl (Sub.set rfl (Sub.set rfl (Sub.set rfl (Sub.bool true rfl hg1354))))))))))), rfl⟩
        · intro hg1354
          refine g_skip rfl rfl rfl ?_
          refine g_skip rfl rfl rfl ?_
          refine g_skip rfl rfl rfl ?_
          refine g_skip rfl rfl rfl ?_
          refine g_skip rfl rfl rfl ?_
          refine g_skip rfl rfl rfl ?_
          refine g_skip rfl rfl rfl ?_
          refine g_skip rfl rfl rfl ?_
          refine g_skip rfl rfl rfl ?_
          refine g_skip rfl rfl rfl ?_
          refine g_skipU rfl rfl ?_
          refine g_skipU rfl rfl ?_
          refine g_skipU rfl rfl ?_
          refine g_skipU rfl rfl ?_
          refine g_skipU rfl rfl ?_
          refine g_skipU rfl rfl ?_
          refine g_skipU rfl rfl ?_
          refine g_skipU rfl rfl ?_
          refine g_skipU rfl rfl ?_
          refine g_skipU rfl rfl ?_
          refine g_skipU rfl rfl ?_
          refine g_skipU rfl rfl ?_
          refine g_skipU rfl rfl ?_
          refine g_skipU rfl rfl ?_
          refine g_skipU rfl rfl ?_
          refine g_skipU rfl rfl ?_
          refine g_skipU rfl rfl ?_
          refine g_skipU rfl rfl ?_
          refine g_skipU rfl rfl ?_
          refine g_skipU rfl rfl ?_
          refine g_skip rfl rfl rfl ?_
          exact eseq_nil ⟨rfl, Sub.set rfl (Sub.set rfl (Sub.set rfl (Sub.set rfl (Sub.set rfl (Sub.set rfl (Sub.set rfl (Sub.set rfl (Sub.set rfl (Sub.set rfl (Sub.set rfl (Sub.set rfl (Sub.set rfl (Sub.set rfl (Sub.set rfl (Sub.set rfl (Sub.set rfl (Sub.set rfl (Sub.set rfl (Sub.set rfl (Sub.set rfl (Sub.set rfl (Sub.set rfl (Sub.set rfl (Sub.set rfl (Sub.set rfl (Sub.set rfl (Sub.set rfl (Sub.set rfl (Sub.set rfl (Sub.set rfl (Sub.bool false rfl hg1354)))))))))))))))))))))))))))))))⟩
        intro wm1354 hBm1354; clear hx1354
        replace hS := hS.below hBm1354
        refine eseq_nil ?_
        refine hK1353 _ _ ?_
        refine e_cond rfl (fun hc1369 => ?_) (fun hc1369 => ?_)
        · replace ho1278 := (if_pos hc1369).symm.trans ho1278
          refine e_skip ?_
          refine hK1352 _ _ ?_
          refine e_block ?_
          refine e_region_text rfl ?_
          refine q_move rfl rfl ?_
          refine q_subW rfl rfl rfl ?_
          refine q_assign rfl rfl ?_
          refine eseq_nil ?_
          obtain rfl := Option.some.inj ho1278
          exact ⟨m1278, _, Nat.lt_succ_self _, ⟨(w64 (x1310 - 1)), _, ht1278, hS, rfl⟩, Sub.cons rfl (Sub.cons rfl (Sub.cons rfl (Sub.cons rfl (Sub.cons rfl (Sub.nil _)))))⟩
        · replace ho1278 := (if_neg (not_true hc1369)).symm.trans ho1278
          refine e_exit ?_
          obtain rfl := Option.some.inj ho1278
          obtain rfl := Option.some.inj ht1278
          exact hX1278_4 x1310 _ _ _ ho709 hS  (Sub.cons rfl (Sub.cons rfl (Sub.cons rfl (Sub.cons rfl (Sub.cons rfl (Sub.nil _))))))
    refine e_loop (fun m_ E_ w1229 => ∃ (x1232 : Bool), ∃ (x1233 : Int), ∃ (R1228 : Nat → Prop), iter (fun s => ref31_Merge_B3 fuel x705 x1180 x937 s.1 s.2) m_ (x1232, x1233) = some tl1189 ∧ Sep F R R1228 w w1229 [HP.own endITy (fun _ => False) 34 v704 x705, HP.own endITy (fun _ => False) 34 v935 x936, HP.blk bl1183 [.int .i64 x1180.proc, .int .i64 x1180.inc, .int .i64 x1180.index] 34] ∧ E_ = [(5, v704), (6, v935), (7, .int .i64 x937), (8, .pointer (some ⟨bl1183, 0, none⟩)), (9, .bool x1232), (10, .int .i64 x1233)]) _ ⟨_, ⟨true, 0, _, ht1189, (hS.pickB [1, 2, 0] 3 rfl rfl), rfl⟩, Sub.cons rfl (Sub.cons rfl (Sub.cons rfl (Sub.cons rfl (Sub.cons rfl (Sub.cons rfl (Sub.nil _))))))⟩ ?_
    clear ht1189 hS
    rintro m1189 _ w1229 ⟨x1232, x1233, R1228, ht1189, hS, rfl⟩
    obtain ⟨m1189, rfl, o1189, ho1189, ht1189⟩ := iter_some ht1189
    replace ho1189 : ref31_Merge_B3 fuel x705 x1180 x937 x1232 x1233 = some o1189 := ho1189
    unfold ref31_Merge_B3 at ho1189
    refine e_seq fun K1370 hK1370 => ?_
    refine e_seq fun K1371 hK1371 => ?_
    refine e_region_text rfl ?_
    refine q_move rfl rfl ?_
    refine q_move rfl rfl ?_
    refine q_lenS rfl (hS.isl 0 rfl) rfl ?_
    refine q_lss rfl rfl rfl ?_
    refine eseq_nil ?_
    refine hK1371 _ _ ?_
    refine e_cond rfl (fun hc1372 => ?_) (fun hc1372 => ?_)
    · replace ho1189 := (if_pos hc1372).symm.trans ho1189
      refine e_skip ?_
      refine hK1370 _ _ ?_
      refine e_seq fun K1373 hK1373 => ?_
      refine e_block ?_
      refine e_seq fun K1374 hK1374 => ?_
      refine e_region_draw mixed (fun _ => False) [0, 0, 3, 7, 0, 31, 63, 127, 127, 127, 895, 1919, 4095, 8191, 16383, 32767, 32767, 131071, 262143, 524287, 524287, 2097151, 4194303, 524287, 16777215, 33554431, 67108863] [] [0, 1, 2, 3, 4, 5, 6, 7, 8, 9, 10, 11, 12, 13, 14, 15, 16, 17, 18, 19, 20, 21, 22, 23, 24, 25, 26] (by kernel_rfl) ?_
      refine q_move rfl rfl ?_
      refine q_move rfl rfl ?_
      obtain ⟨x1375, hx1375, ho1189⟩ := Option.of_bind ho1189
      refine q_indexO (by infer_instance) rfl (hS.own 0 rfl) rfl hx1375 rfl ?_
      have f1376 := (hS.ownR 0 rfl).elt hx1375
      have hc1377 := EndI_open f1376
      refine q_loadAgg rfl hc1377 rfl rfl ?_
      refine q_loadAgg rfl (Blk.cellsAt (hS.blk 2 rfl) 0 3 rfl) rfl rfl ?_
      refine q_neqA eqT34 (by kernel_rfl) rfl rfl rfl ?_
      refine q_move rfl rfl ?_
      obtain ⟨x1379, hx1378, ho1189⟩ := Option.of_bind ho1189
      refine g_andM 6 hx1378 rfl trivial rfl rfl ?_ ?_ ?_
      · intro hg1378 hx1378
        clear ho1189
        have hT1378 := Below.refl (World.heap w1229).size w1229
        refine g_run rfl ?_; refine q_loadAgg rfl (Blk.cellsAt (hS.blk 2 rfl) 0 3 rfl) rfl rfl ?_
        refine g_run rfl ?_; refine q_move rfl rfl ?_
        refine g_run rfl ?_; refine q_move rfl rfl ?_
        obtain ⟨x1380, hx1380, hx1378⟩ := Option.of_bind hx1378
        refine g_run rfl ?_; refine q_indexO (by infer_instance) rfl (hS.own 0 rfl) rfl hx1380 rfl ?_
        have f1381 := (hS.ownR 0 rfl).elt hx1380
        have hc1382 := EndI_open f1381
        refine g_run rfl ?_; refine q_loadAgg rfl hc1382 rfl rfl ?_
        obtain ⟨r1384, hr1384, hx1378⟩ := Option.of_bind hx1378
        refine g_run rfl ?_; refine q_call rfl (ref31_implied_w (a0 := (⟨x1180.proc, x1180.inc, x1180.index⟩ : EndI)) (a1 := x1380) (Sep.enter (As := []) hS)  hr1384) rfl ?_
        rintro _ w1383 ⟨R1383, rfl, hC1383⟩
        have hB1383 : Below (World.heap w1229).size w1229 w1383 := hC1383.stepB0
        refine ⟨fun _ => .of_below hB1383, ?_⟩
        replace hT1378 := hT1378.trans (Below.mono hB1383 hT1378.size)
        replace hS := Sep.leave (As := []) hS hC1383; simp only [List.cons_append, List.nil_append] at hS
        cases hx1378
        exact eseq_nil ⟨hT1378, Sub.set rfl (Sub.set rfl (Sub.set rfl (Sub.set rfl (Sub.set rfl (Sub.set rfl (Sub.bool true rfl hg1378)))))), rfl⟩
      · intro hg1378
        refine g_skip rfl rfl rfl ?_
        refine g_skip rfl rfl rfl ?_
        refine g_skip rfl rfl rfl ?_
        refine g_skip rfl rfl rfl ?_
        refine g_skip rfl rfl rfl ?_
        refine g_skip rfl rfl rfl ?_
        exact eseq_nil ⟨rfl, Sub.set rfl (Sub.set rfl (Sub.set rfl (Sub.set rfl (Sub.set rfl (Sub.set rfl (Sub.bool false rfl hg1378))))))⟩
      intro wm1378 hBm1378; clear hx1378
      replace hS := hS.below hBm1378
      refine q_move rfl rfl ?_
      obtain ⟨x1386, hx1385, ho1189⟩ := Option.of_bind ho1189
      refine g_orM 11 hx1385 rfl trivial rfl rfl ?_ ?_ ?_
      · intro hg1385
        refine g_skip rfl rfl rfl ?_
        refine g_skip rfl rfl rfl ?_
        refine g_skip rfl rfl rfl ?_
        refine g_skip rfl rfl rfl ?_
        refine g_skipU rfl rfl ?_
        refine g_skipU rfl rfl ?_
        refine g_skipU rfl rfl ?_
        refine g_skipU rfl rfl ?_
        refine g_skipU rfl rfl ?_
        refine g_skipU rfl rfl ?_
        refine g_skip rfl rfl rfl ?_
        exact eseq_nil ⟨rfl, Sub.set rfl (Sub.set rfl (Sub.set rfl (Sub.set rfl (Sub.set rfl (Sub.set rfl (Sub.set rfl (Sub.set rfl (Sub.set rfl (Sub.set rfl (Sub.set rfl (Sub.bool true rfl hg1385)))))))))))⟩
      · intro hg1385 hx1385
        clear ho1189
        have hT1385 := Below.refl (World.heap wm1378).size wm1378
        refine g_run rfl ?_; refine q_move rfl rfl ?_
        refine g_run rfl ?_; refine q_move rfl rfl ?_
        refine g_run rfl ?_; refine q_lss rfl rfl rfl ?_
        refine g_run rfl ?_; refine q_move rfl rfl ?_
        obtain ⟨x1388, hx1387, hx1385⟩ := Option.of_bind hx1385
        refine g_andM 6 hx1387 rfl rfl rfl rfl ?_ ?_ ?_
        · intro hg1387 hx1387
          clear hx1385
          have hT1387 := Below.refl (World.heap wm1378).size wm1378
          refine g_run rfl ?_; refine q_move rfl rfl ?_
          refine g_run rfl ?_; refine q_move rfl rfl ?_
          obtain ⟨x1389, hx1389, hx1387⟩ := Option.of_bind hx1387
          refine g_run rfl ?_; refine q_indexO (by infer_instance) rfl (hS.own 0 rfl) rfl hx1389 rfl ?_
          have f1390 := (hS.ownR 0 rfl).elt hx1389
          have hc1391 := EndI_open f1390
          refine g_run rfl ?_; refine q_loadAgg rfl hc1391 rfl rfl ?_
          refine g_run rfl ?_; refine q_loadAgg rfl (Blk.cellsAt (hS.blk 2 rfl) 0 3 rfl) rfl rfl ?_
          refine g_run rfl ?_; refine q_eqlA eqT34 (by kernel_rfl) rfl rfl rfl ?_
          cases hx1387
          exact eseq_nil ⟨hT1387, Sub.set rfl (Sub.set rfl (Sub.set rfl (Sub.set rfl (Sub.set rfl (Sub.set rfl (Sub.bool true rfl hg1387)))))), rfl⟩
        · intro hg1387
          refine g_skip rfl rfl rfl ?_
          refine g_skip rfl rfl rfl ?_
          refine g_skip rfl rfl rfl ?_
          refine g_skip rfl rfl rfl ?_
          refine g_skip rfl rfl rfl ?_
          refine g_skip rfl rfl rfl ?_
          exact eseq_nil ⟨rfl, Sub.set rfl (Sub.set rfl (Sub.set rfl (Sub.set rfl (Sub.set rfl (Sub.set rfl (Sub.bool false rfl hg1387))))))⟩
        intro wm1387 hBm1387; clear hx1387
        replace hS := hS.below hBm1387
        replace hT1385 := hT1385.trans (Below.mono hBm1387 hT1385.size)
        cases hx1385
        exact eseq_nil ⟨hT1385, Sub.set rfl (Sub.set rfl (Sub.set rfl (Sub.set rfl (Sub.set rfl (Sub.bool false rfl hg1385))))), rfl⟩
      intro wm1385 hBm1385; clear hx1385
      replace hS := hS.below hBm1385
      refine eseq_nil ?_
      refine hK1374 _ _ ?_
      refine e_cond rfl (fun hc1392 => ?_) (fun hc1392 => ?_)
      · replace ho1189 := (if_pos hc1392).symm.trans ho1189
        refine e_region_text rfl ?_
        refine q_assign rfl rfl ?_
        refine eseq_nil ?_
        refine hK1373 _ _ ?_
        refine e_region_text rfl ?_
        refine q_move rfl rfl ?_
        refine q_addW rfl rfl rfl ?_
        refine q_assign rfl rfl ?_
        refine eseq_nil ?_
        obtain rfl := Option.some.inj ho1189
        exact ⟨m1189, _, Nat.lt_succ_self _, ⟨false, (w64 (x1233 + 1)), _, ht1189, hS, rfl⟩, Sub.cons rfl (Sub.cons rfl (Sub.cons rfl (Sub.cons rfl (Sub.cons rfl (Sub.cons rfl (Sub.nil _))))))⟩
      · replace ho1189 := (if_neg (not_true hc1392)).symm.trans ho1189
        refine e_skip ?_
        refine hK1373 _ _ ?_
        refine e_region_text rfl ?_
        refine q_move rfl rfl ?_
        refine q_addW rfl rfl rfl ?_
        refine q_assign rfl rfl ?_
        refine eseq_nil ?_
        obtain rfl := Option.some.inj ho1189
        exact ⟨m1189, _, Nat.lt_succ_self _, ⟨x1232, (w64 (x1233 + 1)), _, ht1189, hS, rfl⟩, Sub.cons rfl (Sub.cons rfl (Sub.cons rfl (Sub.cons rfl (Sub.cons rfl (Sub.cons rfl (Sub.nil _))))))⟩
    · replace ho1189 := (if_neg (not_true hc1372)).symm.trans ho1189
      refine e_exit ?_
      obtain rfl := Option.some.inj ho1189
      obtain rfl := Option.some.inj ht1189
      exact hX1189_2 x1232 _ _ _ ho709 hS  (Sub.cons rfl (Sub.cons rfl (Sub.cons rfl (Sub.cons rfl (Sub.cons rfl (Sub.nil _))))))
  · replace ho709 := (if_neg (not_true hc1177)).symm.trans ho709
    refine e_exit ?_
    obtain rfl := Option.some.inj ho709
    obtain rfl := Option.some.inj ht709
    exact hX709_0 x936 v935 _ _ _ h (hS.pickB [1] 2 rfl rfl)  (Sub.cons rfl (Sub.nil _))
theorem ref31_Add_w {F R : Nat → Prop} {w : World} {fuel : Nat} {a0 : (List EndI)} {a1 : EndI} {v1 : Value} {r : ((List EndI))} (hS : Sep F R R w w []) (f1 : IsSlice endITy w R v1 a0) (h : ref31_Add fuel a0 a1 = some r) :
    Gives Try.prog 19 [v1, .agg #[.int .i64 a1.proc, .int .i64 a1.inc, .int .i64 a1.index]] w fun u w1 => ∃ (v11 : Value), ∃ (R1 : Nat → Prop), u = v11 ∧ Sep F R R1 w w1 [HP.own endITy (fun _ => False) 34 v11 r] := by
  refine fn_of Try.func19 rfl Try.ntmps19 (Nat.le_of_ble_eq_true rfl) ?_
  unfold ref31_Add at h
  refine e_seq fun K12 hK12 => ?_
  refine e_region_text rfl ?_
  refine q_boxB rfl rfl rfl fun w13 bl13 hg13 hb13 hB13 => ?_
  replace f1 := f1.ext hB13
  replace hS := hS.newBlk hB13 hg13 hb13
  refine q_assign rfl rfl ?_
  refine eseq_nil ?_
  refine hK12 _ _ ?_
  refine e_seq fun K15 hK15 => ?_
  refine e_region_text rfl ?_
  refine q_move rfl rfl ?_
  refine q_loadAgg rfl (Blk.cellsAt (hS.blk 0 rfl) 0 3 rfl) rfl rfl ?_
  refine q_litO (T := endITy) (S := (fun _ => False)) (cells := [[.int .i64 a1.proc, .int .i64 a1.inc, .int .i64 a1.index]]) (ys := [(⟨a1.proc, a1.inc, a1.index⟩ : EndI)]) ((Parts.cons rfl rfl Parts.nil)) rfl rfl rfl rfl rfl rfl rfl (fun w1 hB => ⟨⟨[_], _, rfl, rfl, ⟨[_], _, rfl, rfl, rfl⟩⟩, trivial⟩) (fun _ h => h.elim) rfl fun w16 v16 ho16 hv16 hB16 => ?_
  replace f1 := f1.ext hB16
  replace hS := hS.newOwnS hB16 ho16 hv16 (fun _ h => h.elim)
  obtain ⟨r19, hr19, h⟩ := Option.of_bind h
  refine q_call rfl (ref31_Merge_w (Sep.all w16) (f1).old ((hS.isl 0 rfl)).old hr19) rfl ?_
  rintro v20 w18 ⟨_, R18, rfl, hC18⟩
  have hB18 : Below (World.heap w16).size w16 w18 := hC18.stepBF
  refine ⟨fun _ => .of_below hB18, ?_⟩
  replace f1 := f1.ext hB18
  replace hS := hS.newOwnS hB18 (hC18.own 0 rfl) (hC18.fresh 0 rfl) (fun _ h => h.elim)
  refine q_assign rfl rfl ?_
  refine eseq_nil ?_
  refine hK15 _ _ ?_
  refine e_ret ?_
  obtain rfl := Option.some.inj h
  exact ⟨_, res1 rfl rfl, v20, _, rfl, (hS.pickB [0] 3 rfl rfl)⟩
end Go.Proofs.Ytfgmboklpjanlaa
