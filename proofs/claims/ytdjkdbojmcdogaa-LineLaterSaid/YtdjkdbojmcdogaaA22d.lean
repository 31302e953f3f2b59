/- Printed walks: A22d. -/
import Derived.Test.YtdjkdbojmcdogaaA22c
import Derived.Test.YtdjkdbojmcdogaaClip
set_option linter.unusedVariables false
set_option linter.unusedSimpArgs false
namespace Go.Mine
open Go.RowKit
def Clone_ListInt (fuel : Nat) (a0 : List (List Int)) : Option (List (List Int)) := catL [] a0
def Clip_Int (fuel : Nat) (a0 : List Int) : Option (List Int) := some a0
def Clip_Arc (fuel : Nat) (a0 : List Arc) : Option (List Arc) := some a0
def pattern_Mark_J1 (fuel : Nat) (a0 : Pat) (x151 : (List (List Int))) : Option (Pat) :=
  some (⟨a0.lens, x151, a0.arcs⟩ : Pat)
def pattern_Mark (fuel : Nat) (a0 : Pat) (a1 : Int) : Option (Pat) :=
  (pattern_process fuel (⟨a0.lens, a0.ckpts, a0.arcs⟩ : Pat) a1).bind fun r110 => (orM (!r110) (some (decide ((a0.ckpts.length : Int) ≤ a1)))).bind fun x114 => (if x114 = true then some (⟨a0.lens, a0.ckpts, a0.arcs⟩ : Pat) else (ati a0.lens a1).bind fun x119 => (ati a0.ckpts a1).bind fun x123 => (slices_Contains fuel x123 x119).bind fun r127 => (if r127 = true then some (⟨a0.lens, a0.ckpts, a0.arcs⟩ : Pat) else (Clone_ListInt fuel a0.ckpts).bind fun r133 => (ati r133 a1).bind fun x137 => (Clip_Int fuel x137).bind fun r141 => (snoc r141 x119).bind fun x147 => (ati r133 a1).bind fun x148 => (seti r133 a1 x147).bind fun x151 => pattern_Mark_J1 fuel a0 x151))
def pattern_Append_J2 (fuel : Nat) (x243 : (List Int)) (a0 : Pat) (x281 : (List Arc)) : Option (Pat × Bool) :=
  some ((⟨x243, a0.ckpts, x281⟩ : Pat), true)
def pattern_Append_J1 (fuel : Nat) (a0 : Pat) (a1 : Int) (a2 : Int) (a3 : Int) : Option (Pat × Bool) :=
  (Clone_Int fuel a0.lens).bind fun r235 => (ati r235 a1).bind fun x239 => (ati r235 a1).bind fun x241 => (seti r235 a1 (w64 (x239 + 1))).bind fun x243 => (if (a2 != (-1)) = true then (ati x243 a1).bind fun x288 => (Clip_Arc fuel a0.arcs).bind fun r294 => (snoc r294 (⟨a2, a3, a1, x288⟩ : Arc)).bind fun x300 => pattern_Append_J2 fuel x243 a0 x300 else pattern_Append_J2 fuel x243 a0 a0.arcs)
def pattern_Append (fuel : Nat) (a0 : Pat) (a1 : Int) (a2 : Int) (a3 : Int) : Option (Pat × Bool) :=
  (pattern_process fuel (⟨a0.lens, a0.ckpts, a0.arcs⟩ : Pat) a1).bind fun r185 => (orM (!r185) ((ati a0.lens a1).bind fun x192 => some (decide (64 ≤ x192)))).bind fun x191 => (if x191 = true then some ((⟨([] : List Int), ([] : List (List Int)), ([] : List Arc)⟩ : Pat), false) else (if (a2 != (-1)) = true then (pattern_process fuel (⟨a0.lens, a0.ckpts, a0.arcs⟩ : Pat) a2).bind fun r323 => (orM (!r323) (some (a2 == a1))).bind fun x327 => (orM x327 (some (decide (a3 < 0)))).bind fun x331 => (orM x331 ((ati a0.lens a2).bind fun x338 => some (decide (x338 < a3)))).bind fun x337 => (if x337 = true then some ((⟨([] : List Int), ([] : List (List Int)), ([] : List Arc)⟩ : Pat), false) else (if (decide (256 ≤ (a0.arcs.length : Int))) = true then some ((⟨([] : List Int), ([] : List (List Int)), ([] : List Arc)⟩ : Pat), false) else pattern_Append_J1 fuel a0 a1 a2 a3)) else pattern_Append_J1 fuel a0 a1 a2 a3))
def law22_LineLater_K1 (fuel : Nat) (a2 : (List Int)) (r805 : (Pat × Int)) (r814 : ((List Int))) (x1325 : (List Int)) (x1328 : (List (List Int))) (x1331 : (List Arc)) : Option (Bool) :=
  (make_New fuel a2 20).bind fun r1346 => (make_Codes_Procs fuel (r805.1.lens.length : Int) r1346.1 r1346.2).bind fun r1350 => (line_Failure fuel (⟨x1325, x1328, x1331⟩ : Pat) r1350.1).bind fun r1353 => (andM ((r814.length : Int) == (r805.1.lens.length : Int)) ((cut_Most fuel r814 r1353).bind fun r1363 => some r1363)).bind fun x1361 => some x1361
def law22_LineLater_J1 (fuel : Nat) (r805 : (Pat × Int)) (x1472 : (List Int)) (x1475 : (List (List Int))) (x1478 : (List Arc)) (x1482 : Int) : Option (((List Int) × (List (List Int)) × (List Arc) × Int) ⊕ (((List Int) × (List (List Int)) × (List Arc)) ⊕ (Bool))) :=
  (if ((x1472.length : Int) != (r805.1.lens.length : Int)) = true then some (Sum.inr (Sum.inr false)) else some (Sum.inl (x1472, x1475, x1478, x1482)))
def law22_LineLater_J2 (fuel : Nat) (r1500 : (Pat × Bool)) (r805 : (Pat × Int)) (r1498 : (Int × Int)) (x1081 : (List Int)) (x1084 : (List (List Int))) (x1087 : (List Arc)) (x1543 : (List Int)) (x1545 : (List (List Int))) (x1548 : (List Arc)) : Option (((List Int) × (List (List Int)) × (List Arc) × Int) ⊕ (((List Int) × (List (List Int)) × (List Arc)) ⊕ (Bool))) :=
  (if r1500.2 = true then law22_LineLater_J1 fuel r805 x1543 x1545 x1548 r1498.2 else law22_LineLater_J1 fuel r805 x1081 x1084 x1087 r1498.2)
def law22_LineLater_B1 (fuel : Nat) (r818 : ((List Int) × Int)) (r805 : (Pat × Int)) (x1081 : (List Int)) (x1084 : (List (List Int))) (x1087 : (List Arc)) (x1091 : Int) : Option (((List Int) × (List (List Int)) × (List Arc) × Int) ⊕ (((List Int) × (List (List Int)) × (List Arc)) ⊕ (Bool))) :=
  (make_Codes_Left fuel r818.1 x1091).bind fun r1368 => (if r1368 = true then (make_Codes_Next fuel (r805.1.lens.length : Int) r818.1 x1091).bind fun r1372 => (make_Codes_Next fuel (r805.1.lens.length : Int) r818.1 r1372.2).bind fun r1374 => (if (r1372.1 == r1374.1) = true then (pattern_Mark fuel (⟨x1081, x1084, x1087⟩ : Pat) r1372.1).bind fun r1489 => law22_LineLater_J1 fuel r805 r1489.lens r1489.ckpts r1489.arcs r1374.2 else (ati x1081 r1374.1).bind fun x1495 => (make_Codes_Next fuel (w64 (x1495 + 1)) r818.1 r1374.2).bind fun r1498 => (pattern_Append fuel (⟨x1081, x1084, x1087⟩ : Pat) r1372.1 r1374.1 r1498.1).bind fun r1500 => law22_LineLater_J2 fuel r1500 r805 r1498 x1081 x1084 x1087 r1500.1.lens r1500.1.ckpts r1500.1.arcs) else some (Sum.inr (Sum.inl (x1081, x1084, x1087))))
def law22_LineLater (fuel : Nat) (a0 : (List Int)) (a1 : (List Int)) (a2 : (List Int)) : Option (Bool) :=
  (law22_awake fuel).bind fun r796 => (if (!r796) = true then some false else (make_New fuel a0 200).bind fun r801 => (make_Codes_Pattern fuel 14 r801.1 r801.2).bind fun r805 => (line_Safe fuel (⟨r805.1.lens, r805.1.ckpts, r805.1.arcs⟩ : Pat) 1).bind fun r814 => (make_New fuel a1 60).bind fun r818 => (iter (fun s => law22_LineLater_B1 fuel r818 r805 s.1 s.2.1 s.2.2.1 s.2.2.2) fuel (r805.1.lens, r805.1.ckpts, r805.1.arcs, r818.2)).bind (fun t => Sum.elim (fun t => law22_LineLater_K1 fuel a2 r805 r814 t.1 t.2.1 t.2.2) (fun t => some t) t))
end Go.Mine
namespace Go.Proofs.Ytdjkdbojmcdogaa
open Go.RowKit Go.Mine
attribute [local irreducible] eseq ewp iter
theorem Clone_ListInt_w {F R : Nat → Prop} {w : World} {fuel : Nat} {a0 : List (List Int)} {v1 : Value} {r : List (List Int)} (hS : Sep F R R w w []) (f1 : IsSlice (Ty.slice Ty.int) w R v1 a0) (h : Clone_ListInt fuel a0 = some r) :
    Gives Try.prog 62 [v1] w fun u w1 => ∃ (v2 : Value), ∃ (R1 : Nat → Prop), u = v2 ∧ Sep F R R1 w w1 [HP.own (Ty.slice Ty.int) R1 29 v2 r] := by
  unfold Clone_ListInt at h
  have hx0 := f1
  obtain ⟨ad, c, rfl, hc0, hnil, -, -⟩ := hx0
  refine fn_of Try.func62 rfl Try.ntmps62 (Nat.le_of_ble_eq_true rfl) ?_
  refine e_seq fun K hK => ?_
  refine e_region_text rfl ?_
  refine q_assign rfl rfl ?_
  refine eseq_nil ?_
  refine hK _ _ ?_; clear hK
  refine e_seq fun K hK => ?_
  refine e_seq fun K hK => ?_
  refine e_region_text rfl ?_
  refine q_move rfl rfl ?_
  refine q_eqlNil rfl rfl rfl ?_
  refine eseq_nil ?_
  refine hK _ _ ?_; clear hK
  refine e_cond rfl (fun hb => ?_) (fun hb => ?_)
  · have e1 : ad = none := by simpa using hb
    have e2 := hnil e1
    have e3 : a0 = [] := List.eq_nil_of_length_eq_zero (by omega)
    subst e3
    obtain rfl := (catL_eq h).2
    refine e_seq fun K hK => ?_
    refine e_region_text rfl ?_
    refine q_assign rfl rfl ?_
    refine eseq_nil ?_
    refine hK _ _ ?_; clear hK
    refine e_ret ?_
    exact ⟨_, res1 rfl rfl, _, R, rfl, hS.nilOwn (Ty.slice Ty.int) 29⟩
  refine e_skip ?_
  refine hK _ _ ?_; clear hK
  refine e_seq fun K hK => ?_
  refine e_region_text rfl ?_
  refine q_slice0 rfl fun wz bz hgz hbz hBz => ?_
  replace f1 := f1.ext hBz
  replace hS := hS.newOwnS hBz (Own.empty (Ty.slice Ty.int) (S := R) hbz (Nat.zero_le _)) (fun k hk => by cases hk; exact hgz) (fun _ h => h)
  refine q_move rfl rfl ?_
  refine q_catO (T := (Ty.slice Ty.int)) rfl rfl rfl rfl (hS.own 0 rfl) rfl f1 (hS.ownOff 0 rfl) h (Nat.zero_le _) rfl (fun h => by cases h) fun v7 w1 hw1 hgr1 hnw1 => ?_
  replace hS := hS.setOwn 0 rfl hw1 hgr1 hnw1; simp only [List.set] at hS
  refine q_assign rfl rfl ?_
  refine eseq_nil ?_
  refine hK _ _ ?_; clear hK
  refine e_ret ?_
  exact ⟨_, res1 rfl rfl, _, R, rfl, hS⟩
theorem Clip_Int_w {F R : Nat → Prop} {w : World} {fuel : Nat} {a0 : List Int} {v1 : Value} {r : List Int} (hS : Sep F R R w w []) (f1 : IsSlice Ty.int w R v1 a0) (h : Clip_Int fuel a0 = some r) :
    Gives Try.prog 63 [v1] w fun u w1 => ∃ (v2 : Value), ∃ (R1 : Nat → Prop), u = v2 ∧ Sep F R R1 w w1 [] ∧ IsSlice Ty.int w1 R1 v2 r ∧ FullS v2 := by
  cases h
  refine fn_of Try.func63 rfl Try.ntmps63 (Nat.le_of_ble_eq_true rfl) ?_
  refine e_seq fun K hK => ?_
  refine e_region_text rfl ?_
  refine q_assign rfl rfl ?_
  refine eseq_nil ?_
  refine hK _ _ ?_; clear hK
  refine e_seq fun K hK => ?_
  refine e_region_text rfl ?_
  refine q_move rfl rfl ?_
  refine q_move rfl rfl ?_
  refine q_lenS rfl f1 rfl ?_
  refine q_move rfl rfl ?_
  refine q_lenS rfl f1 rfl ?_
  refine q_clip (T := Ty.int) (inferInstance : TSlice Try.prog 29 3 1) rfl f1 rfl rfl rfl fun v8 f8 hf8 => ?_
  refine q_assign rfl rfl ?_
  refine eseq_nil ?_
  refine hK _ _ ?_; clear hK
  refine e_ret ?_
  exact ⟨_, res1 rfl rfl, _, R, rfl, hS, f8, hf8⟩
theorem Clip_Arc_w {F R : Nat → Prop} {w : World} {fuel : Nat} {a0 : List Arc} {v1 : Value} {r : List Arc} (hS : Sep F R R w w []) (f1 : IsSlice arcTy w R v1 a0) (h : Clip_Arc fuel a0 = some r) :
    Gives Try.prog 64 [v1] w fun u w1 => ∃ (v2 : Value), ∃ (R1 : Nat → Prop), u = v2 ∧ Sep F R R1 w w1 [] ∧ IsSlice arcTy w1 R1 v2 r ∧ FullS v2 := by
  cases h
  refine fn_of Try.func64 rfl Try.ntmps64 (Nat.le_of_ble_eq_true rfl) ?_
  refine e_seq fun K hK => ?_
  refine e_region_text rfl ?_
  refine q_assign rfl rfl ?_
  refine eseq_nil ?_
  refine hK _ _ ?_; clear hK
  refine e_seq fun K hK => ?_
  refine e_region_text rfl ?_
  refine q_move rfl rfl ?_
  refine q_move rfl rfl ?_
  refine q_lenS rfl f1 rfl ?_
  refine q_move rfl rfl ?_
  refine q_lenS rfl f1 rfl ?_
  refine q_clip (T := arcTy) (inferInstance : TSlice Try.prog 30 58 4) rfl f1 rfl rfl rfl fun v8 f8 hf8 => ?_
  refine q_assign rfl rfl ?_
  refine eseq_nil ?_
  refine hK _ _ ?_; clear hK
  refine e_ret ?_
  exact ⟨_, res1 rfl rfl, _, R, rfl, hS, f8, hf8⟩
theorem pattern_Mark_w {F R : Nat → Prop} {w : World} {fuel : Nat} {a0 : Pat} {a1 : Int} {v1 : Value} {v2 : Value} {v3 : Value} {r : (Pat)} (hS : Sep F R R w w []) (f1 : IsSlice Ty.int w R v1 a0.lens) (f2 : IsSlice (Ty.slice Ty.int) w R v2 a0.ckpts) (f3 : IsSlice arcTy w R v3 a0.arcs) (h : pattern_Mark fuel a0 a1 = some r) :
    Gives Try.prog 40 [.agg #[v1, v2, v3], .int .i64 a1] w fun u w1 => ∃ (v99 : Value), ∃ (v100 : Value), ∃ (v101 : Value), ∃ (R1 : Nat → Prop), u = .agg #[v99, v100, v101] ∧ Sep F R R1 w w1 [] ∧ IsSlice Ty.int w1 R1 v99 r.lens ∧ IsSlice (Ty.slice Ty.int) w1 R1 v100 r.ckpts ∧ IsSlice arcTy w1 R1 v101 r.arcs := by
  refine fn_of Try.func40 rfl Try.ntmps40 (Nat.le_of_ble_eq_true rfl) ?_
  unfold pattern_Mark at h
  refine e_seq fun K102 hK102 => ?_
  refine e_region_text rfl ?_
  refine q_boxB rfl rfl rfl fun w103 bl103 hg103 hb103 hB103 => ?_
  replace f1 := f1.ext hB103
  replace f2 := f2.ext hB103
  replace f3 := f3.ext hB103
  replace hS := hS.newBlk hB103 hg103 hb103
  refine q_allocB rfl fun w105 bl105 hg105 hb105 hB105 => ?_
  replace f1 := f1.ext hB105
  replace f2 := f2.ext hB105
  replace f3 := f3.ext hB105
  replace hS := hS.newBlk hB105 hg105 hb105
  refine eseq_nil ?_
  refine hK102 _ _ ?_
  refine e_seq fun K107 hK107 => ?_
  refine e_seq fun K108 hK108 => ?_
  refine e_region_text rfl ?_
  refine q_loadAgg rfl (Blk.cellsAt (hS.blk 1 rfl) 0 3 rfl) rfl rfl ?_
  refine q_move rfl rfl ?_
  obtain ⟨r110, hr110, h⟩ := Option.of_bind h
  refine q_call rfl (pattern_process_w (a0 := (⟨a0.lens, a0.ckpts, a0.arcs⟩ : Pat)) (Sep.enter (As := []) hS) f1 f2 f3 hr110) rfl ?_
  rintro _ w109 ⟨R109, rfl, hC109⟩
  have hB109 : Below (World.heap w105).size w105 w109 := hC109.stepB0
  refine ⟨fun _ => .of_below hB109, ?_⟩
  replace f1 := (f1.ext hB109).mono fun k hk _ => hC109.ro0 k hk
  replace f2 := (f2.ext hB109).mono fun k hk _ => hC109.ro0 k hk
  replace f3 := (f3.ext hB109).mono fun k hk _ => hC109.ro0 k hk
  replace hS := Sep.leave (As := []) hS hC109; simp only [List.cons_append, List.nil_append] at hS
  refine q_not rfl rfl ?_
  refine q_move rfl rfl ?_
  obtain ⟨x114, hx113, h⟩ := Option.of_bind h
  refine g_orM 5 hx113 rfl trivial rfl rfl ?_ ?_ ?_
  · intro hg113
    refine g_skip rfl rfl rfl ?_
    refine g_skip rfl rfl rfl ?_
    refine g_skip rfl rfl rfl ?_
    refine g_skip rfl rfl rfl ?_
    refine g_skip rfl rfl rfl ?_
    exact eseq_nil ⟨rfl, Sub.set rfl (Sub.set rfl (Sub.set rfl (Sub.set rfl (Sub.set rfl (Sub.bool true rfl hg113)))))⟩
  · intro hg113 hx113
    clear h
    have hT113 := Below.refl (World.heap w109).size w109
    refine g_run rfl ?_; refine q_move rfl rfl ?_
    refine g_run rfl ?_; refine q_field rfl rfl ?_
    refine g_run rfl ?_; refine q_load rfl (Blk.cell (hS.blk 1 rfl) rfl) rfl ?_
    refine g_run rfl ?_; refine q_lenS rfl f2 rfl ?_
    refine g_run rfl ?_; refine q_geq rfl rfl rfl ?_
    cases hx113
    exact eseq_nil ⟨hT113, Sub.set rfl (Sub.set rfl (Sub.set rfl (Sub.set rfl (Sub.set rfl (Sub.bool false rfl hg113))))), rfl⟩
  intro wm113 hBm113; clear hx113
  replace hS := hS.below hBm113
  replace f1 := f1.ext hBm113
  replace f2 := f2.ext hBm113
  replace f3 := f3.ext hBm113
  refine eseq_nil ?_
  refine hK108 _ _ ?_
  refine e_cond rfl (fun hc115 => ?_) (fun hc115 => ?_)
  · replace h := (if_pos hc115).symm.trans h
    refine e_seq fun K116 hK116 => ?_
    refine e_region_text rfl ?_
    refine q_loadAgg rfl (Blk.cellsAt (hS.blk 1 rfl) 0 3 rfl) rfl rfl ?_
    refine q_storeAgg rfl rfl (hS.blk 0 rfl) rfl (Nat.le_of_ble_eq_true rfl) (all_cons f1.one (all_cons f2.one (all_cons f3.one (all_nil)))) rfl rfl fun w117 hb117 hO117 => ?_
    simp only [setN, List.set, List.take, List.drop] at hb117
    have hk117 := hS.keptBlk 0 rfl hO117
    replace f1 := f1.kept hk117
    replace f2 := f2.kept hk117
    replace f3 := f3.kept hk117
    replace hS := hS.setBlk 0 rfl hb117 hO117; simp only [List.set] at hS
    refine eseq_nil ?_
    refine hK116 _ _ ?_
    refine e_ret ?_
    obtain rfl := Option.some.inj h
    exact ⟨_, resC1 rfl rfl ((hS.blk 0 rfl).cellsAt 0 3 rfl) rfl, v1, v2, v3, _, rfl, (hS.pickB [] 2 rfl rfl), f1, f2, f3⟩
  · replace h := (if_neg (not_true hc115)).symm.trans h
    refine e_skip ?_
    refine hK107 _ _ ?_
    refine e_seq fun K118 hK118 => ?_
    refine e_region_text rfl ?_
    refine q_field rfl rfl ?_
    refine q_load rfl (Blk.cell (hS.blk 1 rfl) rfl) rfl ?_
    refine q_move rfl rfl ?_
    obtain ⟨x119, hx119, h⟩ := Option.of_bind h
    refine q_atS (by infer_instance) rfl f1 rfl hx119 rfl fun b120 o120 hm120 f120 => ?_
    refine q_load rfl (Elt.intCell f120) rfl ?_
    refine q_assign rfl rfl ?_
    refine eseq_nil ?_
    refine hK118 _ _ ?_
    refine e_seq fun K121 hK121 => ?_
    refine e_seq fun K122 hK122 => ?_
    refine e_region_text rfl ?_
    refine q_field rfl rfl ?_
    refine q_load rfl (Blk.cell (hS.blk 1 rfl) rfl) rfl ?_
    refine q_move rfl rfl ?_
    obtain ⟨x123, hx123, h⟩ := Option.of_bind h
    refine q_atS (by infer_instance) rfl f2 rfl hx123 rfl fun b124 o124 hm124 f124 => ?_
    refine q_loadE rfl f124 rfl (fun v125 f125 => ?_)
    refine q_move rfl rfl ?_
    obtain ⟨r127, hr127, h⟩ := Option.of_bind h
    refine q_call rfl (slices_Contains_w (Sep.enter (As := []) hS) f125 hr127) rfl ?_
    rintro _ w126 ⟨R126, rfl, hC126⟩
    have hB126 : Below (World.heap wm113).size wm113 w126 := hC126.stepB0
    refine ⟨fun _ => .of_below hB126, ?_⟩
    replace f1 := (f1.ext hB126).mono fun k hk _ => hC126.ro0 k hk
    replace f2 := (f2.ext hB126).mono fun k hk _ => hC126.ro0 k hk
    replace f3 := (f3.ext hB126).mono fun k hk _ => hC126.ro0 k hk
    replace f125 := (f125.ext hB126).mono fun k hk _ => hC126.ro0 k hk
    replace hS := Sep.leave (As := []) hS hC126; simp only [List.cons_append, List.nil_append] at hS
    refine eseq_nil ?_
    refine hK122 _ _ ?_
    refine e_cond rfl (fun hc128 => ?_) (fun hc128 => ?_)
    · replace h := (if_pos hc128).symm.trans h
      refine e_seq fun K129 hK129 => ?_
      refine e_region_text rfl ?_
      refine q_loadAgg rfl (Blk.cellsAt (hS.blk 1 rfl) 0 3 rfl) rfl rfl ?_
      refine q_storeAgg rfl rfl (hS.blk 0 rfl) rfl (Nat.le_of_ble_eq_true rfl) (all_cons f1.one (all_cons f2.one (all_cons f3.one (all_nil)))) rfl rfl fun w130 hb130 hO130 => ?_
      simp only [setN, List.set, List.take, List.drop] at hb130
      have hk130 := hS.keptBlk 0 rfl hO130
      replace f1 := f1.kept hk130
      replace f2 := f2.kept hk130
      replace f3 := f3.kept hk130
      replace hS := hS.setBlk 0 rfl hb130 hO130; simp only [List.set] at hS
      refine eseq_nil ?_
      refine hK129 _ _ ?_
      refine e_ret ?_
      obtain rfl := Option.some.inj h
      exact ⟨_, resC1 rfl rfl ((hS.blk 0 rfl).cellsAt 0 3 rfl) rfl, v1, v2, v3, _, rfl, (hS.pickB [] 2 rfl rfl), f1, f2, f3⟩
    · replace h := (if_neg (not_true hc128)).symm.trans h
      refine e_skip ?_
      refine hK121 _ _ ?_
      refine e_seq fun K131 hK131 => ?_
      refine e_region_text rfl ?_
      refine q_field rfl rfl ?_
      refine q_load rfl (Blk.cell (hS.blk 1 rfl) rfl) rfl ?_
      obtain ⟨r133, hr133, h⟩ := Option.of_bind h
      refine q_call rfl (Clone_ListInt_w (Sep.enter (As := []) hS) f2 hr133) rfl ?_
      rintro v134 w132 ⟨_, R132, rfl, hC132⟩
      have hB132 : Below (World.heap w126).size w126 w132 := hC132.stepB0
      refine ⟨fun _ => .of_below hB132, ?_⟩
      replace f1 := (f1.ext hB132).mono fun k hk _ => hC132.ro0 k hk
      replace f2 := (f2.ext hB132).mono fun k hk _ => hC132.ro0 k hk
      replace f3 := (f3.ext hB132).mono fun k hk _ => hC132.ro0 k hk
      replace hS := Sep.leave (As := []) hS hC132; simp only [List.cons_append, List.nil_append] at hS
      refine q_field rfl rfl ?_
      refine q_store rfl rfl (hS.blk 2 rfl) (Nat.le_of_ble_eq_true rfl) (hS.own 0 rfl).one rfl rfl fun w135 hb135 hO135 => ?_
      have hk135 := hS.keptBlk 2 rfl hO135
      replace f1 := f1.kept hk135
      replace f3 := f3.kept hk135
      replace hS := hS.setBlk 2 rfl hb135 hO135; simp only [List.set] at hS
      refine eseq_nil ?_
      refine hK131 _ _ ?_
      refine e_seq fun K136 hK136 => ?_
      have hJt175 : ∀ (x151 : (List (List Int))) (R170 : Nat → Prop) (w171 : World) (E_ : Env), pattern_Mark_J1 fuel a0 x151 = some r → Sep F R R170 w w171 [HP.blk bl103 [v1, v134, v3] 32, HP.own (Ty.slice Ty.int) R170 29 v134 x151, HP.blk bl105 [.slice none 0 0, .slice none 0 0, .slice none 0 0] 32] → IsSlice Ty.int w171 R170 v1 a0.lens → IsSlice arcTy w171 R170 v3 a0.arcs → Sub [(2, .pointer (some ⟨bl103, 0, none⟩)), (4, .pointer (some ⟨bl105, 0, none⟩))] E_ → K136 E_ w171 := by
        intro x151 R170 w171 E_ h hS f172 f174 hsub
        refine hK136 _ _ (e_sub hsub ?_); clear hsub
        unfold pattern_Mark_J1 at h
        refine e_seq fun K176 hK176 => ?_
        refine e_region_text rfl ?_
        refine q_loadAgg rfl (Blk.cellsAt (hS.blk 0 rfl) 0 3 rfl) rfl rfl ?_
        refine q_storeAgg rfl rfl (hS.blk 2 rfl) rfl (Nat.le_of_ble_eq_true rfl) (all_cons f172.one (all_cons (hS.own 1 rfl).one (all_cons f174.one (all_nil)))) rfl rfl fun w177 hb177 hO177 => ?_
        simp only [setN, List.set, List.take, List.drop] at hb177
        have hk177 := hS.keptBlk 2 rfl hO177
        replace f172 := f172.kept hk177
        replace f174 := f174.kept hk177
        replace hS := hS.setBlk 2 rfl hb177 hO177; simp only [List.set] at hS
        refine eseq_nil ?_
        refine hK176 _ _ ?_
        refine e_ret ?_
        obtain ⟨R178, hS, hm178, f178⟩ := hS.freezeOwn 1 rfl; simp only [List.eraseIdx] at hS
        replace f172 := f172.mono fun k hk _ => hm178 k hk
        replace f174 := f174.mono fun k hk _ => hm178 k hk
        obtain rfl := Option.some.inj h
        exact ⟨_, resC1 rfl rfl ((hS.blk 1 rfl).cellsAt 0 3 rfl) rfl, v1, v134, v3, _, rfl, (hS.pickB [] 2 rfl rfl), f172, f178, f174⟩
      obtain ⟨x137, hx137, h⟩ := Option.of_bind h
      obtain ⟨r141, hr141, h⟩ := Option.of_bind h
      obtain ⟨x147, hx147, h⟩ := Option.of_bind h
      obtain ⟨x148, hx148, h⟩ := Option.of_bind h
      obtain ⟨x151, hx151, h⟩ := Option.of_bind h
      refine e_region_T mixed (fun _ => False) [0, 1, 0, 0, 8, 0, 56, 120, 248, 0, 512, 2040, 4095, 8191] [8, 10, 11] (QT.op 0 (QT.op 1 (QT.op 2 (QT.op 3 (QT.op 4 (QT.op 5 (QT.op 6 (QT.op 7 (QT.op 9 (QT.alt (QT.op 8 (QT.op 10 (QT.op 11 (QT.op 12 (QT.op 13 QT.fin))))) (QT.op 10 (QT.op 8 (QT.op 11 (QT.op 12 (QT.op 13 QT.fin))))))))))))))) (by kernel_rfl) ?_
      refine t_op ?_
      refine q_field rfl rfl ?_
      refine eseq_nil ?_
      refine t_op ?_
      refine q_load rfl (Blk.cell (hS.blk 2 rfl) rfl) rfl ?_
      refine eseq_nil ?_
      refine t_op ?_
      refine q_move rfl rfl ?_
      refine eseq_nil ?_
      refine t_op ?_
      refine q_field rfl rfl ?_
      refine eseq_nil ?_
      refine t_op ?_
      refine q_load rfl (Blk.cell (hS.blk 2 rfl) rfl) rfl ?_
      refine eseq_nil ?_
      refine t_op ?_
      refine q_move rfl rfl ?_
      refine eseq_nil ?_
      refine t_op ?_
      refine q_indexO (by infer_instance) rfl (hS.own 0 rfl) rfl hx137 rfl ?_
      refine eseq_nil ?_
      refine t_op ?_
      have f179 := (hS.ownR 0 rfl).elt hx137
      refine q_loadE rfl f179 rfl (fun v180 f180 => ?_)
      refine eseq_nil ?_
      refine t_op ?_
      refine q_move rfl rfl ?_
      refine eseq_nil ?_
      refine t_alt ?_ ?_
      · skip
        refine t_op ?_
        refine q_call rfl (Clip_Int_w (Sep.enter (As := []) hS) f180 hr141) rfl ?_
        rintro v182 w181 ⟨_, R181, rfl, hC181, f182, hful181⟩
        have hB181 : Below (World.heap w135).size w135 w181 := hC181.stepB0
        refine ⟨fun _ => .of_below hB181, ?_⟩
        replace f1 := (f1.ext hB181).mono fun k hk _ => hC181.ro0 k hk
        replace f3 := (f3.ext hB181).mono fun k hk _ => hC181.ro0 k hk
        replace f180 := (f180.ext hB181).mono fun k hk _ => hC181.ro0 k hk
        replace hS := Sep.leave (As := []) hS hC181; simp only [List.cons_append, List.nil_append] at hS
        refine eseq_nil ?_
        refine t_op ?_
        refine q_litO (T := Ty.int) (S := (fun _ => False)) (cells := [[.int .i64 x119]]) (ys := [x119]) ((Parts.cons rfl rfl Parts.nil)) rfl rfl rfl rfl rfl rfl rfl (fun w1 hB => ⟨rfl, trivial⟩) (fun _ h => h.elim) rfl fun w183 v183 ho183 hv183 hB183 => ?_
        replace f1 := f1.ext hB183
        replace f3 := f3.ext hB183
        replace f180 := f180.ext hB183
        replace f182 := f182.ext hB183
        replace hS := hS.newOwnS hB183 ho183 hv183 (fun _ h => h.elim)
        refine eseq_nil ?_
        refine t_op ?_
        replace hS := hS.nilOwn0 Ty.int 3
        refine q_catClip (T := Ty.int) (S := fun _ => False) rfl rfl rfl rfl f182 hful181 rfl (hS.own 1 rfl) (List.cons_ne_nil _ _) (snoc_cat hx147) rfl fun v186 w186 hw186 hgr186 hnw186 => ?_
        have hk186 := hS.keptOwn 0 rfl hgr186
        replace f1 := f1.kept hk186
        replace f3 := f3.kept hk186
        replace f180 := f180.kept hk186
        replace f182 := f182.kept hk186
        replace hS := hS.setOwn 0 rfl hw186 hgr186 hnw186; simp only [List.set] at hS
        refine eseq_nil ?_
        refine t_op ?_
        refine q_indexO (by infer_instance) rfl (hS.own 2 rfl) rfl hx148 rfl ?_
        refine eseq_nil ?_
        refine t_op ?_
        obtain ⟨R188, hS, hm188, f188⟩ := hS.freezeOwn 0 rfl; simp only [List.eraseIdx] at hS
        replace f1 := f1.mono fun k hk _ => hm188 k hk
        replace f3 := f3.mono fun k hk _ => hm188 k hk
        replace f180 := f180.mono fun k hk _ => hm188 k hk
        replace f182 := f182.mono fun k hk _ => hm188 k hk
        replace hS := hS.ownMono 1 rfl; simp only [List.set] at hS
        refine q_storeO (T := (Ty.slice Ty.int)) (j := 0) rfl rfl (hS.own 1 rfl) hx148 hx151 rfl f188.one rfl (sliceSet (f188.mono (hS.ownOff 1 rfl))) fun w187 ho187 hO187 => ?_
        have hk187 := hS.keptO 1 rfl hx148 hO187
        replace f1 := f1.kept hk187
        replace f3 := f3.kept hk187
        replace f180 := f180.kept hk187
        replace f182 := f182.kept hk187
        replace f188 := f188.kept hk187
        replace hS := hS.putO 1 rfl hx148 ho187 hO187; simp only [List.set] at hS
        refine eseq_nil ?_
        refine t_fin ?_
        exact hJt175 x151 _ _ _ h (hS.pickB [3, 1, 2] 4 rfl rfl) f1 f3 (Sub.cons rfl (Sub.cons rfl (Sub.nil _)))
      · skip
        refine t_op ?_
        refine q_litO (T := Ty.int) (S := (fun _ => False)) (cells := [[.int .i64 x119]]) (ys := [x119]) ((Parts.cons rfl rfl Parts.nil)) rfl rfl rfl rfl rfl rfl rfl (fun w1 hB => ⟨rfl, trivial⟩) (fun _ h => h.elim) rfl fun w189 v189 ho189 hv189 hB189 => ?_
        replace f1 := f1.ext hB189
        replace f3 := f3.ext hB189
        replace f180 := f180.ext hB189
        replace hS := hS.newOwnS hB189 ho189 hv189 (fun _ h => h.elim)
        refine eseq_nil ?_
        refine t_op ?_
        refine q_call rfl (Clip_Int_w (Sep.enter (As := []) hS) f180 hr141) rfl ?_
        rintro v192 w191 ⟨_, R191, rfl, hC191, f192, hful191⟩
        have hB191 : Below (World.heap w189).size w189 w191 := hC191.stepB0
        refine ⟨fun _ => .of_below hB191, ?_⟩
        replace f1 := (f1.ext hB191).mono fun k hk _ => hC191.ro0 k hk
        replace f3 := (f3.ext hB191).mono fun k hk _ => hC191.ro0 k hk
        replace f180 := (f180.ext hB191).mono fun k hk _ => hC191.ro0 k hk
        replace hS := Sep.leave (As := []) hS hC191; simp only [List.cons_append, List.nil_append] at hS
        refine eseq_nil ?_
        refine t_op ?_
        replace hS := hS.nilOwn0 Ty.int 3
        refine q_catClip (T := Ty.int) (S := fun _ => False) rfl rfl rfl rfl f192 hful191 rfl (hS.own 1 rfl) (List.cons_ne_nil _ _) (snoc_cat hx147) rfl fun v194 w194 hw194 hgr194 hnw194 => ?_
        have hk194 := hS.keptOwn 0 rfl hgr194
        replace f1 := f1.kept hk194
        replace f3 := f3.kept hk194
        replace f180 := f180.kept hk194
        replace f192 := f192.kept hk194
        replace hS := hS.setOwn 0 rfl hw194 hgr194 hnw194; simp only [List.set] at hS
        refine eseq_nil ?_
        refine t_op ?_
        refine q_indexO (by infer_instance) rfl (hS.own 2 rfl) rfl hx148 rfl ?_
        refine eseq_nil ?_
        refine t_op ?_
        obtain ⟨R196, hS, hm196, f196⟩ := hS.freezeOwn 0 rfl; simp only [List.eraseIdx] at hS
        replace f1 := f1.mono fun k hk _ => hm196 k hk
        replace f3 := f3.mono fun k hk _ => hm196 k hk
        replace f180 := f180.mono fun k hk _ => hm196 k hk
        replace f192 := f192.mono fun k hk _ => hm196 k hk
        replace hS := hS.ownMono 1 rfl; simp only [List.set] at hS
        refine q_storeO (T := (Ty.slice Ty.int)) (j := 0) rfl rfl (hS.own 1 rfl) hx148 hx151 rfl f196.one rfl (sliceSet (f196.mono (hS.ownOff 1 rfl))) fun w195 ho195 hO195 => ?_
        have hk195 := hS.keptO 1 rfl hx148 hO195
        replace f1 := f1.kept hk195
        replace f3 := f3.kept hk195
        replace f180 := f180.kept hk195
        replace f192 := f192.kept hk195
        replace f196 := f196.kept hk195
        replace hS := hS.putO 1 rfl hx148 ho195 hO195; simp only [List.set] at hS
        refine eseq_nil ?_
        refine t_fin ?_
        exact hJt175 x151 _ _ _ h (hS.pickB [3, 1, 2] 4 rfl rfl) f1 f3 (Sub.cons rfl (Sub.cons rfl (Sub.nil _)))
theorem pattern_Append_w {F R : Nat → Prop} {w : World} {fuel : Nat} {a0 : Pat} {a1 : Int} {a2 : Int} {a3 : Int} {v1 : Value} {v2 : Value} {v3 : Value} {r : (Pat × Bool)} (hS : Sep F R R w w []) (f1 : IsSlice Ty.int w R v1 a0.lens) (f2 : IsSlice (Ty.slice Ty.int) w R v2 a0.ckpts) (f3 : IsSlice arcTy w R v3 a0.arcs) (h : pattern_Append fuel a0 a1 a2 a3 = some r) :
    Gives Try.prog 41 [.agg #[v1, v2, v3], .int .i64 a1, .int .i64 a2, .int .i64 a3] w fun u w1 => ∃ (v174 : Value), ∃ (v175 : Value), ∃ (v176 : Value), ∃ (R1 : Nat → Prop), u = .tuple #[.agg #[v174, v175, v176], .bool r.2] ∧ Sep F R R1 w w1 [HP.own Ty.int (fun _ => False) 3 v174 r.1.lens] ∧ IsSlice (Ty.slice Ty.int) w1 R1 v175 r.1.ckpts ∧ IsSlice arcTy w1 R1 v176 r.1.arcs := by
  refine fn_of Try.func41 rfl Try.ntmps41 (Nat.le_of_ble_eq_true rfl) ?_
  unfold pattern_Append at h
  refine e_seq fun K177 hK177 => ?_
  refine e_region_text rfl ?_
  refine q_boxB rfl rfl rfl fun w178 bl178 hg178 hb178 hB178 => ?_
  replace f1 := f1.ext hB178
  replace f2 := f2.ext hB178
  replace f3 := f3.ext hB178
  replace hS := hS.newBlk hB178 hg178 hb178
  refine q_allocB rfl fun w180 bl180 hg180 hb180 hB180 => ?_
  replace f1 := f1.ext hB180
  replace f2 := f2.ext hB180
  replace f3 := f3.ext hB180
  replace hS := hS.newBlk hB180 hg180 hb180
  refine q_assign rfl rfl ?_
  refine eseq_nil ?_
  refine hK177 _ _ ?_
  refine e_seq fun K182 hK182 => ?_
  refine e_seq fun K183 hK183 => ?_
  refine e_region_text rfl ?_
  refine q_loadAgg rfl (Blk.cellsAt (hS.blk 1 rfl) 0 3 rfl) rfl rfl ?_
  refine q_move rfl rfl ?_
  obtain ⟨r185, hr185, h⟩ := Option.of_bind h
  refine q_call rfl (pattern_process_w (a0 := (⟨a0.lens, a0.ckpts, a0.arcs⟩ : Pat)) (Sep.enter (As := []) hS) f1 f2 f3 hr185) rfl ?_
  rintro _ w184 ⟨R184, rfl, hC184⟩
  have hB184 : Below (World.heap w180).size w180 w184 := hC184.stepB0
  refine ⟨fun _ => .of_below hB184, ?_⟩
  replace f1 := (f1.ext hB184).mono fun k hk _ => hC184.ro0 k hk
  replace f2 := (f2.ext hB184).mono fun k hk _ => hC184.ro0 k hk
  replace f3 := (f3.ext hB184).mono fun k hk _ => hC184.ro0 k hk
  replace hS := Sep.leave (As := []) hS hC184; simp only [List.cons_append, List.nil_append] at hS
  refine q_not rfl rfl ?_
  refine q_move rfl rfl ?_
  obtain ⟨x191, hx190, h⟩ := Option.of_bind h
  refine g_orM 6 hx190 rfl trivial rfl rfl ?_ ?_ ?_
  · intro hg190
    refine g_skip rfl rfl rfl ?_
    refine g_skip rfl rfl rfl ?_
    refine g_skip rfl rfl rfl ?_
    refine g_skip rfl rfl rfl ?_
    refine g_skip rfl rfl rfl ?_
    refine g_skip rfl rfl rfl ?_
    exact eseq_nil ⟨rfl, Sub.set rfl (Sub.set rfl (Sub.set rfl (Sub.set rfl (Sub.set rfl (Sub.set rfl (Sub.bool true rfl hg190))))))⟩
  · intro hg190 hx190
    clear h
    have hT190 := Below.refl (World.heap w184).size w184
    refine g_run rfl ?_; refine q_field rfl rfl ?_
    refine g_run rfl ?_; refine q_load rfl (Blk.cell (hS.blk 1 rfl) rfl) rfl ?_
    refine g_run rfl ?_; refine q_move rfl rfl ?_
    obtain ⟨x192, hx192, hx190⟩ := Option.of_bind hx190
    refine g_run rfl ?_; refine q_atS (by infer_instance) rfl f1 rfl hx192 rfl fun b193 o193 hm193 f193 => ?_
    refine g_run rfl ?_; refine q_load rfl (Elt.intCell f193) rfl ?_
    refine g_run rfl ?_; refine q_geq rfl rfl rfl ?_
    cases hx190
    exact eseq_nil ⟨hT190, Sub.set rfl (Sub.set rfl (Sub.set rfl (Sub.set rfl (Sub.set rfl (Sub.set rfl (Sub.bool false rfl hg190)))))), rfl⟩
  intro wm190 hBm190; clear hx190
  replace hS := hS.below hBm190
  replace f1 := f1.ext hBm190
  replace f2 := f2.ext hBm190
  replace f3 := f3.ext hBm190
  refine eseq_nil ?_
  refine hK183 _ _ ?_
  refine e_cond rfl (fun hc194 => ?_) (fun hc194 => ?_)
  · replace h := (if_pos hc194).symm.trans h
    refine e_seq fun K195 hK195 => ?_
    refine e_region_text rfl ?_
    refine q_build Parts.nil rfl rfl ?_
    refine q_storeAgg rfl rfl (hS.blk 0 rfl) rfl (Nat.le_of_ble_eq_true rfl) (all_cons rfl (all_cons rfl (all_cons rfl (all_nil)))) rfl rfl fun w196 hb196 hO196 => ?_
    simp only [setN, List.set, List.take, List.drop] at hb196
    have hk196 := hS.keptBlk 0 rfl hO196
    replace hS := hS.setBlk 0 rfl hb196 hO196; simp only [List.set] at hS
    refine q_assign rfl rfl ?_
    refine eseq_nil ?_
    refine hK195 _ _ ?_
    refine e_ret ?_
    replace hS := hS.nilOwn0 Ty.int 3
    obtain rfl := Option.some.inj h
    exact ⟨_, resCT rfl rfl ((hS.blk 1 rfl).cellsAt 0 3 rfl) rfl rfl, (.slice none 0 0), (.slice none 0 0), (.slice none 0 0), _, rfl, (hS.pickB [0] 3 rfl rfl), (IsSlice.nil _ _ _), (IsSlice.nil _ _ _)⟩
  · replace h := (if_neg (not_true hc194)).symm.trans h
    refine e_skip ?_
    refine hK182 _ _ ?_
    refine e_seq fun K198 hK198 => ?_
    have hJ198 : ∀ (R228 : Nat → Prop) (w229 : World) (E_ : Env), pattern_Append_J1 fuel a0 a1 a2 a3 = some r → Sep F R R228 w w229 [HP.blk bl178 [v1, v2, v3] 32, HP.blk bl180 [.slice none 0 0, .slice none 0 0, .slice none 0 0] 32] → IsSlice Ty.int w229 R228 v1 a0.lens → IsSlice (Ty.slice Ty.int) w229 R228 v2 a0.ckpts → IsSlice arcTy w229 R228 v3 a0.arcs → Sub [(1, .int .i64 a1), (2, .int .i64 a2), (3, .int .i64 a3), (4, .pointer (some ⟨bl178, 0, none⟩)), (8, .pointer (some ⟨bl180, 0, none⟩))] E_ → K198 E_ w229 := by
      intro R228 w229 E_ h hS f230 f231 f232 hsub
      refine hK198 _ _ (e_sub hsub ?_); clear hsub
      unfold pattern_Append_J1 at h
      refine e_seq fun K233 hK233 => ?_
      refine e_region_text rfl ?_
      refine q_field rfl rfl ?_
      refine q_load rfl (Blk.cell (hS.blk 0 rfl) rfl) rfl ?_
      obtain ⟨r235, hr235, h⟩ := Option.of_bind h
      refine q_call rfl (Clone_Int_w (Sep.enter (As := []) hS) f230 hr235) rfl ?_
      rintro v236 w234 ⟨_, R234, rfl, hC234⟩
      have hB234 : Below (World.heap w229).size w229 w234 := hC234.stepB0
      refine ⟨fun _ => .of_below hB234, ?_⟩
      replace f230 := (f230.ext hB234).mono fun k hk _ => hC234.ro0 k hk
      replace f231 := (f231.ext hB234).mono fun k hk _ => hC234.ro0 k hk
      replace f232 := (f232.ext hB234).mono fun k hk _ => hC234.ro0 k hk
      replace hS := Sep.leave (As := []) hS hC234; simp only [List.cons_append, List.nil_append] at hS
      refine q_field rfl rfl ?_
      refine q_store rfl rfl (hS.blk 1 rfl) (Nat.le_of_ble_eq_true rfl) (hS.own 0 rfl).one rfl rfl fun w237 hb237 hO237 => ?_
      have hk237 := hS.keptBlk 1 rfl hO237
      replace f231 := f231.kept hk237
      replace f232 := f232.kept hk237
      replace hS := hS.setBlk 1 rfl hb237 hO237; simp only [List.set] at hS
      refine eseq_nil ?_
      refine hK233 _ _ ?_
      refine e_seq fun K238 hK238 => ?_
      refine e_region_text rfl ?_
      refine q_field rfl rfl ?_
      refine q_load rfl (Blk.cell (hS.blk 1 rfl) rfl) rfl ?_
      refine q_move rfl rfl ?_
      obtain ⟨x239, hx239, h⟩ := Option.of_bind h
      refine q_indexO (by infer_instance) rfl (hS.own 0 rfl) rfl hx239 rfl ?_
      have f240 := (hS.ownR 0 rfl).elt hx239
      refine q_load rfl (Elt.intCell f240) rfl ?_
      refine q_addW rfl rfl rfl ?_
      obtain ⟨x241, hx241, h⟩ := Option.of_bind h
      refine q_indexO (by infer_instance) rfl (hS.own 0 rfl) rfl hx241 rfl ?_
      obtain ⟨x243, hx243, h⟩ := Option.of_bind h
      refine q_storeO (T := Ty.int) (j := 0) rfl rfl (hS.own 0 rfl) hx241 hx243 rfl rfl rfl (Enc.setL rfl) fun w242 ho242 hO242 => ?_
      have hk242 := hS.keptO 0 rfl hx241 hO242
      replace f231 := f231.kept hk242
      replace f232 := f232.kept hk242
      replace hS := hS.putO 0 rfl hx241 ho242 hO242; simp only [List.set] at hS
      refine eseq_nil ?_
      refine hK238 _ _ ?_
      refine e_seq fun K244 hK244 => ?_
      have hJ244 : ∀ (x281 : (List Arc)) (v280 : Value) (R276 : Nat → Prop) (w277 : World) (E_ : Env), pattern_Append_J2 fuel x243 a0 x281 = some r → Sep F R R276 w w277 [HP.blk bl178 [v236, v2, v280] 32, HP.own Ty.int (fun _ => False) 3 v236 x243, HP.blk bl180 [.slice none 0 0, .slice none 0 0, .slice none 0 0] 32] → IsSlice (Ty.slice Ty.int) w277 R276 v2 a0.ckpts → IsSlice arcTy w277 R276 v280 x281 → Sub [(4, .pointer (some ⟨bl178, 0, none⟩)), (8, .pointer (some ⟨bl180, 0, none⟩))] E_ → K244 E_ w277 := by
        intro x281 v280 R276 w277 E_ h hS f279 f282 hsub
        refine hK244 _ _ (e_sub hsub ?_); clear hsub
        unfold pattern_Append_J2 at h
        refine e_seq fun K283 hK283 => ?_
        refine e_region_text rfl ?_
        refine q_loadAgg rfl (Blk.cellsAt (hS.blk 0 rfl) 0 3 rfl) rfl rfl ?_
        refine q_storeAgg rfl rfl (hS.blk 2 rfl) rfl (Nat.le_of_ble_eq_true rfl) (all_cons (hS.own 1 rfl).one (all_cons f279.one (all_cons f282.one (all_nil)))) rfl rfl fun w284 hb284 hO284 => ?_
        simp only [setN, List.set, List.take, List.drop] at hb284
        have hk284 := hS.keptBlk 2 rfl hO284
        replace f279 := f279.kept hk284
        replace f282 := f282.kept hk284
        replace hS := hS.setBlk 2 rfl hb284 hO284; simp only [List.set] at hS
        refine q_assign rfl rfl ?_
        refine eseq_nil ?_
        refine hK283 _ _ ?_
        refine e_ret ?_
        obtain rfl := Option.some.inj h
        exact ⟨_, resCT rfl rfl ((hS.blk 2 rfl).cellsAt 0 3 rfl) rfl rfl, v236, v2, v280, _, rfl, (hS.pickB [1] 3 rfl rfl), f279, f282⟩
      refine e_seq fun K285 hK285 => ?_
      refine e_region_text rfl ?_
      refine q_move rfl rfl ?_
      refine q_neq rfl rfl rfl ?_
      refine eseq_nil ?_
      refine hK285 _ _ ?_
      refine e_cond rfl (fun hc286 => ?_) (fun hc286 => ?_)
      · replace h := (if_pos hc286).symm.trans h
        refine e_seq fun K287 hK287 => ?_
        refine e_region_text rfl ?_
        refine q_move rfl rfl ?_
        refine q_move rfl rfl ?_
        refine q_move rfl rfl ?_
        refine q_field rfl rfl ?_
        refine q_load rfl (Blk.cell (hS.blk 1 rfl) rfl) rfl ?_
        refine q_move rfl rfl ?_
        obtain ⟨x288, hx288, h⟩ := Option.of_bind h
        refine q_indexO (by infer_instance) rfl (hS.own 0 rfl) rfl hx288 rfl ?_
        have f289 := (hS.ownR 0 rfl).elt hx288
        refine q_load rfl (Elt.intCell f289) rfl ?_
        refine q_build (Parts.cons rfl rfl (Parts.cons rfl rfl (Parts.cons rfl rfl (Parts.cons rfl rfl Parts.nil)))) rfl rfl ?_
        refine q_allocB rfl fun w290 bl290 hg290 hb290 hB290 => ?_
        replace f231 := f231.ext hB290
        replace f232 := f232.ext hB290
        replace hS := hS.newBlk hB290 hg290 hb290
        refine q_storeAgg rfl rfl (hS.blk 0 rfl) rfl (Nat.le_of_ble_eq_true rfl) (all_cons rfl (all_cons rfl (all_cons rfl (all_cons rfl (all_nil))))) rfl rfl fun w292 hb292 hO292 => ?_
        simp only [setN, List.set, List.take, List.drop] at hb292
        have hk292 := hS.keptBlk 0 rfl hO292
        replace f231 := f231.kept hk292
        replace f232 := f232.kept hk292
        replace hS := hS.setBlk 0 rfl hb292 hO292; simp only [List.set] at hS
        refine eseq_nil ?_
        refine hK287 _ _ ?_
        obtain ⟨r294, hr294, h⟩ := Option.of_bind h
        obtain ⟨x300, hx300, h⟩ := Option.of_bind h
        refine e_region_T mixed (fun _ => False) [0, 1, 3, 0, 8, 31, 63, 127] [2, 4] (QT.op 0 (QT.op 1 (QT.op 3 (QT.alt (QT.op 2 (QT.op 4 (QT.op 5 (QT.op 6 (QT.op 7 QT.fin))))) (QT.op 4 (QT.op 2 (QT.op 5 (QT.op 6 (QT.op 7 QT.fin))))))))) (by kernel_rfl) ?_
        refine t_op ?_
        refine q_field rfl rfl ?_
        refine eseq_nil ?_
        refine t_op ?_
        refine q_load rfl (Blk.cell (hS.blk 2 rfl) rfl) rfl ?_
        refine eseq_nil ?_
        refine t_op ?_
        refine q_loadAgg rfl (Blk.cellsAt (hS.blk 0 rfl) 0 4 rfl) rfl rfl ?_
        refine eseq_nil ?_
        refine t_alt ?_ ?_
        · skip
          refine t_op ?_
          refine q_call rfl (Clip_Arc_w (Sep.enter (As := []) hS) f232 hr294) rfl ?_
          rintro v303 w302 ⟨_, R302, rfl, hC302, f303, hful302⟩
          have hB302 : Below (World.heap w292).size w292 w302 := hC302.stepB0
          refine ⟨fun _ => .of_below hB302, ?_⟩
          replace f231 := (f231.ext hB302).mono fun k hk _ => hC302.ro0 k hk
          replace f232 := (f232.ext hB302).mono fun k hk _ => hC302.ro0 k hk
          replace hS := Sep.leave (As := []) hS hC302; simp only [List.cons_append, List.nil_append] at hS
          refine eseq_nil ?_
          refine t_op ?_
          refine q_litO (T := arcTy) (S := (fun _ => False)) (cells := [[.int .i64 a2, .int .i64 a3, .int .i64 a1, .int .i64 x288]]) (ys := [(⟨a2, a3, a1, x288⟩ : Arc)]) ((Parts.cons rfl rfl Parts.nil)) rfl rfl rfl rfl rfl rfl rfl (fun w1 hB => ⟨⟨[_], _, rfl, rfl, ⟨[_], _, rfl, rfl, ⟨[_], _, rfl, rfl, rfl⟩⟩⟩, trivial⟩) (fun _ h => h.elim) rfl fun w304 v304 ho304 hv304 hB304 => ?_
          replace f231 := f231.ext hB304
          replace f232 := f232.ext hB304
          replace f303 := f303.ext hB304
          replace hS := hS.newOwnS hB304 ho304 hv304 (fun _ h => h.elim)
          refine eseq_nil ?_
          refine t_op ?_
          replace hS := hS.nilOwn0 arcTy 58
          refine q_catClip (T := arcTy) (S := fun _ => False) rfl rfl rfl rfl f303 hful302 rfl (hS.own 1 rfl) (List.cons_ne_nil _ _) (snoc_cat hx300) rfl fun v307 w307 hw307 hgr307 hnw307 => ?_
          have hk307 := hS.keptOwn 0 rfl hgr307
          replace f231 := f231.kept hk307
          replace f232 := f232.kept hk307
          replace f303 := f303.kept hk307
          replace hS := hS.setOwn 0 rfl hw307 hgr307 hnw307; simp only [List.set] at hS
          refine eseq_nil ?_
          refine t_op ?_
          refine q_field rfl rfl ?_
          refine eseq_nil ?_
          refine t_op ?_
          refine q_store rfl rfl (hS.blk 4 rfl) (Nat.le_of_ble_eq_true rfl) (hS.own 0 rfl).one rfl rfl fun w308 hb308 hO308 => ?_
          have hk308 := hS.keptBlk 4 rfl hO308
          replace f231 := f231.kept hk308
          replace f232 := f232.kept hk308
          replace f303 := f303.kept hk308
          replace hS := hS.setBlk 4 rfl hb308 hO308; simp only [List.set] at hS
          refine eseq_nil ?_
          refine t_fin ?_
          obtain ⟨R309, hS, hm309, f309⟩ := hS.freezeOwn 0 rfl; simp only [List.eraseIdx] at hS
          replace f231 := f231.mono fun k hk _ => hm309 k hk
          exact hJ244 x300 v307 _ _ _ h (hS.pickB [3, 2, 4] 5 rfl rfl) f231 f309 (Sub.cons rfl (Sub.cons rfl (Sub.nil _)))
        · skip
          refine t_op ?_
          refine q_litO (T := arcTy) (S := (fun _ => False)) (cells := [[.int .i64 a2, .int .i64 a3, .int .i64 a1, .int .i64 x288]]) (ys := [(⟨a2, a3, a1, x288⟩ : Arc)]) ((Parts.cons rfl rfl Parts.nil)) rfl rfl rfl rfl rfl rfl rfl (fun w1 hB => ⟨⟨[_], _, rfl, rfl, ⟨[_], _, rfl, rfl, ⟨[_], _, rfl, rfl, rfl⟩⟩⟩, trivial⟩) (fun _ h => h.elim) rfl fun w310 v310 ho310 hv310 hB310 => ?_
          replace f231 := f231.ext hB310
          replace f232 := f232.ext hB310
          replace hS := hS.newOwnS hB310 ho310 hv310 (fun _ h => h.elim)
          refine eseq_nil ?_
          refine t_op ?_
          refine q_call rfl (Clip_Arc_w (Sep.enter (As := []) hS) f232 hr294) rfl ?_
          rintro v313 w312 ⟨_, R312, rfl, hC312, f313, hful312⟩
          have hB312 : Below (World.heap w310).size w310 w312 := hC312.stepB0
          refine ⟨fun _ => .of_below hB312, ?_⟩
          replace f231 := (f231.ext hB312).mono fun k hk _ => hC312.ro0 k hk
          replace f232 := (f232.ext hB312).mono fun k hk _ => hC312.ro0 k hk
          replace hS := Sep.leave (As := []) hS hC312; simp only [List.cons_append, List.nil_append] at hS
          refine eseq_nil ?_
          refine t_op ?_
          replace hS := hS.nilOwn0 arcTy 58
          refine q_catClip (T := arcTy) (S := fun _ => False) rfl rfl rfl rfl f313 hful312 rfl (hS.own 1 rfl) (List.cons_ne_nil _ _) (snoc_cat hx300) rfl fun v315 w315 hw315 hgr315 hnw315 => ?_
          have hk315 := hS.keptOwn 0 rfl hgr315
          replace f231 := f231.kept hk315
          replace f232 := f232.kept hk315
          replace f313 := f313.kept hk315
          replace hS := hS.setOwn 0 rfl hw315 hgr315 hnw315; simp only [List.set] at hS
          refine eseq_nil ?_
          refine t_op ?_
          refine q_field rfl rfl ?_
          refine eseq_nil ?_
          refine t_op ?_
          refine q_store rfl rfl (hS.blk 4 rfl) (Nat.le_of_ble_eq_true rfl) (hS.own 0 rfl).one rfl rfl fun w316 hb316 hO316 => ?_
          have hk316 := hS.keptBlk 4 rfl hO316
          replace f231 := f231.kept hk316
          replace f232 := f232.kept hk316
          replace f313 := f313.kept hk316
          replace hS := hS.setBlk 4 rfl hb316 hO316; simp only [List.set] at hS
          refine eseq_nil ?_
          refine t_fin ?_
          obtain ⟨R317, hS, hm317, f317⟩ := hS.freezeOwn 0 rfl; simp only [List.eraseIdx] at hS
          replace f231 := f231.mono fun k hk _ => hm317 k hk
          exact hJ244 x300 v315 _ _ _ h (hS.pickB [3, 2, 4] 5 rfl rfl) f231 f317 (Sub.cons rfl (Sub.cons rfl (Sub.nil _)))
      · replace h := (if_neg (not_true hc286)).symm.trans h
        refine e_skip ?_
        exact hJ244 a0.arcs v3 _ _ _ h (hS.pickB [1, 0, 2] 3 rfl rfl) f231 f232 (Sub.cons rfl (Sub.cons rfl (Sub.nil _)))
    refine e_seq fun K318 hK318 => ?_
    refine e_region_text rfl ?_
    refine q_move rfl rfl ?_
    refine q_neq rfl rfl rfl ?_
    refine eseq_nil ?_
    refine hK318 _ _ ?_
    refine e_cond rfl (fun hc319 => ?_) (fun hc319 => ?_)
    · replace h := (if_pos hc319).symm.trans h
      refine e_seq fun K320 hK320 => ?_
      refine e_seq fun K321 hK321 => ?_
      refine e_region_text rfl ?_
      refine q_loadAgg rfl (Blk.cellsAt (hS.blk 1 rfl) 0 3 rfl) rfl rfl ?_
      refine q_move rfl rfl ?_
      obtain ⟨r323, hr323, h⟩ := Option.of_bind h
      refine q_call rfl (pattern_process_w (a0 := (⟨a0.lens, a0.ckpts, a0.arcs⟩ : Pat)) (Sep.enter (As := []) hS) f1 f2 f3 hr323) rfl ?_
      rintro _ w322 ⟨R322, rfl, hC322⟩
      have hB322 : Below (World.heap wm190).size wm190 w322 := hC322.stepB0
      refine ⟨fun _ => .of_below hB322, ?_⟩
      replace f1 := (f1.ext hB322).mono fun k hk _ => hC322.ro0 k hk
      replace f2 := (f2.ext hB322).mono fun k hk _ => hC322.ro0 k hk
      replace f3 := (f3.ext hB322).mono fun k hk _ => hC322.ro0 k hk
      replace hS := Sep.leave (As := []) hS hC322; simp only [List.cons_append, List.nil_append] at hS
      refine q_not rfl rfl ?_
      refine q_move rfl rfl ?_
      obtain ⟨x327, hx326, h⟩ := Option.of_bind h
      refine g_orM 3 hx326 rfl trivial rfl rfl ?_ ?_ ?_
      · intro hg326
        refine g_skip rfl rfl rfl ?_
        refine g_skip rfl rfl rfl ?_
        refine g_skip rfl rfl rfl ?_
        exact eseq_nil ⟨rfl, Sub.set rfl (Sub.set rfl (Sub.set rfl (Sub.bool true rfl hg326)))⟩
      · intro hg326 hx326
        clear h
        have hT326 := Below.refl (World.heap w322).size w322
        refine g_run rfl ?_; refine q_move rfl rfl ?_
        refine g_run rfl ?_; refine q_move rfl rfl ?_
        refine g_run rfl ?_; refine q_eql rfl rfl rfl ?_
        cases hx326
        exact eseq_nil ⟨hT326, Sub.set rfl (Sub.set rfl (Sub.set rfl (Sub.bool false rfl hg326))), rfl⟩
      intro wm326 hBm326; clear hx326
      replace hS := hS.below hBm326
      replace f1 := f1.ext hBm326
      replace f2 := f2.ext hBm326
      replace f3 := f3.ext hBm326
      refine q_move rfl rfl ?_
      obtain ⟨x331, hx330, h⟩ := Option.of_bind h
      refine g_orM 2 hx330 rfl trivial rfl rfl ?_ ?_ ?_
      · intro hg330
        refine g_skip rfl rfl rfl ?_
        refine g_skip rfl rfl rfl ?_
        exact eseq_nil ⟨rfl, Sub.set rfl (Sub.set rfl (Sub.bool true rfl hg330))⟩
      · intro hg330 hx330
        clear h
        have hT330 := Below.refl (World.heap wm326).size wm326
        refine g_run rfl ?_; refine q_move rfl rfl ?_
        refine g_run rfl ?_; refine q_lss rfl rfl rfl ?_
        cases hx330
        exact eseq_nil ⟨hT330, Sub.set rfl (Sub.set rfl (Sub.bool false rfl hg330)), rfl⟩
      intro wm330 hBm330; clear hx330
      replace hS := hS.below hBm330
      replace f1 := f1.ext hBm330
      replace f2 := f2.ext hBm330
      replace f3 := f3.ext hBm330
      refine q_move rfl rfl ?_
      obtain ⟨x337, hx336, h⟩ := Option.of_bind h
      refine g_orM 7 hx336 rfl trivial rfl rfl ?_ ?_ ?_
      · intro hg336
        refine g_skip rfl rfl rfl ?_
        refine g_skip rfl rfl rfl ?_
        refine g_skip rfl rfl rfl ?_
        refine g_skip rfl rfl rfl ?_
        refine g_skip rfl rfl rfl ?_
        refine g_skip rfl rfl rfl ?_
        refine g_skip rfl rfl rfl ?_
        exact eseq_nil ⟨rfl, Sub.set rfl (Sub.set rfl (Sub.set rfl (Sub.set rfl (Sub.set rfl (Sub.set rfl (Sub.set rfl (Sub.bool true rfl hg336)))))))⟩
      · intro hg336 hx336
        clear h
        have hT336 := Below.refl (World.heap wm330).size wm330
        refine g_run rfl ?_; refine q_move rfl rfl ?_
        refine g_run rfl ?_; refine q_field rfl rfl ?_
        refine g_run rfl ?_; refine q_load rfl (Blk.cell (hS.blk 1 rfl) rfl) rfl ?_
        refine g_run rfl ?_; refine q_move rfl rfl ?_
        obtain ⟨x338, hx338, hx336⟩ := Option.of_bind hx336
        refine g_run rfl ?_; refine q_atS (by infer_instance) rfl f1 rfl hx338 rfl fun b339 o339 hm339 f339 => ?_
        refine g_run rfl ?_; refine q_load rfl (Elt.intCell f339) rfl ?_
        refine g_run rfl ?_; refine q_gtr rfl rfl rfl ?_
        cases hx336
        exact eseq_nil ⟨hT336, Sub.set rfl (Sub.set rfl (Sub.set rfl (Sub.set rfl (Sub.set rfl (Sub.set rfl (Sub.set rfl (Sub.bool false rfl hg336))))))), rfl⟩
      intro wm336 hBm336; clear hx336
      replace hS := hS.below hBm336
      replace f1 := f1.ext hBm336
      replace f2 := f2.ext hBm336
      replace f3 := f3.ext hBm336
      refine eseq_nil ?_
      refine hK321 _ _ ?_
      refine e_cond rfl (fun hc340 => ?_) (fun hc340 => ?_)
      · replace h := (if_pos hc340).symm.trans h
        refine e_seq fun K341 hK341 => ?_
        refine e_region_text rfl ?_
        refine q_build Parts.nil rfl rfl ?_
        refine q_storeAgg rfl rfl (hS.blk 0 rfl) rfl (Nat.le_of_ble_eq_true rfl) (all_cons rfl (all_cons rfl (all_cons rfl (all_nil)))) rfl rfl fun w342 hb342 hO342 => ?_
        simp only [setN, List.set, List.take, List.drop] at hb342
        have hk342 := hS.keptBlk 0 rfl hO342
        replace hS := hS.setBlk 0 rfl hb342 hO342; simp only [List.set] at hS
        refine q_assign rfl rfl ?_
        refine eseq_nil ?_
        refine hK341 _ _ ?_
        refine e_ret ?_
        replace hS := hS.nilOwn0 Ty.int 3
        obtain rfl := Option.some.inj h
        exact ⟨_, resCT rfl rfl ((hS.blk 1 rfl).cellsAt 0 3 rfl) rfl rfl, (.slice none 0 0), (.slice none 0 0), (.slice none 0 0), _, rfl, (hS.pickB [0] 3 rfl rfl), (IsSlice.nil _ _ _), (IsSlice.nil _ _ _)⟩
      · replace h := (if_neg (not_true hc340)).symm.trans h
        refine e_skip ?_
        refine hK320 _ _ ?_
        refine e_seq fun K344 hK344 => ?_
        refine e_region_text rfl ?_
        refine q_field rfl rfl ?_
        refine q_load rfl (Blk.cell (hS.blk 1 rfl) rfl) rfl ?_
        refine q_lenS rfl f3 rfl ?_
        refine q_geq rfl rfl rfl ?_
        refine eseq_nil ?_
        refine hK344 _ _ ?_
        refine e_cond rfl (fun hc345 => ?_) (fun hc345 => ?_)
        · replace h := (if_pos hc345).symm.trans h
          refine e_seq fun K346 hK346 => ?_
          refine e_region_text rfl ?_
          refine q_build Parts.nil rfl rfl ?_
          refine q_storeAgg rfl rfl (hS.blk 0 rfl) rfl (Nat.le_of_ble_eq_true rfl) (all_cons rfl (all_cons rfl (all_cons rfl (all_nil)))) rfl rfl fun w347 hb347 hO347 => ?_
          simp only [setN, List.set, List.take, List.drop] at hb347
          have hk347 := hS.keptBlk 0 rfl hO347
          replace hS := hS.setBlk 0 rfl hb347 hO347; simp only [List.set] at hS
          refine q_assign rfl rfl ?_
          refine eseq_nil ?_
          refine hK346 _ _ ?_
          refine e_ret ?_
          replace hS := hS.nilOwn0 Ty.int 3
          obtain rfl := Option.some.inj h
          exact ⟨_, resCT rfl rfl ((hS.blk 1 rfl).cellsAt 0 3 rfl) rfl rfl, (.slice none 0 0), (.slice none 0 0), (.slice none 0 0), _, rfl, (hS.pickB [0] 3 rfl rfl), (IsSlice.nil _ _ _), (IsSlice.nil _ _ _)⟩
        · replace h := (if_neg (not_true hc345)).symm.trans h
          refine e_skip ?_
          exact hJ198  _ _ _ h (hS.pickB [1, 0] 2 rfl rfl) f1 f2 f3 (Sub.cons rfl (Sub.cons rfl (Sub.cons rfl (Sub.cons rfl (Sub.cons rfl (Sub.nil _))))))
    · replace h := (if_neg (not_true hc319)).symm.trans h
      refine e_skip ?_
      exact hJ198  _ _ _ h (hS.pickB [1, 0] 2 rfl rfl) f1 f2 f3 (Sub.cons rfl (Sub.cons rfl (Sub.cons rfl (Sub.cons rfl (Sub.cons rfl (Sub.nil _))))))
theorem law22_LineLater_w {F R : Nat → Prop} {w : World} {fuel : Nat} {a0 : (List Int)} {a1 : (List Int)} {a2 : (List Int)} {v1 : Value} {v2 : Value} {v3 : Value} {r : (Bool)} (hS : Sep F R R w w []) (f1 : IsSlice Ty.u8 w R v1 a0) (f2 : IsSlice Ty.u8 w R v2 a1) (f3 : IsSlice Ty.u8 w R v3 a2) (h : law22_LineLater fuel a0 a1 a2 = some r) :
    Gives Try.prog 9 [v1, v2, v3] w fun u w1 => ∃ (R1 : Nat → Prop), u = .bool r ∧ Sep F R R1 w w1 [] := by
  refine fn_of Try.func9 rfl Try.ntmps9 (Nat.le_of_ble_eq_true rfl) ?_
  unfold law22_LineLater at h
  refine e_seq fun K792 hK792 => ?_
  refine e_region_text rfl ?_
  refine q_assign rfl rfl ?_
  refine eseq_nil ?_
  refine hK792 _ _ ?_
  refine e_seq fun K793 hK793 => ?_
  refine e_seq fun K794 hK794 => ?_
  refine e_region_text rfl ?_
  obtain ⟨r796, hr796, h⟩ := Option.of_bind h
  refine q_call rfl (law22_awake_w (Sep.enter (As := []) hS)  hr796) rfl ?_
  rintro _ w795 ⟨R795, rfl, hC795⟩
  have hB795 : Below (World.heap w).size w w795 := hC795.stepB0
  refine ⟨fun _ => .of_below hB795, ?_⟩
  replace f1 := (f1.ext hB795).mono fun k hk _ => hC795.ro0 k hk
  replace f2 := (f2.ext hB795).mono fun k hk _ => hC795.ro0 k hk
  replace f3 := (f3.ext hB795).mono fun k hk _ => hC795.ro0 k hk
  replace hS := Sep.leave (As := []) hS hC795; simp only [List.cons_append, List.nil_append] at hS
  refine q_not rfl rfl ?_
  refine eseq_nil ?_
  refine hK794 _ _ ?_
  refine e_cond rfl (fun hc797 => ?_) (fun hc797 => ?_)
  · replace h := (if_pos hc797).symm.trans h
    refine e_seq fun K798 hK798 => ?_
    refine e_region_text rfl ?_
    refine q_assign rfl rfl ?_
    refine eseq_nil ?_
    refine hK798 _ _ ?_
    refine e_ret ?_
    obtain rfl := Option.some.inj h
    exact ⟨_, res1 rfl rfl, _, rfl, hS⟩
  · replace h := (if_neg (not_true hc797)).symm.trans h
    refine e_skip ?_
    refine hK793 _ _ ?_
    refine e_seq fun K799 hK799 => ?_
    refine e_region_text rfl ?_
    refine q_move rfl rfl ?_
    obtain ⟨r801, hr801, h⟩ := Option.of_bind h
    refine q_call rfl (make_New_w (Sep.enter (As := []) hS) f1 hr801) rfl ?_
    rintro _ w800 ⟨B802, v803, R800, rfl, hC800, f803⟩
    have hB800 : Below (World.heap w795).size w795 w800 := hC800.stepB0
    refine ⟨fun _ => .of_below hB800, ?_⟩
    replace f2 := (f2.ext hB800).mono fun k hk _ => hC800.ro0 k hk
    replace f3 := (f3.ext hB800).mono fun k hk _ => hC800.ro0 k hk
    replace f1 := (f1.ext hB800).mono fun k hk _ => hC800.ro0 k hk
    replace hS := Sep.leave (As := []) hS hC800; simp only [List.cons_append, List.nil_append] at hS
    obtain ⟨r805, hr805, h⟩ := Option.of_bind h
    refine q_call rfl (make_Codes_Pattern_w (Sep.enter (As := [_]) hS) f803 hr805) rfl ?_
    rintro _ w804 ⟨v806, v807, v808, R804, rfl, hC804, f806, f807⟩
    refine ⟨(fun h => by cases h), ?_⟩
    have hk804 := hC804.keptR (Sep.offFeet (As := [_]) hS)
    replace f2 := (f2.kept hk804).mono fun k hk _ => hC804.ro0 k hk
    replace f3 := (f3.kept hk804).mono fun k hk _ => hC804.ro0 k hk
    replace f803 := (f803.kept hk804).mono fun k hk _ => hC804.ro0 k hk
    replace hS := Sep.leave (As := [_]) hS hC804; simp only [List.cons_append, List.nil_append] at hS
    refine q_allocB rfl fun w809 bl809 hg809 hb809 hB809 => ?_
    replace f2 := f2.ext hB809
    replace f3 := f3.ext hB809
    replace f806 := f806.ext hB809
    replace f807 := f807.ext hB809
    replace hS := hS.newBlk hB809 hg809 hb809
    refine q_storeAgg rfl rfl (hS.blk 0 rfl) rfl (Nat.le_of_ble_eq_true rfl) (all_cons f806.one (all_cons f807.one (all_cons (hS.own 2 rfl).one (all_nil)))) rfl rfl fun w811 hb811 hO811 => ?_
    simp only [setN, List.set, List.take, List.drop] at hb811
    have hk811 := hS.keptBlk 0 rfl hO811
    replace f2 := f2.kept hk811
    replace f3 := f3.kept hk811
    replace f806 := f806.kept hk811
    replace f807 := f807.kept hk811
    replace hS := hS.setBlk 0 rfl hb811 hO811; simp only [List.set] at hS
    refine eseq_nil ?_
    refine hK799 _ _ ?_
    refine e_seq fun K812 hK812 => ?_
    refine e_region_text rfl ?_
    refine q_loadAgg rfl (Blk.cellsAt (hS.blk 0 rfl) 0 3 rfl) rfl rfl ?_
    obtain ⟨r814, hr814, h⟩ := Option.of_bind h
    refine q_call rfl (line_Safe_w (a0 := (⟨r805.1.lens, r805.1.ckpts, r805.1.arcs⟩ : Pat)) (Sep.all w811) (f806).old (f807).old ((hS.isl 2 rfl)).old hr814) rfl ?_
    rintro v815 w813 ⟨_, R813, rfl, hC813⟩
    have hB813 : Below (World.heap w811).size w811 w813 := hC813.stepBF
    refine ⟨fun _ => .of_below hB813, ?_⟩
    replace f2 := f2.ext hB813
    replace f3 := f3.ext hB813
    replace f806 := f806.ext hB813
    replace f807 := f807.ext hB813
    replace hS := hS.newOwnS hB813 (hC813.own 0 rfl) (hC813.fresh 0 rfl) (fun _ h => h.elim)
    refine q_assign rfl rfl ?_
    refine eseq_nil ?_
    refine hK812 _ _ ?_
    refine e_seq fun K816 hK816 => ?_
    refine e_region_text rfl ?_
    refine q_move rfl rfl ?_
    obtain ⟨r818, hr818, h⟩ := Option.of_bind h
    refine q_call rfl (make_New_w (Sep.enter (As := []) hS) f2 hr818) rfl ?_
    rintro _ w817 ⟨B819, v820, R817, rfl, hC817, f820⟩
    have hB817 : Below (World.heap w813).size w813 w817 := hC817.stepB0
    refine ⟨fun _ => .of_below hB817, ?_⟩
    replace f3 := (f3.ext hB817).mono fun k hk _ => hC817.ro0 k hk
    replace f806 := (f806.ext hB817).mono fun k hk _ => hC817.ro0 k hk
    replace f807 := (f807.ext hB817).mono fun k hk _ => hC817.ro0 k hk
    replace f2 := (f2.ext hB817).mono fun k hk _ => hC817.ro0 k hk
    replace hS := Sep.leave (As := []) hS hC817; simp only [List.cons_append, List.nil_append] at hS
    refine q_assign rfl rfl ?_
    refine eseq_nil ?_
    refine hK816 _ _ ?_
    refine e_seq fun K821 hK821 => ?_
    refine e_region_text rfl ?_
    refine q_field rfl rfl ?_
    refine q_load rfl (Blk.cell (hS.blk 2 rfl) rfl) rfl ?_
    refine q_lenS rfl f806 rfl ?_
    refine q_assign rfl rfl ?_
    refine eseq_nil ?_
    refine hK821 _ _ ?_
    refine e_seq fun K822 hK822 => ?_
    refine e_block ?_
    obtain ⟨tl823, ht823, h⟩ := Option.of_bind h
    have hX823_0 : ∀ (x1325 : (List Int)) (x1328 : (List (List Int))) (x1331 : (List Arc)) (v1324 : Value) (v1327 : Value) (v1330 : Value) (R1321 : Nat → Prop) (w1322 : World) (E_ : Env), law22_LineLater_K1 fuel a2 r805 r814 x1325 x1328 x1331 = some r → Sep F R R1321 w w1322 [HP.blk bl809 [v1324, v1327, v1330] 32, HP.own Ty.int (fun _ => False) 3 v815 r814] → IsSlice Ty.u8 w1322 R1321 v3 a2 → IsSlice Ty.int w1322 R1321 v1324 x1325 → IsSlice (Ty.slice Ty.int) w1322 R1321 v1327 x1328 → IsSlice arcTy w1322 R1321 v1330 x1331 → Sub [(2, v3), (7, .pointer (some ⟨bl809, 0, none⟩)), (8, v815), (10, .int .i64 (r805.1.lens.length : Int))] E_ → K822 E_ w1322 := by
      intro x1325 x1328 x1331 v1324 v1327 v1330 R1321 w1322 E_ h hS f1323 f1326 f1329 f1332 hsub
      refine hK822 _ _ (e_sub hsub ?_); clear hsub
      unfold law22_LineLater_K1 at h
      refine e_seq fun K1334 hK1334 => ?_
      refine e_region_draw mixed (fun k => (World.heap w1322).size ≤ k) [0, 0, 2, 0, 14, 31, 63] [2, 4] [0, 1, 3, 2, 4, 5, 6] (by kernel_rfl) ?_
      have hTX := Below.refl (World.heap w1322).size w1322
      refine q_loadAgg rfl (Blk.cellsAt (hS.blk 0 rfl) 0 3 rfl) rfl rfl ?_ (hX := Nat.not_le.2 (hS.blk 0 rfl).lt)
      refine q_move rfl rfl ?_
      refine q_move rfl rfl ?_
      obtain ⟨r1346, hr1346, h⟩ := Option.of_bind h
      refine q_call rfl (make_New_w (Sep.enter (As := []) hS) f1323 hr1346) rfl ?_
      rintro _ w1345 ⟨B1347, v1348, R1345, rfl, hC1345, f1348⟩
      have hfrB1347 := Nat.le_trans hTX.size (hC1345.blkNew 0 rfl)
      have hB1345 : Below (World.heap w1322).size w1322 w1345 := hC1345.stepB0
      refine ⟨fun _ => .of_below hB1345, ?_⟩
      replace f1326 := (f1326.ext hB1345).mono fun k hk _ => hC1345.ro0 k hk
      replace f1329 := (f1329.ext hB1345).mono fun k hk _ => hC1345.ro0 k hk
      replace f1332 := (f1332.ext hB1345).mono fun k hk _ => hC1345.ro0 k hk
      replace f1323 := (f1323.ext hB1345).mono fun k hk _ => hC1345.ro0 k hk
      replace hTX := hTX.trans (Below.mono hB1345 hTX.size)
      replace hS := Sep.leave (As := []) hS hC1345; simp only [List.cons_append, List.nil_append] at hS
      obtain ⟨r1350, hr1350, h⟩ := Option.of_bind h
      refine q_call rfl (make_Codes_Procs_w (Sep.enter (As := [_]) hS) f1348 hr1350) rfl ?_
      rintro v1351 w1349 ⟨_, R1349, rfl, hC1349⟩
      refine ⟨fun _ => hC1349.relX1.mono fun k hk => by rw [hk]; exact hfrB1347, ?_⟩
      replace hTX := below_relX hTX hC1349.relX1 hfrB1347 hTX.size
      have hk1349 := hC1349.keptR (Sep.offFeet (As := [_]) hS)
      replace f1326 := (f1326.kept hk1349).mono fun k hk _ => hC1349.ro0 k hk
      replace f1329 := (f1329.kept hk1349).mono fun k hk _ => hC1349.ro0 k hk
      replace f1332 := (f1332.kept hk1349).mono fun k hk _ => hC1349.ro0 k hk
      replace f1348 := (f1348.kept hk1349).mono fun k hk _ => hC1349.ro0 k hk
      replace hS := Sep.leave (As := [_]) hS hC1349; simp only [List.cons_append, List.nil_append] at hS
      obtain ⟨r1353, hr1353, h⟩ := Option.of_bind h
      refine q_call rfl (line_Failure_w (a0 := (⟨x1325, x1328, x1331⟩ : Pat)) (Sep.all w1349) (f1326).old (f1329).old (f1332).old ((hS.isl 1 rfl)).old hr1353) rfl ?_
      rintro v1354 w1352 ⟨_, R1352, rfl, hC1352⟩
      have hB1352 : Below (World.heap w1349).size w1349 w1352 := hC1352.stepBF
      refine ⟨fun _ => .of_below hB1352, ?_⟩
      replace f1326 := f1326.ext hB1352
      replace f1329 := f1329.ext hB1352
      replace f1332 := f1332.ext hB1352
      replace hTX := hTX.trans (Below.mono hB1352 hTX.size)
      replace hS := hS.newOwnS hB1352 (hC1352.own 0 rfl) (hC1352.fresh 0 rfl) (fun _ h => h.elim)
      refine q_assign rfl rfl ?_
      refine eseq_nil ?_
      refine hK1334 _ _ ?_
      refine e_seq fun K1355 hK1355 => ?_
      refine e_region_text rfl ?_
      refine q_move rfl rfl ?_
      refine q_lenS rfl (hS.isl 4 rfl) rfl ?_
      refine q_move rfl rfl ?_
      refine q_eql rfl rfl rfl ?_
      refine q_move rfl rfl ?_
      obtain ⟨x1361, hx1360, h⟩ := Option.of_bind h
      refine g_andM 3 hx1360 rfl trivial rfl rfl ?_ ?_ ?_
      · intro hg1360 hx1360
        clear h
        have hT1360 := Below.refl (World.heap w1352).size w1352
        refine g_run rfl ?_; refine q_move rfl rfl ?_
        refine g_run rfl ?_; refine q_move rfl rfl ?_
        obtain ⟨r1363, hr1363, hx1360⟩ := Option.of_bind hx1360
        refine g_run rfl ?_; refine q_call rfl (cut_Most_w (Sep.all w1352) ((hS.isl 4 rfl)).old ((hS.isl 0 rfl)).old hr1363) rfl ?_
        rintro _ w1362 ⟨R1362, rfl, hC1362⟩
        have hB1362 : Below (World.heap w1352).size w1352 w1362 := hC1362.stepBF
        refine ⟨fun _ => .of_below hB1362, ?_⟩
        replace hT1360 := hT1360.trans (Below.mono hB1362 hT1360.size)
        replace hS := hS.below hB1362
        cases hx1360
        exact eseq_nil ⟨hT1360, Sub.set rfl (Sub.set rfl (Sub.set rfl (Sub.bool true rfl hg1360))), rfl⟩
      · intro hg1360
        refine g_skip rfl rfl rfl ?_
        refine g_skip rfl rfl rfl ?_
        refine g_skip rfl rfl rfl ?_
        exact eseq_nil ⟨rfl, Sub.set rfl (Sub.set rfl (Sub.set rfl (Sub.bool false rfl hg1360)))⟩
      intro wm1360 hBm1360; clear hx1360
      replace hS := hS.below hBm1360
      refine q_assign rfl rfl ?_
      refine eseq_nil ?_
      refine hK1355 _ _ ?_
      refine e_ret ?_
      obtain rfl := Option.some.inj h
      exact ⟨_, res1 rfl rfl, _, rfl, (hS.pickB [] 5 rfl rfl)⟩
    obtain ⟨R1364, hS, hm1364, f1364⟩ := hS.freezeOwn 4 rfl; simp only [List.eraseIdx] at hS
    replace f3 := f3.mono fun k hk _ => hm1364 k hk
    replace f806 := f806.mono fun k hk _ => hm1364 k hk
    replace f807 := f807.mono fun k hk _ => hm1364 k hk
    replace f820 := f820.mono fun k hk _ => hm1364 k hk
    refine e_loop (fun m_ E_ w1078 => ∃ (x1081 : (List Int)), ∃ (x1084 : (List (List Int))), ∃ (x1087 : (List Arc)), ∃ (x1091 : Int), ∃ (v1080 : Value), ∃ (v1083 : Value), ∃ (v1086 : Value), ∃ (R1077 : Nat → Prop), iter (fun s => law22_LineLater_B1 fuel r818 r805 s.1 s.2.1 s.2.2.1 s.2.2.2) m_ (x1081, x1084, x1087, x1091) = some tl823 ∧ Sep F R R1077 w w1078 [HP.blk bl809 [v1080, v1083, v1086] 32, HP.own Ty.int (fun _ => False) 3 v815 r814, HP.blk B819 [v820, .int .i64 x1091] 62] ∧ IsSlice Ty.u8 w1078 R1077 v3 a2 ∧ IsSlice Ty.int w1078 R1077 v1080 x1081 ∧ IsSlice (Ty.slice Ty.int) w1078 R1077 v1083 x1084 ∧ IsSlice arcTy w1078 R1077 v1086 x1087 ∧ IsSlice Ty.u8 w1078 R1077 v820 r818.1 ∧ E_ = [(2, v3), (7, .pointer (some ⟨bl809, 0, none⟩)), (8, v815), (9, .pointer (some ⟨B819, 0, none⟩)), (10, .int .i64 (r805.1.lens.length : Int))]) _ ⟨_, ⟨r805.1.lens, r805.1.ckpts, r805.1.arcs, r818.2, v806, v807, v808, _, ht823, (hS.pickB [2, 1, 0] 4 rfl rfl), f3, f806, f807, f1364, f820, rfl⟩, Sub.cons rfl (Sub.cons rfl (Sub.cons rfl (Sub.cons rfl (Sub.cons rfl (Sub.nil _)))))⟩ ?_
    clear ht823 hS
    rintro m823 _ w1078 ⟨x1081, x1084, x1087, x1091, v1080, v1083, v1086, R1077, ht823, hS, f1079, f1082, f1085, f1088, f1090, rfl⟩
    obtain ⟨m823, rfl, o823, ho823, ht823⟩ := iter_some ht823
    replace ho823 : law22_LineLater_B1 fuel r818 r805 x1081 x1084 x1087 x1091 = some o823 := ho823
    unfold law22_LineLater_B1 at ho823
    refine e_seq fun K1365 hK1365 => ?_
    refine e_seq fun K1366 hK1366 => ?_
    refine e_region_text rfl ?_
    refine q_move rfl rfl ?_
    obtain ⟨r1368, hr1368, ho823⟩ := Option.of_bind ho823
    refine q_call rfl (make_Codes_Left_w (Sep.all w1078) (Lent.of (hS.blk 2 rfl)) (f1090).old hr1368) rfl ?_
    rintro _ w1367 ⟨R1367, rfl, hC1367⟩
    have hB1367 : Below (World.heap w1078).size w1078 w1367 := hC1367.stepBF
    refine ⟨fun _ => .of_below hB1367, ?_⟩
    replace f1079 := f1079.ext hB1367
    replace f1082 := f1082.ext hB1367
    replace f1085 := f1085.ext hB1367
    replace f1088 := f1088.ext hB1367
    replace f1090 := f1090.ext hB1367
    replace hS := hS.below hB1367
    refine eseq_nil ?_
    refine hK1366 _ _ ?_
    refine e_cond rfl (fun hc1369 => ?_) (fun hc1369 => ?_)
    · replace ho823 := (if_pos hc1369).symm.trans ho823
      refine e_skip ?_
      refine hK1365 _ _ ?_
      refine e_block ?_
      refine e_seq fun K1370 hK1370 => ?_
      refine e_region_text rfl ?_
      refine q_move rfl rfl ?_
      refine q_move rfl rfl ?_
      obtain ⟨r1372, hr1372, ho823⟩ := Option.of_bind ho823
      replace hS := hS.pickB [2, 0, 1] 3 rfl rfl; simp only [List.map_cons, List.map_nil, List.getD_cons_zero, List.getD_cons_succ] at hS
      refine q_call rfl (make_Codes_Next_w (Sep.enter (As := [_]) hS) f1090 hr1372) rfl ?_
      rintro _ w1371 ⟨R1371, rfl, hC1371⟩
      refine ⟨(fun h => by cases h), ?_⟩
      have hk1371 := hC1371.keptR (Sep.offFeet (As := [_]) hS)
      replace f1079 := (f1079.kept hk1371).mono fun k hk _ => hC1371.ro0 k hk
      replace f1082 := (f1082.kept hk1371).mono fun k hk _ => hC1371.ro0 k hk
      replace f1085 := (f1085.kept hk1371).mono fun k hk _ => hC1371.ro0 k hk
      replace f1088 := (f1088.kept hk1371).mono fun k hk _ => hC1371.ro0 k hk
      replace f1090 := (f1090.kept hk1371).mono fun k hk _ => hC1371.ro0 k hk
      replace hS := Sep.leave (As := [_]) hS hC1371; simp only [List.cons_append, List.nil_append] at hS
      refine q_move rfl rfl ?_
      refine q_move rfl rfl ?_
      obtain ⟨r1374, hr1374, ho823⟩ := Option.of_bind ho823
      refine q_call rfl (make_Codes_Next_w (Sep.enter (As := [_]) hS) f1090 hr1374) rfl ?_
      rintro _ w1373 ⟨R1373, rfl, hC1373⟩
      refine ⟨(fun h => by cases h), ?_⟩
      have hk1373 := hC1373.keptR (Sep.offFeet (As := [_]) hS)
      replace f1079 := (f1079.kept hk1373).mono fun k hk _ => hC1373.ro0 k hk
      replace f1082 := (f1082.kept hk1373).mono fun k hk _ => hC1373.ro0 k hk
      replace f1085 := (f1085.kept hk1373).mono fun k hk _ => hC1373.ro0 k hk
      replace f1088 := (f1088.kept hk1373).mono fun k hk _ => hC1373.ro0 k hk
      replace f1090 := (f1090.kept hk1373).mono fun k hk _ => hC1373.ro0 k hk
      replace hS := Sep.leave (As := [_]) hS hC1373; simp only [List.cons_append, List.nil_append] at hS
      refine q_assign rfl rfl ?_
      refine q_assign rfl rfl ?_
      refine eseq_nil ?_
      refine hK1370 _ _ ?_
      refine e_seq fun K1375 hK1375 => ?_
      have hJ1375 : ∀ (x1472 : (List Int)) (x1475 : (List (List Int))) (x1478 : (List Arc)) (x1482 : Int) (v1471 : Value) (v1474 : Value) (v1477 : Value) (R1468 : Nat → Prop) (w1469 : World) (E_ : Env), law22_LineLater_J1 fuel r805 x1472 x1475 x1478 x1482 = some o823 → Sep F R R1468 w w1469 [HP.blk bl809 [v1471, v1474, v1477] 32, HP.own Ty.int (fun _ => False) 3 v815 r814, HP.blk B819 [v820, .int .i64 x1482] 62] → IsSlice Ty.u8 w1469 R1468 v3 a2 → IsSlice Ty.int w1469 R1468 v1471 x1472 → IsSlice (Ty.slice Ty.int) w1469 R1468 v1474 x1475 → IsSlice arcTy w1469 R1468 v1477 x1478 → IsSlice Ty.u8 w1469 R1468 v820 r818.1 → Sub [(2, v3), (7, .pointer (some ⟨bl809, 0, none⟩)), (8, v815), (9, .pointer (some ⟨B819, 0, none⟩)), (10, .int .i64 (r805.1.lens.length : Int))] E_ → K1375 E_ w1469 := by
        intro x1472 x1475 x1478 x1482 v1471 v1474 v1477 R1468 w1469 E_ ho823 hS f1470 f1473 f1476 f1479 f1481 hsub
        refine hK1375 _ _ (e_sub hsub ?_); clear hsub
        unfold law22_LineLater_J1 at ho823
        refine e_seq fun K1483 hK1483 => ?_
        refine e_region_text rfl ?_
        refine q_field rfl rfl ?_
        refine q_load rfl (Blk.cell (hS.blk 0 rfl) rfl) rfl ?_
        refine q_lenS rfl f1473 rfl ?_
        refine q_move rfl rfl ?_
        refine q_neq rfl rfl rfl ?_
        refine eseq_nil ?_
        refine hK1483 _ _ ?_
        refine e_cond rfl (fun hc1484 => ?_) (fun hc1484 => ?_)
        · replace ho823 := (if_pos hc1484).symm.trans ho823
          refine e_seq fun K1485 hK1485 => ?_
          refine e_region_text rfl ?_
          refine q_assign rfl rfl ?_
          refine eseq_nil ?_
          refine hK1485 _ _ ?_
          refine e_ret ?_
          obtain rfl := Option.some.inj ho823
          obtain rfl := Option.some.inj ht823
          obtain rfl := Option.some.inj h
          exact ⟨_, res1 rfl rfl, _, rfl, (hS.pickB [] 3 rfl rfl)⟩
        · replace ho823 := (if_neg (not_true hc1484)).symm.trans ho823
          refine e_skip ?_
          obtain rfl := Option.some.inj ho823
          exact ⟨m823, _, Nat.lt_succ_self _, ⟨x1472, x1475, x1478, x1482, v1471, v1474, v1477, _, ht823, hS, f1470, f1473, f1476, f1479, f1481, rfl⟩, Sub.cons rfl (Sub.cons rfl (Sub.cons rfl (Sub.cons rfl (Sub.cons rfl (Sub.nil _)))))⟩
      refine e_seq fun K1486 hK1486 => ?_
      refine e_region_text rfl ?_
      refine q_move rfl rfl ?_
      refine q_move rfl rfl ?_
      refine q_eql rfl rfl rfl ?_
      refine eseq_nil ?_
      refine hK1486 _ _ ?_
      refine e_cond rfl (fun hc1487 => ?_) (fun hc1487 => ?_)
      · replace ho823 := (if_pos hc1487).symm.trans ho823
        refine e_region_text rfl ?_
        refine q_loadAgg rfl (Blk.cellsAt (hS.blk 1 rfl) 0 3 rfl) rfl rfl ?_
        refine q_move rfl rfl ?_
        obtain ⟨r1489, hr1489, ho823⟩ := Option.of_bind ho823
        refine q_call rfl (pattern_Mark_w (a0 := (⟨x1081, x1084, x1087⟩ : Pat)) (Sep.enter (As := []) hS) f1082 f1085 f1088 hr1489) rfl ?_
        rintro _ w1488 ⟨v1490, v1491, v1492, R1488, rfl, hC1488, f1490, f1491, f1492⟩
        have hB1488 : Below (World.heap w1373).size w1373 w1488 := hC1488.stepB0
        refine ⟨fun _ => .of_below hB1488, ?_⟩
        replace f1079 := (f1079.ext hB1488).mono fun k hk _ => hC1488.ro0 k hk
        replace f1082 := (f1082.ext hB1488).mono fun k hk _ => hC1488.ro0 k hk
        replace f1085 := (f1085.ext hB1488).mono fun k hk _ => hC1488.ro0 k hk
        replace f1088 := (f1088.ext hB1488).mono fun k hk _ => hC1488.ro0 k hk
        replace f1090 := (f1090.ext hB1488).mono fun k hk _ => hC1488.ro0 k hk
        replace hS := Sep.leave (As := []) hS hC1488; simp only [List.cons_append, List.nil_append] at hS
        refine q_storeAgg rfl rfl (hS.blk 1 rfl) rfl (Nat.le_of_ble_eq_true rfl) (all_cons f1490.one (all_cons f1491.one (all_cons f1492.one (all_nil)))) rfl rfl fun w1493 hb1493 hO1493 => ?_
        simp only [setN, List.set, List.take, List.drop] at hb1493
        have hk1493 := hS.keptBlk 1 rfl hO1493
        replace f1079 := f1079.kept hk1493
        replace f1490 := f1490.kept hk1493
        replace f1491 := f1491.kept hk1493
        replace f1492 := f1492.kept hk1493
        replace f1090 := f1090.kept hk1493
        replace hS := hS.setBlk 1 rfl hb1493 hO1493; simp only [List.set] at hS
        refine eseq_nil ?_
        exact hJ1375 r1489.lens r1489.ckpts r1489.arcs r1374.2 v1490 v1491 v1492 _ _ _ ho823 (hS.pickB [1, 2, 0] 3 rfl rfl) f1079 f1490 f1491 f1492 f1090 (Sub.cons rfl (Sub.cons rfl (Sub.cons rfl (Sub.cons rfl (Sub.cons rfl (Sub.nil _))))))
      · replace ho823 := (if_neg (not_true hc1487)).symm.trans ho823
        refine e_seq fun K1494 hK1494 => ?_
        have hJt1550 : ∀ (r1498 : (Int × Int)) (r1500 : (Pat × Bool)) (x1543 : (List Int)) (x1545 : (List (List Int))) (x1548 : (List Arc)) (B1540 : Nat) (v1542 : Value) (v1544 : Value) (v1547 : Value) (R1531 : Nat → Prop) (w1532 : World) (E_ : Env), law22_LineLater_J2 fuel r1500 r805 r1498 x1081 x1084 x1087 x1543 x1545 x1548 = some o823 → Sep F R R1531 w w1532 [HP.blk bl809 [v1080, v1083, v1086] 32, HP.own Ty.int (fun _ => False) 3 v815 r814, HP.blk B819 [v820, .int .i64 r1498.2] 62, HP.blk B1540 [v1542, v1544, v1547] 32, HP.own Ty.int (fun _ => False) 3 v1542 x1543] → IsSlice Ty.u8 w1532 R1531 v3 a2 → IsSlice Ty.int w1532 R1531 v1080 x1081 → IsSlice (Ty.slice Ty.int) w1532 R1531 v1083 x1084 → IsSlice arcTy w1532 R1531 v1086 x1087 → IsSlice Ty.u8 w1532 R1531 v820 r818.1 → IsSlice (Ty.slice Ty.int) w1532 R1531 v1544 x1545 → IsSlice arcTy w1532 R1531 v1547 x1548 → Sub [(2, v3), (7, .pointer (some ⟨bl809, 0, none⟩)), (8, v815), (9, .pointer (some ⟨B819, 0, none⟩)), (10, .int .i64 (r805.1.lens.length : Int)), (13, .pointer (some ⟨B1540, 0, none⟩)), (14, .bool r1500.2)] E_ → K1494 E_ w1532 := by
          intro r1498 r1500 x1543 x1545 x1548 B1540 v1542 v1544 v1547 R1531 w1532 E_ ho823 hS f1533 f1534 f1535 f1536 f1538 f1546 f1549 hsub
          refine hK1494 _ _ (e_sub hsub ?_); clear hsub
          unfold law22_LineLater_J2 at ho823
          refine e_seq fun K1551 hK1551 => ?_
          refine e_region_text rfl ?_
          refine q_move rfl rfl ?_
          refine eseq_nil ?_
          refine hK1551 _ _ ?_
          refine e_cond rfl (fun hc1552 => ?_) (fun hc1552 => ?_)
          · replace ho823 := (if_pos hc1552).symm.trans ho823
            refine e_region_text rfl ?_
            refine q_loadAgg rfl (Blk.cellsAt (hS.blk 3 rfl) 0 3 rfl) rfl rfl ?_
            refine q_storeAgg rfl rfl (hS.blk 0 rfl) rfl (Nat.le_of_ble_eq_true rfl) (all_cons (hS.own 4 rfl).one (all_cons f1546.one (all_cons f1549.one (all_nil)))) rfl rfl fun w1553 hb1553 hO1553 => ?_
            simp only [setN, List.set, List.take, List.drop] at hb1553
            have hk1553 := hS.keptBlk 0 rfl hO1553
            replace f1533 := f1533.kept hk1553
            replace f1546 := f1546.kept hk1553
            replace f1549 := f1549.kept hk1553
            replace f1538 := f1538.kept hk1553
            replace hS := hS.setBlk 0 rfl hb1553 hO1553; simp only [List.set] at hS
            refine eseq_nil ?_
            obtain ⟨R1554, hS, hm1554, f1554⟩ := hS.freezeOwn 4 rfl; simp only [List.eraseIdx] at hS
            replace f1533 := f1533.mono fun k hk _ => hm1554 k hk
            replace f1546 := f1546.mono fun k hk _ => hm1554 k hk
            replace f1549 := f1549.mono fun k hk _ => hm1554 k hk
            replace f1538 := f1538.mono fun k hk _ => hm1554 k hk
            exact hJ1375 x1543 x1545 x1548 r1498.2 v1542 v1544 v1547 _ _ _ ho823 (hS.pickB [0, 1, 2] 4 rfl rfl) f1533 f1554 f1546 f1549 f1538 (Sub.cons rfl (Sub.cons rfl (Sub.cons rfl (Sub.cons rfl (Sub.cons rfl (Sub.nil _))))))
          · replace ho823 := (if_neg (not_true hc1552)).symm.trans ho823
            refine e_skip ?_
            exact hJ1375 x1081 x1084 x1087 r1498.2 v1080 v1083 v1086 _ _ _ ho823 (hS.pickB [0, 1, 2] 5 rfl rfl) f1533 f1534 f1535 f1536 f1538 (Sub.cons rfl (Sub.cons rfl (Sub.cons rfl (Sub.cons rfl (Sub.cons rfl (Sub.nil _))))))
        obtain ⟨x1495, hx1495, ho823⟩ := Option.of_bind ho823
        obtain ⟨r1498, hr1498, ho823⟩ := Option.of_bind ho823
        obtain ⟨r1500, hr1500, ho823⟩ := Option.of_bind ho823
        refine e_region_T mixed (fun k => k = B819) [0, 0, 0, 0, 0, 16, 0, 112, 240, 496, 1016, 2047, 4095, 8191, 8191, 0, 49151, 131071] [10, 15] (QT.op 0 (QT.op 1 (QT.op 2 (QT.op 3 (QT.op 4 (QT.op 5 (QT.op 6 (QT.op 7 (QT.op 8 (QT.op 9 (QT.alt (QT.op 10 (QT.alt (QT.op 11 (QT.op 12 (QT.op 13 (QT.op 14 (QT.op 15 (QT.op 16 (QT.op 17 QT.fin))))))) (QT.op 15 (QT.op 11 (QT.op 12 (QT.op 13 (QT.op 14 (QT.op 16 (QT.op 17 QT.fin))))))))) (QT.op 15 (QT.op 10 (QT.op 11 (QT.op 12 (QT.op 13 (QT.op 14 (QT.op 16 (QT.op 17 QT.fin))))))))))))))))))) (by kernel_rfl) ?_
        refine t_op ?_
        refine q_loadAgg rfl (Blk.cellsAt (hS.blk 1 rfl) 0 3 rfl) rfl rfl ?_ (hX := fun hx_ => hS.apart 1 0 rfl rfl (by decide) _ rfl hx_)
        refine eseq_nil ?_
        refine t_op ?_
        refine q_move rfl rfl ?_
        refine eseq_nil ?_
        refine t_op ?_
        refine q_move rfl rfl ?_
        refine eseq_nil ?_
        refine t_op ?_
        refine q_move rfl rfl ?_
        refine eseq_nil ?_
        refine t_op ?_
        refine q_field rfl rfl ?_
        refine eseq_nil ?_
        refine t_op ?_
        refine q_load rfl (Blk.cell (hS.blk 1 rfl) rfl) rfl ?_ (hX := fun hx_ => hS.apart 1 0 rfl rfl (by decide) _ rfl hx_)
        refine eseq_nil ?_
        refine t_op ?_
        refine q_move rfl rfl ?_
        refine eseq_nil ?_
        refine t_op ?_
        refine q_atS (by infer_instance) rfl f1082 rfl hx1495 rfl fun b1555 o1555 hm1555 f1555 => ?_
        refine eseq_nil ?_
        refine t_op ?_
        refine q_load rfl (Elt.intCell f1555) rfl ?_ (hX := fun hx_ => hS.off 0 rfl _ hm1555 hx_)
        refine eseq_nil ?_
        refine t_op ?_
        refine q_addW rfl rfl rfl ?_
        refine eseq_nil ?_
        refine t_alt ?_ ?_
        · skip
          refine t_op ?_
          refine q_call rfl (make_Codes_Next_w (Sep.enter (As := [_]) hS) f1090 hr1498) rfl ?_
          rintro _ w1556 ⟨R1556, rfl, hC1556⟩
          refine ⟨fun _ => hC1556.relX1, ?_⟩
          have hk1556 := hC1556.keptR (Sep.offFeet (As := [_]) hS)
          replace f1079 := (f1079.kept hk1556).mono fun k hk _ => hC1556.ro0 k hk
          replace f1082 := (f1082.kept hk1556).mono fun k hk _ => hC1556.ro0 k hk
          replace f1085 := (f1085.kept hk1556).mono fun k hk _ => hC1556.ro0 k hk
          replace f1088 := (f1088.kept hk1556).mono fun k hk _ => hC1556.ro0 k hk
          replace f1090 := (f1090.kept hk1556).mono fun k hk _ => hC1556.ro0 k hk
          replace hS := Sep.leave (As := [_]) hS hC1556; simp only [List.cons_append, List.nil_append] at hS
          refine eseq_nil ?_
          refine t_alt ?_ ?_
          · skip
            refine t_op ?_
            refine q_call rfl (pattern_Append_w (a0 := (⟨x1081, x1084, x1087⟩ : Pat)) (Sep.enter (As := []) hS) f1082 f1085 f1088 hr1500) rfl ?_
            rintro _ w1557 ⟨v1558, v1559, v1560, R1557, rfl, hC1557, f1559, f1560⟩
            have hB1557 : Below (World.heap w1556).size w1556 w1557 := hC1557.stepB0
            refine ⟨fun _ => .of_below hB1557, ?_⟩
            replace f1079 := (f1079.ext hB1557).mono fun k hk _ => hC1557.ro0 k hk
            replace f1082 := (f1082.ext hB1557).mono fun k hk _ => hC1557.ro0 k hk
            replace f1085 := (f1085.ext hB1557).mono fun k hk _ => hC1557.ro0 k hk
            replace f1088 := (f1088.ext hB1557).mono fun k hk _ => hC1557.ro0 k hk
            replace f1090 := (f1090.ext hB1557).mono fun k hk _ => hC1557.ro0 k hk
            replace hS := Sep.leave (As := []) hS hC1557; simp only [List.cons_append, List.nil_append] at hS
            refine eseq_nil ?_
            refine t_op ?_
            refine q_move rfl rfl ?_
            refine eseq_nil ?_
            refine t_op ?_
            refine q_extract rfl rfl rfl ?_
            refine eseq_nil ?_
            refine t_op ?_
            refine q_extract rfl rfl rfl ?_
            refine eseq_nil ?_
            refine t_op ?_
            refine q_allocB rfl fun w1561 bl1561 hg1561 hb1561 hB1561 => ?_
            replace f1079 := f1079.ext hB1561
            replace f1082 := f1082.ext hB1561
            replace f1085 := f1085.ext hB1561
            replace f1088 := f1088.ext hB1561
            replace f1090 := f1090.ext hB1561
            replace f1559 := f1559.ext hB1561
            replace f1560 := f1560.ext hB1561
            replace hS := hS.newBlk hB1561 hg1561 hb1561
            refine eseq_nil ?_
            refine t_op ?_
            refine q_storeAgg rfl rfl (hS.blk 0 rfl) rfl (Nat.le_of_ble_eq_true rfl) (all_cons (hS.own 1 rfl).one (all_cons f1559.one (all_cons f1560.one (all_nil)))) rfl rfl fun w1563 hb1563 hO1563 => ?_
            simp only [setN, List.set, List.take, List.drop] at hb1563
            have hk1563 := hS.keptBlk 0 rfl hO1563
            replace f1079 := f1079.kept hk1563
            replace f1082 := f1082.kept hk1563
            replace f1085 := f1085.kept hk1563
            replace f1088 := f1088.kept hk1563
            replace f1090 := f1090.kept hk1563
            replace f1559 := f1559.kept hk1563
            replace f1560 := f1560.kept hk1563
            replace hS := hS.setBlk 0 rfl hb1563 hO1563; simp only [List.set] at hS
            refine eseq_nil ?_
            refine t_op ?_
            refine q_assign rfl rfl ?_
            refine eseq_nil ?_
            refine t_fin ?_
            exact hJt1550 r1498 r1500 r1500.1.lens r1500.1.ckpts r1500.1.arcs bl1561 v1558 v1559 v1560 _ _ _ ho823 (hS.pickB [3, 4, 2, 0, 1] 5 rfl rfl) f1079 f1082 f1085 f1088 f1090 f1559 f1560 (Sub.cons rfl (Sub.cons rfl (Sub.cons rfl (Sub.cons rfl (Sub.cons rfl (Sub.cons rfl (Sub.cons rfl (Sub.nil _))))))))
          · skip
            refine t_op ?_
            refine q_allocB rfl fun w1564 bl1564 hg1564 hb1564 hB1564 => ?_
            replace f1079 := f1079.ext hB1564
            replace f1082 := f1082.ext hB1564
            replace f1085 := f1085.ext hB1564
            replace f1088 := f1088.ext hB1564
            replace f1090 := f1090.ext hB1564
            replace hS := hS.newBlk hB1564 hg1564 hb1564
            refine eseq_nil ?_
            refine t_op ?_
            refine q_call rfl (pattern_Append_w (a0 := (⟨x1081, x1084, x1087⟩ : Pat)) (Sep.enter (As := []) hS) f1082 f1085 f1088 hr1500) rfl ?_
            rintro _ w1566 ⟨v1567, v1568, v1569, R1566, rfl, hC1566, f1568, f1569⟩
            have hB1566 : Below (World.heap w1564).size w1564 w1566 := hC1566.stepB0
            refine ⟨fun _ => .of_below hB1566, ?_⟩
            replace f1079 := (f1079.ext hB1566).mono fun k hk _ => hC1566.ro0 k hk
            replace f1082 := (f1082.ext hB1566).mono fun k hk _ => hC1566.ro0 k hk
            replace f1085 := (f1085.ext hB1566).mono fun k hk _ => hC1566.ro0 k hk
            replace f1088 := (f1088.ext hB1566).mono fun k hk _ => hC1566.ro0 k hk
            replace f1090 := (f1090.ext hB1566).mono fun k hk _ => hC1566.ro0 k hk
            replace hS := Sep.leave (As := []) hS hC1566; simp only [List.cons_append, List.nil_append] at hS
            refine eseq_nil ?_
            refine t_op ?_
            refine q_move rfl rfl ?_
            refine eseq_nil ?_
            refine t_op ?_
            refine q_extract rfl rfl rfl ?_
            refine eseq_nil ?_
            refine t_op ?_
            refine q_extract rfl rfl rfl ?_
            refine eseq_nil ?_
            refine t_op ?_
            refine q_storeAgg rfl rfl (hS.blk 1 rfl) rfl (Nat.le_of_ble_eq_true rfl) (all_cons (hS.own 0 rfl).one (all_cons f1568.one (all_cons f1569.one (all_nil)))) rfl rfl fun w1570 hb1570 hO1570 => ?_
            simp only [setN, List.set, List.take, List.drop] at hb1570
            have hk1570 := hS.keptBlk 1 rfl hO1570
            replace f1079 := f1079.kept hk1570
            replace f1082 := f1082.kept hk1570
            replace f1085 := f1085.kept hk1570
            replace f1088 := f1088.kept hk1570
            replace f1090 := f1090.kept hk1570
            replace f1568 := f1568.kept hk1570
            replace f1569 := f1569.kept hk1570
            replace hS := hS.setBlk 1 rfl hb1570 hO1570; simp only [List.set] at hS
            refine eseq_nil ?_
            refine t_op ?_
            refine q_assign rfl rfl ?_
            refine eseq_nil ?_
            refine t_fin ?_
            exact hJt1550 r1498 r1500 r1500.1.lens r1500.1.ckpts r1500.1.arcs bl1564 v1567 v1568 v1569 _ _ _ ho823 (hS.pickB [3, 4, 2, 1, 0] 5 rfl rfl) f1079 f1082 f1085 f1088 f1090 f1568 f1569 (Sub.cons rfl (Sub.cons rfl (Sub.cons rfl (Sub.cons rfl (Sub.cons rfl (Sub.cons rfl (Sub.cons rfl (Sub.nil _))))))))
        · skip
          refine t_op ?_
          refine q_allocB rfl fun w1571 bl1571 hg1571 hb1571 hB1571 => ?_
          replace f1079 := f1079.ext hB1571
          replace f1082 := f1082.ext hB1571
          replace f1085 := f1085.ext hB1571
          replace f1088 := f1088.ext hB1571
          replace f1090 := f1090.ext hB1571
          replace f1555 := f1555.ext hB1571
          replace hS := hS.newBlk hB1571 hg1571 hb1571
          refine eseq_nil ?_
          refine t_op ?_
          replace hS := hS.pickB [1, 0, 2, 3] 4 rfl rfl; simp only [List.map_cons, List.map_nil, List.getD_cons_zero, List.getD_cons_succ] at hS
          refine q_call rfl (make_Codes_Next_w (Sep.enter (As := [_]) hS) f1090 hr1498) rfl ?_
          rintro _ w1573 ⟨R1573, rfl, hC1573⟩
          refine ⟨fun _ => hC1573.relX1, ?_⟩
          have hk1573 := hC1573.keptR (Sep.offFeet (As := [_]) hS)
          replace f1079 := (f1079.kept hk1573).mono fun k hk _ => hC1573.ro0 k hk
          replace f1082 := (f1082.kept hk1573).mono fun k hk _ => hC1573.ro0 k hk
          replace f1085 := (f1085.kept hk1573).mono fun k hk _ => hC1573.ro0 k hk
          replace f1088 := (f1088.kept hk1573).mono fun k hk _ => hC1573.ro0 k hk
          replace f1090 := (f1090.kept hk1573).mono fun k hk _ => hC1573.ro0 k hk
          replace hS := Sep.leave (As := [_]) hS hC1573; simp only [List.cons_append, List.nil_append] at hS
          refine eseq_nil ?_
          refine t_op ?_
          refine q_call rfl (pattern_Append_w (a0 := (⟨x1081, x1084, x1087⟩ : Pat)) (Sep.enter (As := []) hS) f1082 f1085 f1088 hr1500) rfl ?_
          rintro _ w1574 ⟨v1575, v1576, v1577, R1574, rfl, hC1574, f1576, f1577⟩
          have hB1574 : Below (World.heap w1573).size w1573 w1574 := hC1574.stepB0
          refine ⟨fun _ => .of_below hB1574, ?_⟩
          replace f1079 := (f1079.ext hB1574).mono fun k hk _ => hC1574.ro0 k hk
          replace f1082 := (f1082.ext hB1574).mono fun k hk _ => hC1574.ro0 k hk
          replace f1085 := (f1085.ext hB1574).mono fun k hk _ => hC1574.ro0 k hk
          replace f1088 := (f1088.ext hB1574).mono fun k hk _ => hC1574.ro0 k hk
          replace f1090 := (f1090.ext hB1574).mono fun k hk _ => hC1574.ro0 k hk
          replace hS := Sep.leave (As := []) hS hC1574; simp only [List.cons_append, List.nil_append] at hS
          refine eseq_nil ?_
          refine t_op ?_
          refine q_move rfl rfl ?_
          refine eseq_nil ?_
          refine t_op ?_
          refine q_extract rfl rfl rfl ?_
          refine eseq_nil ?_
          refine t_op ?_
          refine q_extract rfl rfl rfl ?_
          refine eseq_nil ?_
          refine t_op ?_
          refine q_storeAgg rfl rfl (hS.blk 2 rfl) rfl (Nat.le_of_ble_eq_true rfl) (all_cons (hS.own 0 rfl).one (all_cons f1576.one (all_cons f1577.one (all_nil)))) rfl rfl fun w1578 hb1578 hO1578 => ?_
          simp only [setN, List.set, List.take, List.drop] at hb1578
          have hk1578 := hS.keptBlk 2 rfl hO1578
          replace f1079 := f1079.kept hk1578
          replace f1082 := f1082.kept hk1578
          replace f1085 := f1085.kept hk1578
          replace f1088 := f1088.kept hk1578
          replace f1090 := f1090.kept hk1578
          replace f1576 := f1576.kept hk1578
          replace f1577 := f1577.kept hk1578
          replace hS := hS.setBlk 2 rfl hb1578 hO1578; simp only [List.set] at hS
          refine eseq_nil ?_
          refine t_op ?_
          refine q_assign rfl rfl ?_
          refine eseq_nil ?_
          refine t_fin ?_
          exact hJt1550 r1498 r1500 r1500.1.lens r1500.1.ckpts r1500.1.arcs bl1571 v1575 v1576 v1577 _ _ _ ho823 (hS.pickB [3, 4, 1, 2, 0] 5 rfl rfl) f1079 f1082 f1085 f1088 f1090 f1576 f1577 (Sub.cons rfl (Sub.cons rfl (Sub.cons rfl (Sub.cons rfl (Sub.cons rfl (Sub.cons rfl (Sub.cons rfl (Sub.nil _))))))))
    · replace ho823 := (if_neg (not_true hc1369)).symm.trans ho823
      refine e_exit ?_
      obtain rfl := Option.some.inj ho823
      obtain rfl := Option.some.inj ht823
      exact hX823_0 x1081 x1084 x1087 v1080 v1083 v1086 _ _ _ h (hS.pickB [0, 1] 3 rfl rfl) f1079 f1082 f1085 f1088 (Sub.cons rfl (Sub.cons rfl (Sub.cons rfl (Sub.cons rfl (Sub.nil _)))))
end Go.Proofs.Ytdjkdbojmcdogaa
