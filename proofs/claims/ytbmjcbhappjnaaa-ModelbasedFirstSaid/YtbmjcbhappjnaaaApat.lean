/- Printed walks: Apat. -/
import Derived.Test.YtbmjcbhappjnaaaAmk
set_option linter.unusedVariables false
set_option linter.unusedSimpArgs false
namespace Go.Mine
open Go.RowKit
def ref16_proc (fuel : Nat) (a0 : Pat) (a1 : Int) : Option (Bool) :=
  (andM (decide (0 ≤ a1)) (some (decide (a1 < (a0.lens.length : Int))))).bind fun x19 => some x19
def ref16_Mark_J2 (fuel : Nat) (a0 : Pat) (x193 : (List (List Int))) : Option (Pat) :=
  some (⟨a0.lens, x193, a0.arcs⟩ : Pat)
def ref16_Mark_J1 (fuel : Nat) (a0 : Pat) (a1 : Int) (x138 : (List Int)) (x178 : (List (List Int))) : Option (Pat) :=
  (ati a0.lens a1).bind fun x181 => (catL ([] : List Int) x138).bind fun x185 => (snoc x185 x181).bind fun x189 => (ati x178 a1).bind fun x190 => (seti x178 a1 x189).bind fun x193 => ref16_Mark_J2 fuel a0 x193
def ref16_Mark (fuel : Nat) (a0 : Pat) (a1 : Int) : Option (Pat) :=
  (ref16_proc fuel (⟨a0.lens, a0.ckpts, a0.arcs⟩ : Pat) a1).bind fun r133 => (if (!r133) = true then some (⟨a0.lens, a0.ckpts, a0.arcs⟩ : Pat) else (ati a0.ckpts a1).bind fun x138 => (ati x138 (w64 ((x138.length : Int) - 1))).bind fun x143 => (ati a0.lens a1).bind fun x145 => (if (x143 == x145) = true then some (⟨a0.lens, a0.ckpts, a0.arcs⟩ : Pat) else (catL ([] : List (List Int)) a0.ckpts).bind fun x153 => ref16_Mark_J1 fuel a0 a1 x138 x153))
def ref16_Append_J1 (fuel : Nat) (a1 : Int) (a2 : Int) (a0 : Pat) (a3 : Int) (x204 : (List Int)) (x208 : (List Arc)) : Option (Pat × Bool) :=
  (ati x204 a1).bind fun x211 => (ati x204 a1).bind fun x213 => (seti x204 a1 (w64 (x211 + 1))).bind fun x215 => (if (a2 == (-1)) = true then some ((⟨x215, a0.ckpts, x208⟩ : Pat), true) else (ref16_proc fuel (⟨a0.lens, a0.ckpts, a0.arcs⟩ : Pat) a2).bind fun r224 => (orM (!r224) (some (a2 == a1))).bind fun x228 => (orM x228 (some (decide (a3 < 0)))).bind fun x232 => (orM x232 ((ati a0.lens a2).bind fun x239 => some (decide (x239 < a3)))).bind fun x238 => (orM x238 (some (decide (256 ≤ (a0.arcs.length : Int))))).bind fun x244 => (if x244 = true then some ((⟨([] : List Int), ([] : List (List Int)), ([] : List Arc)⟩ : Pat), false) else (ati x215 a1).bind fun x258 => (snoc x208 (⟨a2, a3, a1, x258⟩ : Arc)).bind fun x263 => some ((⟨x215, a0.ckpts, x263⟩ : Pat), true)))
def ref16_Append (fuel : Nat) (a0 : Pat) (a1 : Int) (a2 : Int) (a3 : Int) : Option (Pat × Bool) :=
  (ref16_proc fuel (⟨a0.lens, a0.ckpts, a0.arcs⟩ : Pat) a1).bind fun r153 => (orM (!r153) ((ati a0.lens a1).bind fun x160 => some (decide (64 ≤ x160)))).bind fun x159 => (if x159 = true then some ((⟨([] : List Int), ([] : List (List Int)), ([] : List Arc)⟩ : Pat), false) else (catL ([] : List Int) a0.lens).bind fun x170 => (catL ([] : List Arc) a0.arcs).bind fun x173 => ref16_Append_J1 fuel a1 a2 a0 a3 x170 x173)
def make_with (fuel : Nat) (a0 : Pat) (a1 : Int) (a2 : Int) (a3 : Int) : Option (Pat) :=
  (ref16_Append fuel (⟨a0.lens, a0.ckpts, a0.arcs⟩ : Pat) a1 a2 a3).bind fun r36 => (if r36.2 = true then some (⟨r36.1.lens, r36.1.ckpts, r36.1.arcs⟩ : Pat) else some (⟨a0.lens, a0.ckpts, a0.arcs⟩ : Pat))
def make_Codes_Pattern_K2 (fuel : Nat) (x953 : Int) (x955 : (List Int)) (x959 : (List (List Int))) (x963 : (List Arc)) : Option (Pat × Int) :=
  some ((⟨x955, x959, x963⟩ : Pat), x953)
def make_Codes_Pattern_B1 (fuel : Nat) (a1 : Int) (c0_0 : (List Int)) (r544 : (Int × Int)) (x800 : Int) (x802 : (List Int)) (x806 : (List (List Int))) (x810 : (List Arc)) (x811 : Int) : Option ((Int × (List Int) × (List (List Int)) × (List Arc) × Int) ⊕ (Int × (List Int) × (List (List Int)) × (List Arc))) :=
  (andM (decide (x811 < a1)) ((make_Codes_Left fuel c0_0 x800).bind fun r980 => some r980)).bind fun x978 => (if x978 = true then (make_Codes_Next fuel (w64 (2 + r544.1)) c0_0 x800).bind fun r985 => (make_Codes_Next fuel 8 c0_0 r985.2).bind fun r988 => (if (decide (r988.1 < 2)) = true then (ref16_Mark fuel (⟨x802, x806, x810⟩ : Pat) r985.1).bind fun r992 => some (Sum.inl (r988.2, r992.lens, r992.ckpts, r992.arcs, (w64 (x811 + 1)))) else (if (r988.1 == 2) = true then (make_with fuel (⟨x802, x806, x810⟩ : Pat) r985.1 (-1) 0).bind fun r1000 => some (Sum.inl (r988.2, r1000.lens, r1000.ckpts, r1000.arcs, (w64 (x811 + 1)))) else (if (r988.1 == 3) = true then (make_Codes_Next fuel (w64 ((w64 (2 + r544.1)) - 1)) c0_0 r988.2).bind fun r1009 => (remI (w64 ((w64 (r985.1 + 1)) + r1009.1)) (w64 (2 + r544.1))).bind fun x1010 => (ati x802 x1010).bind fun x1020 => (make_Codes_Next fuel (w64 (x1020 + 1)) c0_0 r1009.2).bind fun r1023 => (snoc x810 (⟨x1010, r1023.1, r985.1, 0⟩ : Arc)).bind fun x1027 => some (Sum.inl (r1023.2, x802, x806, x1027, (w64 (x811 + 1)))) else (make_Codes_Next fuel (w64 ((w64 (2 + r544.1)) - 1)) c0_0 r988.2).bind fun r1031 => (remI (w64 ((w64 (r985.1 + 1)) + r1031.1)) (w64 (2 + r544.1))).bind fun x1032 => (ati x802 x1032).bind fun x1045 => (ati x802 x1032).bind fun x1047 => (make_Codes_Next fuel (min 3 (w64 (x1047 + 1))) c0_0 r1031.2).bind fun r1050 => (make_with fuel (⟨x802, x806, x810⟩ : Pat) r985.1 x1032 (w64 (x1045 - r1050.1))).bind fun r1052 => some (Sum.inl (r1050.2, r1052.lens, r1052.ckpts, r1052.arcs, (w64 (x811 + 1))))))) else some (Sum.inr (x800, x802, x806, x810)))
def make_Codes_Pattern_K1 (fuel : Nat) (a1 : Int) (c0_0 : (List Int)) (r544 : (Int × Int)) (x546 : (List Int)) (x621 : (List (List Int))) : Option (Pat × Int) :=
  (iter (fun s => make_Codes_Pattern_B1 fuel a1 c0_0 r544 s.1 s.2.1 s.2.2.1 s.2.2.2.1 s.2.2.2.2) fuel (r544.2, x546, x621, ([] : List Arc), 0)).bind (fun t => make_Codes_Pattern_K2 fuel t.1 t.2.1 t.2.2.1 t.2.2.2)
def make_Codes_Pattern_B2 (fuel : Nat) (r544 : (Int × Int)) (x589 : (List (List Int))) (x592 : Int) : Option (((List (List Int)) × Int) ⊕ ((List (List Int)))) :=
  (if (decide (x592 < (w64 (2 + r544.1)))) = true then (snoc x589 ([0])).bind fun x1069 => some (Sum.inl (x1069, (w64 (x592 + 1)))) else some (Sum.inr x589))
def make_Codes_Pattern (fuel : Nat) (a1 : Int) (c0_0 : (List Int)) (c0_1 : Int) : Option (Pat × Int) :=
  (make_Codes_Next fuel 3 c0_0 c0_1).bind fun r544 => (mkL (w64 (2 + r544.1)) (0 : Int)).bind fun x546 => (iter (fun s => make_Codes_Pattern_B2 fuel r544 s.1 s.2) fuel (([] : List (List Int)), 0)).bind (fun t => make_Codes_Pattern_K1 fuel a1 c0_0 r544 x546 t)
end Go.Mine
namespace Go.Proofs.Ytbmjcbhappjnaaa
open Go.RowKit Go.Mine
attribute [local irreducible] eseq ewp iter
theorem ref16_proc_w {F R : Nat → Prop} {w : World} {fuel : Nat} {a0 : Pat} {a1 : Int} {v1 : Value} {v2 : Value} {v3 : Value} {r : (Bool)} (hS : Sep F R R w w []) (f1 : IsSlice Ty.int w R v1 a0.lens) (f2 : IsSlice (Ty.slice Ty.int) w R v2 a0.ckpts) (f3 : IsSlice arcTy w R v3 a0.arcs) (h : ref16_proc fuel a0 a1 = some r) :
    Gives Try.prog 128 [.agg #[v1, v2, v3], .int .i64 a1] w fun u w1 => ∃ (R1 : Nat → Prop), u = .bool r ∧ Sep F R R1 w w1 [] := by
  refine fn_of Try.func128 rfl Try.ntmps128 (Nat.le_of_ble_eq_true rfl) ?_
  unfold ref16_proc at h
  refine e_seq fun K12 hK12 => ?_
  refine e_region_text rfl ?_
  refine q_boxB rfl rfl rfl fun w13 bl13 hg13 hb13 hB13 => ?_
  replace f1 := f1.ext hB13
  replace f2 := f2.ext hB13
  replace f3 := f3.ext hB13
  replace hS := hS.newBlk hB13 hg13 hb13
  refine q_assign rfl rfl ?_
  refine eseq_nil ?_
  refine hK12 _ _ ?_
  refine e_seq fun K15 hK15 => ?_
  refine e_region_text rfl ?_
  refine q_move rfl rfl ?_
  refine q_geq rfl rfl rfl ?_
  refine q_move rfl rfl ?_
  obtain ⟨x19, hx18, h⟩ := Option.of_bind h
  refine g_andM 5 hx18 rfl trivial rfl rfl ?_ ?_ ?_
  · intro hg18 hx18
    clear h
    have hT18 := Below.refl (World.heap w13).size w13
    refine g_run rfl ?_; refine q_move rfl rfl ?_
    refine g_run rfl ?_; refine q_field rfl rfl ?_
    refine g_run rfl ?_; refine q_load rfl (Blk.cell (hS.blk 0 rfl) rfl) rfl ?_
    refine g_run rfl ?_; refine q_lenS rfl f1 rfl ?_
    refine g_run rfl ?_; refine q_lss rfl rfl rfl ?_
    cases hx18
    exact eseq_nil ⟨hT18, Sub.set rfl (Sub.set rfl (Sub.set rfl (Sub.set rfl (Sub.set rfl (Sub.bool true rfl hg18))))), rfl⟩
  · intro hg18
    refine g_skip rfl rfl rfl ?_
    refine g_skip rfl rfl rfl ?_
    refine g_skip rfl rfl rfl ?_
    refine g_skip rfl rfl rfl ?_
    refine g_skip rfl rfl rfl ?_
    exact eseq_nil ⟨rfl, Sub.set rfl (Sub.set rfl (Sub.set rfl (Sub.set rfl (Sub.set rfl (Sub.bool false rfl hg18)))))⟩
  intro wm18 hBm18; clear hx18
  replace hS := hS.below hBm18
  refine q_assign rfl rfl ?_
  refine eseq_nil ?_
  refine hK15 _ _ ?_
  refine e_ret ?_
  obtain rfl := Option.some.inj h
  exact ⟨_, res1 rfl rfl, _, rfl, (hS.pickB [] 1 rfl rfl)⟩
theorem ref16_Mark_w {F R : Nat → Prop} {w : World} {fuel : Nat} {a0 : Pat} {a1 : Int} {v1 : Value} {v2 : Value} {v3 : Value} {r : (Pat)} (hS : Sep F R R w w [HP.own arcTy (fun _ => False) 107 v3 a0.arcs]) (f1 : IsSlice Ty.int w R v1 a0.lens) (f2 : IsSlice (Ty.slice Ty.int) w R v2 a0.ckpts) (h : ref16_Mark fuel a0 a1 = some r) :
    Gives Try.prog 106 [.agg #[v1, v2, v3], .int .i64 a1] w fun u w1 => ∃ (v122 : Value), ∃ (v123 : Value), ∃ (v124 : Value), ∃ (R1 : Nat → Prop), u = .agg #[v122, v123, v124] ∧ Sep F R R1 w w1 [HP.own arcTy (fun _ => False) 107 v124 r.arcs] ∧ IsSlice Ty.int w1 R1 v122 r.lens ∧ IsSlice (Ty.slice Ty.int) w1 R1 v123 r.ckpts := by
  refine fn_of Try.func106 rfl Try.ntmps106 (Nat.le_of_ble_eq_true rfl) ?_
  unfold ref16_Mark at h
  refine e_seq fun K125 hK125 => ?_
  refine e_region_text rfl ?_
  refine q_boxB rfl rfl rfl fun w126 bl126 hg126 hb126 hB126 => ?_
  replace f1 := f1.ext hB126
  replace f2 := f2.ext hB126
  replace hS := hS.newBlk hB126 hg126 hb126
  refine q_allocB rfl fun w128 bl128 hg128 hb128 hB128 => ?_
  replace f1 := f1.ext hB128
  replace f2 := f2.ext hB128
  replace hS := hS.newBlk hB128 hg128 hb128
  refine eseq_nil ?_
  refine hK125 _ _ ?_
  refine e_seq fun K130 hK130 => ?_
  refine e_seq fun K131 hK131 => ?_
  refine e_region_text rfl ?_
  refine q_loadAgg rfl (Blk.cellsAt (hS.blk 1 rfl) 0 3 rfl) rfl rfl ?_
  refine q_move rfl rfl ?_
  obtain ⟨r133, hr133, h⟩ := Option.of_bind h
  refine q_call rfl (ref16_proc_w (a0 := (⟨a0.lens, a0.ckpts, a0.arcs⟩ : Pat)) (Sep.all w128) (f1).old (f2).old ((hS.isl 2 rfl)).old hr133) rfl ?_
  rintro _ w132 ⟨R132, rfl, hC132⟩
  have hB132 : Below (World.heap w128).size w128 w132 := hC132.stepBF
  refine ⟨fun _ => .of_below hB132, ?_⟩
  replace f1 := f1.ext hB132
  replace f2 := f2.ext hB132
  replace hS := hS.below hB132
  refine q_not rfl rfl ?_
  refine eseq_nil ?_
  refine hK131 _ _ ?_
  refine e_cond rfl (fun hc134 => ?_) (fun hc134 => ?_)
  · replace h := (if_pos hc134).symm.trans h
    refine e_seq fun K135 hK135 => ?_
    refine e_region_text rfl ?_
    refine q_loadAgg rfl (Blk.cellsAt (hS.blk 1 rfl) 0 3 rfl) rfl rfl ?_
    refine q_storeAgg rfl rfl (hS.blk 0 rfl) rfl (Nat.le_of_ble_eq_true rfl) (all_cons f1.one (all_cons f2.one (all_cons (hS.own 2 rfl).one (all_nil)))) rfl rfl fun w136 hb136 hO136 => ?_
    simp only [setN, List.set, List.take, List.drop] at hb136
    have hk136 := hS.keptBlk 0 rfl hO136
    replace f1 := f1.kept hk136
    replace f2 := f2.kept hk136
    replace hS := hS.setBlk 0 rfl hb136 hO136; simp only [List.set] at hS
    refine eseq_nil ?_
    refine hK135 _ _ ?_
    refine e_ret ?_
    obtain rfl := Option.some.inj h
    exact ⟨_, resC1 rfl rfl ((hS.blk 0 rfl).cellsAt 0 3 rfl) rfl, v1, v2, v3, _, rfl, (hS.pickB [2] 3 rfl rfl), f1, f2⟩
  · replace h := (if_neg (not_true hc134)).symm.trans h
    refine e_skip ?_
    refine hK130 _ _ ?_
    refine e_seq fun K137 hK137 => ?_
    refine e_region_text rfl ?_
    refine q_field rfl rfl ?_
    refine q_load rfl (Blk.cell (hS.blk 1 rfl) rfl) rfl ?_
    refine q_move rfl rfl ?_
    obtain ⟨x138, hx138, h⟩ := Option.of_bind h
    refine q_atS (by infer_instance) rfl f2 rfl hx138 rfl fun b139 o139 hm139 f139 => ?_
    refine q_loadE rfl f139 rfl (fun v140 f140 => ?_)
    refine q_assign rfl rfl ?_
    refine eseq_nil ?_
    refine hK137 _ _ ?_
    refine e_seq fun K141 hK141 => ?_
    refine e_seq fun K142 hK142 => ?_
    refine e_region_draw mixed (fun _ => False) [0, 0, 2, 6, 15, 31, 0, 64, 0, 448, 960, 2047] [] [0, 1, 2, 3, 4, 5, 6, 7, 8, 9, 10, 11] (by kernel_rfl) ?_
    refine q_move rfl rfl ?_
    refine q_move rfl rfl ?_
    refine q_lenS rfl f140 rfl ?_
    refine q_subW rfl rfl rfl ?_
    obtain ⟨x143, hx143, h⟩ := Option.of_bind h
    refine q_atS (by infer_instance) rfl f140 rfl hx143 rfl fun b144 o144 hm144 f144 => ?_
    refine q_load rfl (Elt.intCell f144) rfl ?_
    refine q_field rfl rfl ?_
    refine q_load rfl (Blk.cell (hS.blk 1 rfl) rfl) rfl ?_
    refine q_move rfl rfl ?_
    obtain ⟨x145, hx145, h⟩ := Option.of_bind h
    refine q_atS (by infer_instance) rfl f1 rfl hx145 rfl fun b146 o146 hm146 f146 => ?_
    refine q_load rfl (Elt.intCell f146) rfl ?_
    refine q_eql rfl rfl rfl ?_
    refine eseq_nil ?_
    refine hK142 _ _ ?_
    refine e_cond rfl (fun hc147 => ?_) (fun hc147 => ?_)
    · replace h := (if_pos hc147).symm.trans h
      refine e_seq fun K148 hK148 => ?_
      refine e_region_text rfl ?_
      refine q_loadAgg rfl (Blk.cellsAt (hS.blk 1 rfl) 0 3 rfl) rfl rfl ?_
      refine q_storeAgg rfl rfl (hS.blk 0 rfl) rfl (Nat.le_of_ble_eq_true rfl) (all_cons f1.one (all_cons f2.one (all_cons (hS.own 2 rfl).one (all_nil)))) rfl rfl fun w149 hb149 hO149 => ?_
      simp only [setN, List.set, List.take, List.drop] at hb149
      have hk149 := hS.keptBlk 0 rfl hO149
      replace f1 := f1.kept hk149
      replace f2 := f2.kept hk149
      replace hS := hS.setBlk 0 rfl hb149 hO149; simp only [List.set] at hS
      refine eseq_nil ?_
      refine hK148 _ _ ?_
      refine e_ret ?_
      obtain rfl := Option.some.inj h
      exact ⟨_, resC1 rfl rfl ((hS.blk 0 rfl).cellsAt 0 3 rfl) rfl, v1, v2, v3, _, rfl, (hS.pickB [2] 3 rfl rfl), f1, f2⟩
    · replace h := (if_neg (not_true hc147)).symm.trans h
      refine e_skip ?_
      refine hK141 _ _ ?_
      refine e_seq fun K150 hK150 => ?_
      have hJt179 : ∀ (x178 : (List (List Int))) (B174 : Nat) (v177 : Value) (R167 : Nat → Prop) (w168 : World) (E_ : Env), ref16_Mark_J1 fuel a0 a1 x138 x178 = some r → Sep F R R167 w w168 [HP.blk bl126 [v1, v2, v3] 31, HP.own arcTy (fun _ => False) 107 v3 a0.arcs, HP.blk bl128 [.slice none 0 0, .slice none 0 0, .slice none 0 0] 31, HP.blk B174 [v1, v177, v3] 31, HP.own (Ty.slice Ty.int) R167 27 v177 x178] → IsSlice Ty.int w168 R167 v1 a0.lens → IsSlice (Ty.slice Ty.int) w168 R167 v2 a0.ckpts → IsSlice Ty.int w168 R167 v140 x138 → IsSlice Ty.int w168 R167 v1 a0.lens → Sub [(1, .int .i64 a1), (2, .pointer (some ⟨bl126, 0, none⟩)), (4, .pointer (some ⟨bl128, 0, none⟩)), (5, v140), (6, .pointer (some ⟨B174, 0, none⟩))] E_ → K150 E_ w168 := by
        intro x178 B174 v177 R167 w168 E_ h hS f169 f170 f172 f175 hsub
        refine hK150 _ _ (e_sub hsub ?_); clear hsub
        unfold ref16_Mark_J1 at h
        refine e_seq fun K180 hK180 => ?_
        have hJt214 : ∀ (x193 : (List (List Int))) (R209 : Nat → Prop) (w210 : World) (E_ : Env), ref16_Mark_J2 fuel a0 x193 = some r → Sep F R R209 w w210 [HP.blk bl128 [.slice none 0 0, .slice none 0 0, .slice none 0 0] 31, HP.blk B174 [v1, v177, v3] 31, HP.own (Ty.slice Ty.int) R209 27 v177 x193, HP.own arcTy (fun _ => False) 107 v3 a0.arcs] → IsSlice Ty.int w210 R209 v1 a0.lens → Sub [(4, .pointer (some ⟨bl128, 0, none⟩)), (6, .pointer (some ⟨B174, 0, none⟩))] E_ → K180 E_ w210 := by
          intro x193 R209 w210 E_ h hS f211 hsub
          refine hK180 _ _ (e_sub hsub ?_); clear hsub
          unfold ref16_Mark_J2 at h
          refine e_seq fun K215 hK215 => ?_
          refine e_region_text rfl ?_
          refine q_loadAgg rfl (Blk.cellsAt (hS.blk 1 rfl) 0 3 rfl) rfl rfl ?_
          refine q_storeAgg rfl rfl (hS.blk 0 rfl) rfl (Nat.le_of_ble_eq_true rfl) (all_cons f211.one (all_cons (hS.own 2 rfl).one (all_cons (hS.own 3 rfl).one (all_nil)))) rfl rfl fun w216 hb216 hO216 => ?_
          simp only [setN, List.set, List.take, List.drop] at hb216
          have hk216 := hS.keptBlk 0 rfl hO216
          replace f211 := f211.kept hk216
          replace hS := hS.setBlk 0 rfl hb216 hO216; simp only [List.set] at hS
          refine eseq_nil ?_
          refine hK215 _ _ ?_
          refine e_ret ?_
          obtain ⟨R217, hS, hm217, f217⟩ := hS.freezeOwn 2 rfl; simp only [List.eraseIdx] at hS
          replace f211 := f211.mono fun k hk _ => hm217 k hk
          obtain rfl := Option.some.inj h
          exact ⟨_, resC1 rfl rfl ((hS.blk 0 rfl).cellsAt 0 3 rfl) rfl, v1, v177, v3, _, rfl, (hS.pickB [2] 3 rfl rfl), f211, f217⟩
        obtain ⟨x181, hx181, h⟩ := Option.of_bind h
        obtain ⟨x185, hx185, h⟩ := Option.of_bind h
        obtain ⟨x189, hx189, h⟩ := Option.of_bind h
        obtain ⟨x190, hx190, h⟩ := Option.of_bind h
        obtain ⟨x193, hx193, h⟩ := Option.of_bind h
        refine e_region_T mixed (fun k => (World.heap w168).size ≤ k) [0, 1, 0, 0, 8, 0, 32, 0, 224, 480, 992, 2040, 4095, 8191] [4, 10, 11] (QT.op 0 (QT.op 1 (QT.op 2 (QT.op 3 (QT.op 5 (QT.op 6 (QT.op 7 (QT.op 8 (QT.op 9 (QT.alt (QT.op 4 (QT.op 10 (QT.op 11 (QT.op 12 (QT.op 13 QT.fin))))) (QT.op 10 (QT.op 4 (QT.op 11 (QT.op 12 (QT.op 13 QT.fin))))))))))))))) (by kernel_rfl) ?_
        have hTX := Below.refl (World.heap w168).size w168
        refine t_op ?_
        refine q_field rfl rfl ?_
        refine eseq_nil ?_
        refine t_op ?_
        refine q_load rfl (Blk.cell (hS.blk 3 rfl) rfl) rfl ?_ (hX := Nat.not_le.2 (hS.blk 3 rfl).lt)
        refine eseq_nil ?_
        refine t_op ?_
        refine q_move rfl rfl ?_
        refine eseq_nil ?_
        refine t_op ?_
        refine q_move rfl rfl ?_
        refine eseq_nil ?_
        refine t_op ?_
        refine q_field rfl rfl ?_
        refine eseq_nil ?_
        refine t_op ?_
        refine q_load rfl (Blk.cell (hS.blk 0 rfl) rfl) rfl ?_ (hX := Nat.not_le.2 (hS.blk 0 rfl).lt)
        refine eseq_nil ?_
        refine t_op ?_
        refine q_move rfl rfl ?_
        refine eseq_nil ?_
        refine t_op ?_
        refine q_atS (by infer_instance) rfl f169 rfl hx181 rfl fun b218 o218 hm218 f218 => ?_
        refine eseq_nil ?_
        refine t_op ?_
        refine q_load rfl (Elt.intCell f218) rfl ?_ (hX := Nat.not_le.2 f218.lt)
        refine eseq_nil ?_
        refine t_alt ?_ ?_
        · skip
          refine t_op ?_
          replace hS := hS.nilOwn0 Ty.int 3
          refine q_catE (T := Ty.int) rfl rfl rfl rfl (hS.own 0 rfl) rfl f172 hx185 (Nat.zero_le _) rfl (fun _ k hk => by cases hk) fun v220 w220 hw220 hgr220 hnw220 => ?_
          have hk220 := hS.keptOwn 0 rfl hgr220
          replace f169 := f169.kept hk220
          replace f170 := f170.kept hk220
          replace f172 := f172.kept hk220
          replace f175 := f175.kept hk220
          replace hS := hS.setOwn 0 rfl hw220 hgr220 hnw220; simp only [List.set] at hS
          refine eseq_nil ?_
          refine t_op ?_
          refine q_litO (T := Ty.int) (S := (fun _ => False)) (cells := [[.int .i64 x181]]) (ys := [x181]) ((Parts.cons rfl rfl Parts.nil)) rfl rfl rfl rfl rfl rfl rfl (fun w1 hB => ⟨rfl, trivial⟩) (fun _ h => h.elim) rfl fun w221 v221 ho221 hv221 hB221 => ?_
          replace f169 := f169.ext hB221
          replace f170 := f170.ext hB221
          replace f172 := f172.ext hB221
          replace f175 := f175.ext hB221
          replace hS := hS.newOwnS hB221 ho221 hv221 (fun _ h => h.elim)
          refine eseq_nil ?_
          refine t_op ?_
          refine q_catOwn (T := Ty.int) rfl rfl rfl rfl (hS.own 1 rfl) rfl (hS.own 0 rfl) (fun _ h _ => h.elim) (snoc_cat hx189) (Nat.zero_le _) rfl (fun _ k hk => Nat.le_trans hTX.size ((fun k hk => (hnw220.blk k hk).resolve_left (fun h => by cases h)) k hk)) fun v223 w223 hw223 hgr223 hnw223 => ?_
          have hk223 := hS.keptOwn 1 rfl hgr223
          replace f169 := f169.kept hk223
          replace f170 := f170.kept hk223
          replace f172 := f172.kept hk223
          replace f175 := f175.kept hk223
          replace hS := hS.setOwn 1 rfl hw223 hgr223 hnw223; simp only [List.set] at hS
          refine eseq_nil ?_
          refine t_op ?_
          refine q_indexO (by infer_instance) rfl (hS.own 6 rfl) rfl hx190 rfl ?_
          refine eseq_nil ?_
          refine t_op ?_
          obtain ⟨R225, hS, hm225, f225⟩ := hS.freezeOwn 1 rfl; simp only [List.eraseIdx] at hS
          replace f169 := f169.mono fun k hk _ => hm225 k hk
          replace f170 := f170.mono fun k hk _ => hm225 k hk
          replace f172 := f172.mono fun k hk _ => hm225 k hk
          replace f175 := f175.mono fun k hk _ => hm225 k hk
          replace hS := hS.ownMono 5 rfl; simp only [List.set] at hS
          refine q_storeO (T := (Ty.slice Ty.int)) (j := 0) rfl rfl (hS.own 5 rfl) hx190 hx193 rfl f225.one rfl (sliceSet (f225.mono (hS.ownOff 5 rfl))) fun w224 ho224 hO224 => ?_
          have hk224 := hS.keptO 5 rfl hx190 hO224
          replace f169 := f169.kept hk224
          replace f170 := f170.kept hk224
          replace f172 := f172.kept hk224
          replace f175 := f175.kept hk224
          replace f225 := f225.kept hk224
          replace hS := hS.putO 5 rfl hx190 ho224 hO224; simp only [List.set] at hS
          refine eseq_nil ?_
          refine t_fin ?_
          exact hJt214 x193 _ _ _ h (hS.pickB [3, 4, 5, 2] 6 rfl rfl) f175 (Sub.cons rfl (Sub.cons rfl (Sub.nil _)))
        · skip
          refine t_op ?_
          refine q_litO (T := Ty.int) (S := (fun _ => False)) (cells := [[.int .i64 x181]]) (ys := [x181]) ((Parts.cons rfl rfl Parts.nil)) rfl rfl rfl rfl rfl rfl rfl (fun w1 hB => ⟨rfl, trivial⟩) (fun _ h => h.elim) rfl fun w226 v226 ho226 hv226 hB226 => ?_
          replace f169 := f169.ext hB226
          replace f170 := f170.ext hB226
          replace f172 := f172.ext hB226
          replace f175 := f175.ext hB226
          replace f218 := f218.ext hB226
          replace hTX := hTX.trans (Below.mono hB226 hTX.size)
          replace hS := hS.newOwnS hB226 ho226 hv226 (fun _ h => h.elim)
          refine eseq_nil ?_
          refine t_op ?_
          replace hS := hS.nilOwn0 Ty.int 3
          refine q_catE (T := Ty.int) rfl rfl rfl rfl (hS.own 0 rfl) rfl f172 hx185 (Nat.zero_le _) rfl (fun _ k hk => by cases hk) fun v229 w229 hw229 hgr229 hnw229 => ?_
          have hk229 := hS.keptOwn 0 rfl hgr229
          replace f169 := f169.kept hk229
          replace f170 := f170.kept hk229
          replace f172 := f172.kept hk229
          replace f175 := f175.kept hk229
          replace hS := hS.setOwn 0 rfl hw229 hgr229 hnw229; simp only [List.set] at hS
          refine eseq_nil ?_
          refine t_op ?_
          refine q_catOwn (T := Ty.int) rfl rfl rfl rfl (hS.own 0 rfl) rfl (hS.own 1 rfl) (fun _ h _ => h.elim) (snoc_cat hx189) (Nat.zero_le _) rfl (fun _ k hk => Nat.le_trans hTX.size ((fun k hk => (hnw229.blk k hk).resolve_left (fun h => by cases h)) k hk)) fun v230 w230 hw230 hgr230 hnw230 => ?_
          have hk230 := hS.keptOwn 0 rfl hgr230
          replace f169 := f169.kept hk230
          replace f170 := f170.kept hk230
          replace f172 := f172.kept hk230
          replace f175 := f175.kept hk230
          replace hS := hS.setOwn 0 rfl hw230 hgr230 hnw230; simp only [List.set] at hS
          refine eseq_nil ?_
          refine t_op ?_
          refine q_indexO (by infer_instance) rfl (hS.own 6 rfl) rfl hx190 rfl ?_
          refine eseq_nil ?_
          refine t_op ?_
          obtain ⟨R232, hS, hm232, f232⟩ := hS.freezeOwn 0 rfl; simp only [List.eraseIdx] at hS
          replace f169 := f169.mono fun k hk _ => hm232 k hk
          replace f170 := f170.mono fun k hk _ => hm232 k hk
          replace f172 := f172.mono fun k hk _ => hm232 k hk
          replace f175 := f175.mono fun k hk _ => hm232 k hk
          replace hS := hS.ownMono 5 rfl; simp only [List.set] at hS
          refine q_storeO (T := (Ty.slice Ty.int)) (j := 0) rfl rfl (hS.own 5 rfl) hx190 hx193 rfl f232.one rfl (sliceSet (f232.mono (hS.ownOff 5 rfl))) fun w231 ho231 hO231 => ?_
          have hk231 := hS.keptO 5 rfl hx190 hO231
          replace f169 := f169.kept hk231
          replace f170 := f170.kept hk231
          replace f172 := f172.kept hk231
          replace f175 := f175.kept hk231
          replace f232 := f232.kept hk231
          replace hS := hS.putO 5 rfl hx190 ho231 hO231; simp only [List.set] at hS
          refine eseq_nil ?_
          refine t_fin ?_
          exact hJt214 x193 _ _ _ h (hS.pickB [3, 4, 5, 2] 6 rfl rfl) f175 (Sub.cons rfl (Sub.cons rfl (Sub.nil _)))
      obtain ⟨x153, hx153, h⟩ := Option.of_bind h
      refine e_region_T mixed (fun _ => False) [0, 1, 0, 4, 12, 0, 32, 127, 0, 511] [4, 8] (QT.op 0 (QT.op 1 (QT.op 2 (QT.op 3 (QT.op 5 (QT.op 6 (QT.alt (QT.op 4 (QT.op 7 (QT.op 8 (QT.op 9 QT.fin)))) (QT.op 8 (QT.op 4 (QT.op 7 (QT.op 9 QT.fin))))))))))) (by kernel_rfl) ?_
      refine t_op ?_
      refine q_field rfl rfl ?_
      refine eseq_nil ?_
      refine t_op ?_
      refine q_load rfl (Blk.cell (hS.blk 1 rfl) rfl) rfl ?_
      refine eseq_nil ?_
      refine t_op ?_
      refine q_field rfl rfl ?_
      refine eseq_nil ?_
      refine t_op ?_
      refine q_load rfl (Blk.cell (hS.blk 1 rfl) rfl) rfl ?_
      refine eseq_nil ?_
      refine t_op ?_
      refine q_field rfl rfl ?_
      refine eseq_nil ?_
      refine t_op ?_
      refine q_load rfl (Blk.cell (hS.blk 1 rfl) rfl) rfl ?_
      refine eseq_nil ?_
      refine t_alt ?_ ?_
      · skip
        refine t_op ?_
        replace hS := hS.nilOwn (Ty.slice Ty.int) 27
        refine q_catO (T := (Ty.slice Ty.int)) rfl rfl rfl rfl (hS.own 0 rfl) rfl f2 (hS.ownOff 0 rfl) hx153 (Nat.zero_le _) rfl (fun _ k hk => by cases hk) fun v234 w234 hw234 hgr234 hnw234 => ?_
        have hk234 := hS.keptOwn 0 rfl hgr234
        replace f1 := f1.kept hk234
        replace f2 := f2.kept hk234
        replace f140 := f140.kept hk234
        replace hS := hS.setOwn 0 rfl hw234 hgr234 hnw234; simp only [List.set] at hS
        refine eseq_nil ?_
        refine t_op ?_
        refine q_build (Parts.cons rfl (cells_one f1.one) (Parts.cons rfl (cells_one (hS.own 0 rfl).one) (Parts.cons rfl (cells_one (hS.own 3 rfl).one) Parts.nil))) rfl rfl ?_
        refine eseq_nil ?_
        refine t_op ?_
        refine q_allocB rfl fun w235 bl235 hg235 hb235 hB235 => ?_
        replace f1 := f1.ext hB235
        replace f2 := f2.ext hB235
        replace f140 := f140.ext hB235
        replace hS := hS.newBlk hB235 hg235 hb235
        refine eseq_nil ?_
        refine t_op ?_
        refine q_storeAgg rfl rfl (hS.blk 0 rfl) rfl (Nat.le_of_ble_eq_true rfl) (all_cons f1.one (all_cons (hS.own 1 rfl).one (all_cons (hS.own 4 rfl).one (all_nil)))) rfl rfl fun w237 hb237 hO237 => ?_
        simp only [setN, List.set, List.take, List.drop] at hb237
        have hk237 := hS.keptBlk 0 rfl hO237
        replace f1 := f1.kept hk237
        replace f2 := f2.kept hk237
        replace f140 := f140.kept hk237
        replace hS := hS.setBlk 0 rfl hb237 hO237; simp only [List.set] at hS
        refine eseq_nil ?_
        refine t_fin ?_
        exact hJt179 x153 bl235 v234 _ _ _ h (hS.pickB [3, 4, 2, 0, 1] 5 rfl rfl) f1 f2 f140 f1 (Sub.cons rfl (Sub.cons rfl (Sub.cons rfl (Sub.cons rfl (Sub.cons rfl (Sub.nil _))))))
      · skip
        refine t_op ?_
        refine q_allocB rfl fun w238 bl238 hg238 hb238 hB238 => ?_
        replace f1 := f1.ext hB238
        replace f2 := f2.ext hB238
        replace f140 := f140.ext hB238
        replace hS := hS.newBlk hB238 hg238 hb238
        refine eseq_nil ?_
        refine t_op ?_
        replace hS := hS.nilOwn (Ty.slice Ty.int) 27
        refine q_catO (T := (Ty.slice Ty.int)) rfl rfl rfl rfl (hS.own 0 rfl) rfl f2 (hS.ownOff 0 rfl) hx153 (Nat.zero_le _) rfl (fun _ k hk => by cases hk) fun v241 w241 hw241 hgr241 hnw241 => ?_
        have hk241 := hS.keptOwn 0 rfl hgr241
        replace f1 := f1.kept hk241
        replace f2 := f2.kept hk241
        replace f140 := f140.kept hk241
        replace hS := hS.setOwn 0 rfl hw241 hgr241 hnw241; simp only [List.set] at hS
        refine eseq_nil ?_
        refine t_op ?_
        refine q_build (Parts.cons rfl (cells_one f1.one) (Parts.cons rfl (cells_one (hS.own 0 rfl).one) (Parts.cons rfl (cells_one (hS.own 4 rfl).one) Parts.nil))) rfl rfl ?_
        refine eseq_nil ?_
        refine t_op ?_
        refine q_storeAgg rfl rfl (hS.blk 1 rfl) rfl (Nat.le_of_ble_eq_true rfl) (all_cons f1.one (all_cons (hS.own 0 rfl).one (all_cons (hS.own 4 rfl).one (all_nil)))) rfl rfl fun w242 hb242 hO242 => ?_
        simp only [setN, List.set, List.take, List.drop] at hb242
        have hk242 := hS.keptBlk 1 rfl hO242
        replace f1 := f1.kept hk242
        replace f2 := f2.kept hk242
        replace f140 := f140.kept hk242
        replace hS := hS.setBlk 1 rfl hb242 hO242; simp only [List.set] at hS
        refine eseq_nil ?_
        refine t_fin ?_
        exact hJt179 x153 bl238 v241 _ _ _ h (hS.pickB [3, 4, 2, 1, 0] 5 rfl rfl) f1 f2 f140 f1 (Sub.cons rfl (Sub.cons rfl (Sub.cons rfl (Sub.cons rfl (Sub.cons rfl (Sub.nil _))))))
theorem ref16_Append_w {F R : Nat → Prop} {w : World} {fuel : Nat} {a0 : Pat} {a1 : Int} {a2 : Int} {a3 : Int} {v1 : Value} {v2 : Value} {v3 : Value} {r : (Pat × Bool)} (hS : Sep F R R w w [HP.own arcTy (fun _ => False) 107 v3 a0.arcs]) (f1 : IsSlice Ty.int w R v1 a0.lens) (f2 : IsSlice (Ty.slice Ty.int) w R v2 a0.ckpts) (h : ref16_Append fuel a0 a1 a2 a3 = some r) :
    Gives Try.prog 133 [.agg #[v1, v2, v3], .int .i64 a1, .int .i64 a2, .int .i64 a3] w fun u w1 => ∃ (v142 : Value), ∃ (v143 : Value), ∃ (v144 : Value), ∃ (R1 : Nat → Prop), u = .tuple #[.agg #[v142, v143, v144], .bool r.2] ∧ Sep F R R1 w w1 [HP.own arcTy (fun _ => False) 107 v3 a0.arcs, HP.own Ty.int (fun _ => False) 3 v142 r.1.lens, HP.own arcTy (fun _ => False) 107 v144 r.1.arcs] ∧ IsSlice (Ty.slice Ty.int) w1 R1 v143 r.1.ckpts := by
  refine fn_of Try.func133 rfl Try.ntmps133 (Nat.le_of_ble_eq_true rfl) ?_
  unfold ref16_Append at h
  refine e_seq fun K145 hK145 => ?_
  refine e_region_text rfl ?_
  refine q_boxB rfl rfl rfl fun w146 bl146 hg146 hb146 hB146 => ?_
  replace f1 := f1.ext hB146
  replace f2 := f2.ext hB146
  replace hS := hS.newBlk hB146 hg146 hb146
  refine q_allocB rfl fun w148 bl148 hg148 hb148 hB148 => ?_
  replace f1 := f1.ext hB148
  replace f2 := f2.ext hB148
  replace hS := hS.newBlk hB148 hg148 hb148
  refine q_assign rfl rfl ?_
  refine eseq_nil ?_
  refine hK145 _ _ ?_
  refine e_seq fun K150 hK150 => ?_
  refine e_seq fun K151 hK151 => ?_
  refine e_region_text rfl ?_
  refine q_loadAgg rfl (Blk.cellsAt (hS.blk 1 rfl) 0 3 rfl) rfl rfl ?_
  refine q_move rfl rfl ?_
  obtain ⟨r153, hr153, h⟩ := Option.of_bind h
  refine q_call rfl (ref16_proc_w (a0 := (⟨a0.lens, a0.ckpts, a0.arcs⟩ : Pat)) (Sep.all w148) (f1).old (f2).old ((hS.isl 2 rfl)).old hr153) rfl ?_
  rintro _ w152 ⟨R152, rfl, hC152⟩
  have hB152 : Below (World.heap w148).size w148 w152 := hC152.stepBF
  refine ⟨fun _ => .of_below hB152, ?_⟩
  replace f1 := f1.ext hB152
  replace f2 := f2.ext hB152
  replace hS := hS.below hB152
  refine q_not rfl rfl ?_
  refine q_move rfl rfl ?_
  obtain ⟨x159, hx158, h⟩ := Option.of_bind h
  refine g_orM 6 hx158 rfl trivial rfl rfl ?_ ?_ ?_
  · intro hg158
    refine g_skip rfl rfl rfl ?_
    refine g_skip rfl rfl rfl ?_
    refine g_skip rfl rfl rfl ?_
    refine g_skip rfl rfl rfl ?_
    refine g_skip rfl rfl rfl ?_
    refine g_skip rfl rfl rfl ?_
    exact eseq_nil ⟨rfl, Sub.set rfl (Sub.set rfl (Sub.set rfl (Sub.set rfl (Sub.set rfl (Sub.set rfl (Sub.bool true rfl hg158))))))⟩
  · intro hg158 hx158
    clear h
    have hT158 := Below.refl (World.heap w152).size w152
    refine g_run rfl ?_; refine q_field rfl rfl ?_
    refine g_run rfl ?_; refine q_load rfl (Blk.cell (hS.blk 1 rfl) rfl) rfl ?_
    refine g_run rfl ?_; refine q_move rfl rfl ?_
    obtain ⟨x160, hx160, hx158⟩ := Option.of_bind hx158
    refine g_run rfl ?_; refine q_atS (by infer_instance) rfl f1 rfl hx160 rfl fun b161 o161 hm161 f161 => ?_
    refine g_run rfl ?_; refine q_load rfl (Elt.intCell f161) rfl ?_
    refine g_run rfl ?_; refine q_geq rfl rfl rfl ?_
    cases hx158
    exact eseq_nil ⟨hT158, Sub.set rfl (Sub.set rfl (Sub.set rfl (Sub.set rfl (Sub.set rfl (Sub.set rfl (Sub.bool false rfl hg158)))))), rfl⟩
  intro wm158 hBm158; clear hx158
  replace hS := hS.below hBm158
  replace f1 := f1.ext hBm158
  replace f2 := f2.ext hBm158
  refine eseq_nil ?_
  refine hK151 _ _ ?_
  refine e_cond rfl (fun hc162 => ?_) (fun hc162 => ?_)
  · replace h := (if_pos hc162).symm.trans h
    refine e_seq fun K163 hK163 => ?_
    refine e_region_text rfl ?_
    refine q_build Parts.nil rfl rfl ?_
    refine q_storeAgg rfl rfl (hS.blk 0 rfl) rfl (Nat.le_of_ble_eq_true rfl) (all_cons rfl (all_cons rfl (all_cons rfl (all_nil)))) rfl rfl fun w164 hb164 hO164 => ?_
    simp only [setN, List.set, List.take, List.drop] at hb164
    have hk164 := hS.keptBlk 0 rfl hO164
    replace hS := hS.setBlk 0 rfl hb164 hO164; simp only [List.set] at hS
    refine q_assign rfl rfl ?_
    refine eseq_nil ?_
    refine hK163 _ _ ?_
    refine e_ret ?_
    replace hS := hS.nilOwn0 Ty.int 3
    replace hS := hS.nilOwn0 arcTy 107
    obtain rfl := Option.some.inj h
    exact ⟨_, resCT rfl rfl ((hS.blk 2 rfl).cellsAt 0 3 rfl) rfl rfl, (.slice none 0 0), (.slice none 0 0), (.slice none 0 0), _, rfl, (hS.pickB [4, 1, 0] 5 rfl rfl), (IsSlice.nil _ _ _)⟩
  · replace h := (if_neg (not_true hc162)).symm.trans h
    refine e_skip ?_
    refine hK150 _ _ ?_
    refine e_seq fun K167 hK167 => ?_
    have hJt209 : ∀ (x204 : (List Int)) (x208 : (List Arc)) (B201 : Nat) (v203 : Value) (v207 : Value) (R196 : Nat → Prop) (w197 : World) (E_ : Env), ref16_Append_J1 fuel a1 a2 a0 a3 x204 x208 = some r → Sep F R R196 w w197 [HP.own arcTy (fun _ => False) 107 v3 a0.arcs, HP.blk bl146 [v1, v2, v3] 31, HP.blk bl148 [.slice none 0 0, .slice none 0 0, .slice none 0 0] 31, HP.blk B201 [v203, v2, v207] 31, HP.own Ty.int (fun _ => False) 3 v203 x204, HP.own arcTy (fun _ => False) 107 v207 x208] → IsSlice Ty.int w197 R196 v1 a0.lens → IsSlice (Ty.slice Ty.int) w197 R196 v2 a0.ckpts → IsSlice (Ty.slice Ty.int) w197 R196 v2 a0.ckpts → Sub [(1, .int .i64 a1), (2, .int .i64 a2), (3, .int .i64 a3), (4, .pointer (some ⟨bl146, 0, none⟩)), (8, .pointer (some ⟨bl148, 0, none⟩)), (10, .pointer (some ⟨B201, 0, none⟩))] E_ → K167 E_ w197 := by
      intro x204 x208 B201 v203 v207 R196 w197 E_ h hS f198 f199 f205 hsub
      refine hK167 _ _ (e_sub hsub ?_); clear hsub
      unfold ref16_Append_J1 at h
      refine e_seq fun K210 hK210 => ?_
      refine e_region_text rfl ?_
      refine q_field rfl rfl ?_
      refine q_load rfl (Blk.cell (hS.blk 3 rfl) rfl) rfl ?_
      refine q_move rfl rfl ?_
      obtain ⟨x211, hx211, h⟩ := Option.of_bind h
      refine q_indexO (by infer_instance) rfl (hS.own 4 rfl) rfl hx211 rfl ?_
      have f212 := (hS.ownR 4 rfl).elt hx211
      refine q_load rfl (Elt.intCell f212) rfl ?_
      refine q_addW rfl rfl rfl ?_
      obtain ⟨x213, hx213, h⟩ := Option.of_bind h
      refine q_indexO (by infer_instance) rfl (hS.own 4 rfl) rfl hx213 rfl ?_
      obtain ⟨x215, hx215, h⟩ := Option.of_bind h
      refine q_storeO (T := Ty.int) (j := 0) rfl rfl (hS.own 4 rfl) hx213 hx215 rfl rfl rfl (Enc.setL rfl) fun w214 ho214 hO214 => ?_
      have hk214 := hS.keptO 4 rfl hx213 hO214
      replace f198 := f198.kept hk214
      replace f199 := f199.kept hk214
      replace f205 := f205.kept hk214
      replace hS := hS.putO 4 rfl hx213 ho214 hO214; simp only [List.set] at hS
      refine eseq_nil ?_
      refine hK210 _ _ ?_
      refine e_seq fun K216 hK216 => ?_
      refine e_seq fun K217 hK217 => ?_
      refine e_region_text rfl ?_
      refine q_move rfl rfl ?_
      refine q_eql rfl rfl rfl ?_
      refine eseq_nil ?_
      refine hK217 _ _ ?_
      refine e_cond rfl (fun hc218 => ?_) (fun hc218 => ?_)
      · replace h := (if_pos hc218).symm.trans h
        refine e_seq fun K219 hK219 => ?_
        refine e_region_text rfl ?_
        refine q_loadAgg rfl (Blk.cellsAt (hS.blk 3 rfl) 0 3 rfl) rfl rfl ?_
        refine q_storeAgg rfl rfl (hS.blk 2 rfl) rfl (Nat.le_of_ble_eq_true rfl) (all_cons (hS.own 4 rfl).one (all_cons f205.one (all_cons (hS.own 5 rfl).one (all_nil)))) rfl rfl fun w220 hb220 hO220 => ?_
        simp only [setN, List.set, List.take, List.drop] at hb220
        have hk220 := hS.keptBlk 2 rfl hO220
        replace f205 := f205.kept hk220
        replace hS := hS.setBlk 2 rfl hb220 hO220; simp only [List.set] at hS
        refine q_assign rfl rfl ?_
        refine eseq_nil ?_
        refine hK219 _ _ ?_
        refine e_ret ?_
        obtain rfl := Option.some.inj h
        exact ⟨_, resCT rfl rfl ((hS.blk 2 rfl).cellsAt 0 3 rfl) rfl rfl, v203, v2, v207, _, rfl, (hS.pickB [0, 4, 5] 6 rfl rfl), f205⟩
      · replace h := (if_neg (not_true hc218)).symm.trans h
        refine e_skip ?_
        refine hK216 _ _ ?_
        refine e_seq fun K221 hK221 => ?_
        refine e_seq fun K222 hK222 => ?_
        refine e_region_text rfl ?_
        refine q_loadAgg rfl (Blk.cellsAt (hS.blk 1 rfl) 0 3 rfl) rfl rfl ?_
        refine q_move rfl rfl ?_
        obtain ⟨r224, hr224, h⟩ := Option.of_bind h
        refine q_call rfl (ref16_proc_w (a0 := (⟨a0.lens, a0.ckpts, a0.arcs⟩ : Pat)) (Sep.all w214) (f198).old (f199).old ((hS.isl 0 rfl)).old hr224) rfl ?_
        rintro _ w223 ⟨R223, rfl, hC223⟩
        have hB223 : Below (World.heap w214).size w214 w223 := hC223.stepBF
        refine ⟨fun _ => .of_below hB223, ?_⟩
        replace f198 := f198.ext hB223
        replace f199 := f199.ext hB223
        replace f205 := f205.ext hB223
        replace hS := hS.below hB223
        refine q_not rfl rfl ?_
        refine q_move rfl rfl ?_
        obtain ⟨x228, hx227, h⟩ := Option.of_bind h
        refine g_orM 3 hx227 rfl trivial rfl rfl ?_ ?_ ?_
        · intro hg227
          refine g_skip rfl rfl rfl ?_
          refine g_skip rfl rfl rfl ?_
          refine g_skip rfl rfl rfl ?_
          exact eseq_nil ⟨rfl, Sub.set rfl (Sub.set rfl (Sub.set rfl (Sub.bool true rfl hg227)))⟩
        · intro hg227 hx227
          clear h
          have hT227 := Below.refl (World.heap w223).size w223
          refine g_run rfl ?_; refine q_move rfl rfl ?_
          refine g_run rfl ?_; refine q_move rfl rfl ?_
          refine g_run rfl ?_; refine q_eql rfl rfl rfl ?_
          cases hx227
          exact eseq_nil ⟨hT227, Sub.set rfl (Sub.set rfl (Sub.set rfl (Sub.bool false rfl hg227))), rfl⟩
        intro wm227 hBm227; clear hx227
        replace hS := hS.below hBm227
        replace f198 := f198.ext hBm227
        replace f199 := f199.ext hBm227
        replace f205 := f205.ext hBm227
        refine q_move rfl rfl ?_
        obtain ⟨x232, hx231, h⟩ := Option.of_bind h
        refine g_orM 2 hx231 rfl trivial rfl rfl ?_ ?_ ?_
        · intro hg231
          refine g_skip rfl rfl rfl ?_
          refine g_skip rfl rfl rfl ?_
          exact eseq_nil ⟨rfl, Sub.set rfl (Sub.set rfl (Sub.bool true rfl hg231))⟩
        · intro hg231 hx231
          clear h
          have hT231 := Below.refl (World.heap wm227).size wm227
          refine g_run rfl ?_; refine q_move rfl rfl ?_
          refine g_run rfl ?_; refine q_lss rfl rfl rfl ?_
          cases hx231
          exact eseq_nil ⟨hT231, Sub.set rfl (Sub.set rfl (Sub.bool false rfl hg231)), rfl⟩
        intro wm231 hBm231; clear hx231
        replace hS := hS.below hBm231
        replace f198 := f198.ext hBm231
        replace f199 := f199.ext hBm231
        replace f205 := f205.ext hBm231
        refine q_move rfl rfl ?_
        obtain ⟨x238, hx237, h⟩ := Option.of_bind h
        refine g_orM 7 hx237 rfl trivial rfl rfl ?_ ?_ ?_
        · intro hg237
          refine g_skip rfl rfl rfl ?_
          refine g_skip rfl rfl rfl ?_
          refine g_skip rfl rfl rfl ?_
          refine g_skip rfl rfl rfl ?_
          refine g_skip rfl rfl rfl ?_
          refine g_skip rfl rfl rfl ?_
          refine g_skip rfl rfl rfl ?_
          exact eseq_nil ⟨rfl, Sub.set rfl (Sub.set rfl (Sub.set rfl (Sub.set rfl (Sub.set rfl (Sub.set rfl (Sub.set rfl (Sub.bool true rfl hg237)))))))⟩
        · intro hg237 hx237
          clear h
          have hT237 := Below.refl (World.heap wm231).size wm231
          refine g_run rfl ?_; refine q_move rfl rfl ?_
          refine g_run rfl ?_; refine q_field rfl rfl ?_
          refine g_run rfl ?_; refine q_load rfl (Blk.cell (hS.blk 1 rfl) rfl) rfl ?_
          refine g_run rfl ?_; refine q_move rfl rfl ?_
          obtain ⟨x239, hx239, hx237⟩ := Option.of_bind hx237
          refine g_run rfl ?_; refine q_atS (by infer_instance) rfl f198 rfl hx239 rfl fun b240 o240 hm240 f240 => ?_
          refine g_run rfl ?_; refine q_load rfl (Elt.intCell f240) rfl ?_
          refine g_run rfl ?_; refine q_gtr rfl rfl rfl ?_
          cases hx237
          exact eseq_nil ⟨hT237, Sub.set rfl (Sub.set rfl (Sub.set rfl (Sub.set rfl (Sub.set rfl (Sub.set rfl (Sub.set rfl (Sub.bool false rfl hg237))))))), rfl⟩
        intro wm237 hBm237; clear hx237
        replace hS := hS.below hBm237
        replace f198 := f198.ext hBm237
        replace f199 := f199.ext hBm237
        replace f205 := f205.ext hBm237
        refine q_move rfl rfl ?_
        obtain ⟨x244, hx243, h⟩ := Option.of_bind h
        refine g_orM 4 hx243 rfl trivial rfl rfl ?_ ?_ ?_
        · intro hg243
          refine g_skip rfl rfl rfl ?_
          refine g_skip rfl rfl rfl ?_
          refine g_skip rfl rfl rfl ?_
          refine g_skip rfl rfl rfl ?_
          exact eseq_nil ⟨rfl, Sub.set rfl (Sub.set rfl (Sub.set rfl (Sub.set rfl (Sub.bool true rfl hg243))))⟩
        · intro hg243 hx243
          clear h
          have hT243 := Below.refl (World.heap wm237).size wm237
          refine g_run rfl ?_; refine q_field rfl rfl ?_
          refine g_run rfl ?_; refine q_load rfl (Blk.cell (hS.blk 1 rfl) rfl) rfl ?_
          refine g_run rfl ?_; refine q_lenS rfl (hS.isl 0 rfl) rfl ?_
          refine g_run rfl ?_; refine q_geq rfl rfl rfl ?_
          cases hx243
          exact eseq_nil ⟨hT243, Sub.set rfl (Sub.set rfl (Sub.set rfl (Sub.set rfl (Sub.bool false rfl hg243)))), rfl⟩
        intro wm243 hBm243; clear hx243
        replace hS := hS.below hBm243
        replace f205 := f205.ext hBm243
        refine eseq_nil ?_
        refine hK222 _ _ ?_
        refine e_cond rfl (fun hc245 => ?_) (fun hc245 => ?_)
        · replace h := (if_pos hc245).symm.trans h
          refine e_seq fun K246 hK246 => ?_
          refine e_region_text rfl ?_
          refine q_build Parts.nil rfl rfl ?_
          refine q_storeAgg rfl rfl (hS.blk 2 rfl) rfl (Nat.le_of_ble_eq_true rfl) (all_cons rfl (all_cons rfl (all_cons rfl (all_nil)))) rfl rfl fun w247 hb247 hO247 => ?_
          simp only [setN, List.set, List.take, List.drop] at hb247
          have hk247 := hS.keptBlk 2 rfl hO247
          replace hS := hS.setBlk 2 rfl hb247 hO247; simp only [List.set] at hS
          refine q_assign rfl rfl ?_
          refine eseq_nil ?_
          refine hK246 _ _ ?_
          refine e_ret ?_
          replace hS := hS.nilOwn0 Ty.int 3
          replace hS := hS.nilOwn0 arcTy 107
          obtain rfl := Option.some.inj h
          exact ⟨_, resCT rfl rfl ((hS.blk 4 rfl).cellsAt 0 3 rfl) rfl rfl, (.slice none 0 0), (.slice none 0 0), (.slice none 0 0), _, rfl, (hS.pickB [2, 1, 0] 8 rfl rfl), (IsSlice.nil _ _ _)⟩
        · replace h := (if_neg (not_true hc245)).symm.trans h
          refine e_skip ?_
          refine hK221 _ _ ?_
          refine e_seq fun K250 hK250 => ?_
          refine e_region_draw mixed (fun _ => False) [0, 1, 0, 0, 0, 0, 32, 0, 224, 480, 1020, 2044, 4095, 8191, 16383] [11] [0, 1, 2, 3, 4, 5, 6, 7, 8, 9, 10, 11, 12, 13, 14] (by kernel_rfl) ?_
          refine q_field rfl rfl ?_
          refine q_load rfl (Blk.cell (hS.blk 3 rfl) rfl) rfl ?_
          refine q_move rfl rfl ?_
          refine q_move rfl rfl ?_
          refine q_move rfl rfl ?_
          refine q_field rfl rfl ?_
          refine q_load rfl (Blk.cell (hS.blk 3 rfl) rfl) rfl ?_
          refine q_move rfl rfl ?_
          obtain ⟨x258, hx258, h⟩ := Option.of_bind h
          refine q_indexO (by infer_instance) rfl (hS.own 4 rfl) rfl hx258 rfl ?_
          have f259 := (hS.ownR 4 rfl).elt hx258
          refine q_load rfl (Elt.intCell f259) rfl ?_
          refine q_build (Parts.cons rfl rfl (Parts.cons rfl rfl (Parts.cons rfl rfl (Parts.cons rfl rfl Parts.nil)))) rfl rfl ?_
          refine q_litO (T := arcTy) (S := (fun _ => False)) (cells := [[.int .i64 a2, .int .i64 a3, .int .i64 a1, .int .i64 x258]]) (ys := [(⟨a2, a3, a1, x258⟩ : Arc)]) ((Parts.cons rfl rfl Parts.nil)) rfl rfl rfl rfl rfl rfl rfl (fun w1 hB => ⟨⟨[_], _, rfl, rfl, ⟨[_], _, rfl, rfl, ⟨[_], _, rfl, rfl, rfl⟩⟩⟩, trivial⟩) (fun _ h => h.elim) rfl fun w260 v260 ho260 hv260 hB260 => ?_
          replace f205 := f205.ext hB260
          replace hS := hS.newOwnS hB260 ho260 hv260 (fun _ h => h.elim)
          obtain ⟨x263, hx263, h⟩ := Option.of_bind h
          refine q_catOwn (T := arcTy) rfl rfl rfl rfl (hS.own 6 rfl) rfl (hS.own 0 rfl) (fun _ h _ => h.elim) (snoc_cat hx263) (Nat.zero_le _) rfl (fun h => by cases h) fun v262 w262 hw262 hgr262 hnw262 => ?_
          have hk262 := hS.keptOwn 6 rfl hgr262
          replace f205 := f205.kept hk262
          replace hS := hS.setOwn 6 rfl hw262 hgr262 hnw262; simp only [List.set] at hS
          refine q_field rfl rfl ?_
          refine q_store rfl rfl (hS.blk 4 rfl) (Nat.le_of_ble_eq_true rfl) (hS.own 6 rfl).one rfl rfl fun w264 hb264 hO264 => ?_
          have hk264 := hS.keptBlk 4 rfl hO264
          replace f205 := f205.kept hk264
          replace hS := hS.setBlk 4 rfl hb264 hO264; simp only [List.set] at hS
          refine eseq_nil ?_
          refine hK250 _ _ ?_
          refine e_seq fun K265 hK265 => ?_
          refine e_region_text rfl ?_
          refine q_loadAgg rfl (Blk.cellsAt (hS.blk 4 rfl) 0 3 rfl) rfl rfl ?_
          refine q_storeAgg rfl rfl (hS.blk 3 rfl) rfl (Nat.le_of_ble_eq_true rfl) (all_cons (hS.own 5 rfl).one (all_cons f205.one (all_cons (hS.own 6 rfl).one (all_nil)))) rfl rfl fun w266 hb266 hO266 => ?_
          simp only [setN, List.set, List.take, List.drop] at hb266
          have hk266 := hS.keptBlk 3 rfl hO266
          replace f205 := f205.kept hk266
          replace hS := hS.setBlk 3 rfl hb266 hO266; simp only [List.set] at hS
          refine q_assign rfl rfl ?_
          refine eseq_nil ?_
          refine hK265 _ _ ?_
          refine e_ret ?_
          obtain rfl := Option.some.inj h
          exact ⟨_, resCT rfl rfl ((hS.blk 3 rfl).cellsAt 0 3 rfl) rfl rfl, v203, v2, v262, _, rfl, (hS.pickB [1, 5, 6] 7 rfl rfl), f205⟩
    obtain ⟨x170, hx170, h⟩ := Option.of_bind h
    obtain ⟨x173, hx173, h⟩ := Option.of_bind h
    refine e_region_T mixed (fun _ => False) [0, 1, 3, 0, 8, 0, 32, 103, 255, 0, 1023] [2, 7, 9] (QT.op 0 (QT.op 1 (QT.op 3 (QT.op 4 (QT.op 5 (QT.op 6 (QT.alt (QT.op 2 (QT.alt (QT.op 7 (QT.op 8 (QT.op 9 (QT.op 10 QT.fin)))) (QT.op 9 (QT.op 7 (QT.op 8 (QT.op 10 QT.fin)))))) (QT.op 9 (QT.op 2 (QT.op 7 (QT.op 8 (QT.op 10 QT.fin)))))))))))) (by kernel_rfl) ?_
    refine t_op ?_
    refine q_field rfl rfl ?_
    refine eseq_nil ?_
    refine t_op ?_
    refine q_load rfl (Blk.cell (hS.blk 1 rfl) rfl) rfl ?_
    refine eseq_nil ?_
    refine t_op ?_
    refine q_field rfl rfl ?_
    refine eseq_nil ?_
    refine t_op ?_
    refine q_load rfl (Blk.cell (hS.blk 1 rfl) rfl) rfl ?_
    refine eseq_nil ?_
    refine t_op ?_
    refine q_field rfl rfl ?_
    refine eseq_nil ?_
    refine t_op ?_
    refine q_load rfl (Blk.cell (hS.blk 1 rfl) rfl) rfl ?_
    refine eseq_nil ?_
    refine t_alt ?_ ?_
    · skip
      refine t_op ?_
      replace hS := hS.nilOwn0 Ty.int 3
      refine q_catE (T := Ty.int) rfl rfl rfl rfl (hS.own 0 rfl) rfl f1 hx170 (Nat.zero_le _) rfl (fun _ k hk => by cases hk) fun v268 w268 hw268 hgr268 hnw268 => ?_
      have hk268 := hS.keptOwn 0 rfl hgr268
      replace f1 := f1.kept hk268
      replace f2 := f2.kept hk268
      replace hS := hS.setOwn 0 rfl hw268 hgr268 hnw268; simp only [List.set] at hS
      refine eseq_nil ?_
      refine t_alt ?_ ?_
      · skip
        refine t_op ?_
        replace hS := hS.nilOwn0 arcTy 107
        refine q_catOwn (T := arcTy) rfl rfl rfl rfl (hS.own 0 rfl) rfl (hS.own 4 rfl) (fun _ h _ => h.elim) hx173 (Nat.zero_le _) rfl (fun _ k hk => by cases hk) fun v270 w270 hw270 hgr270 hnw270 => ?_
        have hk270 := hS.keptOwn 0 rfl hgr270
        replace f1 := f1.kept hk270
        replace f2 := f2.kept hk270
        replace hS := hS.setOwn 0 rfl hw270 hgr270 hnw270; simp only [List.set] at hS
        refine eseq_nil ?_
        refine t_op ?_
        refine q_build (Parts.cons rfl (cells_one (hS.own 1 rfl).one) (Parts.cons rfl (cells_one f2.one) (Parts.cons rfl (cells_one (hS.own 0 rfl).one) Parts.nil))) rfl rfl ?_
        refine eseq_nil ?_
        refine t_op ?_
        refine q_allocB rfl fun w271 bl271 hg271 hb271 hB271 => ?_
        replace f1 := f1.ext hB271
        replace f2 := f2.ext hB271
        replace hS := hS.newBlk hB271 hg271 hb271
        refine eseq_nil ?_
        refine t_op ?_
        refine q_storeAgg rfl rfl (hS.blk 0 rfl) rfl (Nat.le_of_ble_eq_true rfl) (all_cons (hS.own 2 rfl).one (all_cons f2.one (all_cons (hS.own 1 rfl).one (all_nil)))) rfl rfl fun w273 hb273 hO273 => ?_
        simp only [setN, List.set, List.take, List.drop] at hb273
        have hk273 := hS.keptBlk 0 rfl hO273
        replace f1 := f1.kept hk273
        replace f2 := f2.kept hk273
        replace hS := hS.setBlk 0 rfl hb273 hO273; simp only [List.set] at hS
        refine eseq_nil ?_
        refine t_fin ?_
        exact hJt209 x170 x173 bl271 v268 v270 _ _ _ h (hS.pickB [5, 4, 3, 0, 2, 1] 6 rfl rfl) f1 f2 f2 (Sub.cons rfl (Sub.cons rfl (Sub.cons rfl (Sub.cons rfl (Sub.cons rfl (Sub.cons rfl (Sub.nil _)))))))
      · skip
        refine t_op ?_
        refine q_allocB rfl fun w274 bl274 hg274 hb274 hB274 => ?_
        replace f1 := f1.ext hB274
        replace f2 := f2.ext hB274
        replace hS := hS.newBlk hB274 hg274 hb274
        refine eseq_nil ?_
        refine t_op ?_
        replace hS := hS.nilOwn0 arcTy 107
        refine q_catOwn (T := arcTy) rfl rfl rfl rfl (hS.own 0 rfl) rfl (hS.own 5 rfl) (fun _ h _ => h.elim) hx173 (Nat.zero_le _) rfl (fun _ k hk => by cases hk) fun v277 w277 hw277 hgr277 hnw277 => ?_
        have hk277 := hS.keptOwn 0 rfl hgr277
        replace f1 := f1.kept hk277
        replace f2 := f2.kept hk277
        replace hS := hS.setOwn 0 rfl hw277 hgr277 hnw277; simp only [List.set] at hS
        refine eseq_nil ?_
        refine t_op ?_
        refine q_build (Parts.cons rfl (cells_one (hS.own 2 rfl).one) (Parts.cons rfl (cells_one f2.one) (Parts.cons rfl (cells_one (hS.own 0 rfl).one) Parts.nil))) rfl rfl ?_
        refine eseq_nil ?_
        refine t_op ?_
        refine q_storeAgg rfl rfl (hS.blk 1 rfl) rfl (Nat.le_of_ble_eq_true rfl) (all_cons (hS.own 2 rfl).one (all_cons f2.one (all_cons (hS.own 0 rfl).one (all_nil)))) rfl rfl fun w278 hb278 hO278 => ?_
        simp only [setN, List.set, List.take, List.drop] at hb278
        have hk278 := hS.keptBlk 1 rfl hO278
        replace f1 := f1.kept hk278
        replace f2 := f2.kept hk278
        replace hS := hS.setBlk 1 rfl hb278 hO278; simp only [List.set] at hS
        refine eseq_nil ?_
        refine t_fin ?_
        exact hJt209 x170 x173 bl274 v268 v277 _ _ _ h (hS.pickB [5, 4, 3, 1, 2, 0] 6 rfl rfl) f1 f2 f2 (Sub.cons rfl (Sub.cons rfl (Sub.cons rfl (Sub.cons rfl (Sub.cons rfl (Sub.cons rfl (Sub.nil _)))))))
    · skip
      refine t_op ?_
      refine q_allocB rfl fun w279 bl279 hg279 hb279 hB279 => ?_
      replace f1 := f1.ext hB279
      replace f2 := f2.ext hB279
      replace hS := hS.newBlk hB279 hg279 hb279
      refine eseq_nil ?_
      refine t_op ?_
      replace hS := hS.nilOwn0 Ty.int 3
      refine q_catE (T := Ty.int) rfl rfl rfl rfl (hS.own 0 rfl) rfl f1 hx170 (Nat.zero_le _) rfl (fun _ k hk => by cases hk) fun v282 w282 hw282 hgr282 hnw282 => ?_
      have hk282 := hS.keptOwn 0 rfl hgr282
      replace f1 := f1.kept hk282
      replace f2 := f2.kept hk282
      replace hS := hS.setOwn 0 rfl hw282 hgr282 hnw282; simp only [List.set] at hS
      refine eseq_nil ?_
      refine t_op ?_
      replace hS := hS.nilOwn0 arcTy 107
      refine q_catOwn (T := arcTy) rfl rfl rfl rfl (hS.own 0 rfl) rfl (hS.own 5 rfl) (fun _ h _ => h.elim) hx173 (Nat.zero_le _) rfl (fun _ k hk => by cases hk) fun v284 w284 hw284 hgr284 hnw284 => ?_
      have hk284 := hS.keptOwn 0 rfl hgr284
      replace f1 := f1.kept hk284
      replace f2 := f2.kept hk284
      replace hS := hS.setOwn 0 rfl hw284 hgr284 hnw284; simp only [List.set] at hS
      refine eseq_nil ?_
      refine t_op ?_
      refine q_build (Parts.cons rfl (cells_one (hS.own 1 rfl).one) (Parts.cons rfl (cells_one f2.one) (Parts.cons rfl (cells_one (hS.own 0 rfl).one) Parts.nil))) rfl rfl ?_
      refine eseq_nil ?_
      refine t_op ?_
      refine q_storeAgg rfl rfl (hS.blk 2 rfl) rfl (Nat.le_of_ble_eq_true rfl) (all_cons (hS.own 1 rfl).one (all_cons f2.one (all_cons (hS.own 0 rfl).one (all_nil)))) rfl rfl fun w285 hb285 hO285 => ?_
      simp only [setN, List.set, List.take, List.drop] at hb285
      have hk285 := hS.keptBlk 2 rfl hO285
      replace f1 := f1.kept hk285
      replace f2 := f2.kept hk285
      replace hS := hS.setBlk 2 rfl hb285 hO285; simp only [List.set] at hS
      refine eseq_nil ?_
      refine t_fin ?_
      exact hJt209 x170 x173 bl279 v282 v284 _ _ _ h (hS.pickB [5, 4, 3, 2, 1, 0] 6 rfl rfl) f1 f2 f2 (Sub.cons rfl (Sub.cons rfl (Sub.cons rfl (Sub.cons rfl (Sub.cons rfl (Sub.cons rfl (Sub.nil _)))))))
theorem make_with_w {F R : Nat → Prop} {w : World} {fuel : Nat} {a0 : Pat} {a1 : Int} {a2 : Int} {a3 : Int} {v1 : Value} {v2 : Value} {v3 : Value} {r : (Pat)} (hS : Sep F R R w w [HP.own arcTy (fun _ => False) 107 v3 a0.arcs]) (f1 : IsSlice Ty.int w R v1 a0.lens) (f2 : IsSlice (Ty.slice Ty.int) w R v2 a0.ckpts) (h : make_with fuel a0 a1 a2 a3 = some r) :
    Gives Try.prog 107 [.agg #[v1, v2, v3], .int .i64 a1, .int .i64 a2, .int .i64 a3] w fun u w1 => ∃ (v25 : Value), ∃ (v26 : Value), ∃ (v27 : Value), ∃ (R1 : Nat → Prop), u = .agg #[v25, v26, v27] ∧ Sep F R R1 w w1 [HP.own arcTy (fun _ => False) 107 v27 r.arcs] ∧ IsSlice Ty.int w1 R1 v25 r.lens ∧ IsSlice (Ty.slice Ty.int) w1 R1 v26 r.ckpts := by
  refine fn_of Try.func107 rfl Try.ntmps107 (Nat.le_of_ble_eq_true rfl) ?_
  unfold make_with at h
  refine e_seq fun K28 hK28 => ?_
  refine e_region_text rfl ?_
  refine q_boxB rfl rfl rfl fun w29 bl29 hg29 hb29 hB29 => ?_
  replace f1 := f1.ext hB29
  replace f2 := f2.ext hB29
  replace hS := hS.newBlk hB29 hg29 hb29
  refine q_allocB rfl fun w31 bl31 hg31 hb31 hB31 => ?_
  replace f1 := f1.ext hB31
  replace f2 := f2.ext hB31
  replace hS := hS.newBlk hB31 hg31 hb31
  refine eseq_nil ?_
  refine hK28 _ _ ?_
  refine e_seq fun K33 hK33 => ?_
  refine e_seq fun K34 hK34 => ?_
  refine e_region_text rfl ?_
  refine q_loadAgg rfl (Blk.cellsAt (hS.blk 1 rfl) 0 3 rfl) rfl rfl ?_
  refine q_move rfl rfl ?_
  refine q_move rfl rfl ?_
  refine q_move rfl rfl ?_
  obtain ⟨r36, hr36, h⟩ := Option.of_bind h
  replace hS := hS.pickB [2, 0, 1] 3 rfl rfl; simp only [List.map_cons, List.map_nil, List.getD_cons_zero, List.getD_cons_succ] at hS
  refine q_call rfl (ref16_Append_w (a0 := (⟨a0.lens, a0.ckpts, a0.arcs⟩ : Pat)) (Sep.enter (As := [_]) hS) f1 f2 hr36) rfl ?_
  rintro _ w35 ⟨v37, v38, v39, R35, rfl, hC35, f38⟩
  refine ⟨(fun h => by cases h), ?_⟩
  have hk35 := hC35.keptR (Sep.offFeet (As := [_]) hS)
  replace f1 := (f1.kept hk35).mono fun k hk _ => hC35.ro0 k hk
  replace f2 := (f2.kept hk35).mono fun k hk _ => hC35.ro0 k hk
  replace hS := Sep.leave (As := [_]) hS hC35; simp only [List.cons_append, List.nil_append] at hS
  refine q_move rfl rfl ?_
  refine q_extract rfl rfl rfl ?_
  refine q_extract rfl rfl rfl ?_
  refine q_allocB rfl fun w40 bl40 hg40 hb40 hB40 => ?_
  replace f1 := f1.ext hB40
  replace f2 := f2.ext hB40
  replace f38 := f38.ext hB40
  replace hS := hS.newBlk hB40 hg40 hb40
  refine q_storeAgg rfl rfl (hS.blk 0 rfl) rfl (Nat.le_of_ble_eq_true rfl) (all_cons (hS.own 2 rfl).one (all_cons f38.one (all_cons (hS.own 3 rfl).one (all_nil)))) rfl rfl fun w42 hb42 hO42 => ?_
  simp only [setN, List.set, List.take, List.drop] at hb42
  have hk42 := hS.keptBlk 0 rfl hO42
  replace f1 := f1.kept hk42
  replace f2 := f2.kept hk42
  replace f38 := f38.kept hk42
  replace hS := hS.setBlk 0 rfl hb42 hO42; simp only [List.set] at hS
  refine q_assign rfl rfl ?_
  refine eseq_nil ?_
  refine hK34 _ _ ?_
  refine e_seq fun K43 hK43 => ?_
  refine e_region_text rfl ?_
  refine q_move rfl rfl ?_
  refine eseq_nil ?_
  refine hK43 _ _ ?_
  refine e_cond rfl (fun hc44 => ?_) (fun hc44 => ?_)
  · replace h := (if_pos hc44).symm.trans h
    refine e_seq fun K45 hK45 => ?_
    refine e_region_text rfl ?_
    refine q_loadAgg rfl (Blk.cellsAt (hS.blk 0 rfl) 0 3 rfl) rfl rfl ?_
    refine q_storeAgg rfl rfl (hS.blk 4 rfl) rfl (Nat.le_of_ble_eq_true rfl) (all_cons (hS.own 2 rfl).one (all_cons f38.one (all_cons (hS.own 3 rfl).one (all_nil)))) rfl rfl fun w46 hb46 hO46 => ?_
    simp only [setN, List.set, List.take, List.drop] at hb46
    have hk46 := hS.keptBlk 4 rfl hO46
    replace f38 := f38.kept hk46
    replace hS := hS.setBlk 4 rfl hb46 hO46; simp only [List.set] at hS
    refine eseq_nil ?_
    refine hK45 _ _ ?_
    refine e_ret ?_
    obtain ⟨R47, hS, hm47, f47⟩ := hS.freezeOwn 2 rfl; simp only [List.eraseIdx] at hS
    replace f38 := f38.mono fun k hk _ => hm47 k hk
    obtain rfl := Option.some.inj h
    exact ⟨_, resC1 rfl rfl ((hS.blk 3 rfl).cellsAt 0 3 rfl) rfl, v37, v38, v39, _, rfl, (hS.pickB [2] 5 rfl rfl), f47, f38⟩
  · replace h := (if_neg (not_true hc44)).symm.trans h
    refine e_skip ?_
    refine hK33 _ _ ?_
    refine e_seq fun K48 hK48 => ?_
    refine e_region_text rfl ?_
    refine q_loadAgg rfl (Blk.cellsAt (hS.blk 5 rfl) 0 3 rfl) rfl rfl ?_
    refine q_storeAgg rfl rfl (hS.blk 4 rfl) rfl (Nat.le_of_ble_eq_true rfl) (all_cons f1.one (all_cons f2.one (all_cons (hS.own 1 rfl).one (all_nil)))) rfl rfl fun w49 hb49 hO49 => ?_
    simp only [setN, List.set, List.take, List.drop] at hb49
    have hk49 := hS.keptBlk 4 rfl hO49
    replace f1 := f1.kept hk49
    replace f2 := f2.kept hk49
    replace hS := hS.setBlk 4 rfl hb49 hO49; simp only [List.set] at hS
    refine eseq_nil ?_
    refine hK48 _ _ ?_
    refine e_ret ?_
    obtain rfl := Option.some.inj h
    exact ⟨_, resC1 rfl rfl ((hS.blk 4 rfl).cellsAt 0 3 rfl) rfl, v1, v2, v3, _, rfl, (hS.pickB [1] 6 rfl rfl), f1, f2⟩
theorem make_Codes_Pattern_w {F R : Nat → Prop} {w : World} {fuel : Nat} {a1 : Int} {c0_0 : (List Int)} {c0_1 : Int} {B0 : Nat} {v2 : Value} {r : (Pat × Int)} (hS : Sep F R R w w [HP.blk B0 [v2, .int .i64 c0_1] 117]) (f2 : IsSlice Ty.u8 w R v2 c0_0) (h : make_Codes_Pattern fuel a1 c0_0 c0_1 = some r) :
    Gives Try.prog 64 [.pointer (some ⟨B0, 0, none⟩), .int .i64 a1] w fun u w1 => ∃ (v536 : Value), ∃ (v537 : Value), ∃ (v538 : Value), ∃ (R1 : Nat → Prop), u = .agg #[v536, v537, v538] ∧ Sep F R R1 w w1 [HP.blk B0 [v2, .int .i64 r.2] 117, HP.own arcTy (fun _ => False) 107 v538 r.1.arcs] ∧ IsSlice Ty.int w1 R1 v536 r.1.lens ∧ IsSlice (Ty.slice Ty.int) w1 R1 v537 r.1.ckpts := by
  refine fn_of Try.func64 rfl Try.ntmps64 (Nat.le_of_ble_eq_true rfl) ?_
  unfold make_Codes_Pattern at h
  refine e_seq fun K539 hK539 => ?_
  refine e_region_text rfl ?_
  refine q_allocB rfl fun w540 bl540 hg540 hb540 hB540 => ?_
  replace f2 := f2.ext hB540
  replace hS := hS.newBlk hB540 hg540 hb540
  refine eseq_nil ?_
  refine hK539 _ _ ?_
  refine e_seq fun K542 hK542 => ?_
  refine e_region_text rfl ?_
  refine q_move rfl rfl ?_
  obtain ⟨r544, hr544, h⟩ := Option.of_bind h
  replace hS := hS.pickB [1, 0] 2 rfl rfl; simp only [List.map_cons, List.map_nil, List.getD_cons_zero, List.getD_cons_succ] at hS
  refine q_call rfl (make_Codes_Next_w (Sep.enter (As := [_]) hS) f2 hr544) rfl ?_
  rintro _ w543 ⟨R543, rfl, hC543⟩
  refine ⟨(fun h => by cases h), ?_⟩
  have hk543 := hC543.keptR (Sep.offFeet (As := [_]) hS)
  replace f2 := (f2.kept hk543).mono fun k hk _ => hC543.ro0 k hk
  replace hS := Sep.leave (As := [_]) hS hC543; simp only [List.cons_append, List.nil_append] at hS
  refine q_addW rfl rfl rfl ?_
  refine q_assign rfl rfl ?_
  refine eseq_nil ?_
  refine hK542 _ _ ?_
  refine e_seq fun K545 hK545 => ?_
  refine e_region_text rfl ?_
  refine q_move rfl rfl ?_
  obtain ⟨x546, hx546, h⟩ := Option.of_bind h
  refine q_makeO (T := Ty.int) (S := (fun _ => False)) rfl rfl rfl hx546 (fun _ h => h.elim) rfl fun w547 v547 ho547 hv547 hB547 => ?_
  replace f2 := f2.ext hB547
  replace hS := hS.newOwnS hB547 ho547 hv547 (fun _ h => h.elim)
  refine q_build (Parts.cons rfl (cells_one (hS.own 0 rfl).one) Parts.nil) rfl rfl ?_
  refine q_allocB rfl fun w549 bl549 hg549 hb549 hB549 => ?_
  replace f2 := f2.ext hB549
  replace hS := hS.newBlk hB549 hg549 hb549
  refine q_storeAgg rfl rfl (hS.blk 0 rfl) rfl (Nat.le_of_ble_eq_true rfl) (all_cons (hS.own 1 rfl).one (all_cons rfl (all_cons rfl (all_nil)))) rfl rfl fun w551 hb551 hO551 => ?_
  simp only [setN, List.set, List.take, List.drop] at hb551
  have hk551 := hS.keptBlk 0 rfl hO551
  replace f2 := f2.kept hk551
  replace hS := hS.setBlk 0 rfl hb551 hO551; simp only [List.set] at hS
  refine eseq_nil ?_
  refine hK545 _ _ ?_
  refine e_seq fun K552 hK552 => ?_
  refine e_seq fun K553 hK553 => ?_
  refine e_region_text rfl ?_
  refine q_assign rfl rfl ?_
  refine eseq_nil ?_
  refine hK553 _ _ ?_
  refine e_block ?_
  obtain ⟨tl554, ht554, h⟩ := Option.of_bind h
  have hX554_0 : ∀ (x621 : (List (List Int))) (v619 : Value) (v620 : List Value) (R615 : Nat → Prop) (w616 : World) (E_ : Env), make_Codes_Pattern_K1 fuel a1 c0_0 r544 x546 x621 = some r → Sep F R R615 w w616 [HP.blk B0 [v2, .int .i64 r544.2] 117, HP.blk bl540 [.slice none 0 0, .slice none 0 0, .slice none 0 0] 31, HP.blk bl549 [v547, v619, .slice none 0 0] 31, HP.own Ty.int (fun _ => False) 3 v547 x546, HP.own Ty.raw (fun _ => False) 27 v619 v620, HP.famS Ty.int (fun _ => False) 3 v620 x621] → IsSlice Ty.u8 w616 R615 v2 c0_0 → Sub [(0, .pointer (some ⟨B0, 0, none⟩)), (1, .int .i64 a1), (4, .pointer (some ⟨bl540, 0, none⟩)), (5, .int .i64 (w64 (2 + r544.1))), (6, .pointer (some ⟨bl549, 0, none⟩))] E_ → K552 E_ w616 := by
    intro x621 v619 v620 R615 w616 E_ h hS f617 hsub
    refine hK552 _ _ (e_sub hsub ?_); clear hsub
    unfold make_Codes_Pattern_K1 at h
    refine e_seq fun K624 hK624 => ?_
    refine e_seq fun K625 hK625 => ?_
    refine e_region_text rfl ?_
    refine q_assign rfl rfl ?_
    refine eseq_nil ?_
    refine hK625 _ _ ?_
    refine e_block ?_
    obtain ⟨tl626, ht626, h⟩ := Option.of_bind h
    have hX626_2 : ∀ (x953 : Int) (x955 : (List Int)) (x959 : (List (List Int))) (x963 : (List Arc)) (v954 : Value) (v958 : Value) (v962 : Value) (R950 : Nat → Prop) (w951 : World) (E_ : Env), make_Codes_Pattern_K2 fuel x953 x955 x959 x963 = some r → Sep F R R950 w w951 [HP.blk B0 [v2, .int .i64 x953] 117, HP.blk bl540 [.slice none 0 0, .slice none 0 0, .slice none 0 0] 31, HP.blk bl549 [v954, v958, v962] 31, HP.own arcTy (fun _ => False) 107 v962 x963] → IsSlice Ty.u8 w951 R950 v2 c0_0 → IsSlice Ty.int w951 R950 v954 x955 → IsSlice (Ty.slice Ty.int) w951 R950 v958 x959 → Sub [(4, .pointer (some ⟨bl540, 0, none⟩)), (6, .pointer (some ⟨bl549, 0, none⟩))] E_ → K624 E_ w951 := by
      intro x953 x955 x959 x963 v954 v958 v962 R950 w951 E_ h hS f952 f956 f960 hsub
      refine hK624 _ _ (e_sub hsub ?_); clear hsub
      unfold make_Codes_Pattern_K2 at h
      refine e_seq fun K964 hK964 => ?_
      refine e_region_text rfl ?_
      refine q_loadAgg rfl (Blk.cellsAt (hS.blk 2 rfl) 0 3 rfl) rfl rfl ?_
      refine q_storeAgg rfl rfl (hS.blk 1 rfl) rfl (Nat.le_of_ble_eq_true rfl) (all_cons f956.one (all_cons f960.one (all_cons (hS.own 3 rfl).one (all_nil)))) rfl rfl fun w965 hb965 hO965 => ?_
      simp only [setN, List.set, List.take, List.drop] at hb965
      have hk965 := hS.keptBlk 1 rfl hO965
      replace f956 := f956.kept hk965
      replace f960 := f960.kept hk965
      replace f952 := f952.kept hk965
      replace hS := hS.setBlk 1 rfl hb965 hO965; simp only [List.set] at hS
      refine eseq_nil ?_
      refine hK964 _ _ ?_
      refine e_ret ?_
      obtain rfl := Option.some.inj h
      exact ⟨_, resC1 rfl rfl ((hS.blk 1 rfl).cellsAt 0 3 rfl) rfl, v954, v958, v962, _, rfl, (hS.pickB [0, 3] 4 rfl rfl), f956, f960⟩
    obtain ⟨R966, hS, hm966, f966⟩ := hS.freezeOwn 3 rfl; simp only [List.eraseIdx] at hS
    replace f617 := f617.mono fun k hk _ => hm966 k hk
    replace hS := hS.pickB [3, 4, 0, 1, 2] 5 rfl rfl; simp only [List.map_cons, List.map_nil, List.getD_cons_zero, List.getD_cons_succ] at hS
    obtain ⟨R967, hS, hm967⟩ := hS.rowsFreeze
    replace f617 := f617.mono fun k hk _ => hm967 k hk
    replace f966 := f966.mono fun k hk _ => hm967 k hk
    obtain ⟨R969, hS, hm969, f969⟩ := hS.freezeOwn 0 rfl; simp only [List.eraseIdx] at hS
    replace f617 := f617.mono fun k hk _ => hm969 k hk
    replace f966 := f966.mono fun k hk _ => hm969 k hk
    replace hS := hS.nilOwn0 arcTy 107
    refine e_loop (fun m_ E_ w798 => ∃ (x800 : Int), ∃ (x802 : (List Int)), ∃ (x806 : (List (List Int))), ∃ (x810 : (List Arc)), ∃ (x811 : Int), ∃ (v801 : Value), ∃ (v805 : Value), ∃ (v809 : Value), ∃ (R797 : Nat → Prop), iter (fun s => make_Codes_Pattern_B1 fuel a1 c0_0 r544 s.1 s.2.1 s.2.2.1 s.2.2.2.1 s.2.2.2.2) m_ (x800, x802, x806, x810, x811) = some tl626 ∧ Sep F R R797 w w798 [HP.blk B0 [v2, .int .i64 x800] 117, HP.blk bl540 [.slice none 0 0, .slice none 0 0, .slice none 0 0] 31, HP.blk bl549 [v801, v805, v809] 31, HP.own arcTy (fun _ => False) 107 v809 x810] ∧ IsSlice Ty.u8 w798 R797 v2 c0_0 ∧ IsSlice Ty.int w798 R797 v801 x802 ∧ IsSlice (Ty.slice Ty.int) w798 R797 v805 x806 ∧ E_ = [(0, .pointer (some ⟨B0, 0, none⟩)), (1, .int .i64 a1), (4, .pointer (some ⟨bl540, 0, none⟩)), (5, .int .i64 (w64 (2 + r544.1))), (6, .pointer (some ⟨bl549, 0, none⟩)), (8, .int .i64 x811)]) _ ⟨_, ⟨r544.2, x546, x621, ([] : List Arc), 0, v547, v619, (.slice none 0 0), _, ht626, (hS.pickB [1, 2, 3, 0] 4 rfl rfl), f617, f966, f969, rfl⟩, Sub.cons rfl (Sub.cons rfl (Sub.cons rfl (Sub.cons rfl (Sub.cons rfl (Sub.cons rfl (Sub.nil _))))))⟩ ?_
    clear ht626 hS
    rintro m626 _ w798 ⟨x800, x802, x806, x810, x811, v801, v805, v809, R797, ht626, hS, f799, f803, f807, rfl⟩
    obtain ⟨m626, rfl, o626, ho626, ht626⟩ := iter_some ht626
    replace ho626 : make_Codes_Pattern_B1 fuel a1 c0_0 r544 x800 x802 x806 x810 x811 = some o626 := ho626
    unfold make_Codes_Pattern_B1 at ho626
    refine e_seq fun K971 hK971 => ?_
    refine e_seq fun K972 hK972 => ?_
    refine e_region_text rfl ?_
    refine q_move rfl rfl ?_
    refine q_move rfl rfl ?_
    refine q_lss rfl rfl rfl ?_
    refine q_move rfl rfl ?_
    obtain ⟨x978, hx977, ho626⟩ := Option.of_bind ho626
    refine g_andM 2 hx977 rfl trivial rfl rfl ?_ ?_ ?_
    · intro hg977 hx977
      clear ho626
      have hT977 := Below.refl (World.heap w798).size w798
      refine g_run rfl ?_; refine q_move rfl rfl ?_
      obtain ⟨r980, hr980, hx977⟩ := Option.of_bind hx977
      refine g_run rfl ?_; refine q_call rfl (make_Codes_Left_w (Sep.all w798) (Lent.of (hS.blk 0 rfl)) (f799).old hr980) rfl ?_
      rintro _ w979 ⟨R979, rfl, hC979⟩
      have hB979 : Below (World.heap w798).size w798 w979 := hC979.stepBF
      refine ⟨fun _ => .of_below hB979, ?_⟩
      replace f799 := f799.ext hB979
      replace f803 := f803.ext hB979
      replace f807 := f807.ext hB979
      replace hT977 := hT977.trans (Below.mono hB979 hT977.size)
      replace hS := hS.below hB979
      cases hx977
      exact eseq_nil ⟨hT977, Sub.set rfl (Sub.set rfl (Sub.bool true rfl hg977)), rfl⟩
    · intro hg977
      refine g_skip rfl rfl rfl ?_
      refine g_skip rfl rfl rfl ?_
      exact eseq_nil ⟨rfl, Sub.set rfl (Sub.set rfl (Sub.bool false rfl hg977))⟩
    intro wm977 hBm977; clear hx977
    replace hS := hS.below hBm977
    replace f799 := f799.ext hBm977
    replace f803 := f803.ext hBm977
    replace f807 := f807.ext hBm977
    refine eseq_nil ?_
    refine hK972 _ _ ?_
    refine e_cond rfl (fun hc981 => ?_) (fun hc981 => ?_)
    · replace ho626 := (if_pos hc981).symm.trans ho626
      refine e_skip ?_
      refine hK971 _ _ ?_
      refine e_seq fun K982 hK982 => ?_
      refine e_block ?_
      refine e_seq fun K983 hK983 => ?_
      refine e_region_text rfl ?_
      refine q_move rfl rfl ?_
      refine q_move rfl rfl ?_
      obtain ⟨r985, hr985, ho626⟩ := Option.of_bind ho626
      refine q_call rfl (make_Codes_Next_w (Sep.enter (As := [_]) hS) f799 hr985) rfl ?_
      rintro _ w984 ⟨R984, rfl, hC984⟩
      refine ⟨(fun h => by cases h), ?_⟩
      have hk984 := hC984.keptR (Sep.offFeet (As := [_]) hS)
      replace f799 := (f799.kept hk984).mono fun k hk _ => hC984.ro0 k hk
      replace f803 := (f803.kept hk984).mono fun k hk _ => hC984.ro0 k hk
      replace f807 := (f807.kept hk984).mono fun k hk _ => hC984.ro0 k hk
      replace hS := Sep.leave (As := [_]) hS hC984; simp only [List.cons_append, List.nil_append] at hS
      refine q_assign rfl rfl ?_
      refine eseq_nil ?_
      refine hK983 _ _ ?_
      refine e_seq fun K986 hK986 => ?_
      refine e_region_text rfl ?_
      refine q_move rfl rfl ?_
      obtain ⟨r988, hr988, ho626⟩ := Option.of_bind ho626
      refine q_call rfl (make_Codes_Next_w (Sep.enter (As := [_]) hS) f799 hr988) rfl ?_
      rintro _ w987 ⟨R987, rfl, hC987⟩
      refine ⟨(fun h => by cases h), ?_⟩
      have hk987 := hC987.keptR (Sep.offFeet (As := [_]) hS)
      replace f799 := (f799.kept hk987).mono fun k hk _ => hC987.ro0 k hk
      replace f803 := (f803.kept hk987).mono fun k hk _ => hC987.ro0 k hk
      replace f807 := (f807.kept hk987).mono fun k hk _ => hC987.ro0 k hk
      replace hS := Sep.leave (As := [_]) hS hC987; simp only [List.cons_append, List.nil_append] at hS
      refine q_assign rfl rfl ?_
      refine eseq_nil ?_
      refine hK986 _ _ ?_
      refine e_block ?_
      refine e_seq fun K989 hK989 => ?_
      refine e_region_text rfl ?_
      refine q_move rfl rfl ?_
      refine q_lss rfl rfl rfl ?_
      refine q_assign rfl rfl ?_
      refine eseq_nil ?_
      refine hK989 _ _ ?_
      refine e_cond rfl (fun hc990 => ?_) (fun hc990 => ?_)
      · replace ho626 := (if_pos hc990).symm.trans ho626
        refine e_region_text rfl ?_
        refine q_loadAgg rfl (Blk.cellsAt (hS.blk 2 rfl) 0 3 rfl) rfl rfl ?_
        refine q_move rfl rfl ?_
        obtain ⟨r992, hr992, ho626⟩ := Option.of_bind ho626
        replace hS := hS.pickB [3, 0, 1, 2] 4 rfl rfl; simp only [List.map_cons, List.map_nil, List.getD_cons_zero, List.getD_cons_succ] at hS
        refine q_call rfl (ref16_Mark_w (a0 := (⟨x802, x806, x810⟩ : Pat)) (Sep.enter (As := [_]) hS) f803 f807 hr992) rfl ?_
        rintro _ w991 ⟨v993, v994, v995, R991, rfl, hC991, f993, f994⟩
        refine ⟨(fun h => by cases h), ?_⟩
        have hk991 := hC991.keptR (Sep.offFeet (As := [_]) hS)
        replace f799 := (f799.kept hk991).mono fun k hk _ => hC991.ro0 k hk
        replace f803 := (f803.kept hk991).mono fun k hk _ => hC991.ro0 k hk
        replace f807 := (f807.kept hk991).mono fun k hk _ => hC991.ro0 k hk
        replace hS := Sep.leave (As := [_]) hS hC991; simp only [List.cons_append, List.nil_append] at hS
        refine q_storeAgg rfl rfl (hS.blk 3 rfl) rfl (Nat.le_of_ble_eq_true rfl) (all_cons f993.one (all_cons f994.one (all_cons (hS.own 0 rfl).one (all_nil)))) rfl rfl fun w996 hb996 hO996 => ?_
        simp only [setN, List.set, List.take, List.drop] at hb996
        have hk996 := hS.keptBlk 3 rfl hO996
        replace f799 := f799.kept hk996
        replace f993 := f993.kept hk996
        replace f994 := f994.kept hk996
        replace hS := hS.setBlk 3 rfl hb996 hO996; simp only [List.set] at hS
        refine eseq_nil ?_
        refine hK982 _ _ ?_
        refine e_region_text rfl ?_
        refine q_move rfl rfl ?_
        refine q_addW rfl rfl rfl ?_
        refine q_assign rfl rfl ?_
        refine eseq_nil ?_
        obtain rfl := Option.some.inj ho626
        exact ⟨m626, _, Nat.lt_succ_self _, ⟨r988.2, r992.lens, r992.ckpts, r992.arcs, (w64 (x811 + 1)), v993, v994, v995, _, ht626, (hS.pickB [1, 2, 3, 0] 4 rfl rfl), f799, f993, f994, rfl⟩, Sub.cons rfl (Sub.cons rfl (Sub.cons rfl (Sub.cons rfl (Sub.cons rfl (Sub.cons rfl (Sub.nil _))))))⟩
      · replace ho626 := (if_neg (not_true hc990)).symm.trans ho626
        refine e_seq fun K997 hK997 => ?_
        refine e_region_text rfl ?_
        refine q_move rfl rfl ?_
        refine q_eql rfl rfl rfl ?_
        refine q_assign rfl rfl ?_
        refine eseq_nil ?_
        refine hK997 _ _ ?_
        refine e_cond rfl (fun hc998 => ?_) (fun hc998 => ?_)
        · replace ho626 := (if_pos hc998).symm.trans ho626
          refine e_region_text rfl ?_
          refine q_loadAgg rfl (Blk.cellsAt (hS.blk 2 rfl) 0 3 rfl) rfl rfl ?_
          refine q_move rfl rfl ?_
          obtain ⟨r1000, hr1000, ho626⟩ := Option.of_bind ho626
          replace hS := hS.pickB [3, 0, 1, 2] 4 rfl rfl; simp only [List.map_cons, List.map_nil, List.getD_cons_zero, List.getD_cons_succ] at hS
          refine q_call rfl (make_with_w (a0 := (⟨x802, x806, x810⟩ : Pat)) (Sep.enter (As := [_]) hS) f803 f807 hr1000) rfl ?_
          rintro _ w999 ⟨v1001, v1002, v1003, R999, rfl, hC999, f1001, f1002⟩
          refine ⟨(fun h => by cases h), ?_⟩
          have hk999 := hC999.keptR (Sep.offFeet (As := [_]) hS)
          replace f799 := (f799.kept hk999).mono fun k hk _ => hC999.ro0 k hk
          replace f803 := (f803.kept hk999).mono fun k hk _ => hC999.ro0 k hk
          replace f807 := (f807.kept hk999).mono fun k hk _ => hC999.ro0 k hk
          replace hS := Sep.leave (As := [_]) hS hC999; simp only [List.cons_append, List.nil_append] at hS
          refine q_storeAgg rfl rfl (hS.blk 3 rfl) rfl (Nat.le_of_ble_eq_true rfl) (all_cons f1001.one (all_cons f1002.one (all_cons (hS.own 0 rfl).one (all_nil)))) rfl rfl fun w1004 hb1004 hO1004 => ?_
          simp only [setN, List.set, List.take, List.drop] at hb1004
          have hk1004 := hS.keptBlk 3 rfl hO1004
          replace f799 := f799.kept hk1004
          replace f1001 := f1001.kept hk1004
          replace f1002 := f1002.kept hk1004
          replace hS := hS.setBlk 3 rfl hb1004 hO1004; simp only [List.set] at hS
          refine eseq_nil ?_
          refine hK982 _ _ ?_
          refine e_region_text rfl ?_
          refine q_move rfl rfl ?_
          refine q_addW rfl rfl rfl ?_
          refine q_assign rfl rfl ?_
          refine eseq_nil ?_
          obtain rfl := Option.some.inj ho626
          exact ⟨m626, _, Nat.lt_succ_self _, ⟨r988.2, r1000.lens, r1000.ckpts, r1000.arcs, (w64 (x811 + 1)), v1001, v1002, v1003, _, ht626, (hS.pickB [1, 2, 3, 0] 4 rfl rfl), f799, f1001, f1002, rfl⟩, Sub.cons rfl (Sub.cons rfl (Sub.cons rfl (Sub.cons rfl (Sub.cons rfl (Sub.cons rfl (Sub.nil _))))))⟩
        · replace ho626 := (if_neg (not_true hc998)).symm.trans ho626
          refine e_seq fun K1005 hK1005 => ?_
          refine e_region_text rfl ?_
          refine q_move rfl rfl ?_
          refine q_eql rfl rfl rfl ?_
          refine q_assign rfl rfl ?_
          refine eseq_nil ?_
          refine hK1005 _ _ ?_
          refine e_cond rfl (fun hc1006 => ?_) (fun hc1006 => ?_)
          · replace ho626 := (if_pos hc1006).symm.trans ho626
            refine e_seq fun K1007 hK1007 => ?_
            refine e_region_text rfl ?_
            refine q_move rfl rfl ?_
            refine q_addW rfl rfl rfl ?_
            refine q_move rfl rfl ?_
            refine q_move rfl rfl ?_
            refine q_subW rfl rfl rfl ?_
            obtain ⟨r1009, hr1009, ho626⟩ := Option.of_bind ho626
            refine q_call rfl (make_Codes_Next_w (Sep.enter (As := [_]) hS) f799 hr1009) rfl ?_
            rintro _ w1008 ⟨R1008, rfl, hC1008⟩
            refine ⟨(fun h => by cases h), ?_⟩
            have hk1008 := hC1008.keptR (Sep.offFeet (As := [_]) hS)
            replace f799 := (f799.kept hk1008).mono fun k hk _ => hC1008.ro0 k hk
            replace f803 := (f803.kept hk1008).mono fun k hk _ => hC1008.ro0 k hk
            replace f807 := (f807.kept hk1008).mono fun k hk _ => hC1008.ro0 k hk
            replace hS := Sep.leave (As := [_]) hS hC1008; simp only [List.cons_append, List.nil_append] at hS
            refine q_addW rfl rfl rfl ?_
            refine q_move rfl rfl ?_
            obtain ⟨x1010, hx1010, ho626⟩ := Option.of_bind ho626
            refine q_remM rfl rfl hx1010 rfl ?_
            refine q_assign rfl rfl ?_
            refine eseq_nil ?_
            refine hK1007 _ _ ?_
            refine e_region_draw mixed (fun k => k = B0) [0, 1, 0, 0, 0, 16, 0, 112, 240, 496, 1016, 0, 4092, 8188, 16383, 32767, 65535] [10, 13] [0, 1, 2, 3, 4, 5, 6, 7, 8, 9, 11, 10, 12, 13, 14, 15, 16] (by kernel_rfl) ?_
            refine q_field rfl rfl ?_
            refine q_load rfl (Blk.cell (hS.blk 2 rfl) rfl) rfl ?_ (hX := fun hx_ => hS.apart 2 0 rfl rfl (by decide) _ rfl hx_)
            refine q_move rfl rfl ?_
            refine q_move rfl rfl ?_
            refine q_field rfl rfl ?_
            refine q_load rfl (Blk.cell (hS.blk 2 rfl) rfl) rfl ?_ (hX := fun hx_ => hS.apart 2 0 rfl rfl (by decide) _ rfl hx_)
            refine q_move rfl rfl ?_
            obtain ⟨x1020, hx1020, ho626⟩ := Option.of_bind ho626
            refine q_atS (by infer_instance) rfl f803 rfl hx1020 rfl fun b1021 o1021 hm1021 f1021 => ?_
            refine q_load rfl (Elt.intCell f1021) rfl ?_ (hX := fun hx_ => hS.off 0 rfl _ hm1021 hx_)
            refine q_addW rfl rfl rfl ?_
            refine q_move rfl rfl ?_
            obtain ⟨r1023, hr1023, ho626⟩ := Option.of_bind ho626
            refine q_call rfl (make_Codes_Next_w (Sep.enter (As := [_]) hS) f799 hr1023) rfl ?_
            rintro _ w1022 ⟨R1022, rfl, hC1022⟩
            refine ⟨fun _ => hC1022.relX1, ?_⟩
            have hk1022 := hC1022.keptR (Sep.offFeet (As := [_]) hS)
            replace f799 := (f799.kept hk1022).mono fun k hk _ => hC1022.ro0 k hk
            replace f803 := (f803.kept hk1022).mono fun k hk _ => hC1022.ro0 k hk
            replace f807 := (f807.kept hk1022).mono fun k hk _ => hC1022.ro0 k hk
            replace hS := Sep.leave (As := [_]) hS hC1022; simp only [List.cons_append, List.nil_append] at hS
            refine q_build (Parts.cons rfl rfl (Parts.cons rfl rfl (Parts.cons rfl rfl Parts.nil))) rfl rfl ?_
            refine q_litO (T := arcTy) (S := (fun _ => False)) (cells := [[.int .i64 x1010, .int .i64 r1023.1, .int .i64 r985.1, .int .i64 0]]) (ys := [(⟨x1010, r1023.1, r985.1, 0⟩ : Arc)]) ((Parts.cons rfl rfl Parts.nil)) rfl rfl rfl rfl rfl rfl rfl (fun w1 hB => ⟨⟨[_], _, rfl, rfl, ⟨[_], _, rfl, rfl, ⟨[_], _, rfl, rfl, rfl⟩⟩⟩, trivial⟩) (fun _ h => h.elim) rfl fun w1024 v1024 ho1024 hv1024 hB1024 => ?_
            replace f799 := f799.ext hB1024
            replace f803 := f803.ext hB1024
            replace f807 := f807.ext hB1024
            replace hS := hS.newOwnS hB1024 ho1024 hv1024 (fun _ h => h.elim)
            obtain ⟨x1027, hx1027, ho626⟩ := Option.of_bind ho626
            refine q_catOwn (T := arcTy) rfl rfl rfl rfl (hS.own 4 rfl) rfl (hS.own 0 rfl) (fun _ h _ => h.elim) (snoc_cat hx1027) (Nat.zero_le _) rfl (fun h => by cases h) fun v1026 w1026 hw1026 hgr1026 hnw1026 => ?_
            have hk1026 := hS.keptOwn 4 rfl hgr1026
            replace f799 := f799.kept hk1026
            replace f803 := f803.kept hk1026
            replace f807 := f807.kept hk1026
            replace hS := hS.setOwn 4 rfl hw1026 hgr1026 hnw1026; simp only [List.set] at hS
            refine q_field rfl rfl ?_
            refine q_store rfl rfl (hS.blk 3 rfl) (Nat.le_of_ble_eq_true rfl) (hS.own 4 rfl).one rfl rfl fun w1028 hb1028 hO1028 => ?_
            have hk1028 := hS.keptBlk 3 rfl hO1028
            replace f799 := f799.kept hk1028
            replace f803 := f803.kept hk1028
            replace f807 := f807.kept hk1028
            replace hS := hS.setBlk 3 rfl hb1028 hO1028; simp only [List.set] at hS
            refine eseq_nil ?_
            refine hK982 _ _ ?_
            refine e_region_text rfl ?_
            refine q_move rfl rfl ?_
            refine q_addW rfl rfl rfl ?_
            refine q_assign rfl rfl ?_
            refine eseq_nil ?_
            obtain rfl := Option.some.inj ho626
            exact ⟨m626, _, Nat.lt_succ_self _, ⟨r1023.2, x802, x806, x1027, (w64 (x811 + 1)), v801, v805, v1026, _, ht626, (hS.pickB [1, 2, 3, 4] 5 rfl rfl), f799, f803, f807, rfl⟩, Sub.cons rfl (Sub.cons rfl (Sub.cons rfl (Sub.cons rfl (Sub.cons rfl (Sub.cons rfl (Sub.nil _))))))⟩
          · replace ho626 := (if_neg (not_true hc1006)).symm.trans ho626
            refine e_seq fun K1029 hK1029 => ?_
            refine e_region_text rfl ?_
            refine q_move rfl rfl ?_
            refine q_addW rfl rfl rfl ?_
            refine q_move rfl rfl ?_
            refine q_move rfl rfl ?_
            refine q_subW rfl rfl rfl ?_
            obtain ⟨r1031, hr1031, ho626⟩ := Option.of_bind ho626
            refine q_call rfl (make_Codes_Next_w (Sep.enter (As := [_]) hS) f799 hr1031) rfl ?_
            rintro _ w1030 ⟨R1030, rfl, hC1030⟩
            refine ⟨(fun h => by cases h), ?_⟩
            have hk1030 := hC1030.keptR (Sep.offFeet (As := [_]) hS)
            replace f799 := (f799.kept hk1030).mono fun k hk _ => hC1030.ro0 k hk
            replace f803 := (f803.kept hk1030).mono fun k hk _ => hC1030.ro0 k hk
            replace f807 := (f807.kept hk1030).mono fun k hk _ => hC1030.ro0 k hk
            replace hS := Sep.leave (As := [_]) hS hC1030; simp only [List.cons_append, List.nil_append] at hS
            refine q_addW rfl rfl rfl ?_
            refine q_move rfl rfl ?_
            obtain ⟨x1032, hx1032, ho626⟩ := Option.of_bind ho626
            refine q_remM rfl rfl hx1032 rfl ?_
            refine q_assign rfl rfl ?_
            refine eseq_nil ?_
            refine hK1029 _ _ ?_
            refine e_region_draw mixed (fun k => k = B0) [0, 0, 0, 0, 8, 0, 56, 120, 0, 0, 512, 0, 3584, 7680, 15872, 32256, 65280, 131064, 262143, 524287] [16] [0, 1, 2, 3, 4, 5, 6, 7, 8, 9, 10, 11, 12, 13, 14, 15, 16, 17, 18, 19] (by kernel_rfl) ?_
            refine q_loadAgg rfl (Blk.cellsAt (hS.blk 2 rfl) 0 3 rfl) rfl rfl ?_ (hX := fun hx_ => hS.apart 2 0 rfl rfl (by decide) _ rfl hx_)
            refine q_move rfl rfl ?_
            refine q_move rfl rfl ?_
            refine q_field rfl rfl ?_
            refine q_load rfl (Blk.cell (hS.blk 2 rfl) rfl) rfl ?_ (hX := fun hx_ => hS.apart 2 0 rfl rfl (by decide) _ rfl hx_)
            refine q_move rfl rfl ?_
            obtain ⟨x1045, hx1045, ho626⟩ := Option.of_bind ho626
            refine q_atS (by infer_instance) rfl f803 rfl hx1045 rfl fun b1046 o1046 hm1046 f1046 => ?_
            refine q_load rfl (Elt.intCell f1046) rfl ?_ (hX := fun hx_ => hS.off 0 rfl _ hm1046 hx_)
            refine q_move rfl rfl ?_
            refine q_field rfl rfl ?_
            refine q_load rfl (Blk.cell (hS.blk 2 rfl) rfl) rfl ?_ (hX := fun hx_ => hS.apart 2 0 rfl rfl (by decide) _ rfl hx_)
            refine q_move rfl rfl ?_
            obtain ⟨x1047, hx1047, ho626⟩ := Option.of_bind ho626
            refine q_atS (by infer_instance) rfl f803 rfl hx1047 rfl fun b1048 o1048 hm1048 f1048 => ?_
            refine q_load rfl (Elt.intCell f1048) rfl ?_ (hX := fun hx_ => hS.off 0 rfl _ hm1048 hx_)
            refine q_addW rfl rfl rfl ?_
            refine q_min rfl rfl rfl ?_
            obtain ⟨r1050, hr1050, ho626⟩ := Option.of_bind ho626
            refine q_call rfl (make_Codes_Next_w (Sep.enter (As := [_]) hS) f799 hr1050) rfl ?_
            rintro _ w1049 ⟨R1049, rfl, hC1049⟩
            refine ⟨fun _ => hC1049.relX1, ?_⟩
            have hk1049 := hC1049.keptR (Sep.offFeet (As := [_]) hS)
            replace f799 := (f799.kept hk1049).mono fun k hk _ => hC1049.ro0 k hk
            replace f803 := (f803.kept hk1049).mono fun k hk _ => hC1049.ro0 k hk
            replace f807 := (f807.kept hk1049).mono fun k hk _ => hC1049.ro0 k hk
            replace hS := Sep.leave (As := [_]) hS hC1049; simp only [List.cons_append, List.nil_append] at hS
            refine q_subW rfl rfl rfl ?_
            obtain ⟨r1052, hr1052, ho626⟩ := Option.of_bind ho626
            replace hS := hS.pickB [3, 0, 1, 2] 4 rfl rfl; simp only [List.map_cons, List.map_nil, List.getD_cons_zero, List.getD_cons_succ] at hS
            refine q_call rfl (make_with_w (a0 := (⟨x802, x806, x810⟩ : Pat)) (Sep.enter (As := [_]) hS) f803 f807 hr1052) rfl ?_
            rintro _ w1051 ⟨v1053, v1054, v1055, R1051, rfl, hC1051, f1053, f1054⟩
            refine ⟨(fun h => by cases h), ?_⟩
            have hk1051 := hC1051.keptR (Sep.offFeet (As := [_]) hS)
            replace f799 := (f799.kept hk1051).mono fun k hk _ => hC1051.ro0 k hk
            replace f803 := (f803.kept hk1051).mono fun k hk _ => hC1051.ro0 k hk
            replace f807 := (f807.kept hk1051).mono fun k hk _ => hC1051.ro0 k hk
            replace hS := Sep.leave (As := [_]) hS hC1051; simp only [List.cons_append, List.nil_append] at hS
            refine q_storeAgg rfl rfl (hS.blk 3 rfl) rfl (Nat.le_of_ble_eq_true rfl) (all_cons f1053.one (all_cons f1054.one (all_cons (hS.own 0 rfl).one (all_nil)))) rfl rfl fun w1056 hb1056 hO1056 => ?_
            simp only [setN, List.set, List.take, List.drop] at hb1056
            have hk1056 := hS.keptBlk 3 rfl hO1056
            replace f799 := f799.kept hk1056
            replace f1053 := f1053.kept hk1056
            replace f1054 := f1054.kept hk1056
            replace hS := hS.setBlk 3 rfl hb1056 hO1056; simp only [List.set] at hS
            refine eseq_nil ?_
            refine hK982 _ _ ?_
            refine e_region_text rfl ?_
            refine q_move rfl rfl ?_
            refine q_addW rfl rfl rfl ?_
            refine q_assign rfl rfl ?_
            refine eseq_nil ?_
            obtain rfl := Option.some.inj ho626
            exact ⟨m626, _, Nat.lt_succ_self _, ⟨r1050.2, r1052.lens, r1052.ckpts, r1052.arcs, (w64 (x811 + 1)), v1053, v1054, v1055, _, ht626, (hS.pickB [1, 2, 3, 0] 4 rfl rfl), f799, f1053, f1054, rfl⟩, Sub.cons rfl (Sub.cons rfl (Sub.cons rfl (Sub.cons rfl (Sub.cons rfl (Sub.cons rfl (Sub.nil _))))))⟩
    · replace ho626 := (if_neg (not_true hc981)).symm.trans ho626
      refine e_exit ?_
      obtain rfl := Option.some.inj ho626
      obtain rfl := Option.some.inj ht626
      exact hX626_2 x800 x802 x806 x810 v801 v805 v809 _ _ _ h hS f799 f803 f807 (Sub.cons rfl (Sub.cons rfl (Sub.nil _)))
  replace hS := hS.nilRows0 Ty.int 3 27
  refine e_loop (fun m_ E_ w584 => ∃ (x589 : (List (List Int))), ∃ (x592 : Int), ∃ (v587 : Value), ∃ (v588 : List Value), ∃ (R583 : Nat → Prop), iter (fun s => make_Codes_Pattern_B2 fuel r544 s.1 s.2) m_ (x589, x592) = some tl554 ∧ Sep F R R583 w w584 [HP.blk B0 [v2, .int .i64 r544.2] 117, HP.blk bl540 [.slice none 0 0, .slice none 0 0, .slice none 0 0] 31, HP.blk bl549 [v547, v587, .slice none 0 0] 31, HP.own Ty.int (fun _ => False) 3 v547 x546, HP.own Ty.raw (fun _ => False) 27 v587 v588, HP.famS Ty.int (fun _ => False) 3 v588 x589] ∧ IsSlice Ty.u8 w584 R583 v2 c0_0 ∧ E_ = [(0, .pointer (some ⟨B0, 0, none⟩)), (1, .int .i64 a1), (4, .pointer (some ⟨bl540, 0, none⟩)), (5, .int .i64 (w64 (2 + r544.1))), (6, .pointer (some ⟨bl549, 0, none⟩)), (7, .int .i64 x592)]) _ ⟨_, ⟨([] : List (List Int)), 0, (.slice none 0 0), ([] : List Value), _, ht554, (hS.pickB [4, 5, 2, 3, 0, 1] 6 rfl rfl), f2, rfl⟩, Sub.cons rfl (Sub.cons rfl (Sub.cons rfl (Sub.cons rfl (Sub.cons rfl (Sub.cons rfl (Sub.nil _))))))⟩ ?_
  clear ht554 hS
  rintro m554 _ w584 ⟨x589, x592, v587, v588, R583, ht554, hS, f585, rfl⟩
  obtain ⟨m554, rfl, o554, ho554, ht554⟩ := iter_some ht554
  replace ho554 : make_Codes_Pattern_B2 fuel r544 x589 x592 = some o554 := ho554
  unfold make_Codes_Pattern_B2 at ho554
  refine e_seq fun K1059 hK1059 => ?_
  refine e_seq fun K1060 hK1060 => ?_
  refine e_region_text rfl ?_
  refine q_move rfl rfl ?_
  refine q_move rfl rfl ?_
  refine q_lss rfl rfl rfl ?_
  refine eseq_nil ?_
  refine hK1060 _ _ ?_
  refine e_cond rfl (fun hc1061 => ?_) (fun hc1061 => ?_)
  · replace ho554 := (if_pos hc1061).symm.trans ho554
    refine e_skip ?_
    refine hK1059 _ _ ?_
    refine e_seq fun K1062 hK1062 => ?_
    refine e_block ?_
    refine e_region_text rfl ?_
    refine q_field rfl rfl ?_
    refine q_load rfl (Blk.cell (hS.blk 2 rfl) rfl) rfl ?_
    refine q_litO (T := Ty.int) (S := (fun _ => False)) (cells := [[.int .i64 0]]) (ys := [0]) ((Parts.cons rfl rfl Parts.nil)) rfl rfl rfl rfl rfl rfl rfl (fun w1 hB => ⟨rfl, trivial⟩) (fun _ h => h.elim) rfl fun w1063 v1063 ho1063 hv1063 hB1063 => ?_
    replace f585 := f585.ext hB1063
    replace hS := hS.newOwnS hB1063 ho1063 hv1063 (fun _ h => h.elim)
    refine q_litO (T := Ty.raw) (S := (fun _ => False)) (cells := [[v1063]]) (ys := [v1063]) ((Parts.cons rfl (cells_one (hS.own 0 rfl).one) Parts.nil)) rfl rfl rfl rfl rfl rfl rfl (fun w1 hB => ⟨⟨rfl, (hS.own 0 rfl).one⟩, trivial⟩) (fun _ h => h.elim) rfl fun w1065 v1065 ho1065 hv1065 hB1065 => ?_
    replace f585 := f585.ext hB1065
    replace hS := hS.newOwnS hB1065 ho1065 hv1065 (fun _ h => h.elim)
    replace hS := hS.pickB [1, 0, 2, 3, 4, 5, 6, 7] 8 rfl rfl; simp only [List.map_cons, List.map_nil, List.getD_cons_zero, List.getD_cons_succ] at hS
    replace hS := hS.famOne
    obtain ⟨x1069, hx1069, ho554⟩ := Option.of_bind ho554
    obtain ⟨hcr1068, hce1068⟩ := catL_raw (hS.famLen 7 rfl) (hS.famLen 0 rfl) (snoc_cat hx1069)
    refine q_catOwn (T := Ty.raw) rfl rfl rfl rfl (hS.own 6 rfl) rfl (hS.own 1 rfl) (fun _ h _ => h.elim) hcr1068 (Nat.zero_le _) rfl (fun h => by cases h) fun v1068 w1068 hw1068 hgr1068 hnw1068 => ?_
    have hk1068 := hS.keptOwn 6 rfl hgr1068
    replace f585 := f585.kept hk1068
    replace hS := hS.setOwn 6 rfl hw1068 hgr1068 hnw1068; simp only [List.set] at hS
    replace hS := hS.pickB [7, 0, 1, 2, 3, 4, 5, 6] 8 rfl rfl; simp only [List.map_cons, List.map_nil, List.getD_cons_zero, List.getD_cons_succ] at hS
    replace hS := hS.famCat; rw [hce1068] at hS
    refine q_field rfl rfl ?_
    refine q_store rfl rfl (hS.blk 4 rfl) (Nat.le_of_ble_eq_true rfl) (hS.own 6 rfl).one rfl rfl fun w1070 hb1070 hO1070 => ?_
    have hk1070 := hS.keptBlk 4 rfl hO1070
    replace f585 := f585.kept hk1070
    replace hS := hS.setBlk 4 rfl hb1070 hO1070; simp only [List.set] at hS
    refine eseq_nil ?_
    refine hK1062 _ _ ?_
    refine e_region_text rfl ?_
    refine q_move rfl rfl ?_
    refine q_addW rfl rfl rfl ?_
    refine q_assign rfl rfl ?_
    refine eseq_nil ?_
    obtain rfl := Option.some.inj ho554
    exact ⟨m554, _, Nat.lt_succ_self _, ⟨x1069, (w64 (x592 + 1)), v1068, (v588 ++ ([v1063])), _, ht554, (hS.pickB [2, 3, 4, 5, 6, 0] 7 rfl rfl), f585, rfl⟩, Sub.cons rfl (Sub.cons rfl (Sub.cons rfl (Sub.cons rfl (Sub.cons rfl (Sub.cons rfl (Sub.nil _))))))⟩
  · replace ho554 := (if_neg (not_true hc1061)).symm.trans ho554
    refine e_exit ?_
    obtain rfl := Option.some.inj ho554
    obtain rfl := Option.some.inj ht554
    exact hX554_0 x589 v587 v588 _ _ _ h hS f585 (Sub.cons rfl (Sub.cons rfl (Sub.cons rfl (Sub.cons rfl (Sub.cons rfl (Sub.nil _))))))
end Go.Proofs.Ytbmjcbhappjnaaa
