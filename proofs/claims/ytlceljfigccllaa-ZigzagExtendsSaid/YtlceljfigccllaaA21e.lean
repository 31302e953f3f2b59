/- Printed walks: A21e. -/
import Derived.Test.YtlceljfigccllaaA21p
set_option linter.unusedVariables false
set_option linter.unusedSimpArgs false
namespace Go.Mine
open Go.RowKit
def ref21_Extendable_K1 (fuel : Nat) : Option (Bool) :=
  some true
def ref21_Extendable_K2 (fuel : Nat) (x811 : Int) : Option ((Int) ⊕ (Unit ⊕ (Bool))) :=
  some (Sum.inl (w64 (x811 + 1)))
def ref21_Extendable_B2 (fuel : Nat) (a1 : (List Pt)) (x811 : Int) (a0 : Pat) (x1082 : Int) : Option ((Int) ⊕ (Unit ⊕ (Bool))) :=
  (if (decide (x1082 < (a1.length : Int))) = true then (ati a1 x811).bind fun x1150 => (ati a1 x1082).bind fun x1153 => (andM (x1150.proc == x1153.proc) ((ati a1 x811).bind fun x1166 => (ati a1 x1082).bind fun x1169 => some (x1166.index != x1169.index))).bind fun x1165 => (orM x1165 ((ati a1 x811).bind fun x1184 => (ati a1 x1082).bind fun x1187 => (ref21_Path fuel (⟨a0.lens, a0.ckpts, a0.arcs⟩ : Pat) x1184 x1187).bind fun r1191 => some r1191)).bind fun x1183 => (if x1183 = true then some (Sum.inr (Sum.inr false)) else some (Sum.inl (w64 (x1082 + 1)))) else some (Sum.inr (Sum.inl ())))
def ref21_Extendable_B1 (fuel : Nat) (a1 : (List Pt)) (a0 : Pat) (x811 : Int) : Option ((Int) ⊕ (Unit ⊕ (Bool))) :=
  (if (decide (x811 < (a1.length : Int))) = true then (iter (fun s => ref21_Extendable_B2 fuel a1 x811 a0 s) fuel 0).bind (fun t => Sum.elim (fun t => ref21_Extendable_K2 fuel x811) (fun t => some (Sum.inr (Sum.inr t))) t) else some (Sum.inr (Sum.inl ())))
def ref21_Extendable (fuel : Nat) (a0 : Pat) (a1 : (List Pt)) : Option (Bool) :=
  (iter (fun s => ref21_Extendable_B1 fuel a1 a0 s) fuel 0).bind (fun t => Sum.elim (fun t => ref21_Extendable_K1 fuel) (fun t => some t) t)
def ref21_Extension_K4 (fuel : Nat) (x1924 : (List Int)) : Option ((List Int) × Bool) :=
  some (x1924, true)
def ref21_Extension_B1 (fuel : Nat) (a1 : (List Pt)) (x1924 : (List Int)) (x1956 : Int) : Option ((Int) ⊕ (Unit ⊕ ((List Int) × Bool))) :=
  (if (decide (x1956 < (a1.length : Int))) = true then (ati a1 x1956).bind fun x1986 => (ati x1924 x1986.proc).bind fun x1989 => (ati a1 x1956).bind fun x1991 => (if (x1989 != x1991.index) = true then some (Sum.inr (Sum.inr (([] : List Int), false))) else some (Sum.inl (w64 (x1956 + 1)))) else some (Sum.inr (Sum.inl ())))
def ref21_Extension_K3 (fuel : Nat) (a1 : (List Pt)) (x1924 : (List Int)) : Option ((List Int) × Bool) :=
  (iter (fun s => ref21_Extension_B1 fuel a1 x1924 s) fuel 0).bind (fun t => Sum.elim (fun t => ref21_Extension_K4 fuel x1924) (fun t => some t) t)
def ref21_Extension_K5 (fuel : Nat) (x2201 : (List Int)) (x2202 : Bool) : Option (((List Int) × Bool) ⊕ ((List Int))) :=
  some (Sum.inl (x2201, x2202))
def ref21_Extension_B3 (fuel : Nat) (a0 : Pat) (x2104 : (List Int)) (x2105 : Bool) (x2106 : Int) : Option (((List Int) × Bool × Int) ⊕ ((List Int) × Bool)) :=
  (if (decide (x2106 < (a0.arcs.length : Int))) = true then (ati a0.arcs x2106).bind fun x2208 => (andM (decide (0 < x2208.rcv)) ((ati x2104 x2208.to).bind fun x2247 => (ref19_Index fuel (⟨a0.lens, a0.ckpts, a0.arcs⟩ : Pat) x2208.to x2247).bind fun r2250 => some (decide (x2208.rcv ≤ r2250)))).bind fun x2246 => (andM x2246 ((ati x2104 x2208.fr).bind fun x2259 => (ref19_Index fuel (⟨a0.lens, a0.ckpts, a0.arcs⟩ : Pat) x2208.fr x2259).bind fun r2262 => some (decide (r2262 < x2208.ix)))).bind fun x2258 => (if x2258 = true then (ati x2104 x2208.to).bind fun x2265 => (ati x2104 x2208.to).bind fun x2267 => (seti x2104 x2208.to (w64 (x2265 - 1))).bind fun x2269 => some (Sum.inl (x2269, true, (w64 (x2106 + 1)))) else some (Sum.inl (x2104, x2105, (w64 (x2106 + 1))))) else some (Sum.inr (x2104, x2105)))
def ref21_Extension_B2 (fuel : Nat) (a0 : Pat) (x1624 : (List Int)) (x1625 : Bool) : Option (((List Int) × Bool) ⊕ ((List Int))) :=
  (if x1625 = true then (iter (fun s => ref21_Extension_B3 fuel a0 s.1 s.2.1 s.2.2) fuel (x1624, false, 0)).bind (fun t => ref21_Extension_K5 fuel t.1 t.2) else some (Sum.inr x1624))
def ref21_Extension_K2 (fuel : Nat) (a0 : Pat) (a1 : (List Pt)) (x1312 : (List Int)) : Option ((List Int) × Bool) :=
  (iter (fun s => ref21_Extension_B2 fuel a0 s.1 s.2) fuel (x1312, true)).bind (fun t => ref21_Extension_K3 fuel a1 t)
def ref21_Extension_B4 (fuel : Nat) (a1 : (List Pt)) (x1274 : (List Int)) (x1275 : Int) : Option (((List Int) × Int) ⊕ ((List Int))) :=
  (if (decide (x1275 < (a1.length : Int))) = true then (ati a1 x1275).bind fun x2274 => (ati a1 x1275).bind fun x2277 => (ati x1274 x2277.proc).bind fun x2280 => (ati a1 x1275).bind fun x2282 => (ati x1274 x2274.proc).bind fun x2285 => (seti x1274 x2274.proc (min x2280 x2282.index)).bind fun x2287 => some (Sum.inl (x2287, (w64 (x1275 + 1)))) else some (Sum.inr x1274))
def ref21_Extension_K1 (fuel : Nat) (a1 : (List Pt)) (a0 : Pat) (x1227 : (List Int)) : Option ((List Int) × Bool) :=
  (iter (fun s => ref21_Extension_B4 fuel a1 s.1 s.2) fuel (x1227, 0)).bind (fun t => ref21_Extension_K2 fuel a0 a1 t)
def ref21_Extension_B5 (fuel : Nat) (a0 : Pat) (x1196 : (List Int)) (x1197 : Int) : Option (((List Int) × Int) ⊕ ((List Int))) :=
  (if (decide (x1197 < (a0.ckpts.length : Int))) = true then (ati a0.ckpts x1197).bind fun x2293 => (snoc x1196 (x2293.length : Int)).bind fun x2299 => some (Sum.inl (x2299, (w64 (x1197 + 1)))) else some (Sum.inr x1196))
def ref21_Extension (fuel : Nat) (a0 : Pat) (a1 : (List Pt)) : Option ((List Int) × Bool) :=
  (iter (fun s => ref21_Extension_B5 fuel a0 s.1 s.2) fuel (([] : List Int), 0)).bind (fun t => ref21_Extension_K1 fuel a1 a0 t)
end Go.Mine
namespace Go.Proofs.Ytlceljfigccllaa
open Go.RowKit Go.Mine
attribute [local irreducible] eseq ewp iter
theorem ref21_Extendable_w {F R : Nat → Prop} {w : World} {fuel : Nat} {a0 : Pat} {a1 : (List Pt)} {v1 : Value} {v2 : Value} {v3 : Value} {v4 : Value} {r : (Bool)} (hS : Sep F R R w w []) (f1 : IsSlice Ty.int w R v1 a0.lens) (f2 : IsSlice (Ty.slice Ty.int) w R v2 a0.ckpts) (f3 : IsSlice arcTy w R v3 a0.arcs) (f4 : IsSlice ptTy w R v4 a1) (h : ref21_Extendable fuel a0 a1 = some r) :
    Gives Try.prog 38 [.agg #[v1, v2, v3], v4] w fun u w1 => ∃ (R1 : Nat → Prop), u = .bool r ∧ Sep F R R1 w w1 [] := by
  refine fn_of Try.func38 rfl Try.ntmps38 (Nat.le_of_ble_eq_true rfl) ?_
  unfold ref21_Extendable at h
  refine e_seq fun K600 hK600 => ?_
  refine e_region_text rfl ?_
  refine q_boxB rfl rfl rfl fun w601 bl601 hg601 hb601 hB601 => ?_
  replace f1 := f1.ext hB601
  replace f2 := f2.ext hB601
  replace f3 := f3.ext hB601
  replace f4 := f4.ext hB601
  replace hS := hS.newBlk hB601 hg601 hb601
  refine q_assign rfl rfl ?_
  refine eseq_nil ?_
  refine hK600 _ _ ?_
  refine e_seq fun K603 hK603 => ?_
  refine e_seq fun K604 hK604 => ?_
  refine e_region_text rfl ?_
  refine q_assign rfl rfl ?_
  refine eseq_nil ?_
  refine hK604 _ _ ?_
  refine e_block ?_
  obtain ⟨tl605, ht605, h⟩ := Option.of_bind h
  have hX605_0 : ∀ (R1005 : Nat → Prop) (w1006 : World) (E_ : Env), ref21_Extendable_K1 fuel = some r → Sep F R R1005 w w1006 [] → Sub [] E_ → K603 E_ w1006 := by
    intro R1005 w1006 E_ h hS  hsub
    refine hK603 _ _ (e_sub hsub ?_); clear hsub
    unfold ref21_Extendable_K1 at h
    refine e_seq fun K1007 hK1007 => ?_
    refine e_region_text rfl ?_
    refine q_assign rfl rfl ?_
    refine eseq_nil ?_
    refine hK1007 _ _ ?_
    refine e_ret ?_
    obtain rfl := Option.some.inj h
    exact ⟨_, res1 rfl rfl, _, rfl, hS⟩
  refine e_loop (fun m_ E_ w806 => ∃ (x811 : Int), ∃ (R805 : Nat → Prop), iter (fun s => ref21_Extendable_B1 fuel a1 a0 s) m_ x811 = some tl605 ∧ Sep F R R805 w w806 [HP.blk bl601 [v1, v2, v3] 28] ∧ IsSlice ptTy w806 R805 v4 a1 ∧ IsSlice Ty.int w806 R805 v1 a0.lens ∧ IsSlice (Ty.slice Ty.int) w806 R805 v2 a0.ckpts ∧ IsSlice arcTy w806 R805 v3 a0.arcs ∧ E_ = [(1, v4), (2, .pointer (some ⟨bl601, 0, none⟩)), (5, .int .i64 x811)]) _ ⟨_, ⟨0, _, ht605, hS, f4, f1, f2, f3, rfl⟩, Sub.cons rfl (Sub.cons rfl (Sub.cons rfl (Sub.nil _)))⟩ ?_
  clear ht605 hS
  rintro m605 _ w806 ⟨x811, R805, ht605, hS, f807, f808, f809, f810, rfl⟩
  obtain ⟨m605, rfl, o605, ho605, ht605⟩ := iter_some ht605
  replace ho605 : ref21_Extendable_B1 fuel a1 a0 x811 = some o605 := ho605
  unfold ref21_Extendable_B1 at ho605
  refine e_seq fun K1008 hK1008 => ?_
  refine e_seq fun K1009 hK1009 => ?_
  refine e_region_text rfl ?_
  refine q_move rfl rfl ?_
  refine q_move rfl rfl ?_
  refine q_lenS rfl f807 rfl ?_
  refine q_lss rfl rfl rfl ?_
  refine eseq_nil ?_
  refine hK1009 _ _ ?_
  refine e_cond rfl (fun hc1010 => ?_) (fun hc1010 => ?_)
  · replace ho605 := (if_pos hc1010).symm.trans ho605
    refine e_skip ?_
    refine hK1008 _ _ ?_
    refine e_seq fun K1011 hK1011 => ?_
    refine e_block ?_
    refine e_seq fun K1012 hK1012 => ?_
    refine e_region_text rfl ?_
    refine q_assign rfl rfl ?_
    refine eseq_nil ?_
    refine hK1012 _ _ ?_
    refine e_block ?_
    obtain ⟨tl1013, ht1013, ho605⟩ := Option.of_bind ho605
    have hX1013_2 : ∀ (R1139 : Nat → Prop) (w1140 : World) (E_ : Env), ref21_Extendable_K2 fuel x811 = some o605 → Sep F R R1139 w w1140 [HP.blk bl601 [v1, v2, v3] 28] → IsSlice ptTy w1140 R1139 v4 a1 → IsSlice Ty.int w1140 R1139 v1 a0.lens → IsSlice (Ty.slice Ty.int) w1140 R1139 v2 a0.ckpts → IsSlice arcTy w1140 R1139 v3 a0.arcs → Sub [(1, v4), (2, .pointer (some ⟨bl601, 0, none⟩)), (5, .int .i64 x811)] E_ → K1011 E_ w1140 := by
      intro R1139 w1140 E_ ho605 hS f1141 f1142 f1143 f1144 hsub
      refine hK1011 _ _ (e_sub hsub ?_); clear hsub
      unfold ref21_Extendable_K2 at ho605
      refine e_region_text rfl ?_
      refine q_move rfl rfl ?_
      refine q_addW rfl rfl rfl ?_
      refine q_assign rfl rfl ?_
      refine eseq_nil ?_
      obtain rfl := Option.some.inj ho605
      exact ⟨m605, _, Nat.lt_succ_self _, ⟨(w64 (x811 + 1)), _, ht605, hS, f1141, f1142, f1143, f1144, rfl⟩, Sub.cons rfl (Sub.cons rfl (Sub.cons rfl (Sub.nil _)))⟩
    refine e_loop (fun m_ E_ w1077 => ∃ (x1082 : Int), ∃ (R1076 : Nat → Prop), iter (fun s => ref21_Extendable_B2 fuel a1 x811 a0 s) m_ x1082 = some tl1013 ∧ Sep F R R1076 w w1077 [HP.blk bl601 [v1, v2, v3] 28] ∧ IsSlice ptTy w1077 R1076 v4 a1 ∧ IsSlice Ty.int w1077 R1076 v1 a0.lens ∧ IsSlice (Ty.slice Ty.int) w1077 R1076 v2 a0.ckpts ∧ IsSlice arcTy w1077 R1076 v3 a0.arcs ∧ E_ = [(1, v4), (2, .pointer (some ⟨bl601, 0, none⟩)), (5, .int .i64 x811), (6, .int .i64 x1082)]) _ ⟨_, ⟨0, _, ht1013, hS, f807, f808, f809, f810, rfl⟩, Sub.cons rfl (Sub.cons rfl (Sub.cons rfl (Sub.cons rfl (Sub.nil _))))⟩ ?_
    clear ht1013 hS
    rintro m1013 _ w1077 ⟨x1082, R1076, ht1013, hS, f1078, f1079, f1080, f1081, rfl⟩
    obtain ⟨m1013, rfl, o1013, ho1013, ht1013⟩ := iter_some ht1013
    replace ho1013 : ref21_Extendable_B2 fuel a1 x811 a0 x1082 = some o1013 := ho1013
    unfold ref21_Extendable_B2 at ho1013
    refine e_seq fun K1145 hK1145 => ?_
    refine e_seq fun K1146 hK1146 => ?_
    refine e_region_text rfl ?_
    refine q_move rfl rfl ?_
    refine q_move rfl rfl ?_
    refine q_lenS rfl f1078 rfl ?_
    refine q_lss rfl rfl rfl ?_
    refine eseq_nil ?_
    refine hK1146 _ _ ?_
    refine e_cond rfl (fun hc1147 => ?_) (fun hc1147 => ?_)
    · replace ho1013 := (if_pos hc1147).symm.trans ho1013
      refine e_skip ?_
      refine hK1145 _ _ ?_
      refine e_seq fun K1148 hK1148 => ?_
      refine e_block ?_
      refine e_seq fun K1149 hK1149 => ?_
      refine e_region_draw mixed (fun _ => False) [0, 0, 3, 7, 15, 0, 0, 96, 224, 480, 1023, 2047, 4095, 4095, 16383, 32767, 65535, 4095, 4095, 397311, 921599, 1970175, 4194303, 8388607, 16777215, 33554431, 33554431, 33554431, 234881023, 503316479, 33554431, 33554431, 3254779903, 7549747199, 17179869183, 34359738367] [] [0, 1, 2, 3, 4, 5, 6, 7, 8, 9, 10, 11, 12, 13, 14, 15, 16, 17, 18, 19, 20, 21, 22, 23, 24, 25, 26, 27, 28, 29, 30, 31, 32, 33, 34, 35] (by kernel_rfl) ?_
      refine q_move rfl rfl ?_
      refine q_move rfl rfl ?_
      obtain ⟨x1150, hx1150, ho1013⟩ := Option.of_bind ho1013
      refine q_atS (by infer_instance) rfl f1078 rfl hx1150 rfl fun b1151 o1151 hm1151 f1151 => ?_
      refine q_field rfl rfl ?_
      have f1152 := Pt_F0 f1151
      refine q_load rfl (Elt.intCell f1152) rfl ?_
      refine q_move rfl rfl ?_
      refine q_move rfl rfl ?_
      obtain ⟨x1153, hx1153, ho1013⟩ := Option.of_bind ho1013
      refine q_atS (by infer_instance) rfl f1078 rfl hx1153 rfl fun b1154 o1154 hm1154 f1154 => ?_
      refine q_field rfl rfl ?_
      have f1155 := Pt_F0 f1154
      refine q_load rfl (Elt.intCell f1155) rfl ?_
      refine q_eql rfl rfl rfl ?_
      refine q_move rfl rfl ?_
      obtain ⟨x1165, hx1164, ho1013⟩ := Option.of_bind ho1013
      refine g_andM 11 hx1164 rfl trivial rfl rfl ?_ ?_ ?_
      · intro hg1164 hx1164
        clear ho1013
        have hT1164 := Below.refl (World.heap w1077).size w1077
        refine g_run rfl ?_; refine q_move rfl rfl ?_
        refine g_run rfl ?_; refine q_move rfl rfl ?_
        obtain ⟨x1166, hx1166, hx1164⟩ := Option.of_bind hx1164
        refine g_run rfl ?_; refine q_atS (by infer_instance) rfl f1078 rfl hx1166 rfl fun b1167 o1167 hm1167 f1167 => ?_
        refine g_run rfl ?_; refine q_field rfl rfl ?_
        have f1168 := Pt_F1 f1167
        refine g_run rfl ?_; refine q_load rfl (Elt.intCell f1168) rfl ?_
        refine g_run rfl ?_; refine q_move rfl rfl ?_
        refine g_run rfl ?_; refine q_move rfl rfl ?_
        obtain ⟨x1169, hx1169, hx1164⟩ := Option.of_bind hx1164
        refine g_run rfl ?_; refine q_atS (by infer_instance) rfl f1078 rfl hx1169 rfl fun b1170 o1170 hm1170 f1170 => ?_
        refine g_run rfl ?_; refine q_field rfl rfl ?_
        have f1171 := Pt_F1 f1170
        refine g_run rfl ?_; refine q_load rfl (Elt.intCell f1171) rfl ?_
        refine g_run rfl ?_; refine q_neq rfl rfl rfl ?_
        cases hx1164
        exact eseq_nil ⟨hT1164, Sub.set rfl (Sub.set rfl (Sub.set rfl (Sub.set rfl (Sub.set rfl (Sub.set rfl (Sub.set rfl (Sub.set rfl (Sub.set rfl (Sub.set rfl (Sub.set rfl (Sub.bool true rfl hg1164))))))))))), rfl⟩
      · intro hg1164
        refine g_skip rfl rfl rfl ?_
        refine g_skip rfl rfl rfl ?_
        refine g_skip rfl rfl rfl ?_
        refine g_skip rfl rfl rfl ?_
        refine g_skip rfl rfl rfl ?_
        refine g_skip rfl rfl rfl ?_
        refine g_skip rfl rfl rfl ?_
        refine g_skip rfl rfl rfl ?_
        refine g_skip rfl rfl rfl ?_
        refine g_skip rfl rfl rfl ?_
        refine g_skip rfl rfl rfl ?_
        exact eseq_nil ⟨rfl, Sub.set rfl (Sub.set rfl (Sub.set rfl (Sub.set rfl (Sub.set rfl (Sub.set rfl (Sub.set rfl (Sub.set rfl (Sub.set rfl (Sub.set rfl (Sub.set rfl (Sub.bool false rfl hg1164)))))))))))⟩
      intro wm1164 hBm1164; clear hx1164
      replace hS := hS.below hBm1164
      replace f1078 := f1078.ext hBm1164
      replace f1079 := f1079.ext hBm1164
      replace f1080 := f1080.ext hBm1164
      replace f1081 := f1081.ext hBm1164
      refine q_move rfl rfl ?_
      obtain ⟨x1183, hx1182, ho1013⟩ := Option.of_bind ho1013
      refine g_orM 10 hx1182 rfl trivial rfl rfl ?_ ?_ ?_
      · intro hg1182
        refine g_skip rfl rfl rfl ?_
        refine g_skip rfl rfl rfl ?_
        refine g_skip rfl rfl rfl ?_
        refine g_skip rfl rfl rfl ?_
        refine g_skip rfl rfl rfl ?_
        refine g_skip rfl rfl rfl ?_
        refine g_skip rfl rfl rfl ?_
        refine g_skip rfl rfl rfl ?_
        refine g_skip rfl rfl rfl ?_
        refine g_skip rfl rfl rfl ?_
        exact eseq_nil ⟨rfl, Sub.set rfl (Sub.set rfl (Sub.set rfl (Sub.set rfl (Sub.set rfl (Sub.set rfl (Sub.set rfl (Sub.set rfl (Sub.set rfl (Sub.set rfl (Sub.bool true rfl hg1182))))))))))⟩
      · intro hg1182 hx1182
        clear ho1013
        have hT1182 := Below.refl (World.heap wm1164).size wm1164
        refine g_run rfl ?_; refine q_loadAgg rfl (Blk.cellsAt (hS.blk 0 rfl) 0 3 rfl) rfl rfl ?_
        refine g_run rfl ?_; refine q_move rfl rfl ?_
        refine g_run rfl ?_; refine q_move rfl rfl ?_
        obtain ⟨x1184, hx1184, hx1182⟩ := Option.of_bind hx1182
        refine g_run rfl ?_; refine q_atS (by infer_instance) rfl f1078 rfl hx1184 rfl fun b1185 o1185 hm1185 f1185 => ?_
        have hc1186 := Pt_open f1185
        refine g_run rfl ?_; refine q_loadAgg rfl hc1186 rfl rfl ?_
        refine g_run rfl ?_; refine q_move rfl rfl ?_
        refine g_run rfl ?_; refine q_move rfl rfl ?_
        obtain ⟨x1187, hx1187, hx1182⟩ := Option.of_bind hx1182
        refine g_run rfl ?_; refine q_atS (by infer_instance) rfl f1078 rfl hx1187 rfl fun b1188 o1188 hm1188 f1188 => ?_
        have hc1189 := Pt_open f1188
        refine g_run rfl ?_; refine q_loadAgg rfl hc1189 rfl rfl ?_
        obtain ⟨r1191, hr1191, hx1182⟩ := Option.of_bind hx1182
        refine g_run rfl ?_; refine q_call rfl (ref21_Path_w (a0 := (⟨a0.lens, a0.ckpts, a0.arcs⟩ : Pat)) (a1 := x1184) (a2 := x1187) (Sep.enter (As := []) hS) f1079 f1080 f1081 hr1191) rfl ?_
        rintro _ w1190 ⟨R1190, rfl, hC1190⟩
        have hB1190 : Below (World.heap wm1164).size wm1164 w1190 := hC1190.stepB0
        refine ⟨fun _ => .of_below hB1190, ?_⟩
        replace f1078 := (f1078.ext hB1190).mono fun k hk _ => hC1190.ro0 k hk
        replace f1079 := (f1079.ext hB1190).mono fun k hk _ => hC1190.ro0 k hk
        replace f1080 := (f1080.ext hB1190).mono fun k hk _ => hC1190.ro0 k hk
        replace f1081 := (f1081.ext hB1190).mono fun k hk _ => hC1190.ro0 k hk
        replace f1185 := (f1185.ext hB1190).mono fun k hk _ => hC1190.ro0 k hk
        replace f1188 := (f1188.ext hB1190).mono fun k hk _ => hC1190.ro0 k hk
        replace hT1182 := hT1182.trans (Below.mono hB1190 hT1182.size)
        replace hS := Sep.leave (As := []) hS hC1190; simp only [List.cons_append, List.nil_append] at hS
        cases hx1182
        exact eseq_nil ⟨hT1182, Sub.set rfl (Sub.set rfl (Sub.set rfl (Sub.set rfl (Sub.set rfl (Sub.set rfl (Sub.set rfl (Sub.set rfl (Sub.set rfl (Sub.set rfl (Sub.bool false rfl hg1182)))))))))), rfl⟩
      intro wm1182 hBm1182; clear hx1182
      replace hS := hS.below hBm1182
      replace f1078 := f1078.ext hBm1182
      replace f1079 := f1079.ext hBm1182
      replace f1080 := f1080.ext hBm1182
      replace f1081 := f1081.ext hBm1182
      refine eseq_nil ?_
      refine hK1149 _ _ ?_
      refine e_cond rfl (fun hc1192 => ?_) (fun hc1192 => ?_)
      · replace ho1013 := (if_pos hc1192).symm.trans ho1013
        refine e_seq fun K1193 hK1193 => ?_
        refine e_region_text rfl ?_
        refine q_assign rfl rfl ?_
        refine eseq_nil ?_
        refine hK1193 _ _ ?_
        refine e_ret ?_
        obtain rfl := Option.some.inj ho1013
        obtain rfl := Option.some.inj ht1013
        obtain rfl := Option.some.inj ho605
        obtain rfl := Option.some.inj ht605
        obtain rfl := Option.some.inj h
        exact ⟨_, res1 rfl rfl, _, rfl, (hS.pickB [] 1 rfl rfl)⟩
      · replace ho1013 := (if_neg (not_true hc1192)).symm.trans ho1013
        refine e_skip ?_
        refine hK1148 _ _ ?_
        refine e_region_text rfl ?_
        refine q_move rfl rfl ?_
        refine q_addW rfl rfl rfl ?_
        refine q_assign rfl rfl ?_
        refine eseq_nil ?_
        obtain rfl := Option.some.inj ho1013
        exact ⟨m1013, _, Nat.lt_succ_self _, ⟨(w64 (x1082 + 1)), _, ht1013, hS, f1078, f1079, f1080, f1081, rfl⟩, Sub.cons rfl (Sub.cons rfl (Sub.cons rfl (Sub.cons rfl (Sub.nil _))))⟩
    · replace ho1013 := (if_neg (not_true hc1147)).symm.trans ho1013
      refine e_exit ?_
      obtain rfl := Option.some.inj ho1013
      obtain rfl := Option.some.inj ht1013
      exact hX1013_2  _ _ _ ho605 hS f1078 f1079 f1080 f1081 (Sub.cons rfl (Sub.cons rfl (Sub.cons rfl (Sub.nil _))))
  · replace ho605 := (if_neg (not_true hc1010)).symm.trans ho605
    refine e_exit ?_
    obtain rfl := Option.some.inj ho605
    obtain rfl := Option.some.inj ht605
    exact hX605_0  _ _ _ h (hS.pickB [] 1 rfl rfl)  (Sub.nil _)
theorem ref21_Extension_w {F R : Nat → Prop} {w : World} {fuel : Nat} {a0 : Pat} {a1 : (List Pt)} {v1 : Value} {v2 : Value} {v3 : Value} {v4 : Value} {r : ((List Int) × Bool)} (hS : Sep F R R w w []) (f1 : IsSlice Ty.int w R v1 a0.lens) (f2 : IsSlice (Ty.slice Ty.int) w R v2 a0.ckpts) (f3 : IsSlice arcTy w R v3 a0.arcs) (f4 : IsSlice ptTy w R v4 a1) (h : ref21_Extension fuel a0 a1 = some r) :
    Gives Try.prog 35 [.agg #[v1, v2, v3], v4] w fun u w1 => ∃ (v1152 : Value), ∃ (R1 : Nat → Prop), u = .tuple #[v1152, .bool r.2] ∧ Sep F R R1 w w1 [HP.own Ty.int (fun _ => False) 3 v1152 r.1] := by
  refine fn_of Try.func35 rfl Try.ntmps35 (Nat.le_of_ble_eq_true rfl) ?_
  unfold ref21_Extension at h
  refine e_seq fun K1153 hK1153 => ?_
  refine e_region_text rfl ?_
  refine q_boxB rfl rfl rfl fun w1154 bl1154 hg1154 hb1154 hB1154 => ?_
  replace f1 := f1.ext hB1154
  replace f2 := f2.ext hB1154
  replace f3 := f3.ext hB1154
  replace f4 := f4.ext hB1154
  replace hS := hS.newBlk hB1154 hg1154 hb1154
  refine q_assign rfl rfl ?_
  refine q_assign rfl rfl ?_
  refine eseq_nil ?_
  refine hK1153 _ _ ?_
  refine e_seq fun K1156 hK1156 => ?_
  refine e_region_text rfl ?_
  refine q_assign rfl rfl ?_
  refine eseq_nil ?_
  refine hK1156 _ _ ?_
  refine e_seq fun K1157 hK1157 => ?_
  refine e_seq fun K1158 hK1158 => ?_
  refine e_region_text rfl ?_
  refine q_assign rfl rfl ?_
  refine eseq_nil ?_
  refine hK1158 _ _ ?_
  refine e_block ?_
  obtain ⟨tl1159, ht1159, h⟩ := Option.of_bind h
  have hX1159_0 : ∀ (x1227 : (List Int)) (v1226 : Value) (R1219 : Nat → Prop) (w1220 : World) (E_ : Env), ref21_Extension_K1 fuel a1 a0 x1227 = some r → Sep F R R1219 w w1220 [HP.blk bl1154 [v1, v2, v3] 28, HP.own Ty.int (fun _ => False) 3 v1226 x1227] → IsSlice ptTy w1220 R1219 v4 a1 → IsSlice Ty.int w1220 R1219 v1 a0.lens → IsSlice (Ty.slice Ty.int) w1220 R1219 v2 a0.ckpts → IsSlice arcTy w1220 R1219 v3 a0.arcs → Sub [(1, v4), (2, .pointer (some ⟨bl1154, 0, none⟩)), (6, v1226)] E_ → K1157 E_ w1220 := by
    intro x1227 v1226 R1219 w1220 E_ h hS f1221 f1222 f1223 f1224 hsub
    refine hK1157 _ _ (e_sub hsub ?_); clear hsub
    unfold ref21_Extension_K1 at h
    refine e_seq fun K1228 hK1228 => ?_
    refine e_seq fun K1229 hK1229 => ?_
    refine e_region_text rfl ?_
    refine q_assign rfl rfl ?_
    refine eseq_nil ?_
    refine hK1229 _ _ ?_
    refine e_block ?_
    obtain ⟨tl1230, ht1230, h⟩ := Option.of_bind h
    have hX1230_2 : ∀ (x1312 : (List Int)) (v1311 : Value) (R1304 : Nat → Prop) (w1305 : World) (E_ : Env), ref21_Extension_K2 fuel a0 a1 x1312 = some r → Sep F R R1304 w w1305 [HP.blk bl1154 [v1, v2, v3] 28, HP.own Ty.int (fun _ => False) 3 v1311 x1312] → IsSlice ptTy w1305 R1304 v4 a1 → IsSlice Ty.int w1305 R1304 v1 a0.lens → IsSlice (Ty.slice Ty.int) w1305 R1304 v2 a0.ckpts → IsSlice arcTy w1305 R1304 v3 a0.arcs → Sub [(1, v4), (2, .pointer (some ⟨bl1154, 0, none⟩)), (6, v1311)] E_ → K1228 E_ w1305 := by
      intro x1312 v1311 R1304 w1305 E_ h hS f1306 f1307 f1308 f1309 hsub
      refine hK1228 _ _ (e_sub hsub ?_); clear hsub
      unfold ref21_Extension_K2 at h
      refine e_seq fun K1313 hK1313 => ?_
      refine e_seq fun K1314 hK1314 => ?_
      refine e_region_text rfl ?_
      refine q_assign rfl rfl ?_
      refine eseq_nil ?_
      refine hK1314 _ _ ?_
      refine e_block ?_
      obtain ⟨tl1315, ht1315, h⟩ := Option.of_bind h
      have hX1315_4 : ∀ (x1924 : (List Int)) (v1923 : Value) (R1919 : Nat → Prop) (w1920 : World) (E_ : Env), ref21_Extension_K3 fuel a1 x1924 = some r → Sep F R R1919 w w1920 [HP.own Ty.int (fun _ => False) 3 v1923 x1924] → IsSlice ptTy w1920 R1919 v4 a1 → Sub [(1, v4), (6, v1923)] E_ → K1313 E_ w1920 := by
        intro x1924 v1923 R1919 w1920 E_ h hS f1921 hsub
        refine hK1313 _ _ (e_sub hsub ?_); clear hsub
        unfold ref21_Extension_K3 at h
        refine e_seq fun K1925 hK1925 => ?_
        refine e_seq fun K1926 hK1926 => ?_
        refine e_region_text rfl ?_
        refine q_assign rfl rfl ?_
        refine eseq_nil ?_
        refine hK1926 _ _ ?_
        refine e_block ?_
        obtain ⟨tl1927, ht1927, h⟩ := Option.of_bind h
        have hX1927_8 : ∀ (R1977 : Nat → Prop) (w1978 : World) (E_ : Env), ref21_Extension_K4 fuel x1924 = some r → Sep F R R1977 w w1978 [HP.own Ty.int (fun _ => False) 3 v1923 x1924] → Sub [(6, v1923)] E_ → K1925 E_ w1978 := by
          intro R1977 w1978 E_ h hS  hsub
          refine hK1925 _ _ (e_sub hsub ?_); clear hsub
          unfold ref21_Extension_K4 at h
          refine e_seq fun K1980 hK1980 => ?_
          refine e_region_text rfl ?_
          refine q_move rfl rfl ?_
          refine q_assign rfl rfl ?_
          refine q_assign rfl rfl ?_
          refine eseq_nil ?_
          refine hK1980 _ _ ?_
          refine e_ret ?_
          obtain rfl := Option.some.inj h
          exact ⟨_, res2 rfl rfl rfl, v1923, _, rfl, hS⟩
        refine e_loop (fun m_ E_ w1953 => ∃ (x1956 : Int), ∃ (R1952 : Nat → Prop), iter (fun s => ref21_Extension_B1 fuel a1 x1924 s) m_ x1956 = some tl1927 ∧ Sep F R R1952 w w1953 [HP.own Ty.int (fun _ => False) 3 v1923 x1924] ∧ IsSlice ptTy w1953 R1952 v4 a1 ∧ E_ = [(1, v4), (6, v1923), (12, .int .i64 x1956)]) _ ⟨_, ⟨0, _, ht1927, hS, f1921, rfl⟩, Sub.cons rfl (Sub.cons rfl (Sub.cons rfl (Sub.nil _)))⟩ ?_
        clear ht1927 hS
        rintro m1927 _ w1953 ⟨x1956, R1952, ht1927, hS, f1954, rfl⟩
        obtain ⟨m1927, rfl, o1927, ho1927, ht1927⟩ := iter_some ht1927
        replace ho1927 : ref21_Extension_B1 fuel a1 x1924 x1956 = some o1927 := ho1927
        unfold ref21_Extension_B1 at ho1927
        refine e_seq fun K1981 hK1981 => ?_
        refine e_seq fun K1982 hK1982 => ?_
        refine e_region_text rfl ?_
        refine q_move rfl rfl ?_
        refine q_move rfl rfl ?_
        refine q_lenS rfl f1954 rfl ?_
        refine q_lss rfl rfl rfl ?_
        refine eseq_nil ?_
        refine hK1982 _ _ ?_
        refine e_cond rfl (fun hc1983 => ?_) (fun hc1983 => ?_)
        · replace ho1927 := (if_pos hc1983).symm.trans ho1927
          refine e_skip ?_
          refine hK1981 _ _ ?_
          refine e_seq fun K1984 hK1984 => ?_
          refine e_block ?_
          refine e_seq fun K1985 hK1985 => ?_
          refine e_region_draw mixed (fun _ => False) [0, 0, 0, 6, 14, 30, 63, 127, 0, 0, 768, 1792, 3840, 8191] [] [0, 1, 2, 3, 4, 5, 6, 7, 8, 9, 10, 11, 12, 13] (by kernel_rfl) ?_
          refine q_move rfl rfl ?_
          refine q_move rfl rfl ?_
          refine q_move rfl rfl ?_
          obtain ⟨x1986, hx1986, ho1927⟩ := Option.of_bind ho1927
          refine q_atS (by infer_instance) rfl f1954 rfl hx1986 rfl fun b1987 o1987 hm1987 f1987 => ?_
          refine q_field rfl rfl ?_
          have f1988 := Pt_F0 f1987
          refine q_load rfl (Elt.intCell f1988) rfl ?_
          obtain ⟨x1989, hx1989, ho1927⟩ := Option.of_bind ho1927
          refine q_indexO (by infer_instance) rfl (hS.own 0 rfl) rfl hx1989 rfl ?_
          have f1990 := (hS.ownR 0 rfl).elt hx1989
          refine q_load rfl (Elt.intCell f1990) rfl ?_
          refine q_move rfl rfl ?_
          refine q_move rfl rfl ?_
          obtain ⟨x1991, hx1991, ho1927⟩ := Option.of_bind ho1927
          refine q_atS (by infer_instance) rfl f1954 rfl hx1991 rfl fun b1992 o1992 hm1992 f1992 => ?_
          refine q_field rfl rfl ?_
          have f1993 := Pt_F1 f1992
          refine q_load rfl (Elt.intCell f1993) rfl ?_
          refine q_neq rfl rfl rfl ?_
          refine eseq_nil ?_
          refine hK1985 _ _ ?_
          refine e_cond rfl (fun hc1994 => ?_) (fun hc1994 => ?_)
          · replace ho1927 := (if_pos hc1994).symm.trans ho1927
            refine e_seq fun K1995 hK1995 => ?_
            refine e_region_text rfl ?_
            refine q_assign rfl rfl ?_
            refine q_assign rfl rfl ?_
            refine eseq_nil ?_
            refine hK1995 _ _ ?_
            refine e_ret ?_
            replace hS := hS.nilOwn0 Ty.int 3
            obtain rfl := Option.some.inj ho1927
            obtain rfl := Option.some.inj ht1927
            obtain rfl := Option.some.inj h
            exact ⟨_, res2 rfl rfl rfl, (.slice none 0 0), _, rfl, (hS.pickB [0] 2 rfl rfl)⟩
          · replace ho1927 := (if_neg (not_true hc1994)).symm.trans ho1927
            refine e_skip ?_
            refine hK1984 _ _ ?_
            refine e_region_text rfl ?_
            refine q_move rfl rfl ?_
            refine q_addW rfl rfl rfl ?_
            refine q_assign rfl rfl ?_
            refine eseq_nil ?_
            obtain rfl := Option.some.inj ho1927
            exact ⟨m1927, _, Nat.lt_succ_self _, ⟨(w64 (x1956 + 1)), _, ht1927, hS, f1954, rfl⟩, Sub.cons rfl (Sub.cons rfl (Sub.cons rfl (Sub.nil _)))⟩
        · replace ho1927 := (if_neg (not_true hc1983)).symm.trans ho1927
          refine e_exit ?_
          obtain rfl := Option.some.inj ho1927
          obtain rfl := Option.some.inj ht1927
          exact hX1927_8  _ _ _ h hS  (Sub.cons rfl (Sub.nil _))
      refine e_loop (fun m_ E_ w1617 => ∃ (x1624 : (List Int)), ∃ (x1625 : Bool), ∃ (v1623 : Value), ∃ (R1616 : Nat → Prop), iter (fun s => ref21_Extension_B2 fuel a0 s.1 s.2) m_ (x1624, x1625) = some tl1315 ∧ Sep F R R1616 w w1617 [HP.blk bl1154 [v1, v2, v3] 28, HP.own Ty.int (fun _ => False) 3 v1623 x1624] ∧ IsSlice ptTy w1617 R1616 v4 a1 ∧ IsSlice Ty.int w1617 R1616 v1 a0.lens ∧ IsSlice (Ty.slice Ty.int) w1617 R1616 v2 a0.ckpts ∧ IsSlice arcTy w1617 R1616 v3 a0.arcs ∧ E_ = [(1, v4), (2, .pointer (some ⟨bl1154, 0, none⟩)), (6, v1623), (9, .bool x1625)]) _ ⟨_, ⟨x1312, true, v1311, _, ht1315, hS, f1306, f1307, f1308, f1309, rfl⟩, Sub.cons rfl (Sub.cons rfl (Sub.cons rfl (Sub.cons rfl (Sub.nil _))))⟩ ?_
      clear ht1315 hS
      rintro m1315 _ w1617 ⟨x1624, x1625, v1623, R1616, ht1315, hS, f1618, f1619, f1620, f1621, rfl⟩
      obtain ⟨m1315, rfl, o1315, ho1315, ht1315⟩ := iter_some ht1315
      replace ho1315 : ref21_Extension_B2 fuel a0 x1624 x1625 = some o1315 := ho1315
      unfold ref21_Extension_B2 at ho1315
      refine e_seq fun K1997 hK1997 => ?_
      refine e_seq fun K1998 hK1998 => ?_
      refine e_region_text rfl ?_
      refine q_move rfl rfl ?_
      refine eseq_nil ?_
      refine hK1998 _ _ ?_
      refine e_cond rfl (fun hc1999 => ?_) (fun hc1999 => ?_)
      · replace ho1315 := (if_pos hc1999).symm.trans ho1315
        refine e_skip ?_
        refine hK1997 _ _ ?_
        refine e_block ?_
        refine e_seq fun K2000 hK2000 => ?_
        refine e_region_text rfl ?_
        refine q_assign rfl rfl ?_
        refine eseq_nil ?_
        refine hK2000 _ _ ?_
        refine e_seq fun K2001 hK2001 => ?_
        refine e_region_text rfl ?_
        refine q_assign rfl rfl ?_
        refine eseq_nil ?_
        refine hK2001 _ _ ?_
        refine e_block ?_
        obtain ⟨tl2002, ht2002, ho1315⟩ := Option.of_bind ho1315
        refine e_loop (fun m_ E_ w2097 => ∃ (x2104 : (List Int)), ∃ (x2105 : Bool), ∃ (x2106 : Int), ∃ (v2103 : Value), ∃ (R2096 : Nat → Prop), iter (fun s => ref21_Extension_B3 fuel a0 s.1 s.2.1 s.2.2) m_ (x2104, x2105, x2106) = some tl2002 ∧ Sep F R R2096 w w2097 [HP.blk bl1154 [v1, v2, v3] 28, HP.own Ty.int (fun _ => False) 3 v2103 x2104] ∧ IsSlice ptTy w2097 R2096 v4 a1 ∧ IsSlice Ty.int w2097 R2096 v1 a0.lens ∧ IsSlice (Ty.slice Ty.int) w2097 R2096 v2 a0.ckpts ∧ IsSlice arcTy w2097 R2096 v3 a0.arcs ∧ E_ = [(1, v4), (2, .pointer (some ⟨bl1154, 0, none⟩)), (6, v2103), (9, .bool x2105), (10, .int .i64 x2106)]) _ ⟨_, ⟨x1624, false, 0, v1623, _, ht2002, hS, f1618, f1619, f1620, f1621, rfl⟩, Sub.cons rfl (Sub.cons rfl (Sub.cons rfl (Sub.cons rfl (Sub.cons rfl (Sub.nil _)))))⟩ ?_
        clear ht2002 hS
        rintro m2002 _ w2097 ⟨x2104, x2105, x2106, v2103, R2096, ht2002, hS, f2098, f2099, f2100, f2101, rfl⟩
        obtain ⟨m2002, rfl, o2002, ho2002, ht2002⟩ := iter_some ht2002
        replace ho2002 : ref21_Extension_B3 fuel a0 x2104 x2105 x2106 = some o2002 := ho2002
        unfold ref21_Extension_B3 at ho2002
        refine e_seq fun K2203 hK2203 => ?_
        refine e_seq fun K2204 hK2204 => ?_
        refine e_region_text rfl ?_
        refine q_move rfl rfl ?_
        refine q_field rfl rfl ?_
        refine q_load rfl (Blk.cell (hS.blk 0 rfl) rfl) rfl ?_
        refine q_lenS rfl f2101 rfl ?_
        refine q_lss rfl rfl rfl ?_
        refine eseq_nil ?_
        refine hK2204 _ _ ?_
        refine e_cond rfl (fun hc2205 => ?_) (fun hc2205 => ?_)
        · replace ho2002 := (if_pos hc2205).symm.trans ho2002
          refine e_skip ?_
          refine hK2203 _ _ ?_
          refine e_seq fun K2206 hK2206 => ?_
          refine e_block ?_
          refine e_seq fun K2207 hK2207 => ?_
          refine e_region_text rfl ?_
          refine q_field rfl rfl ?_
          refine q_load rfl (Blk.cell (hS.blk 0 rfl) rfl) rfl ?_
          refine q_move rfl rfl ?_
          obtain ⟨x2208, hx2208, ho2002⟩ := Option.of_bind ho2002
          refine q_atS (by infer_instance) rfl f2101 rfl hx2208 rfl fun b2209 o2209 hm2209 f2209 => ?_
          have hc2210 := Arc_open f2209
          refine q_loadAgg rfl hc2210 rfl rfl ?_
          refine q_allocB rfl fun w2211 bl2211 hg2211 hb2211 hB2211 => ?_
          replace f2098 := f2098.ext hB2211
          replace f2099 := f2099.ext hB2211
          replace f2100 := f2100.ext hB2211
          replace f2101 := f2101.ext hB2211
          replace hS := hS.newBlk hB2211 hg2211 hb2211
          refine q_storeAgg rfl rfl (hS.blk 0 rfl) rfl (Nat.le_of_ble_eq_true rfl) (all_cons rfl (all_cons rfl (all_cons rfl (all_cons rfl (all_nil))))) rfl rfl fun w2213 hb2213 hO2213 => ?_
          simp only [setN, List.set, List.take, List.drop] at hb2213
          have hk2213 := hS.keptBlk 0 rfl hO2213
          replace f2098 := f2098.kept hk2213
          replace f2099 := f2099.kept hk2213
          replace f2100 := f2100.kept hk2213
          replace f2101 := f2101.kept hk2213
          replace hS := hS.setBlk 0 rfl hb2213 hO2213; simp only [List.set] at hS
          refine eseq_nil ?_
          refine hK2207 _ _ ?_
          refine e_seq fun K2214 hK2214 => ?_
          refine e_region_draw mixed (fun _ => False) [0, 1, 3, 7, 15, 31, 15, 15, 143, 15, 15, 1039, 3599, 7695, 16335, 32767, 65535, 131071, 262143, 524287, 262143, 262143, 2359295, 262143, 262143, 17039359, 58982399, 126091263, 267649023, 536870911, 1073741823] [14, 28] [0, 1, 2, 3, 4, 5, 6, 7, 8, 9, 10, 11, 12, 13, 14, 15, 16, 17, 18, 19, 20, 21, 22, 23, 24, 25, 26, 27, 28, 29, 30] (by kernel_rfl) ?_
          refine q_field rfl rfl ?_
          refine q_load rfl (Blk.cell (hS.blk 0 rfl) rfl) rfl ?_
          refine q_gtr rfl rfl rfl ?_
          refine q_move rfl rfl ?_
          obtain ⟨x2246, hx2245, ho2002⟩ := Option.of_bind ho2002
          refine g_andM 12 hx2245 rfl trivial rfl rfl ?_ ?_ ?_
          · intro hg2245 hx2245
            clear ho2002
            have hT2245 := Below.refl (World.heap w2213).size w2213
            refine g_run rfl ?_; refine q_field rfl rfl ?_
            refine g_run rfl ?_; refine q_load rfl (Blk.cell (hS.blk 0 rfl) rfl) rfl ?_
            refine g_run rfl ?_; refine q_loadAgg rfl (Blk.cellsAt (hS.blk 1 rfl) 0 3 rfl) rfl rfl ?_
            refine g_run rfl ?_; refine q_field rfl rfl ?_
            refine g_run rfl ?_; refine q_load rfl (Blk.cell (hS.blk 0 rfl) rfl) rfl ?_
            refine g_run rfl ?_; refine q_move rfl rfl ?_
            refine g_run rfl ?_; refine q_field rfl rfl ?_
            refine g_run rfl ?_; refine q_load rfl (Blk.cell (hS.blk 0 rfl) rfl) rfl ?_
            obtain ⟨x2247, hx2247, hx2245⟩ := Option.of_bind hx2245
            refine g_run rfl ?_; refine q_indexO (by infer_instance) rfl (hS.own 2 rfl) rfl hx2247 rfl ?_
            have f2248 := (hS.ownR 2 rfl).elt hx2247
            refine g_run rfl ?_; refine q_load rfl (Elt.intCell f2248) rfl ?_
            obtain ⟨r2250, hr2250, hx2245⟩ := Option.of_bind hx2245
            refine g_run rfl ?_; refine q_call rfl (ref19_Index_w (a0 := (⟨a0.lens, a0.ckpts, a0.arcs⟩ : Pat)) (Sep.enter (As := []) hS) f2099 f2100 f2101 hr2250) rfl ?_
            rintro _ w2249 ⟨R2249, rfl, hC2249⟩
            have hB2249 : Below (World.heap w2213).size w2213 w2249 := hC2249.stepB0
            refine ⟨fun _ => .of_below hB2249, ?_⟩
            replace f2098 := (f2098.ext hB2249).mono fun k hk _ => hC2249.ro0 k hk
            replace f2099 := (f2099.ext hB2249).mono fun k hk _ => hC2249.ro0 k hk
            replace f2100 := (f2100.ext hB2249).mono fun k hk _ => hC2249.ro0 k hk
            replace f2101 := (f2101.ext hB2249).mono fun k hk _ => hC2249.ro0 k hk
            replace hT2245 := hT2245.trans (Below.mono hB2249 hT2245.size)
            replace hS := Sep.leave (As := []) hS hC2249; simp only [List.cons_append, List.nil_append] at hS
            refine g_run rfl ?_; refine q_leq rfl rfl rfl ?_
            cases hx2245
            exact eseq_nil ⟨hT2245, Sub.set rfl (Sub.set rfl (Sub.set rfl (Sub.set rfl (Sub.set rfl (Sub.set rfl (Sub.set rfl (Sub.set rfl (Sub.set rfl (Sub.set rfl (Sub.set rfl (Sub.set rfl (Sub.bool true rfl hg2245)))))))))))), rfl⟩
          · intro hg2245
            refine g_skip rfl rfl rfl ?_
            refine g_skip rfl rfl rfl ?_
            refine g_skip rfl rfl rfl ?_
            refine g_skip rfl rfl rfl ?_
            refine g_skip rfl rfl rfl ?_
            refine g_skip rfl rfl rfl ?_
            refine g_skip rfl rfl rfl ?_
            refine g_skip rfl rfl rfl ?_
            refine g_skip rfl rfl rfl ?_
            refine g_skip rfl rfl rfl ?_
            refine g_skip rfl rfl rfl ?_
            refine g_skip rfl rfl rfl ?_
            exact eseq_nil ⟨rfl, Sub.set rfl (Sub.set rfl (Sub.set rfl (Sub.set rfl (Sub.set rfl (Sub.set rfl (Sub.set rfl (Sub.set rfl (Sub.set rfl (Sub.set rfl (Sub.set rfl (Sub.set rfl (Sub.bool false rfl hg2245))))))))))))⟩
          intro wm2245 hBm2245; clear hx2245
          replace hS := hS.below hBm2245
          replace f2098 := f2098.ext hBm2245
          replace f2099 := f2099.ext hBm2245
          replace f2100 := f2100.ext hBm2245
          replace f2101 := f2101.ext hBm2245
          refine q_move rfl rfl ?_
          obtain ⟨x2258, hx2257, ho2002⟩ := Option.of_bind ho2002
          refine g_andM 12 hx2257 rfl trivial rfl rfl ?_ ?_ ?_
          · intro hg2257 hx2257
            clear ho2002
            have hT2257 := Below.refl (World.heap wm2245).size wm2245
            refine g_run rfl ?_; refine q_field rfl rfl ?_
            refine g_run rfl ?_; refine q_load rfl (Blk.cell (hS.blk 0 rfl) rfl) rfl ?_
            refine g_run rfl ?_; refine q_loadAgg rfl (Blk.cellsAt (hS.blk 1 rfl) 0 3 rfl) rfl rfl ?_
            refine g_run rfl ?_; refine q_field rfl rfl ?_
            refine g_run rfl ?_; refine q_load rfl (Blk.cell (hS.blk 0 rfl) rfl) rfl ?_
            refine g_run rfl ?_; refine q_move rfl rfl ?_
            refine g_run rfl ?_; refine q_field rfl rfl ?_
            refine g_run rfl ?_; refine q_load rfl (Blk.cell (hS.blk 0 rfl) rfl) rfl ?_
            obtain ⟨x2259, hx2259, hx2257⟩ := Option.of_bind hx2257
            refine g_run rfl ?_; refine q_indexO (by infer_instance) rfl (hS.own 2 rfl) rfl hx2259 rfl ?_
            have f2260 := (hS.ownR 2 rfl).elt hx2259
            refine g_run rfl ?_; refine q_load rfl (Elt.intCell f2260) rfl ?_
            obtain ⟨r2262, hr2262, hx2257⟩ := Option.of_bind hx2257
            refine g_run rfl ?_; refine q_call rfl (ref19_Index_w (a0 := (⟨a0.lens, a0.ckpts, a0.arcs⟩ : Pat)) (Sep.enter (As := []) hS) f2099 f2100 f2101 hr2262) rfl ?_
            rintro _ w2261 ⟨R2261, rfl, hC2261⟩
            have hB2261 : Below (World.heap wm2245).size wm2245 w2261 := hC2261.stepB0
            refine ⟨fun _ => .of_below hB2261, ?_⟩
            replace f2098 := (f2098.ext hB2261).mono fun k hk _ => hC2261.ro0 k hk
            replace f2099 := (f2099.ext hB2261).mono fun k hk _ => hC2261.ro0 k hk
            replace f2100 := (f2100.ext hB2261).mono fun k hk _ => hC2261.ro0 k hk
            replace f2101 := (f2101.ext hB2261).mono fun k hk _ => hC2261.ro0 k hk
            replace hT2257 := hT2257.trans (Below.mono hB2261 hT2257.size)
            replace hS := Sep.leave (As := []) hS hC2261; simp only [List.cons_append, List.nil_append] at hS
            refine g_run rfl ?_; refine q_gtr rfl rfl rfl ?_
            cases hx2257
            exact eseq_nil ⟨hT2257, Sub.set rfl (Sub.set rfl (Sub.set rfl (Sub.set rfl (Sub.set rfl (Sub.set rfl (Sub.set rfl (Sub.set rfl (Sub.set rfl (Sub.set rfl (Sub.set rfl (Sub.set rfl (Sub.bool true rfl hg2257)))))))))))), rfl⟩
          · intro hg2257
            refine g_skip rfl rfl rfl ?_
            refine g_skip rfl rfl rfl ?_
            refine g_skip rfl rfl rfl ?_
            refine g_skip rfl rfl rfl ?_
            refine g_skip rfl rfl rfl ?_
            refine g_skip rfl rfl rfl ?_
            refine g_skip rfl rfl rfl ?_
            refine g_skip rfl rfl rfl ?_
            refine g_skip rfl rfl rfl ?_
            refine g_skip rfl rfl rfl ?_
            refine g_skip rfl rfl rfl ?_
            refine g_skip rfl rfl rfl ?_
            exact eseq_nil ⟨rfl, Sub.set rfl (Sub.set rfl (Sub.set rfl (Sub.set rfl (Sub.set rfl (Sub.set rfl (Sub.set rfl (Sub.set rfl (Sub.set rfl (Sub.set rfl (Sub.set rfl (Sub.set rfl (Sub.bool false rfl hg2257))))))))))))⟩
          intro wm2257 hBm2257; clear hx2257
          replace hS := hS.below hBm2257
          replace f2098 := f2098.ext hBm2257
          replace f2099 := f2099.ext hBm2257
          replace f2100 := f2100.ext hBm2257
          replace f2101 := f2101.ext hBm2257
          refine eseq_nil ?_
          refine hK2214 _ _ ?_
          refine e_cond rfl (fun hc2263 => ?_) (fun hc2263 => ?_)
          · replace ho2002 := (if_pos hc2263).symm.trans ho2002
            refine e_seq fun K2264 hK2264 => ?_
            refine e_region_text rfl ?_
            refine q_move rfl rfl ?_
            refine q_field rfl rfl ?_
            refine q_load rfl (Blk.cell (hS.blk 0 rfl) rfl) rfl ?_
            obtain ⟨x2265, hx2265, ho2002⟩ := Option.of_bind ho2002
            refine q_indexO (by infer_instance) rfl (hS.own 2 rfl) rfl hx2265 rfl ?_
            have f2266 := (hS.ownR 2 rfl).elt hx2265
            refine q_load rfl (Elt.intCell f2266) rfl ?_
            refine q_subW rfl rfl rfl ?_
            obtain ⟨x2267, hx2267, ho2002⟩ := Option.of_bind ho2002
            refine q_indexO (by infer_instance) rfl (hS.own 2 rfl) rfl hx2267 rfl ?_
            obtain ⟨x2269, hx2269, ho2002⟩ := Option.of_bind ho2002
            refine q_storeO (T := Ty.int) (j := 0) rfl rfl (hS.own 2 rfl) hx2267 hx2269 rfl rfl rfl (Enc.setL rfl) fun w2268 ho2268 hO2268 => ?_
            have hk2268 := hS.keptO 2 rfl hx2267 hO2268
            replace f2098 := f2098.kept hk2268
            replace f2099 := f2099.kept hk2268
            replace f2100 := f2100.kept hk2268
            replace f2101 := f2101.kept hk2268
            replace hS := hS.putO 2 rfl hx2267 ho2268 hO2268; simp only [List.set] at hS
            refine eseq_nil ?_
            refine hK2264 _ _ ?_
            refine e_region_text rfl ?_
            refine q_assign rfl rfl ?_
            refine eseq_nil ?_
            refine hK2206 _ _ ?_
            refine e_region_text rfl ?_
            refine q_move rfl rfl ?_
            refine q_addW rfl rfl rfl ?_
            refine q_assign rfl rfl ?_
            refine eseq_nil ?_
            obtain rfl := Option.some.inj ho2002
            exact ⟨m2002, _, Nat.lt_succ_self _, ⟨x2269, true, (w64 (x2106 + 1)), v2103, _, ht2002, (hS.pickB [1, 2] 3 rfl rfl), f2098, f2099, f2100, f2101, rfl⟩, Sub.cons rfl (Sub.cons rfl (Sub.cons rfl (Sub.cons rfl (Sub.cons rfl (Sub.nil _)))))⟩
          · replace ho2002 := (if_neg (not_true hc2263)).symm.trans ho2002
            refine e_skip ?_
            refine hK2206 _ _ ?_
            refine e_region_text rfl ?_
            refine q_move rfl rfl ?_
            refine q_addW rfl rfl rfl ?_
            refine q_assign rfl rfl ?_
            refine eseq_nil ?_
            obtain rfl := Option.some.inj ho2002
            exact ⟨m2002, _, Nat.lt_succ_self _, ⟨x2104, x2105, (w64 (x2106 + 1)), v2103, _, ht2002, (hS.pickB [1, 2] 3 rfl rfl), f2098, f2099, f2100, f2101, rfl⟩, Sub.cons rfl (Sub.cons rfl (Sub.cons rfl (Sub.cons rfl (Sub.cons rfl (Sub.nil _)))))⟩
        · replace ho2002 := (if_neg (not_true hc2205)).symm.trans ho2002
          refine e_exit ?_
          obtain rfl := Option.some.inj ho2002
          obtain rfl := Option.some.inj ht2002
          replace ho1315 : ref21_Extension_K5 fuel x2104 x2105 = some o1315 := ho1315
          unfold ref21_Extension_K5 at ho1315
          obtain rfl := Option.some.inj ho1315
          exact ⟨m1315, _, Nat.lt_succ_self _, ⟨x2104, x2105, v2103, _, ht1315, hS, f2098, f2099, f2100, f2101, rfl⟩, Sub.cons rfl (Sub.cons rfl (Sub.cons rfl (Sub.cons rfl (Sub.nil _))))⟩
      · replace ho1315 := (if_neg (not_true hc1999)).symm.trans ho1315
        refine e_exit ?_
        obtain rfl := Option.some.inj ho1315
        obtain rfl := Option.some.inj ht1315
        exact hX1315_4 x1624 v1623 _ _ _ h (hS.pickB [1] 2 rfl rfl) f1618 (Sub.cons rfl (Sub.cons rfl (Sub.nil _)))
    refine e_loop (fun m_ E_ w1267 => ∃ (x1274 : (List Int)), ∃ (x1275 : Int), ∃ (v1273 : Value), ∃ (R1266 : Nat → Prop), iter (fun s => ref21_Extension_B4 fuel a1 s.1 s.2) m_ (x1274, x1275) = some tl1230 ∧ Sep F R R1266 w w1267 [HP.blk bl1154 [v1, v2, v3] 28, HP.own Ty.int (fun _ => False) 3 v1273 x1274] ∧ IsSlice ptTy w1267 R1266 v4 a1 ∧ IsSlice Ty.int w1267 R1266 v1 a0.lens ∧ IsSlice (Ty.slice Ty.int) w1267 R1266 v2 a0.ckpts ∧ IsSlice arcTy w1267 R1266 v3 a0.arcs ∧ E_ = [(1, v4), (2, .pointer (some ⟨bl1154, 0, none⟩)), (6, v1273), (8, .int .i64 x1275)]) _ ⟨_, ⟨x1227, 0, v1226, _, ht1230, hS, f1221, f1222, f1223, f1224, rfl⟩, Sub.cons rfl (Sub.cons rfl (Sub.cons rfl (Sub.cons rfl (Sub.nil _))))⟩ ?_
    clear ht1230 hS
    rintro m1230 _ w1267 ⟨x1274, x1275, v1273, R1266, ht1230, hS, f1268, f1269, f1270, f1271, rfl⟩
    obtain ⟨m1230, rfl, o1230, ho1230, ht1230⟩ := iter_some ht1230
    replace ho1230 : ref21_Extension_B4 fuel a1 x1274 x1275 = some o1230 := ho1230
    unfold ref21_Extension_B4 at ho1230
    refine e_seq fun K2270 hK2270 => ?_
    refine e_seq fun K2271 hK2271 => ?_
    refine e_region_text rfl ?_
    refine q_move rfl rfl ?_
    refine q_move rfl rfl ?_
    refine q_lenS rfl f1268 rfl ?_
    refine q_lss rfl rfl rfl ?_
    refine eseq_nil ?_
    refine hK2271 _ _ ?_
    refine e_cond rfl (fun hc2272 => ?_) (fun hc2272 => ?_)
    · replace ho1230 := (if_pos hc2272).symm.trans ho1230
      refine e_skip ?_
      refine hK2270 _ _ ?_
      refine e_seq fun K2273 hK2273 => ?_
      refine e_block ?_
      refine e_region_draw mixed (fun _ => False) [0, 0, 0, 6, 14, 30, 0, 0, 0, 384, 896, 1920, 4032, 8128, 0, 0, 49152, 114688, 245760, 524224, 1048575, 2097151] [] [0, 1, 2, 3, 4, 5, 6, 7, 8, 9, 10, 11, 12, 13, 14, 15, 16, 17, 18, 19, 20, 21] (by kernel_rfl) ?_
      refine q_move rfl rfl ?_
      refine q_move rfl rfl ?_
      refine q_move rfl rfl ?_
      obtain ⟨x2274, hx2274, ho1230⟩ := Option.of_bind ho1230
      refine q_atS (by infer_instance) rfl f1268 rfl hx2274 rfl fun b2275 o2275 hm2275 f2275 => ?_
      refine q_field rfl rfl ?_
      have f2276 := Pt_F0 f2275
      refine q_load rfl (Elt.intCell f2276) rfl ?_
      refine q_move rfl rfl ?_
      refine q_move rfl rfl ?_
      refine q_move rfl rfl ?_
      obtain ⟨x2277, hx2277, ho1230⟩ := Option.of_bind ho1230
      refine q_atS (by infer_instance) rfl f1268 rfl hx2277 rfl fun b2278 o2278 hm2278 f2278 => ?_
      refine q_field rfl rfl ?_
      have f2279 := Pt_F0 f2278
      refine q_load rfl (Elt.intCell f2279) rfl ?_
      obtain ⟨x2280, hx2280, ho1230⟩ := Option.of_bind ho1230
      refine q_indexO (by infer_instance) rfl (hS.own 1 rfl) rfl hx2280 rfl ?_
      have f2281 := (hS.ownR 1 rfl).elt hx2280
      refine q_load rfl (Elt.intCell f2281) rfl ?_
      refine q_move rfl rfl ?_
      refine q_move rfl rfl ?_
      obtain ⟨x2282, hx2282, ho1230⟩ := Option.of_bind ho1230
      refine q_atS (by infer_instance) rfl f1268 rfl hx2282 rfl fun b2283 o2283 hm2283 f2283 => ?_
      refine q_field rfl rfl ?_
      have f2284 := Pt_F1 f2283
      refine q_load rfl (Elt.intCell f2284) rfl ?_
      refine q_min rfl rfl rfl ?_
      obtain ⟨x2285, hx2285, ho1230⟩ := Option.of_bind ho1230
      refine q_indexO (by infer_instance) rfl (hS.own 1 rfl) rfl hx2285 rfl ?_
      obtain ⟨x2287, hx2287, ho1230⟩ := Option.of_bind ho1230
      refine q_storeO (T := Ty.int) (j := 0) rfl rfl (hS.own 1 rfl) hx2285 hx2287 rfl rfl rfl (Enc.setL rfl) fun w2286 ho2286 hO2286 => ?_
      have hk2286 := hS.keptO 1 rfl hx2285 hO2286
      replace f1268 := f1268.kept hk2286
      replace f1269 := f1269.kept hk2286
      replace f1270 := f1270.kept hk2286
      replace f1271 := f1271.kept hk2286
      replace hS := hS.putO 1 rfl hx2285 ho2286 hO2286; simp only [List.set] at hS
      refine eseq_nil ?_
      refine hK2273 _ _ ?_
      refine e_region_text rfl ?_
      refine q_move rfl rfl ?_
      refine q_addW rfl rfl rfl ?_
      refine q_assign rfl rfl ?_
      refine eseq_nil ?_
      obtain rfl := Option.some.inj ho1230
      exact ⟨m1230, _, Nat.lt_succ_self _, ⟨x2287, (w64 (x1275 + 1)), v1273, _, ht1230, hS, f1268, f1269, f1270, f1271, rfl⟩, Sub.cons rfl (Sub.cons rfl (Sub.cons rfl (Sub.cons rfl (Sub.nil _))))⟩
    · replace ho1230 := (if_neg (not_true hc2272)).symm.trans ho1230
      refine e_exit ?_
      obtain rfl := Option.some.inj ho1230
      obtain rfl := Option.some.inj ht1230
      exact hX1230_2 x1274 v1273 _ _ _ h hS f1268 f1269 f1270 f1271 (Sub.cons rfl (Sub.cons rfl (Sub.cons rfl (Sub.nil _))))
  replace hS := hS.nilOwn0 Ty.int 3
  refine e_loop (fun m_ E_ w1189 => ∃ (x1196 : (List Int)), ∃ (x1197 : Int), ∃ (v1195 : Value), ∃ (R1188 : Nat → Prop), iter (fun s => ref21_Extension_B5 fuel a0 s.1 s.2) m_ (x1196, x1197) = some tl1159 ∧ Sep F R R1188 w w1189 [HP.blk bl1154 [v1, v2, v3] 28, HP.own Ty.int (fun _ => False) 3 v1195 x1196] ∧ IsSlice ptTy w1189 R1188 v4 a1 ∧ IsSlice Ty.int w1189 R1188 v1 a0.lens ∧ IsSlice (Ty.slice Ty.int) w1189 R1188 v2 a0.ckpts ∧ IsSlice arcTy w1189 R1188 v3 a0.arcs ∧ E_ = [(1, v4), (2, .pointer (some ⟨bl1154, 0, none⟩)), (6, v1195), (7, .int .i64 x1197)]) _ ⟨_, ⟨([] : List Int), 0, (.slice none 0 0), _, ht1159, (hS.pickB [1, 0] 2 rfl rfl), f4, f1, f2, f3, rfl⟩, Sub.cons rfl (Sub.cons rfl (Sub.cons rfl (Sub.cons rfl (Sub.nil _))))⟩ ?_
  clear ht1159 hS
  rintro m1159 _ w1189 ⟨x1196, x1197, v1195, R1188, ht1159, hS, f1190, f1191, f1192, f1193, rfl⟩
  obtain ⟨m1159, rfl, o1159, ho1159, ht1159⟩ := iter_some ht1159
  replace ho1159 : ref21_Extension_B5 fuel a0 x1196 x1197 = some o1159 := ho1159
  unfold ref21_Extension_B5 at ho1159
  refine e_seq fun K2289 hK2289 => ?_
  refine e_seq fun K2290 hK2290 => ?_
  refine e_region_text rfl ?_
  refine q_move rfl rfl ?_
  refine q_field rfl rfl ?_
  refine q_load rfl (Blk.cell (hS.blk 0 rfl) rfl) rfl ?_
  refine q_lenS rfl f1192 rfl ?_
  refine q_lss rfl rfl rfl ?_
  refine eseq_nil ?_
  refine hK2290 _ _ ?_
  refine e_cond rfl (fun hc2291 => ?_) (fun hc2291 => ?_)
  · replace ho1159 := (if_pos hc2291).symm.trans ho1159
    refine e_skip ?_
    refine hK2289 _ _ ?_
    refine e_seq fun K2292 hK2292 => ?_
    refine e_block ?_
    refine e_region_text rfl ?_
    refine q_move rfl rfl ?_
    refine q_field rfl rfl ?_
    refine q_load rfl (Blk.cell (hS.blk 0 rfl) rfl) rfl ?_
    refine q_move rfl rfl ?_
    obtain ⟨x2293, hx2293, ho1159⟩ := Option.of_bind ho1159
    refine q_atS (by infer_instance) rfl f1192 rfl hx2293 rfl fun b2294 o2294 hm2294 f2294 => ?_
    refine q_loadE rfl f2294 rfl (fun v2295 f2295 => ?_)
    refine q_lenS rfl f2295 rfl ?_
    refine q_litO (T := Ty.int) (S := (fun _ => False)) (cells := [[.int .i64 (x2293.length : Int)]]) (ys := [(x2293.length : Int)]) ((Parts.cons rfl rfl Parts.nil)) rfl rfl rfl rfl rfl rfl rfl (fun w1 hB => ⟨rfl, trivial⟩) (fun _ h => h.elim) rfl fun w2296 v2296 ho2296 hv2296 hB2296 => ?_
    replace f1190 := f1190.ext hB2296
    replace f1191 := f1191.ext hB2296
    replace f1192 := f1192.ext hB2296
    replace f1193 := f1193.ext hB2296
    replace hS := hS.newOwnS hB2296 ho2296 hv2296 (fun _ h => h.elim)
    obtain ⟨x2299, hx2299, ho1159⟩ := Option.of_bind ho1159
    refine q_catOwn (T := Ty.int) rfl rfl rfl rfl (hS.own 2 rfl) rfl (hS.own 0 rfl) (fun _ h _ => h.elim) (snoc_cat hx2299) (Nat.zero_le _) rfl (fun h => by cases h) fun v2298 w2298 hw2298 hgr2298 hnw2298 => ?_
    have hk2298 := hS.keptOwn 2 rfl hgr2298
    replace f1190 := f1190.kept hk2298
    replace f1191 := f1191.kept hk2298
    replace f1192 := f1192.kept hk2298
    replace f1193 := f1193.kept hk2298
    replace hS := hS.setOwn 2 rfl hw2298 hgr2298 hnw2298; simp only [List.set] at hS
    refine q_assign rfl rfl ?_
    refine eseq_nil ?_
    refine hK2292 _ _ ?_
    refine e_region_text rfl ?_
    refine q_move rfl rfl ?_
    refine q_addW rfl rfl rfl ?_
    refine q_assign rfl rfl ?_
    refine eseq_nil ?_
    obtain rfl := Option.some.inj ho1159
    exact ⟨m1159, _, Nat.lt_succ_self _, ⟨x2299, (w64 (x1197 + 1)), v2298, _, ht1159, (hS.pickB [1, 2] 3 rfl rfl), f1190, f1191, f1192, f1193, rfl⟩, Sub.cons rfl (Sub.cons rfl (Sub.cons rfl (Sub.cons rfl (Sub.nil _))))⟩
  · replace ho1159 := (if_neg (not_true hc2291)).symm.trans ho1159
    refine e_exit ?_
    obtain rfl := Option.some.inj ho1159
    obtain rfl := Option.some.inj ht1159
    exact hX1159_0 x1196 v1195 _ _ _ h hS f1190 f1191 f1192 f1193 (Sub.cons rfl (Sub.cons rfl (Sub.cons rfl (Sub.nil _))))
end Go.Proofs.Ytlceljfigccllaa
