/- Printed walks: A16c. -/
import Derived.Test.YtbmjcbhappjnaaaApat
import Derived.Test.YtbmjcbhappjnaaaA16r
set_option linter.unusedVariables false
set_option linter.unusedSimpArgs false
namespace Go.Mine
open Go.RowKit
def ref16_ckpts_K1 (fuel : Nat) : Option (Bool) :=
  some true
def ref16_ckpts_B1 (fuel : Nat) (a0 : (List Int)) (a1 : Int) (x139 : Int) : Option ((Int) ⊕ (Unit ⊕ (Bool))) :=
  (if (decide (x139 < (a0.length : Int))) = true then (ati a0 x139).bind fun x171 => (ati a0 (w64 (x139 - 1))).bind fun x173 => (orM (decide (x171 ≤ x173)) ((ati a0 x139).bind fun x181 => some (decide (a1 < x181)))).bind fun x180 => (if x180 = true then some (Sum.inr (Sum.inr false)) else some (Sum.inl (w64 (x139 + 1)))) else some (Sum.inr (Sum.inl ())))
def ref16_ckpts (fuel : Nat) (a0 : (List Int)) (a1 : Int) : Option (Bool) :=
  (orM ((a0.length : Int) == 0) ((ati a0 0).bind fun x103 => some (x103 != 0))).bind fun x102 => (if x102 = true then some false else (iter (fun s => ref16_ckpts_B1 fuel a0 a1 s) fuel 1).bind (fun t => Sum.elim (fun t => ref16_ckpts_K1 fuel) (fun t => some t) t))
def ref16_arc_K1 (fuel : Nat) : Option (Int) :=
  some 0
def ref16_arc_B1 (fuel : Nat) (a1 : Int) (x171 : Arc) (a0 : Pat) (x265 : Int) : Option ((Int) ⊕ (Unit ⊕ (Int))) :=
  (if (decide (x265 < a1)) = true then (andM (x171.rcv != 0) ((ati a0.arcs x265).bind fun x314 => some (x314.to == x171.to))).bind fun x313 => (andM x313 ((ati a0.arcs x265).bind fun x324 => some (x324.rcv == x171.rcv))).bind fun x323 => (if x323 = true then some (Sum.inr (Sum.inr 7)) else some (Sum.inl (w64 (x265 + 1)))) else some (Sum.inr (Sum.inl ())))
def ref16_arc (fuel : Nat) (a0 : Pat) (a1 : Int) : Option (Int) :=
  (ati a0.arcs a1).bind fun x171 => (ref16_proc fuel (⟨a0.lens, a0.ckpts, a0.arcs⟩ : Pat) x171.fr).bind fun r180 => (orM (!r180) ((ref16_proc fuel (⟨a0.lens, a0.ckpts, a0.arcs⟩ : Pat) x171.to).bind fun r188 => some (!r188))).bind fun x186 => (orM x186 (some (x171.fr == x171.to))).bind fun x192 => (orM x192 (some (decide (x171.ix < 0)))).bind fun x196 => (orM x196 ((ati a0.lens x171.fr).bind fun x203 => some (decide (x203 < x171.ix)))).bind fun x202 => (orM x202 (some (decide (x171.rcv < 0)))).bind fun x208 => (orM x208 ((ati a0.lens x171.to).bind fun x215 => some (decide (x215 < x171.rcv)))).bind fun x214 => (if x214 = true then some 3 else (iter (fun s => ref16_arc_B1 fuel a1 x171 a0 s) fuel 0).bind (fun t => Sum.elim (fun t => ref16_arc_K1 fuel) (fun t => some t) t))
def ref16_possible_K2 (fuel : Nat) : Option (Bool) :=
  some true
def ref16_possible_B1 (fuel : Nat) (x1663 : (List Int)) (a0 : Pat) (x1697 : Int) : Option ((Int) ⊕ (Unit ⊕ (Bool))) :=
  (if (decide (x1697 < (x1663.length : Int))) = true then (ati x1663 x1697).bind fun x1724 => (ati a0.lens x1697).bind fun x1726 => (if (decide (x1724 < x1726)) = true then some (Sum.inr (Sum.inr false)) else some (Sum.inl (w64 (x1697 + 1)))) else some (Sum.inr (Sum.inl ())))
def ref16_possible_K1 (fuel : Nat) (a0 : Pat) (x1663 : (List Int)) : Option (Bool) :=
  (iter (fun s => ref16_possible_B1 fuel x1663 a0 s) fuel 0).bind (fun t => Sum.elim (fun t => ref16_possible_K2 fuel) (fun t => some t) t)
def ref16_possible_K3 (fuel : Nat) (x1939 : (List Int)) (x1940 : Bool) : Option (((List Int) × Bool) ⊕ ((List Int))) :=
  some (Sum.inl (x1939, x1940))
def ref16_possible_K4 (fuel : Nat) (x1841 : Int) (x2008 : (List Int)) (x2009 : Bool) : Option (((List Int) × Bool × Int) ⊕ ((List Int) × Bool)) :=
  some (Sum.inl (x2008, x2009, (w64 (x1841 + 1))))
def ref16_possible_B4 (fuel : Nat) (a0 : Pat) (x1841 : Int) (x1979 : (List Int)) (x1980 : Bool) : Option (((List Int) × Bool) ⊕ ((List Int) × Bool)) :=
  (ref16_Can fuel (⟨a0.lens, a0.ckpts, a0.arcs⟩ : Pat) x1979 x1841).bind fun r2013 => (if r2013 = true then (ati x1979 x1841).bind fun x2016 => (ati x1979 x1841).bind fun x2018 => (seti x1979 x1841 (w64 (x2016 + 1))).bind fun x2020 => some (Sum.inl (x2020, true)) else some (Sum.inr (x1979, x1980)))
def ref16_possible_B3 (fuel : Nat) (a0 : Pat) (x1839 : (List Int)) (x1840 : Bool) (x1841 : Int) : Option (((List Int) × Bool × Int) ⊕ ((List Int) × Bool)) :=
  (if (decide (x1841 < (x1839.length : Int))) = true then (iter (fun s => ref16_possible_B4 fuel a0 x1841 s.1 s.2) fuel (x1839, x1840)).bind (fun t => ref16_possible_K4 fuel x1841 t.1 t.2) else some (Sum.inr (x1839, x1840)))
def ref16_possible_B2 (fuel : Nat) (a0 : Pat) (x1345 : (List Int)) (x1346 : Bool) : Option (((List Int) × Bool) ⊕ ((List Int))) :=
  (if x1346 = true then (iter (fun s => ref16_possible_B3 fuel a0 s.1 s.2.1 s.2.2) fuel (x1345, false, 0)).bind (fun t => ref16_possible_K3 fuel t.1 t.2) else some (Sum.inr x1345))
def ref16_possible (fuel : Nat) (a0 : Pat) : Option (Bool) :=
  (mkL (a0.lens.length : Int) (0 : Int)).bind fun x1017 => (iter (fun s => ref16_possible_B2 fuel a0 s.1 s.2) fuel (x1017, true)).bind (fun t => ref16_possible_K1 fuel a0 t)
def ref16_Check_K3 (fuel : Nat) (a0 : Pat) : Option (Int) :=
  (ref16_possible fuel (⟨a0.lens, a0.ckpts, a0.arcs⟩ : Pat)).bind fun r436 => (if (!r436) = true then some 7 else some 0)
def ref16_Check_B1 (fuel : Nat) (a0 : Pat) (x411 : Int) : Option ((Int) ⊕ (Unit ⊕ (Int))) :=
  (if (decide (x411 < (a0.arcs.length : Int))) = true then (ref16_arc fuel (⟨a0.lens, a0.ckpts, a0.arcs⟩ : Pat) x411).bind fun r446 => (if (r446 != 0) = true then some (Sum.inr (Sum.inr r446)) else some (Sum.inl (w64 (x411 + 1)))) else some (Sum.inr (Sum.inl ())))
def ref16_Check_K2 (fuel : Nat) (a0 : Pat) : Option (Int) :=
  (iter (fun s => ref16_Check_B1 fuel a0 s) fuel 0).bind (fun t => Sum.elim (fun t => ref16_Check_K3 fuel a0) (fun t => some t) t)
def ref16_Check_B2 (fuel : Nat) (a0 : Pat) (x356 : Int) : Option ((Int) ⊕ (Unit ⊕ (Int))) :=
  (if (decide (x356 < (a0.lens.length : Int))) = true then (ati a0.ckpts x356).bind fun x455 => (ati a0.lens x356).bind fun x458 => (ref16_ckpts fuel x455 x458).bind fun r461 => (if (!r461) = true then some (Sum.inr (Sum.inr 7)) else some (Sum.inl (w64 (x356 + 1)))) else some (Sum.inr (Sum.inl ())))
def ref16_Check_K1 (fuel : Nat) (a0 : Pat) : Option (Int) :=
  (iter (fun s => ref16_Check_B2 fuel a0 s) fuel 0).bind (fun t => Sum.elim (fun t => ref16_Check_K2 fuel a0) (fun t => some t) t)
def ref16_Check_B3 (fuel : Nat) (a0 : Pat) (x294 : Int) : Option ((Int) ⊕ (Unit ⊕ (Int))) :=
  (if (decide (x294 < (a0.lens.length : Int))) = true then (ati a0.lens x294).bind fun x469 => (orM (decide (x469 < 0)) ((ati a0.lens x294).bind fun x477 => some (decide (64 < x477)))).bind fun x476 => (if x476 = true then some (Sum.inr (Sum.inr 3)) else some (Sum.inl (w64 (x294 + 1)))) else some (Sum.inr (Sum.inl ())))
def ref16_Check (fuel : Nat) (a0 : Pat) : Option (Int) :=
  (orM (decide (5 < (a0.lens.length : Int))) (some (decide (256 < (a0.arcs.length : Int))))).bind fun x251 => (if x251 = true then some 4 else (if ((a0.ckpts.length : Int) != (a0.lens.length : Int)) = true then some 7 else (iter (fun s => ref16_Check_B3 fuel a0 s) fuel 0).bind (fun t => Sum.elim (fun t => ref16_Check_K1 fuel a0) (fun t => some t) t)))
end Go.Mine
namespace Go.Proofs.Ytbmjcbhappjnaaa
open Go.RowKit Go.Mine
attribute [local irreducible] eseq ewp iter
theorem ref16_ckpts_w {F R : Nat → Prop} {w : World} {fuel : Nat} {a0 : (List Int)} {a1 : Int} {v1 : Value} {r : (Bool)} (hS : Sep F R R w w []) (f1 : IsSlice Ty.int w R v1 a0) (h : ref16_ckpts fuel a0 a1 = some r) :
    Gives Try.prog 97 [v1, .int .i64 a1] w fun u w1 => ∃ (R1 : Nat → Prop), u = .bool r ∧ Sep F R R1 w w1 [] := by
  refine fn_of Try.func97 rfl Try.ntmps97 (Nat.le_of_ble_eq_true rfl) ?_
  unfold ref16_ckpts at h
  refine e_seq fun K94 hK94 => ?_
  refine e_region_text rfl ?_
  refine q_assign rfl rfl ?_
  refine eseq_nil ?_
  refine hK94 _ _ ?_
  refine e_seq fun K95 hK95 => ?_
  refine e_seq fun K96 hK96 => ?_
  refine e_region_text rfl ?_
  refine q_move rfl rfl ?_
  refine q_lenS rfl f1 rfl ?_
  refine q_eql rfl rfl rfl ?_
  refine q_move rfl rfl ?_
  obtain ⟨x102, hx101, h⟩ := Option.of_bind h
  refine g_orM 4 hx101 rfl trivial rfl rfl ?_ ?_ ?_
  · intro hg101
    refine g_skip rfl rfl rfl ?_
    refine g_skip rfl rfl rfl ?_
    refine g_skip rfl rfl rfl ?_
    refine g_skip rfl rfl rfl ?_
    exact eseq_nil ⟨rfl, Sub.set rfl (Sub.set rfl (Sub.set rfl (Sub.set rfl (Sub.bool true rfl hg101))))⟩
  · intro hg101 hx101
    clear h
    have hT101 := Below.refl (World.heap w).size w
    refine g_run rfl ?_; refine q_move rfl rfl ?_
    obtain ⟨x103, hx103, hx101⟩ := Option.of_bind hx101
    refine g_run rfl ?_; refine q_atS (by infer_instance) rfl f1 rfl hx103 rfl fun b104 o104 hm104 f104 => ?_
    refine g_run rfl ?_; refine q_load rfl (Elt.intCell f104) rfl ?_
    refine g_run rfl ?_; refine q_neq rfl rfl rfl ?_
    cases hx101
    exact eseq_nil ⟨hT101, Sub.set rfl (Sub.set rfl (Sub.set rfl (Sub.set rfl (Sub.bool false rfl hg101)))), rfl⟩
  intro wm101 hBm101; clear hx101
  replace hS := hS.below hBm101
  replace f1 := f1.ext hBm101
  refine eseq_nil ?_
  refine hK96 _ _ ?_
  refine e_cond rfl (fun hc105 => ?_) (fun hc105 => ?_)
  · replace h := (if_pos hc105).symm.trans h
    refine e_seq fun K106 hK106 => ?_
    refine e_region_text rfl ?_
    refine q_assign rfl rfl ?_
    refine eseq_nil ?_
    refine hK106 _ _ ?_
    refine e_ret ?_
    obtain rfl := Option.some.inj h
    exact ⟨_, res1 rfl rfl, _, rfl, hS⟩
  · replace h := (if_neg (not_true hc105)).symm.trans h
    refine e_skip ?_
    refine hK95 _ _ ?_
    refine e_seq fun K107 hK107 => ?_
    refine e_seq fun K108 hK108 => ?_
    refine e_region_text rfl ?_
    refine q_assign rfl rfl ?_
    refine eseq_nil ?_
    refine hK108 _ _ ?_
    refine e_block ?_
    obtain ⟨tl109, ht109, h⟩ := Option.of_bind h
    have hX109_0 : ∀ (R163 : Nat → Prop) (w164 : World) (E_ : Env), ref16_ckpts_K1 fuel = some r → Sep F R R163 w w164 [] → Sub [] E_ → K107 E_ w164 := by
      intro R163 w164 E_ h hS  hsub
      refine hK107 _ _ (e_sub hsub ?_); clear hsub
      unfold ref16_ckpts_K1 at h
      refine e_seq fun K165 hK165 => ?_
      refine e_region_text rfl ?_
      refine q_assign rfl rfl ?_
      refine eseq_nil ?_
      refine hK165 _ _ ?_
      refine e_ret ?_
      obtain rfl := Option.some.inj h
      exact ⟨_, res1 rfl rfl, _, rfl, hS⟩
    refine e_loop (fun m_ E_ w137 => ∃ (x139 : Int), ∃ (R136 : Nat → Prop), iter (fun s => ref16_ckpts_B1 fuel a0 a1 s) m_ x139 = some tl109 ∧ Sep F R R136 w w137 [] ∧ IsSlice Ty.int w137 R136 v1 a0 ∧ E_ = [(0, v1), (1, .int .i64 a1), (5, .int .i64 x139)]) _ ⟨_, ⟨1, _, ht109, hS, f1, rfl⟩, Sub.cons rfl (Sub.cons rfl (Sub.cons rfl (Sub.nil _)))⟩ ?_
    clear ht109 hS
    rintro m109 _ w137 ⟨x139, R136, ht109, hS, f138, rfl⟩
    obtain ⟨m109, rfl, o109, ho109, ht109⟩ := iter_some ht109
    replace ho109 : ref16_ckpts_B1 fuel a0 a1 x139 = some o109 := ho109
    unfold ref16_ckpts_B1 at ho109
    refine e_seq fun K166 hK166 => ?_
    refine e_seq fun K167 hK167 => ?_
    refine e_region_text rfl ?_
    refine q_move rfl rfl ?_
    refine q_move rfl rfl ?_
    refine q_lenS rfl f138 rfl ?_
    refine q_lss rfl rfl rfl ?_
    refine eseq_nil ?_
    refine hK167 _ _ ?_
    refine e_cond rfl (fun hc168 => ?_) (fun hc168 => ?_)
    · replace ho109 := (if_pos hc168).symm.trans ho109
      refine e_skip ?_
      refine hK166 _ _ ?_
      refine e_seq fun K169 hK169 => ?_
      refine e_block ?_
      refine e_seq fun K170 hK170 => ?_
      refine e_region_draw mixed (fun _ => False) [0, 0, 3, 7, 0, 0, 32, 112, 240, 511, 1023, 2047, 2047, 8191, 16383, 2047, 65535, 131071] [] [0, 1, 2, 3, 4, 5, 6, 7, 8, 9, 10, 11, 12, 13, 14, 15, 16, 17] (by kernel_rfl) ?_
      refine q_move rfl rfl ?_
      refine q_move rfl rfl ?_
      obtain ⟨x171, hx171, ho109⟩ := Option.of_bind ho109
      refine q_atS (by infer_instance) rfl f138 rfl hx171 rfl fun b172 o172 hm172 f172 => ?_
      refine q_load rfl (Elt.intCell f172) rfl ?_
      refine q_move rfl rfl ?_
      refine q_move rfl rfl ?_
      refine q_subW rfl rfl rfl ?_
      obtain ⟨x173, hx173, ho109⟩ := Option.of_bind ho109
      refine q_atS (by infer_instance) rfl f138 rfl hx173 rfl fun b174 o174 hm174 f174 => ?_
      refine q_load rfl (Elt.intCell f174) rfl ?_
      refine q_leq rfl rfl rfl ?_
      refine q_move rfl rfl ?_
      obtain ⟨x180, hx179, ho109⟩ := Option.of_bind ho109
      refine g_orM 6 hx179 rfl trivial rfl rfl ?_ ?_ ?_
      · intro hg179
        refine g_skip rfl rfl rfl ?_
        refine g_skip rfl rfl rfl ?_
        refine g_skip rfl rfl rfl ?_
        refine g_skip rfl rfl rfl ?_
        refine g_skip rfl rfl rfl ?_
        refine g_skip rfl rfl rfl ?_
        exact eseq_nil ⟨rfl, Sub.set rfl (Sub.set rfl (Sub.set rfl (Sub.set rfl (Sub.set rfl (Sub.set rfl (Sub.bool true rfl hg179))))))⟩
      · intro hg179 hx179
        clear ho109
        have hT179 := Below.refl (World.heap w137).size w137
        refine g_run rfl ?_; refine q_move rfl rfl ?_
        refine g_run rfl ?_; refine q_move rfl rfl ?_
        obtain ⟨x181, hx181, hx179⟩ := Option.of_bind hx179
        refine g_run rfl ?_; refine q_atS (by infer_instance) rfl f138 rfl hx181 rfl fun b182 o182 hm182 f182 => ?_
        refine g_run rfl ?_; refine q_load rfl (Elt.intCell f182) rfl ?_
        refine g_run rfl ?_; refine q_move rfl rfl ?_
        refine g_run rfl ?_; refine q_gtr rfl rfl rfl ?_
        cases hx179
        exact eseq_nil ⟨hT179, Sub.set rfl (Sub.set rfl (Sub.set rfl (Sub.set rfl (Sub.set rfl (Sub.set rfl (Sub.bool false rfl hg179)))))), rfl⟩
      intro wm179 hBm179; clear hx179
      replace hS := hS.below hBm179
      replace f138 := f138.ext hBm179
      refine eseq_nil ?_
      refine hK170 _ _ ?_
      refine e_cond rfl (fun hc183 => ?_) (fun hc183 => ?_)
      · replace ho109 := (if_pos hc183).symm.trans ho109
        refine e_seq fun K184 hK184 => ?_
        refine e_region_text rfl ?_
        refine q_assign rfl rfl ?_
        refine eseq_nil ?_
        refine hK184 _ _ ?_
        refine e_ret ?_
        obtain rfl := Option.some.inj ho109
        obtain rfl := Option.some.inj ht109
        obtain rfl := Option.some.inj h
        exact ⟨_, res1 rfl rfl, _, rfl, hS⟩
      · replace ho109 := (if_neg (not_true hc183)).symm.trans ho109
        refine e_skip ?_
        refine hK169 _ _ ?_
        refine e_region_text rfl ?_
        refine q_move rfl rfl ?_
        refine q_addW rfl rfl rfl ?_
        refine q_assign rfl rfl ?_
        refine eseq_nil ?_
        obtain rfl := Option.some.inj ho109
        exact ⟨m109, _, Nat.lt_succ_self _, ⟨(w64 (x139 + 1)), _, ht109, hS, f138, rfl⟩, Sub.cons rfl (Sub.cons rfl (Sub.cons rfl (Sub.nil _)))⟩
    · replace ho109 := (if_neg (not_true hc168)).symm.trans ho109
      refine e_exit ?_
      obtain rfl := Option.some.inj ho109
      obtain rfl := Option.some.inj ht109
      exact hX109_0  _ _ _ h hS  (Sub.nil _)
theorem ref16_arc_w {F R : Nat → Prop} {w : World} {fuel : Nat} {a0 : Pat} {a1 : Int} {v1 : Value} {v2 : Value} {v3 : Value} {r : (Int)} (hS : Sep F R R w w []) (f1 : IsSlice Ty.int w R v1 a0.lens) (f2 : IsSlice (Ty.slice Ty.int) w R v2 a0.ckpts) (f3 : IsSlice arcTy w R v3 a0.arcs) (h : ref16_arc fuel a0 a1 = some r) :
    Gives Try.prog 98 [.agg #[v1, v2, v3], .int .i64 a1] w fun u w1 => ∃ (R1 : Nat → Prop), u = .int .i64 r ∧ Sep F R R1 w w1 [] := by
  refine fn_of Try.func98 rfl Try.ntmps98 (Nat.le_of_ble_eq_true rfl) ?_
  unfold ref16_arc at h
  refine e_seq fun K167 hK167 => ?_
  refine e_region_text rfl ?_
  refine q_boxB rfl rfl rfl fun w168 bl168 hg168 hb168 hB168 => ?_
  replace f1 := f1.ext hB168
  replace f2 := f2.ext hB168
  replace f3 := f3.ext hB168
  replace hS := hS.newBlk hB168 hg168 hb168
  refine q_assign rfl rfl ?_
  refine eseq_nil ?_
  refine hK167 _ _ ?_
  refine e_seq fun K170 hK170 => ?_
  refine e_region_text rfl ?_
  refine q_field rfl rfl ?_
  refine q_load rfl (Blk.cell (hS.blk 0 rfl) rfl) rfl ?_
  refine q_move rfl rfl ?_
  obtain ⟨x171, hx171, h⟩ := Option.of_bind h
  refine q_atS (by infer_instance) rfl f3 rfl hx171 rfl fun b172 o172 hm172 f172 => ?_
  have hc173 := Arc_open f172
  refine q_loadAgg rfl hc173 rfl rfl ?_
  refine q_allocB rfl fun w174 bl174 hg174 hb174 hB174 => ?_
  replace f1 := f1.ext hB174
  replace f2 := f2.ext hB174
  replace f3 := f3.ext hB174
  replace hS := hS.newBlk hB174 hg174 hb174
  refine q_storeAgg rfl rfl (hS.blk 0 rfl) rfl (Nat.le_of_ble_eq_true rfl) (all_cons rfl (all_cons rfl (all_cons rfl (all_cons rfl (all_nil))))) rfl rfl fun w176 hb176 hO176 => ?_
  simp only [setN, List.set, List.take, List.drop] at hb176
  have hk176 := hS.keptBlk 0 rfl hO176
  replace f1 := f1.kept hk176
  replace f2 := f2.kept hk176
  replace f3 := f3.kept hk176
  replace hS := hS.setBlk 0 rfl hb176 hO176; simp only [List.set] at hS
  refine eseq_nil ?_
  refine hK170 _ _ ?_
  refine e_seq fun K177 hK177 => ?_
  refine e_seq fun K178 hK178 => ?_
  refine e_region_draw mixed (fun _ => False) [0, 0, 2, 7, 15, 31, 63, 63, 191, 511, 1023, 2047, 4095, 8191, 16383, 8191, 40959, 131071, 262143, 524287, 1048575, 2097151, 4194303, 8388607, 16777215, 33554431, 67108863, 33554431, 167772159, 33554431, 570425343, 2046820351, 4194303999, 8589934591, 17179869183, 34359738367, 68719476735, 137438953471, 274877906943, 549755813887, 1099511627775, 2199023255551, 4398046511103, 2199023255551, 10995116277759, 2199023255551, 37383395344383, 134140418588671, 274877906943999, 562949953421311, 1125899906842623] [] [0, 1, 2, 3, 4, 5, 6, 7, 8, 9, 10, 11, 12, 13, 14, 15, 16, 17, 18, 19, 20, 21, 22, 23, 24, 25, 26, 27, 28, 29, 30, 31, 32, 33, 34, 35, 36, 37, 38, 39, 40, 41, 42, 43, 44, 45, 46, 47, 48, 49, 50] (by kernel_rfl) ?_
  refine q_loadAgg rfl (Blk.cellsAt (hS.blk 1 rfl) 0 3 rfl) rfl rfl ?_
  refine q_field rfl rfl ?_
  refine q_load rfl (Blk.cell (hS.blk 0 rfl) rfl) rfl ?_
  obtain ⟨r180, hr180, h⟩ := Option.of_bind h
  refine q_call rfl (ref16_proc_w (a0 := (⟨a0.lens, a0.ckpts, a0.arcs⟩ : Pat)) (Sep.enter (As := []) hS) f1 f2 f3 hr180) rfl ?_
  rintro _ w179 ⟨R179, rfl, hC179⟩
  have hB179 : Below (World.heap w176).size w176 w179 := hC179.stepB0
  refine ⟨fun _ => .of_below hB179, ?_⟩
  replace f1 := (f1.ext hB179).mono fun k hk _ => hC179.ro0 k hk
  replace f2 := (f2.ext hB179).mono fun k hk _ => hC179.ro0 k hk
  replace f3 := (f3.ext hB179).mono fun k hk _ => hC179.ro0 k hk
  replace hS := Sep.leave (As := []) hS hC179; simp only [List.cons_append, List.nil_append] at hS
  refine q_not rfl rfl ?_
  refine q_move rfl rfl ?_
  obtain ⟨x186, hx185, h⟩ := Option.of_bind h
  refine g_orM 5 hx185 rfl trivial rfl rfl ?_ ?_ ?_
  · intro hg185
    refine g_skip rfl rfl rfl ?_
    refine g_skip rfl rfl rfl ?_
    refine g_skip rfl rfl rfl ?_
    refine g_skip rfl rfl rfl ?_
    refine g_skip rfl rfl rfl ?_
    exact eseq_nil ⟨rfl, Sub.set rfl (Sub.set rfl (Sub.set rfl (Sub.set rfl (Sub.set rfl (Sub.bool true rfl hg185)))))⟩
  · intro hg185 hx185
    clear h
    have hT185 := Below.refl (World.heap w179).size w179
    refine g_run rfl ?_; refine q_loadAgg rfl (Blk.cellsAt (hS.blk 1 rfl) 0 3 rfl) rfl rfl ?_
    refine g_run rfl ?_; refine q_field rfl rfl ?_
    refine g_run rfl ?_; refine q_load rfl (Blk.cell (hS.blk 0 rfl) rfl) rfl ?_
    obtain ⟨r188, hr188, hx185⟩ := Option.of_bind hx185
    refine g_run rfl ?_; refine q_call rfl (ref16_proc_w (a0 := (⟨a0.lens, a0.ckpts, a0.arcs⟩ : Pat)) (Sep.enter (As := []) hS) f1 f2 f3 hr188) rfl ?_
    rintro _ w187 ⟨R187, rfl, hC187⟩
    have hB187 : Below (World.heap w179).size w179 w187 := hC187.stepB0
    refine ⟨fun _ => .of_below hB187, ?_⟩
    replace f1 := (f1.ext hB187).mono fun k hk _ => hC187.ro0 k hk
    replace f2 := (f2.ext hB187).mono fun k hk _ => hC187.ro0 k hk
    replace f3 := (f3.ext hB187).mono fun k hk _ => hC187.ro0 k hk
    replace hT185 := hT185.trans (Below.mono hB187 hT185.size)
    replace hS := Sep.leave (As := []) hS hC187; simp only [List.cons_append, List.nil_append] at hS
    refine g_run rfl ?_; refine q_not rfl rfl ?_
    cases hx185
    exact eseq_nil ⟨hT185, Sub.set rfl (Sub.set rfl (Sub.set rfl (Sub.set rfl (Sub.set rfl (Sub.bool false rfl hg185))))), rfl⟩
  intro wm185 hBm185; clear hx185
  replace hS := hS.below hBm185
  replace f1 := f1.ext hBm185
  replace f2 := f2.ext hBm185
  replace f3 := f3.ext hBm185
  refine q_move rfl rfl ?_
  obtain ⟨x192, hx191, h⟩ := Option.of_bind h
  refine g_orM 5 hx191 rfl trivial rfl rfl ?_ ?_ ?_
  · intro hg191
    refine g_skip rfl rfl rfl ?_
    refine g_skip rfl rfl rfl ?_
    refine g_skip rfl rfl rfl ?_
    refine g_skip rfl rfl rfl ?_
    refine g_skip rfl rfl rfl ?_
    exact eseq_nil ⟨rfl, Sub.set rfl (Sub.set rfl (Sub.set rfl (Sub.set rfl (Sub.set rfl (Sub.bool true rfl hg191)))))⟩
  · intro hg191 hx191
    clear h
    have hT191 := Below.refl (World.heap wm185).size wm185
    refine g_run rfl ?_; refine q_field rfl rfl ?_
    refine g_run rfl ?_; refine q_load rfl (Blk.cell (hS.blk 0 rfl) rfl) rfl ?_
    refine g_run rfl ?_; refine q_field rfl rfl ?_
    refine g_run rfl ?_; refine q_load rfl (Blk.cell (hS.blk 0 rfl) rfl) rfl ?_
    refine g_run rfl ?_; refine q_eql rfl rfl rfl ?_
    cases hx191
    exact eseq_nil ⟨hT191, Sub.set rfl (Sub.set rfl (Sub.set rfl (Sub.set rfl (Sub.set rfl (Sub.bool false rfl hg191))))), rfl⟩
  intro wm191 hBm191; clear hx191
  replace hS := hS.below hBm191
  replace f1 := f1.ext hBm191
  replace f2 := f2.ext hBm191
  replace f3 := f3.ext hBm191
  refine q_move rfl rfl ?_
  obtain ⟨x196, hx195, h⟩ := Option.of_bind h
  refine g_orM 3 hx195 rfl trivial rfl rfl ?_ ?_ ?_
  · intro hg195
    refine g_skip rfl rfl rfl ?_
    refine g_skip rfl rfl rfl ?_
    refine g_skip rfl rfl rfl ?_
    exact eseq_nil ⟨rfl, Sub.set rfl (Sub.set rfl (Sub.set rfl (Sub.bool true rfl hg195)))⟩
  · intro hg195 hx195
    clear h
    have hT195 := Below.refl (World.heap wm191).size wm191
    refine g_run rfl ?_; refine q_field rfl rfl ?_
    refine g_run rfl ?_; refine q_load rfl (Blk.cell (hS.blk 0 rfl) rfl) rfl ?_
    refine g_run rfl ?_; refine q_lss rfl rfl rfl ?_
    cases hx195
    exact eseq_nil ⟨hT195, Sub.set rfl (Sub.set rfl (Sub.set rfl (Sub.bool false rfl hg195))), rfl⟩
  intro wm195 hBm195; clear hx195
  replace hS := hS.below hBm195
  replace f1 := f1.ext hBm195
  replace f2 := f2.ext hBm195
  replace f3 := f3.ext hBm195
  refine q_move rfl rfl ?_
  obtain ⟨x202, hx201, h⟩ := Option.of_bind h
  refine g_orM 9 hx201 rfl trivial rfl rfl ?_ ?_ ?_
  · intro hg201
    refine g_skip rfl rfl rfl ?_
    refine g_skip rfl rfl rfl ?_
    refine g_skip rfl rfl rfl ?_
    refine g_skip rfl rfl rfl ?_
    refine g_skip rfl rfl rfl ?_
    refine g_skip rfl rfl rfl ?_
    refine g_skip rfl rfl rfl ?_
    refine g_skip rfl rfl rfl ?_
    refine g_skip rfl rfl rfl ?_
    exact eseq_nil ⟨rfl, Sub.set rfl (Sub.set rfl (Sub.set rfl (Sub.set rfl (Sub.set rfl (Sub.set rfl (Sub.set rfl (Sub.set rfl (Sub.set rfl (Sub.bool true rfl hg201)))))))))⟩
  · intro hg201 hx201
    clear h
    have hT201 := Below.refl (World.heap wm195).size wm195
    refine g_run rfl ?_; refine q_field rfl rfl ?_
    refine g_run rfl ?_; refine q_load rfl (Blk.cell (hS.blk 0 rfl) rfl) rfl ?_
    refine g_run rfl ?_; refine q_field rfl rfl ?_
    refine g_run rfl ?_; refine q_load rfl (Blk.cell (hS.blk 1 rfl) rfl) rfl ?_
    refine g_run rfl ?_; refine q_field rfl rfl ?_
    refine g_run rfl ?_; refine q_load rfl (Blk.cell (hS.blk 0 rfl) rfl) rfl ?_
    obtain ⟨x203, hx203, hx201⟩ := Option.of_bind hx201
    refine g_run rfl ?_; refine q_atS (by infer_instance) rfl f1 rfl hx203 rfl fun b204 o204 hm204 f204 => ?_
    refine g_run rfl ?_; refine q_load rfl (Elt.intCell f204) rfl ?_
    refine g_run rfl ?_; refine q_gtr rfl rfl rfl ?_
    cases hx201
    exact eseq_nil ⟨hT201, Sub.set rfl (Sub.set rfl (Sub.set rfl (Sub.set rfl (Sub.set rfl (Sub.set rfl (Sub.set rfl (Sub.set rfl (Sub.set rfl (Sub.bool false rfl hg201))))))))), rfl⟩
  intro wm201 hBm201; clear hx201
  replace hS := hS.below hBm201
  replace f1 := f1.ext hBm201
  replace f2 := f2.ext hBm201
  replace f3 := f3.ext hBm201
  refine q_move rfl rfl ?_
  obtain ⟨x208, hx207, h⟩ := Option.of_bind h
  refine g_orM 3 hx207 rfl trivial rfl rfl ?_ ?_ ?_
  · intro hg207
    refine g_skip rfl rfl rfl ?_
    refine g_skip rfl rfl rfl ?_
    refine g_skip rfl rfl rfl ?_
    exact eseq_nil ⟨rfl, Sub.set rfl (Sub.set rfl (Sub.set rfl (Sub.bool true rfl hg207)))⟩
  · intro hg207 hx207
    clear h
    have hT207 := Below.refl (World.heap wm201).size wm201
    refine g_run rfl ?_; refine q_field rfl rfl ?_
    refine g_run rfl ?_; refine q_load rfl (Blk.cell (hS.blk 0 rfl) rfl) rfl ?_
    refine g_run rfl ?_; refine q_lss rfl rfl rfl ?_
    cases hx207
    exact eseq_nil ⟨hT207, Sub.set rfl (Sub.set rfl (Sub.set rfl (Sub.bool false rfl hg207))), rfl⟩
  intro wm207 hBm207; clear hx207
  replace hS := hS.below hBm207
  replace f1 := f1.ext hBm207
  replace f2 := f2.ext hBm207
  replace f3 := f3.ext hBm207
  refine q_move rfl rfl ?_
  obtain ⟨x214, hx213, h⟩ := Option.of_bind h
  refine g_orM 9 hx213 rfl trivial rfl rfl ?_ ?_ ?_
  · intro hg213
    refine g_skip rfl rfl rfl ?_
    refine g_skip rfl rfl rfl ?_
    refine g_skip rfl rfl rfl ?_
    refine g_skip rfl rfl rfl ?_
    refine g_skip rfl rfl rfl ?_
    refine g_skip rfl rfl rfl ?_
    refine g_skip rfl rfl rfl ?_
    refine g_skip rfl rfl rfl ?_
    refine g_skip rfl rfl rfl ?_
    exact eseq_nil ⟨rfl, Sub.set rfl (Sub.set rfl (Sub.set rfl (Sub.set rfl (Sub.set rfl (Sub.set rfl (Sub.set rfl (Sub.set rfl (Sub.set rfl (Sub.bool true rfl hg213)))))))))⟩
  · intro hg213 hx213
    clear h
    have hT213 := Below.refl (World.heap wm207).size wm207
    refine g_run rfl ?_; refine q_field rfl rfl ?_
    refine g_run rfl ?_; refine q_load rfl (Blk.cell (hS.blk 0 rfl) rfl) rfl ?_
    refine g_run rfl ?_; refine q_field rfl rfl ?_
    refine g_run rfl ?_; refine q_load rfl (Blk.cell (hS.blk 1 rfl) rfl) rfl ?_
    refine g_run rfl ?_; refine q_field rfl rfl ?_
    refine g_run rfl ?_; refine q_load rfl (Blk.cell (hS.blk 0 rfl) rfl) rfl ?_
    obtain ⟨x215, hx215, hx213⟩ := Option.of_bind hx213
    refine g_run rfl ?_; refine q_atS (by infer_instance) rfl f1 rfl hx215 rfl fun b216 o216 hm216 f216 => ?_
    refine g_run rfl ?_; refine q_load rfl (Elt.intCell f216) rfl ?_
    refine g_run rfl ?_; refine q_gtr rfl rfl rfl ?_
    cases hx213
    exact eseq_nil ⟨hT213, Sub.set rfl (Sub.set rfl (Sub.set rfl (Sub.set rfl (Sub.set rfl (Sub.set rfl (Sub.set rfl (Sub.set rfl (Sub.set rfl (Sub.bool false rfl hg213))))))))), rfl⟩
  intro wm213 hBm213; clear hx213
  replace hS := hS.below hBm213
  replace f1 := f1.ext hBm213
  replace f2 := f2.ext hBm213
  replace f3 := f3.ext hBm213
  refine eseq_nil ?_
  refine hK178 _ _ ?_
  refine e_cond rfl (fun hc217 => ?_) (fun hc217 => ?_)
  · replace h := (if_pos hc217).symm.trans h
    refine e_seq fun K218 hK218 => ?_
    refine e_region_text rfl ?_
    refine q_assign rfl rfl ?_
    refine eseq_nil ?_
    refine hK218 _ _ ?_
    refine e_ret ?_
    obtain rfl := Option.some.inj h
    exact ⟨_, res1 rfl rfl, _, rfl, (hS.pickB [] 2 rfl rfl)⟩
  · replace h := (if_neg (not_true hc217)).symm.trans h
    refine e_skip ?_
    refine hK177 _ _ ?_
    refine e_seq fun K219 hK219 => ?_
    refine e_seq fun K220 hK220 => ?_
    refine e_region_text rfl ?_
    refine q_assign rfl rfl ?_
    refine eseq_nil ?_
    refine hK220 _ _ ?_
    refine e_block ?_
    obtain ⟨tl221, ht221, h⟩ := Option.of_bind h
    have hX221_0 : ∀ (R299 : Nat → Prop) (w300 : World) (E_ : Env), ref16_arc_K1 fuel = some r → Sep F R R299 w w300 [] → Sub [] E_ → K219 E_ w300 := by
      intro R299 w300 E_ h hS  hsub
      refine hK219 _ _ (e_sub hsub ?_); clear hsub
      unfold ref16_arc_K1 at h
      refine e_seq fun K301 hK301 => ?_
      refine e_region_text rfl ?_
      refine q_assign rfl rfl ?_
      refine eseq_nil ?_
      refine hK301 _ _ ?_
      refine e_ret ?_
      obtain rfl := Option.some.inj h
      exact ⟨_, res1 rfl rfl, _, rfl, hS⟩
    refine e_loop (fun m_ E_ w261 => ∃ (x265 : Int), ∃ (R260 : Nat → Prop), iter (fun s => ref16_arc_B1 fuel a1 x171 a0 s) m_ x265 = some tl221 ∧ Sep F R R260 w w261 [HP.blk bl168 [v1, v2, v3] 31, HP.blk bl174 [.int .i64 x171.fr, .int .i64 x171.ix, .int .i64 x171.to, .int .i64 x171.rcv] 107] ∧ IsSlice Ty.int w261 R260 v1 a0.lens ∧ IsSlice (Ty.slice Ty.int) w261 R260 v2 a0.ckpts ∧ IsSlice arcTy w261 R260 v3 a0.arcs ∧ E_ = [(1, .int .i64 a1), (2, .pointer (some ⟨bl168, 0, none⟩)), (5, .pointer (some ⟨bl174, 0, none⟩)), (6, .int .i64 x265)]) _ ⟨_, ⟨0, _, ht221, (hS.pickB [1, 0] 2 rfl rfl), f1, f2, f3, rfl⟩, Sub.cons rfl (Sub.cons rfl (Sub.cons rfl (Sub.cons rfl (Sub.nil _))))⟩ ?_
    clear ht221 hS
    rintro m221 _ w261 ⟨x265, R260, ht221, hS, f262, f263, f264, rfl⟩
    obtain ⟨m221, rfl, o221, ho221, ht221⟩ := iter_some ht221
    replace ho221 : ref16_arc_B1 fuel a1 x171 a0 x265 = some o221 := ho221
    unfold ref16_arc_B1 at ho221
    refine e_seq fun K302 hK302 => ?_
    refine e_seq fun K303 hK303 => ?_
    refine e_region_text rfl ?_
    refine q_move rfl rfl ?_
    refine q_move rfl rfl ?_
    refine q_lss rfl rfl rfl ?_
    refine eseq_nil ?_
    refine hK303 _ _ ?_
    refine e_cond rfl (fun hc304 => ?_) (fun hc304 => ?_)
    · replace ho221 := (if_pos hc304).symm.trans ho221
      refine e_skip ?_
      refine hK302 _ _ ?_
      refine e_seq fun K305 hK305 => ?_
      refine e_block ?_
      refine e_seq fun K306 hK306 => ?_
      refine e_region_draw mixed (fun _ => False) [0, 1, 3, 7, 15, 31, 15, 127, 255, 511, 15, 1039, 4095, 8191, 16383, 32767, 65535, 32767, 262143, 524287, 1048575, 32767, 2129919, 8388607, 16777215] [] [0, 1, 2, 3, 4, 5, 6, 7, 8, 9, 10, 11, 12, 13, 14, 15, 16, 17, 18, 19, 20, 21, 22, 23, 24] (by kernel_rfl) ?_
      refine q_field rfl rfl ?_
      refine q_load rfl (Blk.cell (hS.blk 1 rfl) rfl) rfl ?_
      refine q_neq rfl rfl rfl ?_
      refine q_move rfl rfl ?_
      obtain ⟨x313, hx312, ho221⟩ := Option.of_bind ho221
      refine g_andM 9 hx312 rfl trivial rfl rfl ?_ ?_ ?_
      · intro hg312 hx312
        clear ho221
        have hT312 := Below.refl (World.heap w261).size w261
        refine g_run rfl ?_; refine q_field rfl rfl ?_
        refine g_run rfl ?_; refine q_load rfl (Blk.cell (hS.blk 0 rfl) rfl) rfl ?_
        refine g_run rfl ?_; refine q_move rfl rfl ?_
        obtain ⟨x314, hx314, hx312⟩ := Option.of_bind hx312
        refine g_run rfl ?_; refine q_atS (by infer_instance) rfl f264 rfl hx314 rfl fun b315 o315 hm315 f315 => ?_
        refine g_run rfl ?_; refine q_field rfl rfl ?_
        have f316 := Arc_F2 f315
        refine g_run rfl ?_; refine q_load rfl (Elt.intCell f316) rfl ?_
        refine g_run rfl ?_; refine q_field rfl rfl ?_
        refine g_run rfl ?_; refine q_load rfl (Blk.cell (hS.blk 1 rfl) rfl) rfl ?_
        refine g_run rfl ?_; refine q_eql rfl rfl rfl ?_
        cases hx312
        exact eseq_nil ⟨hT312, Sub.set rfl (Sub.set rfl (Sub.set rfl (Sub.set rfl (Sub.set rfl (Sub.set rfl (Sub.set rfl (Sub.set rfl (Sub.set rfl (Sub.bool true rfl hg312))))))))), rfl⟩
      · intro hg312
        refine g_skip rfl rfl rfl ?_
        refine g_skip rfl rfl rfl ?_
        refine g_skip rfl rfl rfl ?_
        refine g_skip rfl rfl rfl ?_
        refine g_skip rfl rfl rfl ?_
        refine g_skip rfl rfl rfl ?_
        refine g_skip rfl rfl rfl ?_
        refine g_skip rfl rfl rfl ?_
        refine g_skip rfl rfl rfl ?_
        exact eseq_nil ⟨rfl, Sub.set rfl (Sub.set rfl (Sub.set rfl (Sub.set rfl (Sub.set rfl (Sub.set rfl (Sub.set rfl (Sub.set rfl (Sub.set rfl (Sub.bool false rfl hg312)))))))))⟩
      intro wm312 hBm312; clear hx312
      replace hS := hS.below hBm312
      replace f262 := f262.ext hBm312
      replace f263 := f263.ext hBm312
      replace f264 := f264.ext hBm312
      refine q_move rfl rfl ?_
      obtain ⟨x323, hx322, ho221⟩ := Option.of_bind ho221
      refine g_andM 9 hx322 rfl trivial rfl rfl ?_ ?_ ?_
      · intro hg322 hx322
        clear ho221
        have hT322 := Below.refl (World.heap wm312).size wm312
        refine g_run rfl ?_; refine q_field rfl rfl ?_
        refine g_run rfl ?_; refine q_load rfl (Blk.cell (hS.blk 0 rfl) rfl) rfl ?_
        refine g_run rfl ?_; refine q_move rfl rfl ?_
        obtain ⟨x324, hx324, hx322⟩ := Option.of_bind hx322
        refine g_run rfl ?_; refine q_atS (by infer_instance) rfl f264 rfl hx324 rfl fun b325 o325 hm325 f325 => ?_
        refine g_run rfl ?_; refine q_field rfl rfl ?_
        have f326 := Arc_F3 f325
        refine g_run rfl ?_; refine q_load rfl (Elt.intCell f326) rfl ?_
        refine g_run rfl ?_; refine q_field rfl rfl ?_
        refine g_run rfl ?_; refine q_load rfl (Blk.cell (hS.blk 1 rfl) rfl) rfl ?_
        refine g_run rfl ?_; refine q_eql rfl rfl rfl ?_
        cases hx322
        exact eseq_nil ⟨hT322, Sub.set rfl (Sub.set rfl (Sub.set rfl (Sub.set rfl (Sub.set rfl (Sub.set rfl (Sub.set rfl (Sub.set rfl (Sub.set rfl (Sub.bool true rfl hg322))))))))), rfl⟩
      · intro hg322
        refine g_skip rfl rfl rfl ?_
        refine g_skip rfl rfl rfl ?_
        refine g_skip rfl rfl rfl ?_
        refine g_skip rfl rfl rfl ?_
        refine g_skip rfl rfl rfl ?_
        refine g_skip rfl rfl rfl ?_
        refine g_skip rfl rfl rfl ?_
        refine g_skip rfl rfl rfl ?_
        refine g_skip rfl rfl rfl ?_
        exact eseq_nil ⟨rfl, Sub.set rfl (Sub.set rfl (Sub.set rfl (Sub.set rfl (Sub.set rfl (Sub.set rfl (Sub.set rfl (Sub.set rfl (Sub.set rfl (Sub.bool false rfl hg322)))))))))⟩
      intro wm322 hBm322; clear hx322
      replace hS := hS.below hBm322
      replace f262 := f262.ext hBm322
      replace f263 := f263.ext hBm322
      replace f264 := f264.ext hBm322
      refine eseq_nil ?_
      refine hK306 _ _ ?_
      refine e_cond rfl (fun hc327 => ?_) (fun hc327 => ?_)
      · replace ho221 := (if_pos hc327).symm.trans ho221
        refine e_seq fun K328 hK328 => ?_
        refine e_region_text rfl ?_
        refine q_assign rfl rfl ?_
        refine eseq_nil ?_
        refine hK328 _ _ ?_
        refine e_ret ?_
        obtain rfl := Option.some.inj ho221
        obtain rfl := Option.some.inj ht221
        obtain rfl := Option.some.inj h
        exact ⟨_, res1 rfl rfl, _, rfl, (hS.pickB [] 2 rfl rfl)⟩
      · replace ho221 := (if_neg (not_true hc327)).symm.trans ho221
        refine e_skip ?_
        refine hK305 _ _ ?_
        refine e_region_text rfl ?_
        refine q_move rfl rfl ?_
        refine q_addW rfl rfl rfl ?_
        refine q_assign rfl rfl ?_
        refine eseq_nil ?_
        obtain rfl := Option.some.inj ho221
        exact ⟨m221, _, Nat.lt_succ_self _, ⟨(w64 (x265 + 1)), _, ht221, hS, f262, f263, f264, rfl⟩, Sub.cons rfl (Sub.cons rfl (Sub.cons rfl (Sub.cons rfl (Sub.nil _))))⟩
    · replace ho221 := (if_neg (not_true hc304)).symm.trans ho221
      refine e_exit ?_
      obtain rfl := Option.some.inj ho221
      obtain rfl := Option.some.inj ht221
      exact hX221_0  _ _ _ h (hS.pickB [] 2 rfl rfl)  (Sub.nil _)
theorem ref16_possible_w {F R : Nat → Prop} {w : World} {fuel : Nat} {a0 : Pat} {v1 : Value} {v2 : Value} {v3 : Value} {r : (Bool)} (hS : Sep F R R w w []) (f1 : IsSlice Ty.int w R v1 a0.lens) (f2 : IsSlice (Ty.slice Ty.int) w R v2 a0.ckpts) (f3 : IsSlice arcTy w R v3 a0.arcs) (h : ref16_possible fuel a0 = some r) :
    Gives Try.prog 99 [.agg #[v1, v2, v3]] w fun u w1 => ∃ (R1 : Nat → Prop), u = .bool r ∧ Sep F R R1 w w1 [] := by
  refine fn_of Try.func99 rfl Try.ntmps99 (Nat.le_of_ble_eq_true rfl) ?_
  unfold ref16_possible at h
  refine e_seq fun K1013 hK1013 => ?_
  refine e_region_text rfl ?_
  refine q_boxB rfl rfl rfl fun w1014 bl1014 hg1014 hb1014 hB1014 => ?_
  replace f1 := f1.ext hB1014
  replace f2 := f2.ext hB1014
  replace f3 := f3.ext hB1014
  replace hS := hS.newBlk hB1014 hg1014 hb1014
  refine q_assign rfl rfl ?_
  refine eseq_nil ?_
  refine hK1013 _ _ ?_
  refine e_seq fun K1016 hK1016 => ?_
  refine e_region_text rfl ?_
  refine q_field rfl rfl ?_
  refine q_load rfl (Blk.cell (hS.blk 0 rfl) rfl) rfl ?_
  refine q_lenS rfl f1 rfl ?_
  obtain ⟨x1017, hx1017, h⟩ := Option.of_bind h
  refine q_makeO (T := Ty.int) (S := (fun _ => False)) rfl rfl rfl hx1017 (fun _ h => h.elim) rfl fun w1018 v1018 ho1018 hv1018 hB1018 => ?_
  replace f1 := f1.ext hB1018
  replace f2 := f2.ext hB1018
  replace f3 := f3.ext hB1018
  replace hS := hS.newOwnS hB1018 ho1018 hv1018 (fun _ h => h.elim)
  refine q_assign rfl rfl ?_
  refine eseq_nil ?_
  refine hK1016 _ _ ?_
  refine e_seq fun K1020 hK1020 => ?_
  refine e_seq fun K1021 hK1021 => ?_
  refine e_region_text rfl ?_
  refine q_assign rfl rfl ?_
  refine eseq_nil ?_
  refine hK1021 _ _ ?_
  refine e_block ?_
  obtain ⟨tl1022, ht1022, h⟩ := Option.of_bind h
  have hX1022_0 : ∀ (x1663 : (List Int)) (v1662 : Value) (R1656 : Nat → Prop) (w1657 : World) (E_ : Env), ref16_possible_K1 fuel a0 x1663 = some r → Sep F R R1656 w w1657 [HP.blk bl1014 [v1, v2, v3] 31, HP.own Ty.int (fun _ => False) 3 v1662 x1663] → IsSlice Ty.int w1657 R1656 v1 a0.lens → IsSlice (Ty.slice Ty.int) w1657 R1656 v2 a0.ckpts → IsSlice arcTy w1657 R1656 v3 a0.arcs → Sub [(1, .pointer (some ⟨bl1014, 0, none⟩)), (3, v1662)] E_ → K1020 E_ w1657 := by
    intro x1663 v1662 R1656 w1657 E_ h hS f1658 f1659 f1660 hsub
    refine hK1020 _ _ (e_sub hsub ?_); clear hsub
    unfold ref16_possible_K1 at h
    refine e_seq fun K1664 hK1664 => ?_
    refine e_seq fun K1665 hK1665 => ?_
    refine e_region_text rfl ?_
    refine q_assign rfl rfl ?_
    refine eseq_nil ?_
    refine hK1665 _ _ ?_
    refine e_block ?_
    obtain ⟨tl1666, ht1666, h⟩ := Option.of_bind h
    have hX1666_6 : ∀ (R1716 : Nat → Prop) (w1717 : World) (E_ : Env), ref16_possible_K2 fuel = some r → Sep F R R1716 w w1717 [] → Sub [] E_ → K1664 E_ w1717 := by
      intro R1716 w1717 E_ h hS  hsub
      refine hK1664 _ _ (e_sub hsub ?_); clear hsub
      unfold ref16_possible_K2 at h
      refine e_seq fun K1718 hK1718 => ?_
      refine e_region_text rfl ?_
      refine q_assign rfl rfl ?_
      refine eseq_nil ?_
      refine hK1718 _ _ ?_
      refine e_ret ?_
      obtain rfl := Option.some.inj h
      exact ⟨_, res1 rfl rfl, _, rfl, hS⟩
    refine e_loop (fun m_ E_ w1692 => ∃ (x1697 : Int), ∃ (R1691 : Nat → Prop), iter (fun s => ref16_possible_B1 fuel x1663 a0 s) m_ x1697 = some tl1666 ∧ Sep F R R1691 w w1692 [HP.blk bl1014 [v1, v2, v3] 31, HP.own Ty.int (fun _ => False) 3 v1662 x1663] ∧ IsSlice Ty.int w1692 R1691 v1 a0.lens ∧ IsSlice (Ty.slice Ty.int) w1692 R1691 v2 a0.ckpts ∧ IsSlice arcTy w1692 R1691 v3 a0.arcs ∧ E_ = [(1, .pointer (some ⟨bl1014, 0, none⟩)), (3, v1662), (6, .int .i64 x1697)]) _ ⟨_, ⟨0, _, ht1666, hS, f1658, f1659, f1660, rfl⟩, Sub.cons rfl (Sub.cons rfl (Sub.cons rfl (Sub.nil _)))⟩ ?_
    clear ht1666 hS
    rintro m1666 _ w1692 ⟨x1697, R1691, ht1666, hS, f1693, f1694, f1695, rfl⟩
    obtain ⟨m1666, rfl, o1666, ho1666, ht1666⟩ := iter_some ht1666
    replace ho1666 : ref16_possible_B1 fuel x1663 a0 x1697 = some o1666 := ho1666
    unfold ref16_possible_B1 at ho1666
    refine e_seq fun K1719 hK1719 => ?_
    refine e_seq fun K1720 hK1720 => ?_
    refine e_region_text rfl ?_
    refine q_move rfl rfl ?_
    refine q_move rfl rfl ?_
    refine q_lenS rfl (hS.isl 1 rfl) rfl ?_
    refine q_lss rfl rfl rfl ?_
    refine eseq_nil ?_
    refine hK1720 _ _ ?_
    refine e_cond rfl (fun hc1721 => ?_) (fun hc1721 => ?_)
    · replace ho1666 := (if_pos hc1721).symm.trans ho1666
      refine e_skip ?_
      refine hK1719 _ _ ?_
      refine e_seq fun K1722 hK1722 => ?_
      refine e_block ?_
      refine e_seq fun K1723 hK1723 => ?_
      refine e_region_draw mixed (fun _ => False) [0, 0, 3, 7, 0, 16, 0, 112, 240, 511] [] [0, 1, 2, 3, 4, 5, 6, 7, 8, 9] (by kernel_rfl) ?_
      refine q_move rfl rfl ?_
      refine q_move rfl rfl ?_
      obtain ⟨x1724, hx1724, ho1666⟩ := Option.of_bind ho1666
      refine q_indexO (by infer_instance) rfl (hS.own 1 rfl) rfl hx1724 rfl ?_
      have f1725 := (hS.ownR 1 rfl).elt hx1724
      refine q_load rfl (Elt.intCell f1725) rfl ?_
      refine q_field rfl rfl ?_
      refine q_load rfl (Blk.cell (hS.blk 0 rfl) rfl) rfl ?_
      refine q_move rfl rfl ?_
      obtain ⟨x1726, hx1726, ho1666⟩ := Option.of_bind ho1666
      refine q_atS (by infer_instance) rfl f1693 rfl hx1726 rfl fun b1727 o1727 hm1727 f1727 => ?_
      refine q_load rfl (Elt.intCell f1727) rfl ?_
      refine q_lss rfl rfl rfl ?_
      refine eseq_nil ?_
      refine hK1723 _ _ ?_
      refine e_cond rfl (fun hc1728 => ?_) (fun hc1728 => ?_)
      · replace ho1666 := (if_pos hc1728).symm.trans ho1666
        refine e_seq fun K1729 hK1729 => ?_
        refine e_region_text rfl ?_
        refine q_assign rfl rfl ?_
        refine eseq_nil ?_
        refine hK1729 _ _ ?_
        refine e_ret ?_
        obtain rfl := Option.some.inj ho1666
        obtain rfl := Option.some.inj ht1666
        obtain rfl := Option.some.inj h
        exact ⟨_, res1 rfl rfl, _, rfl, (hS.pickB [] 2 rfl rfl)⟩
      · replace ho1666 := (if_neg (not_true hc1728)).symm.trans ho1666
        refine e_skip ?_
        refine hK1722 _ _ ?_
        refine e_region_text rfl ?_
        refine q_move rfl rfl ?_
        refine q_addW rfl rfl rfl ?_
        refine q_assign rfl rfl ?_
        refine eseq_nil ?_
        obtain rfl := Option.some.inj ho1666
        exact ⟨m1666, _, Nat.lt_succ_self _, ⟨(w64 (x1697 + 1)), _, ht1666, hS, f1693, f1694, f1695, rfl⟩, Sub.cons rfl (Sub.cons rfl (Sub.cons rfl (Sub.nil _)))⟩
    · replace ho1666 := (if_neg (not_true hc1721)).symm.trans ho1666
      refine e_exit ?_
      obtain rfl := Option.some.inj ho1666
      obtain rfl := Option.some.inj ht1666
      exact hX1666_6  _ _ _ h (hS.pickB [] 2 rfl rfl)  (Sub.nil _)
  refine e_loop (fun m_ E_ w1339 => ∃ (x1345 : (List Int)), ∃ (x1346 : Bool), ∃ (v1344 : Value), ∃ (R1338 : Nat → Prop), iter (fun s => ref16_possible_B2 fuel a0 s.1 s.2) m_ (x1345, x1346) = some tl1022 ∧ Sep F R R1338 w w1339 [HP.blk bl1014 [v1, v2, v3] 31, HP.own Ty.int (fun _ => False) 3 v1344 x1345] ∧ IsSlice Ty.int w1339 R1338 v1 a0.lens ∧ IsSlice (Ty.slice Ty.int) w1339 R1338 v2 a0.ckpts ∧ IsSlice arcTy w1339 R1338 v3 a0.arcs ∧ E_ = [(1, .pointer (some ⟨bl1014, 0, none⟩)), (3, v1344), (4, .bool x1346)]) _ ⟨_, ⟨x1017, true, v1018, _, ht1022, (hS.pickB [1, 0] 2 rfl rfl), f1, f2, f3, rfl⟩, Sub.cons rfl (Sub.cons rfl (Sub.cons rfl (Sub.nil _)))⟩ ?_
  clear ht1022 hS
  rintro m1022 _ w1339 ⟨x1345, x1346, v1344, R1338, ht1022, hS, f1340, f1341, f1342, rfl⟩
  obtain ⟨m1022, rfl, o1022, ho1022, ht1022⟩ := iter_some ht1022
  replace ho1022 : ref16_possible_B2 fuel a0 x1345 x1346 = some o1022 := ho1022
  unfold ref16_possible_B2 at ho1022
  refine e_seq fun K1730 hK1730 => ?_
  refine e_seq fun K1731 hK1731 => ?_
  refine e_region_text rfl ?_
  refine q_move rfl rfl ?_
  refine eseq_nil ?_
  refine hK1731 _ _ ?_
  refine e_cond rfl (fun hc1732 => ?_) (fun hc1732 => ?_)
  · replace ho1022 := (if_pos hc1732).symm.trans ho1022
    refine e_skip ?_
    refine hK1730 _ _ ?_
    refine e_block ?_
    refine e_seq fun K1733 hK1733 => ?_
    refine e_region_text rfl ?_
    refine q_assign rfl rfl ?_
    refine eseq_nil ?_
    refine hK1733 _ _ ?_
    refine e_seq fun K1734 hK1734 => ?_
    refine e_region_text rfl ?_
    refine q_assign rfl rfl ?_
    refine eseq_nil ?_
    refine hK1734 _ _ ?_
    refine e_block ?_
    obtain ⟨tl1735, ht1735, ho1022⟩ := Option.of_bind ho1022
    refine e_loop (fun m_ E_ w1833 => ∃ (x1839 : (List Int)), ∃ (x1840 : Bool), ∃ (x1841 : Int), ∃ (v1838 : Value), ∃ (R1832 : Nat → Prop), iter (fun s => ref16_possible_B3 fuel a0 s.1 s.2.1 s.2.2) m_ (x1839, x1840, x1841) = some tl1735 ∧ Sep F R R1832 w w1833 [HP.blk bl1014 [v1, v2, v3] 31, HP.own Ty.int (fun _ => False) 3 v1838 x1839] ∧ IsSlice Ty.int w1833 R1832 v1 a0.lens ∧ IsSlice (Ty.slice Ty.int) w1833 R1832 v2 a0.ckpts ∧ IsSlice arcTy w1833 R1832 v3 a0.arcs ∧ E_ = [(1, .pointer (some ⟨bl1014, 0, none⟩)), (3, v1838), (4, .bool x1840), (5, .int .i64 x1841)]) _ ⟨_, ⟨x1345, false, 0, v1344, _, ht1735, hS, f1340, f1341, f1342, rfl⟩, Sub.cons rfl (Sub.cons rfl (Sub.cons rfl (Sub.cons rfl (Sub.nil _))))⟩ ?_
    clear ht1735 hS
    rintro m1735 _ w1833 ⟨x1839, x1840, x1841, v1838, R1832, ht1735, hS, f1834, f1835, f1836, rfl⟩
    obtain ⟨m1735, rfl, o1735, ho1735, ht1735⟩ := iter_some ht1735
    replace ho1735 : ref16_possible_B3 fuel a0 x1839 x1840 x1841 = some o1735 := ho1735
    unfold ref16_possible_B3 at ho1735
    refine e_seq fun K1941 hK1941 => ?_
    refine e_seq fun K1942 hK1942 => ?_
    refine e_region_text rfl ?_
    refine q_move rfl rfl ?_
    refine q_move rfl rfl ?_
    refine q_lenS rfl (hS.isl 1 rfl) rfl ?_
    refine q_lss rfl rfl rfl ?_
    refine eseq_nil ?_
    refine hK1942 _ _ ?_
    refine e_cond rfl (fun hc1943 => ?_) (fun hc1943 => ?_)
    · replace ho1735 := (if_pos hc1943).symm.trans ho1735
      refine e_skip ?_
      refine hK1941 _ _ ?_
      refine e_seq fun K1944 hK1944 => ?_
      refine e_block ?_
      refine e_block ?_
      obtain ⟨tl1945, ht1945, ho1735⟩ := Option.of_bind ho1735
      have hX1945_4 : ∀ (x2008 : (List Int)) (x2009 : Bool) (v2007 : Value) (R2001 : Nat → Prop) (w2002 : World) (E_ : Env), ref16_possible_K4 fuel x1841 x2008 x2009 = some o1735 → Sep F R R2001 w w2002 [HP.blk bl1014 [v1, v2, v3] 31, HP.own Ty.int (fun _ => False) 3 v2007 x2008] → IsSlice Ty.int w2002 R2001 v1 a0.lens → IsSlice (Ty.slice Ty.int) w2002 R2001 v2 a0.ckpts → IsSlice arcTy w2002 R2001 v3 a0.arcs → Sub [(1, .pointer (some ⟨bl1014, 0, none⟩)), (3, v2007), (4, .bool x2009), (5, .int .i64 x1841)] E_ → K1944 E_ w2002 := by
        intro x2008 x2009 v2007 R2001 w2002 E_ ho1735 hS f2003 f2004 f2005 hsub
        refine hK1944 _ _ (e_sub hsub ?_); clear hsub
        unfold ref16_possible_K4 at ho1735
        refine e_region_text rfl ?_
        refine q_move rfl rfl ?_
        refine q_addW rfl rfl rfl ?_
        refine q_assign rfl rfl ?_
        refine eseq_nil ?_
        obtain rfl := Option.some.inj ho1735
        exact ⟨m1735, _, Nat.lt_succ_self _, ⟨x2008, x2009, (w64 (x1841 + 1)), v2007, _, ht1735, hS, f2003, f2004, f2005, rfl⟩, Sub.cons rfl (Sub.cons rfl (Sub.cons rfl (Sub.cons rfl (Sub.nil _))))⟩
      refine e_loop (fun m_ E_ w1973 => ∃ (x1979 : (List Int)), ∃ (x1980 : Bool), ∃ (v1978 : Value), ∃ (R1972 : Nat → Prop), iter (fun s => ref16_possible_B4 fuel a0 x1841 s.1 s.2) m_ (x1979, x1980) = some tl1945 ∧ Sep F R R1972 w w1973 [HP.blk bl1014 [v1, v2, v3] 31, HP.own Ty.int (fun _ => False) 3 v1978 x1979] ∧ IsSlice Ty.int w1973 R1972 v1 a0.lens ∧ IsSlice (Ty.slice Ty.int) w1973 R1972 v2 a0.ckpts ∧ IsSlice arcTy w1973 R1972 v3 a0.arcs ∧ E_ = [(1, .pointer (some ⟨bl1014, 0, none⟩)), (3, v1978), (4, .bool x1980), (5, .int .i64 x1841)]) _ ⟨_, ⟨x1839, x1840, v1838, _, ht1945, hS, f1834, f1835, f1836, rfl⟩, Sub.cons rfl (Sub.cons rfl (Sub.cons rfl (Sub.cons rfl (Sub.nil _))))⟩ ?_
      clear ht1945 hS
      rintro m1945 _ w1973 ⟨x1979, x1980, v1978, R1972, ht1945, hS, f1974, f1975, f1976, rfl⟩
      obtain ⟨m1945, rfl, o1945, ho1945, ht1945⟩ := iter_some ht1945
      replace ho1945 : ref16_possible_B4 fuel a0 x1841 x1979 x1980 = some o1945 := ho1945
      unfold ref16_possible_B4 at ho1945
      refine e_seq fun K2010 hK2010 => ?_
      refine e_seq fun K2011 hK2011 => ?_
      refine e_region_text rfl ?_
      refine q_loadAgg rfl (Blk.cellsAt (hS.blk 0 rfl) 0 3 rfl) rfl rfl ?_
      refine q_move rfl rfl ?_
      refine q_move rfl rfl ?_
      obtain ⟨r2013, hr2013, ho1945⟩ := Option.of_bind ho1945
      refine q_call rfl (ref16_Can_w (a0 := (⟨a0.lens, a0.ckpts, a0.arcs⟩ : Pat)) (Sep.all w1973) (f1974).old (f1975).old (f1976).old ((hS.isl 1 rfl)).old hr2013) rfl ?_
      rintro _ w2012 ⟨R2012, rfl, hC2012⟩
      have hB2012 : Below (World.heap w1973).size w1973 w2012 := hC2012.stepBF
      refine ⟨fun _ => .of_below hB2012, ?_⟩
      replace f1974 := f1974.ext hB2012
      replace f1975 := f1975.ext hB2012
      replace f1976 := f1976.ext hB2012
      replace hS := hS.below hB2012
      refine eseq_nil ?_
      refine hK2011 _ _ ?_
      refine e_cond rfl (fun hc2014 => ?_) (fun hc2014 => ?_)
      · replace ho1945 := (if_pos hc2014).symm.trans ho1945
        refine e_skip ?_
        refine hK2010 _ _ ?_
        refine e_block ?_
        refine e_seq fun K2015 hK2015 => ?_
        refine e_region_text rfl ?_
        refine q_move rfl rfl ?_
        refine q_move rfl rfl ?_
        obtain ⟨x2016, hx2016, ho1945⟩ := Option.of_bind ho1945
        refine q_indexO (by infer_instance) rfl (hS.own 1 rfl) rfl hx2016 rfl ?_
        have f2017 := (hS.ownR 1 rfl).elt hx2016
        refine q_load rfl (Elt.intCell f2017) rfl ?_
        refine q_addW rfl rfl rfl ?_
        obtain ⟨x2018, hx2018, ho1945⟩ := Option.of_bind ho1945
        refine q_indexO (by infer_instance) rfl (hS.own 1 rfl) rfl hx2018 rfl ?_
        obtain ⟨x2020, hx2020, ho1945⟩ := Option.of_bind ho1945
        refine q_storeO (T := Ty.int) (j := 0) rfl rfl (hS.own 1 rfl) hx2018 hx2020 rfl rfl rfl (Enc.setL rfl) fun w2019 ho2019 hO2019 => ?_
        have hk2019 := hS.keptO 1 rfl hx2018 hO2019
        replace f1974 := f1974.kept hk2019
        replace f1975 := f1975.kept hk2019
        replace f1976 := f1976.kept hk2019
        replace hS := hS.putO 1 rfl hx2018 ho2019 hO2019; simp only [List.set] at hS
        refine eseq_nil ?_
        refine hK2015 _ _ ?_
        refine e_region_text rfl ?_
        refine q_assign rfl rfl ?_
        refine eseq_nil ?_
        obtain rfl := Option.some.inj ho1945
        exact ⟨m1945, _, Nat.lt_succ_self _, ⟨x2020, true, v1978, _, ht1945, hS, f1974, f1975, f1976, rfl⟩, Sub.cons rfl (Sub.cons rfl (Sub.cons rfl (Sub.cons rfl (Sub.nil _))))⟩
      · replace ho1945 := (if_neg (not_true hc2014)).symm.trans ho1945
        refine e_exit ?_
        obtain rfl := Option.some.inj ho1945
        obtain rfl := Option.some.inj ht1945
        exact hX1945_4 x1979 x1980 v1978 _ _ _ ho1735 hS f1974 f1975 f1976 (Sub.cons rfl (Sub.cons rfl (Sub.cons rfl (Sub.cons rfl (Sub.nil _)))))
    · replace ho1735 := (if_neg (not_true hc1943)).symm.trans ho1735
      refine e_exit ?_
      obtain rfl := Option.some.inj ho1735
      obtain rfl := Option.some.inj ht1735
      replace ho1022 : ref16_possible_K3 fuel x1839 x1840 = some o1022 := ho1022
      unfold ref16_possible_K3 at ho1022
      obtain rfl := Option.some.inj ho1022
      exact ⟨m1022, _, Nat.lt_succ_self _, ⟨x1839, x1840, v1838, _, ht1022, hS, f1834, f1835, f1836, rfl⟩, Sub.cons rfl (Sub.cons rfl (Sub.cons rfl (Sub.nil _)))⟩
  · replace ho1022 := (if_neg (not_true hc1732)).symm.trans ho1022
    refine e_exit ?_
    obtain rfl := Option.some.inj ho1022
    obtain rfl := Option.some.inj ht1022
    exact hX1022_0 x1345 v1344 _ _ _ h hS f1340 f1341 f1342 (Sub.cons rfl (Sub.cons rfl (Sub.nil _)))
theorem ref16_Check_w {F R : Nat → Prop} {w : World} {fuel : Nat} {a0 : Pat} {v1 : Value} {v2 : Value} {v3 : Value} {r : (Int)} (hS : Sep F R R w w []) (f1 : IsSlice Ty.int w R v1 a0.lens) (f2 : IsSlice (Ty.slice Ty.int) w R v2 a0.ckpts) (f3 : IsSlice arcTy w R v3 a0.arcs) (h : ref16_Check fuel a0 = some r) :
    Gives Try.prog 51 [.agg #[v1, v2, v3]] w fun u w1 => ∃ (R1 : Nat → Prop), u = .int .i64 r ∧ Sep F R R1 w w1 [] := by
  refine fn_of Try.func51 rfl Try.ntmps51 (Nat.le_of_ble_eq_true rfl) ?_
  unfold ref16_Check at h
  refine e_seq fun K243 hK243 => ?_
  refine e_region_text rfl ?_
  refine q_boxB rfl rfl rfl fun w244 bl244 hg244 hb244 hB244 => ?_
  replace f1 := f1.ext hB244
  replace f2 := f2.ext hB244
  replace f3 := f3.ext hB244
  replace hS := hS.newBlk hB244 hg244 hb244
  refine q_assign rfl rfl ?_
  refine eseq_nil ?_
  refine hK243 _ _ ?_
  refine e_seq fun K246 hK246 => ?_
  refine e_seq fun K247 hK247 => ?_
  refine e_region_text rfl ?_
  refine q_field rfl rfl ?_
  refine q_load rfl (Blk.cell (hS.blk 0 rfl) rfl) rfl ?_
  refine q_lenS rfl f1 rfl ?_
  refine q_gtr rfl rfl rfl ?_
  refine q_move rfl rfl ?_
  obtain ⟨x251, hx250, h⟩ := Option.of_bind h
  refine g_orM 4 hx250 rfl trivial rfl rfl ?_ ?_ ?_
  · intro hg250
    refine g_skip rfl rfl rfl ?_
    refine g_skip rfl rfl rfl ?_
    refine g_skip rfl rfl rfl ?_
    refine g_skip rfl rfl rfl ?_
    exact eseq_nil ⟨rfl, Sub.set rfl (Sub.set rfl (Sub.set rfl (Sub.set rfl (Sub.bool true rfl hg250))))⟩
  · intro hg250 hx250
    clear h
    have hT250 := Below.refl (World.heap w244).size w244
    refine g_run rfl ?_; refine q_field rfl rfl ?_
    refine g_run rfl ?_; refine q_load rfl (Blk.cell (hS.blk 0 rfl) rfl) rfl ?_
    refine g_run rfl ?_; refine q_lenS rfl f3 rfl ?_
    refine g_run rfl ?_; refine q_gtr rfl rfl rfl ?_
    cases hx250
    exact eseq_nil ⟨hT250, Sub.set rfl (Sub.set rfl (Sub.set rfl (Sub.set rfl (Sub.bool false rfl hg250)))), rfl⟩
  intro wm250 hBm250; clear hx250
  replace hS := hS.below hBm250
  replace f1 := f1.ext hBm250
  replace f2 := f2.ext hBm250
  replace f3 := f3.ext hBm250
  refine eseq_nil ?_
  refine hK247 _ _ ?_
  refine e_cond rfl (fun hc252 => ?_) (fun hc252 => ?_)
  · replace h := (if_pos hc252).symm.trans h
    refine e_seq fun K253 hK253 => ?_
    refine e_region_text rfl ?_
    refine q_assign rfl rfl ?_
    refine eseq_nil ?_
    refine hK253 _ _ ?_
    refine e_ret ?_
    obtain rfl := Option.some.inj h
    exact ⟨_, res1 rfl rfl, _, rfl, (hS.pickB [] 1 rfl rfl)⟩
  · replace h := (if_neg (not_true hc252)).symm.trans h
    refine e_skip ?_
    refine hK246 _ _ ?_
    refine e_seq fun K254 hK254 => ?_
    refine e_seq fun K255 hK255 => ?_
    refine e_region_text rfl ?_
    refine q_field rfl rfl ?_
    refine q_load rfl (Blk.cell (hS.blk 0 rfl) rfl) rfl ?_
    refine q_lenS rfl f2 rfl ?_
    refine q_field rfl rfl ?_
    refine q_load rfl (Blk.cell (hS.blk 0 rfl) rfl) rfl ?_
    refine q_lenS rfl f1 rfl ?_
    refine q_neq rfl rfl rfl ?_
    refine eseq_nil ?_
    refine hK255 _ _ ?_
    refine e_cond rfl (fun hc256 => ?_) (fun hc256 => ?_)
    · replace h := (if_pos hc256).symm.trans h
      refine e_seq fun K257 hK257 => ?_
      refine e_region_text rfl ?_
      refine q_assign rfl rfl ?_
      refine eseq_nil ?_
      refine hK257 _ _ ?_
      refine e_ret ?_
      obtain rfl := Option.some.inj h
      exact ⟨_, res1 rfl rfl, _, rfl, (hS.pickB [] 1 rfl rfl)⟩
    · replace h := (if_neg (not_true hc256)).symm.trans h
      refine e_skip ?_
      refine hK254 _ _ ?_
      refine e_seq fun K258 hK258 => ?_
      refine e_seq fun K259 hK259 => ?_
      refine e_region_text rfl ?_
      refine q_assign rfl rfl ?_
      refine eseq_nil ?_
      refine hK259 _ _ ?_
      refine e_block ?_
      obtain ⟨tl260, ht260, h⟩ := Option.of_bind h
      have hX260_0 : ∀ (R318 : Nat → Prop) (w319 : World) (E_ : Env), ref16_Check_K1 fuel a0 = some r → Sep F R R318 w w319 [HP.blk bl244 [v1, v2, v3] 31] → IsSlice Ty.int w319 R318 v1 a0.lens → IsSlice (Ty.slice Ty.int) w319 R318 v2 a0.ckpts → IsSlice arcTy w319 R318 v3 a0.arcs → Sub [(1, .pointer (some ⟨bl244, 0, none⟩))] E_ → K258 E_ w319 := by
        intro R318 w319 E_ h hS f320 f321 f322 hsub
        refine hK258 _ _ (e_sub hsub ?_); clear hsub
        unfold ref16_Check_K1 at h
        refine e_seq fun K323 hK323 => ?_
        refine e_seq fun K324 hK324 => ?_
        refine e_region_text rfl ?_
        refine q_assign rfl rfl ?_
        refine eseq_nil ?_
        refine hK324 _ _ ?_
        refine e_block ?_
        obtain ⟨tl325, ht325, h⟩ := Option.of_bind h
        have hX325_2 : ∀ (R377 : Nat → Prop) (w378 : World) (E_ : Env), ref16_Check_K2 fuel a0 = some r → Sep F R R377 w w378 [HP.blk bl244 [v1, v2, v3] 31] → IsSlice Ty.int w378 R377 v1 a0.lens → IsSlice (Ty.slice Ty.int) w378 R377 v2 a0.ckpts → IsSlice arcTy w378 R377 v3 a0.arcs → Sub [(1, .pointer (some ⟨bl244, 0, none⟩))] E_ → K323 E_ w378 := by
          intro R377 w378 E_ h hS f379 f380 f381 hsub
          refine hK323 _ _ (e_sub hsub ?_); clear hsub
          unfold ref16_Check_K2 at h
          refine e_seq fun K382 hK382 => ?_
          refine e_seq fun K383 hK383 => ?_
          refine e_region_text rfl ?_
          refine q_assign rfl rfl ?_
          refine eseq_nil ?_
          refine hK383 _ _ ?_
          refine e_block ?_
          obtain ⟨tl384, ht384, h⟩ := Option.of_bind h
          have hX384_4 : ∀ (R428 : Nat → Prop) (w429 : World) (E_ : Env), ref16_Check_K3 fuel a0 = some r → Sep F R R428 w w429 [HP.blk bl244 [v1, v2, v3] 31] → IsSlice Ty.int w429 R428 v1 a0.lens → IsSlice (Ty.slice Ty.int) w429 R428 v2 a0.ckpts → IsSlice arcTy w429 R428 v3 a0.arcs → Sub [(1, .pointer (some ⟨bl244, 0, none⟩))] E_ → K382 E_ w429 := by
            intro R428 w429 E_ h hS f430 f431 f432 hsub
            refine hK382 _ _ (e_sub hsub ?_); clear hsub
            unfold ref16_Check_K3 at h
            refine e_seq fun K433 hK433 => ?_
            refine e_seq fun K434 hK434 => ?_
            refine e_region_text rfl ?_
            refine q_loadAgg rfl (Blk.cellsAt (hS.blk 0 rfl) 0 3 rfl) rfl rfl ?_
            obtain ⟨r436, hr436, h⟩ := Option.of_bind h
            refine q_call rfl (ref16_possible_w (a0 := (⟨a0.lens, a0.ckpts, a0.arcs⟩ : Pat)) (Sep.enter (As := []) hS) f430 f431 f432 hr436) rfl ?_
            rintro _ w435 ⟨R435, rfl, hC435⟩
            have hB435 : Below (World.heap w429).size w429 w435 := hC435.stepB0
            refine ⟨fun _ => .of_below hB435, ?_⟩
            replace f430 := (f430.ext hB435).mono fun k hk _ => hC435.ro0 k hk
            replace f431 := (f431.ext hB435).mono fun k hk _ => hC435.ro0 k hk
            replace f432 := (f432.ext hB435).mono fun k hk _ => hC435.ro0 k hk
            replace hS := Sep.leave (As := []) hS hC435; simp only [List.cons_append, List.nil_append] at hS
            refine q_not rfl rfl ?_
            refine eseq_nil ?_
            refine hK434 _ _ ?_
            refine e_cond rfl (fun hc437 => ?_) (fun hc437 => ?_)
            · replace h := (if_pos hc437).symm.trans h
              refine e_seq fun K438 hK438 => ?_
              refine e_region_text rfl ?_
              refine q_assign rfl rfl ?_
              refine eseq_nil ?_
              refine hK438 _ _ ?_
              refine e_ret ?_
              obtain rfl := Option.some.inj h
              exact ⟨_, res1 rfl rfl, _, rfl, (hS.pickB [] 1 rfl rfl)⟩
            · replace h := (if_neg (not_true hc437)).symm.trans h
              refine e_skip ?_
              refine hK433 _ _ ?_
              refine e_seq fun K439 hK439 => ?_
              refine e_region_text rfl ?_
              refine q_assign rfl rfl ?_
              refine eseq_nil ?_
              refine hK439 _ _ ?_
              refine e_ret ?_
              obtain rfl := Option.some.inj h
              exact ⟨_, res1 rfl rfl, _, rfl, (hS.pickB [] 1 rfl rfl)⟩
          refine e_loop (fun m_ E_ w407 => ∃ (x411 : Int), ∃ (R406 : Nat → Prop), iter (fun s => ref16_Check_B1 fuel a0 s) m_ x411 = some tl384 ∧ Sep F R R406 w w407 [HP.blk bl244 [v1, v2, v3] 31] ∧ IsSlice Ty.int w407 R406 v1 a0.lens ∧ IsSlice (Ty.slice Ty.int) w407 R406 v2 a0.ckpts ∧ IsSlice arcTy w407 R406 v3 a0.arcs ∧ E_ = [(1, .pointer (some ⟨bl244, 0, none⟩)), (5, .int .i64 x411)]) _ ⟨_, ⟨0, _, ht384, hS, f379, f380, f381, rfl⟩, Sub.cons rfl (Sub.cons rfl (Sub.nil _))⟩ ?_
          clear ht384 hS
          rintro m384 _ w407 ⟨x411, R406, ht384, hS, f408, f409, f410, rfl⟩
          obtain ⟨m384, rfl, o384, ho384, ht384⟩ := iter_some ht384
          replace ho384 : ref16_Check_B1 fuel a0 x411 = some o384 := ho384
          unfold ref16_Check_B1 at ho384
          refine e_seq fun K440 hK440 => ?_
          refine e_seq fun K441 hK441 => ?_
          refine e_region_text rfl ?_
          refine q_move rfl rfl ?_
          refine q_field rfl rfl ?_
          refine q_load rfl (Blk.cell (hS.blk 0 rfl) rfl) rfl ?_
          refine q_lenS rfl f410 rfl ?_
          refine q_lss rfl rfl rfl ?_
          refine eseq_nil ?_
          refine hK441 _ _ ?_
          refine e_cond rfl (fun hc442 => ?_) (fun hc442 => ?_)
          · replace ho384 := (if_pos hc442).symm.trans ho384
            refine e_skip ?_
            refine hK440 _ _ ?_
            refine e_seq fun K443 hK443 => ?_
            refine e_block ?_
            refine e_seq fun K444 hK444 => ?_
            refine e_region_text rfl ?_
            refine q_loadAgg rfl (Blk.cellsAt (hS.blk 0 rfl) 0 3 rfl) rfl rfl ?_
            refine q_move rfl rfl ?_
            obtain ⟨r446, hr446, ho384⟩ := Option.of_bind ho384
            refine q_call rfl (ref16_arc_w (a0 := (⟨a0.lens, a0.ckpts, a0.arcs⟩ : Pat)) (Sep.enter (As := []) hS) f408 f409 f410 hr446) rfl ?_
            rintro _ w445 ⟨R445, rfl, hC445⟩
            have hB445 : Below (World.heap w407).size w407 w445 := hC445.stepB0
            refine ⟨fun _ => .of_below hB445, ?_⟩
            replace f408 := (f408.ext hB445).mono fun k hk _ => hC445.ro0 k hk
            replace f409 := (f409.ext hB445).mono fun k hk _ => hC445.ro0 k hk
            replace f410 := (f410.ext hB445).mono fun k hk _ => hC445.ro0 k hk
            replace hS := Sep.leave (As := []) hS hC445; simp only [List.cons_append, List.nil_append] at hS
            refine q_assign rfl rfl ?_
            refine eseq_nil ?_
            refine hK444 _ _ ?_
            refine e_seq fun K447 hK447 => ?_
            refine e_region_text rfl ?_
            refine q_move rfl rfl ?_
            refine q_neq rfl rfl rfl ?_
            refine eseq_nil ?_
            refine hK447 _ _ ?_
            refine e_cond rfl (fun hc448 => ?_) (fun hc448 => ?_)
            · replace ho384 := (if_pos hc448).symm.trans ho384
              refine e_seq fun K449 hK449 => ?_
              refine e_region_text rfl ?_
              refine q_move rfl rfl ?_
              refine q_assign rfl rfl ?_
              refine eseq_nil ?_
              refine hK449 _ _ ?_
              refine e_ret ?_
              obtain rfl := Option.some.inj ho384
              obtain rfl := Option.some.inj ht384
              obtain rfl := Option.some.inj h
              exact ⟨_, res1 rfl rfl, _, rfl, (hS.pickB [] 1 rfl rfl)⟩
            · replace ho384 := (if_neg (not_true hc448)).symm.trans ho384
              refine e_skip ?_
              refine hK443 _ _ ?_
              refine e_region_text rfl ?_
              refine q_move rfl rfl ?_
              refine q_addW rfl rfl rfl ?_
              refine q_assign rfl rfl ?_
              refine eseq_nil ?_
              obtain rfl := Option.some.inj ho384
              exact ⟨m384, _, Nat.lt_succ_self _, ⟨(w64 (x411 + 1)), _, ht384, hS, f408, f409, f410, rfl⟩, Sub.cons rfl (Sub.cons rfl (Sub.nil _))⟩
          · replace ho384 := (if_neg (not_true hc442)).symm.trans ho384
            refine e_exit ?_
            obtain rfl := Option.some.inj ho384
            obtain rfl := Option.some.inj ht384
            exact hX384_4  _ _ _ h hS f408 f409 f410 (Sub.cons rfl (Sub.nil _))
        refine e_loop (fun m_ E_ w352 => ∃ (x356 : Int), ∃ (R351 : Nat → Prop), iter (fun s => ref16_Check_B2 fuel a0 s) m_ x356 = some tl325 ∧ Sep F R R351 w w352 [HP.blk bl244 [v1, v2, v3] 31] ∧ IsSlice Ty.int w352 R351 v1 a0.lens ∧ IsSlice (Ty.slice Ty.int) w352 R351 v2 a0.ckpts ∧ IsSlice arcTy w352 R351 v3 a0.arcs ∧ E_ = [(1, .pointer (some ⟨bl244, 0, none⟩)), (4, .int .i64 x356)]) _ ⟨_, ⟨0, _, ht325, hS, f320, f321, f322, rfl⟩, Sub.cons rfl (Sub.cons rfl (Sub.nil _))⟩ ?_
        clear ht325 hS
        rintro m325 _ w352 ⟨x356, R351, ht325, hS, f353, f354, f355, rfl⟩
        obtain ⟨m325, rfl, o325, ho325, ht325⟩ := iter_some ht325
        replace ho325 : ref16_Check_B2 fuel a0 x356 = some o325 := ho325
        unfold ref16_Check_B2 at ho325
        refine e_seq fun K450 hK450 => ?_
        refine e_seq fun K451 hK451 => ?_
        refine e_region_text rfl ?_
        refine q_move rfl rfl ?_
        refine q_field rfl rfl ?_
        refine q_load rfl (Blk.cell (hS.blk 0 rfl) rfl) rfl ?_
        refine q_lenS rfl f353 rfl ?_
        refine q_lss rfl rfl rfl ?_
        refine eseq_nil ?_
        refine hK451 _ _ ?_
        refine e_cond rfl (fun hc452 => ?_) (fun hc452 => ?_)
        · replace ho325 := (if_pos hc452).symm.trans ho325
          refine e_skip ?_
          refine hK450 _ _ ?_
          refine e_seq fun K453 hK453 => ?_
          refine e_block ?_
          refine e_seq fun K454 hK454 => ?_
          refine e_region_draw mixed (fun _ => False) [0, 1, 0, 7, 15, 0, 32, 0, 224, 480, 1023, 2047] [] [0, 1, 2, 3, 4, 5, 6, 7, 8, 9, 10, 11] (by kernel_rfl) ?_
          refine q_field rfl rfl ?_
          refine q_load rfl (Blk.cell (hS.blk 0 rfl) rfl) rfl ?_
          refine q_move rfl rfl ?_
          obtain ⟨x455, hx455, ho325⟩ := Option.of_bind ho325
          refine q_atS (by infer_instance) rfl f354 rfl hx455 rfl fun b456 o456 hm456 f456 => ?_
          refine q_loadE rfl f456 rfl (fun v457 f457 => ?_)
          refine q_field rfl rfl ?_
          refine q_load rfl (Blk.cell (hS.blk 0 rfl) rfl) rfl ?_
          refine q_move rfl rfl ?_
          obtain ⟨x458, hx458, ho325⟩ := Option.of_bind ho325
          refine q_atS (by infer_instance) rfl f353 rfl hx458 rfl fun b459 o459 hm459 f459 => ?_
          refine q_load rfl (Elt.intCell f459) rfl ?_
          obtain ⟨r461, hr461, ho325⟩ := Option.of_bind ho325
          refine q_call rfl (ref16_ckpts_w (Sep.enter (As := []) hS) f457 hr461) rfl ?_
          rintro _ w460 ⟨R460, rfl, hC460⟩
          have hB460 : Below (World.heap w352).size w352 w460 := hC460.stepB0
          refine ⟨fun _ => .of_below hB460, ?_⟩
          replace f353 := (f353.ext hB460).mono fun k hk _ => hC460.ro0 k hk
          replace f354 := (f354.ext hB460).mono fun k hk _ => hC460.ro0 k hk
          replace f355 := (f355.ext hB460).mono fun k hk _ => hC460.ro0 k hk
          replace f457 := (f457.ext hB460).mono fun k hk _ => hC460.ro0 k hk
          replace hS := Sep.leave (As := []) hS hC460; simp only [List.cons_append, List.nil_append] at hS
          refine q_not rfl rfl ?_
          refine eseq_nil ?_
          refine hK454 _ _ ?_
          refine e_cond rfl (fun hc462 => ?_) (fun hc462 => ?_)
          · replace ho325 := (if_pos hc462).symm.trans ho325
            refine e_seq fun K463 hK463 => ?_
            refine e_region_text rfl ?_
            refine q_assign rfl rfl ?_
            refine eseq_nil ?_
            refine hK463 _ _ ?_
            refine e_ret ?_
            obtain rfl := Option.some.inj ho325
            obtain rfl := Option.some.inj ht325
            obtain rfl := Option.some.inj h
            exact ⟨_, res1 rfl rfl, _, rfl, (hS.pickB [] 1 rfl rfl)⟩
          · replace ho325 := (if_neg (not_true hc462)).symm.trans ho325
            refine e_skip ?_
            refine hK453 _ _ ?_
            refine e_region_text rfl ?_
            refine q_move rfl rfl ?_
            refine q_addW rfl rfl rfl ?_
            refine q_assign rfl rfl ?_
            refine eseq_nil ?_
            obtain rfl := Option.some.inj ho325
            exact ⟨m325, _, Nat.lt_succ_self _, ⟨(w64 (x356 + 1)), _, ht325, hS, f353, f354, f355, rfl⟩, Sub.cons rfl (Sub.cons rfl (Sub.nil _))⟩
        · replace ho325 := (if_neg (not_true hc452)).symm.trans ho325
          refine e_exit ?_
          obtain rfl := Option.some.inj ho325
          obtain rfl := Option.some.inj ht325
          exact hX325_2  _ _ _ h hS f353 f354 f355 (Sub.cons rfl (Sub.nil _))
      refine e_loop (fun m_ E_ w290 => ∃ (x294 : Int), ∃ (R289 : Nat → Prop), iter (fun s => ref16_Check_B3 fuel a0 s) m_ x294 = some tl260 ∧ Sep F R R289 w w290 [HP.blk bl244 [v1, v2, v3] 31] ∧ IsSlice Ty.int w290 R289 v1 a0.lens ∧ IsSlice (Ty.slice Ty.int) w290 R289 v2 a0.ckpts ∧ IsSlice arcTy w290 R289 v3 a0.arcs ∧ E_ = [(1, .pointer (some ⟨bl244, 0, none⟩)), (3, .int .i64 x294)]) _ ⟨_, ⟨0, _, ht260, hS, f1, f2, f3, rfl⟩, Sub.cons rfl (Sub.cons rfl (Sub.nil _))⟩ ?_
      clear ht260 hS
      rintro m260 _ w290 ⟨x294, R289, ht260, hS, f291, f292, f293, rfl⟩
      obtain ⟨m260, rfl, o260, ho260, ht260⟩ := iter_some ht260
      replace ho260 : ref16_Check_B3 fuel a0 x294 = some o260 := ho260
      unfold ref16_Check_B3 at ho260
      refine e_seq fun K464 hK464 => ?_
      refine e_seq fun K465 hK465 => ?_
      refine e_region_text rfl ?_
      refine q_move rfl rfl ?_
      refine q_field rfl rfl ?_
      refine q_load rfl (Blk.cell (hS.blk 0 rfl) rfl) rfl ?_
      refine q_lenS rfl f291 rfl ?_
      refine q_lss rfl rfl rfl ?_
      refine eseq_nil ?_
      refine hK465 _ _ ?_
      refine e_cond rfl (fun hc466 => ?_) (fun hc466 => ?_)
      · replace ho260 := (if_pos hc466).symm.trans ho260
        refine e_skip ?_
        refine hK464 _ _ ?_
        refine e_seq fun K467 hK467 => ?_
        refine e_block ?_
        refine e_seq fun K468 hK468 => ?_
        refine e_region_text rfl ?_
        refine q_field rfl rfl ?_
        refine q_load rfl (Blk.cell (hS.blk 0 rfl) rfl) rfl ?_
        refine q_move rfl rfl ?_
        obtain ⟨x469, hx469, ho260⟩ := Option.of_bind ho260
        refine q_atS (by infer_instance) rfl f291 rfl hx469 rfl fun b470 o470 hm470 f470 => ?_
        refine q_load rfl (Elt.intCell f470) rfl ?_
        refine q_lss rfl rfl rfl ?_
        refine q_move rfl rfl ?_
        obtain ⟨x476, hx475, ho260⟩ := Option.of_bind ho260
        refine g_orM 6 hx475 rfl trivial rfl rfl ?_ ?_ ?_
        · intro hg475
          refine g_skip rfl rfl rfl ?_
          refine g_skip rfl rfl rfl ?_
          refine g_skip rfl rfl rfl ?_
          refine g_skip rfl rfl rfl ?_
          refine g_skip rfl rfl rfl ?_
          refine g_skip rfl rfl rfl ?_
          exact eseq_nil ⟨rfl, Sub.set rfl (Sub.set rfl (Sub.set rfl (Sub.set rfl (Sub.set rfl (Sub.set rfl (Sub.bool true rfl hg475))))))⟩
        · intro hg475 hx475
          clear ho260
          have hT475 := Below.refl (World.heap w290).size w290
          refine g_run rfl ?_; refine q_field rfl rfl ?_
          refine g_run rfl ?_; refine q_load rfl (Blk.cell (hS.blk 0 rfl) rfl) rfl ?_
          refine g_run rfl ?_; refine q_move rfl rfl ?_
          obtain ⟨x477, hx477, hx475⟩ := Option.of_bind hx475
          refine g_run rfl ?_; refine q_atS (by infer_instance) rfl f291 rfl hx477 rfl fun b478 o478 hm478 f478 => ?_
          refine g_run rfl ?_; refine q_load rfl (Elt.intCell f478) rfl ?_
          refine g_run rfl ?_; refine q_gtr rfl rfl rfl ?_
          cases hx475
          exact eseq_nil ⟨hT475, Sub.set rfl (Sub.set rfl (Sub.set rfl (Sub.set rfl (Sub.set rfl (Sub.set rfl (Sub.bool false rfl hg475)))))), rfl⟩
        intro wm475 hBm475; clear hx475
        replace hS := hS.below hBm475
        replace f291 := f291.ext hBm475
        replace f292 := f292.ext hBm475
        replace f293 := f293.ext hBm475
        refine eseq_nil ?_
        refine hK468 _ _ ?_
        refine e_cond rfl (fun hc479 => ?_) (fun hc479 => ?_)
        · replace ho260 := (if_pos hc479).symm.trans ho260
          refine e_seq fun K480 hK480 => ?_
          refine e_region_text rfl ?_
          refine q_assign rfl rfl ?_
          refine eseq_nil ?_
          refine hK480 _ _ ?_
          refine e_ret ?_
          obtain rfl := Option.some.inj ho260
          obtain rfl := Option.some.inj ht260
          obtain rfl := Option.some.inj h
          exact ⟨_, res1 rfl rfl, _, rfl, (hS.pickB [] 1 rfl rfl)⟩
        · replace ho260 := (if_neg (not_true hc479)).symm.trans ho260
          refine e_skip ?_
          refine hK467 _ _ ?_
          refine e_region_text rfl ?_
          refine q_move rfl rfl ?_
          refine q_addW rfl rfl rfl ?_
          refine q_assign rfl rfl ?_
          refine eseq_nil ?_
          obtain rfl := Option.some.inj ho260
          exact ⟨m260, _, Nat.lt_succ_self _, ⟨(w64 (x294 + 1)), _, ht260, hS, f291, f292, f293, rfl⟩, Sub.cons rfl (Sub.cons rfl (Sub.nil _))⟩
      · replace ho260 := (if_neg (not_true hc466)).symm.trans ho260
        refine e_exit ?_
        obtain rfl := Option.some.inj ho260
        obtain rfl := Option.some.inj ht260
        exact hX260_0  _ _ _ h hS f291 f292 f293 (Sub.cons rfl (Sub.nil _))
end Go.Proofs.Ytbmjcbhappjnaaa
