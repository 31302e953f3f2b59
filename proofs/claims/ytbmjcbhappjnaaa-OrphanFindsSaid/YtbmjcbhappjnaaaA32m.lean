/- Printed walks: A32m. -/
import Derived.Test.YtbmjcbhappjnaaaA32a
import Derived.Test.YtbmjcbhappjnaaaApat
set_option linter.unusedVariables false
set_option linter.unusedSimpArgs false
namespace Go.Mine
open Go.RowKit
theorem ati_seti_same {α : Type} {xs ys : List α} {i : Int} {x : α} (h : seti xs i x = some ys) : ati ys i = some x := by
  obtain ⟨h0, h1, rfl⟩ := seti_eq h
  unfold ati; rw [if_neg (by omega)]; simp [h1]
def ref16_Reduce_K1 (fuel : Nat) (a0 : Pat) (x291 : (List Arc)) : Option (Pat) :=
  some (⟨a0.lens, a0.ckpts, x291⟩ : Pat)
def ref16_Reduce_B1 (fuel : Nat) (a0 : Pat) (x238 : (List Arc)) (x239 : Int) : Option (((List Arc) × Int) ⊕ ((List Arc))) :=
  (if (decide (x239 < (a0.arcs.length : Int))) = true then (ati a0.arcs x239).bind fun x300 => (if (x300.rcv != 0) = true then (ati a0.arcs x239).bind fun x312 => (snoc x238 x312).bind fun x318 => some (Sum.inl (x318, (w64 (x239 + 1)))) else some (Sum.inl (x238, (w64 (x239 + 1))))) else some (Sum.inr x238))
def ref16_Reduce (fuel : Nat) (a0 : Pat) : Option (Pat) :=
  (iter (fun s => ref16_Reduce_B1 fuel a0 s.1 s.2) fuel (([] : List Arc), 0)).bind (fun t => ref16_Reduce_K1 fuel a0 t)
def make_Codes_Lineages_K4 (fuel : Nat) (r1552 : (Pat)) (x2644 : Int) (x2650 : (List (List Evt))) : Option ((List (List Evt)) × Pat × Int) :=
  some (x2650, (⟨r1552.lens, r1552.ckpts, r1552.arcs⟩ : Pat), x2644)
def make_Codes_Lineages_J2 (fuel : Nat) (x2542 : (List (List Evt))) (x2660 : Arc) (x2668 : Evt) (r2672 : (Int × Int)) (x2545 : Int) (x2713 : Int) (x2714 : Int) : Option ((Int × (List (List Evt)) × Int) ⊕ (Int × (List (List Evt)))) :=
  (ati x2542 x2660.to).bind fun x2715 => (ati x2715 (w64 (x2660.rcv - 1))).bind fun x2716 => (seti x2715 (w64 (x2660.rcv - 1)) (⟨1, x2668.inc, x2660.fr, (⟨x2713, x2714⟩ : Lab), r2672.1, 1⟩ : Evt)).bind fun x2718 => (seti x2542 x2660.to x2718).bind fun x2719 => some (Sum.inl (r2672.2, x2719, (w64 (x2545 + 1))))
def make_Codes_Lineages_J1 (fuel : Nat) (x2660 : Arc) (x2542 : (List (List Evt))) (x2668 : Evt) (r2672 : (Int × Int)) (x2545 : Int) : Option ((Int × (List (List Evt)) × Int) ⊕ (Int × (List (List Evt)))) :=
  (if (decide (0 < x2660.ix)) = true then (ati x2542 x2660.fr).bind fun x2722 => (ati x2722 (w64 (x2660.ix - 1))).bind fun x2723 => make_Codes_Lineages_J2 fuel x2542 x2660 x2668 r2672 x2545 x2723.inc x2660.ix else make_Codes_Lineages_J2 fuel x2542 x2660 x2668 r2672 x2545 0 0)
def make_Codes_Lineages_B1 (fuel : Nat) (r1552 : (Pat)) (c0_0 : (List Int)) (x2536 : Int) (x2542 : (List (List Evt))) (x2545 : Int) : Option ((Int × (List (List Evt)) × Int) ⊕ (Int × (List (List Evt)))) :=
  (if (decide (x2545 < (r1552.arcs.length : Int))) = true then (ati r1552.arcs x2545).bind fun x2660 => (ati x2542 x2660.to).bind fun x2667 => (ati x2667 (w64 (x2660.rcv - 1))).bind fun x2668 => (make_Codes_Next fuel 2 c0_0 x2536).bind fun r2672 => make_Codes_Lineages_J1 fuel x2660 x2542 x2668 r2672 x2545 else some (Sum.inr (x2536, x2542)))
def make_Codes_Lineages_K3 (fuel : Nat) (r1552 : (Pat)) (c0_0 : (List Int)) (x2418 : Int) (x2424 : (List (List Evt))) : Option ((List (List Evt)) × Pat × Int) :=
  (iter (fun s => make_Codes_Lineages_B1 fuel r1552 c0_0 s.1 s.2.1 s.2.2) fuel (x2418, x2424, 0)).bind (fun t => make_Codes_Lineages_K4 fuel r1552 t.1 t.2)
def make_Codes_Lineages_K5 (fuel : Nat) (x2221 : Int) (x2871 : Int) (x2878 : (List (List Evt))) : Option ((Int × (List (List Evt)) × Int) ⊕ (Int × (List (List Evt)))) :=
  some (Sum.inl (x2871, x2878, (w64 (x2221 + 1))))
def make_Codes_Lineages_J3 (fuel : Nat) (x2813 : (List (List Evt))) (x2221 : Int) (x2817 : Int) (x2897 : Int) (x2904 : Int) : Option ((Int × (List (List Evt)) × Int × Int) ⊕ (Int × (List (List Evt)))) :=
  (ati x2813 x2221).bind fun x2905 => (ati x2905 (w64 (x2817 - 1))).bind fun x2906 => (seti x2905 (w64 (x2817 - 1)) ({ x2906 with inc := x2904 })).bind fun x2908 => (seti x2813 x2221 x2908).bind fun x2909 => some (Sum.inl (x2897, x2909, x2904, (w64 (x2817 + 1))))
def make_Codes_Lineages_B3 (fuel : Nat) (r1552 : (Pat)) (x2221 : Int) (x1634 : (List Int)) (c0_0 : (List Int)) (x2806 : Int) (x2813 : (List (List Evt))) (x2816 : Int) (x2817 : Int) : Option ((Int × (List (List Evt)) × Int × Int) ⊕ (Int × (List (List Evt)))) :=
  (ati r1552.lens x2221).bind fun x2883 => (if (decide (x2817 ≤ x2883)) = true then (ati x1634 x2221).bind fun x2911 => (make_Codes_Next fuel x2911 c0_0 x2806).bind fun r2914 => (if (r2914.1 == 1) = true then make_Codes_Lineages_J3 fuel x2813 x2221 x2817 r2914.2 (w64 (x2816 + 1)) else make_Codes_Lineages_J3 fuel x2813 x2221 x2817 r2914.2 x2816) else some (Sum.inr (x2806, x2813)))
def make_Codes_Lineages_B2 (fuel : Nat) (r1552 : (Pat)) (x1634 : (List Int)) (c0_0 : (List Int)) (x2211 : Int) (x2218 : (List (List Evt))) (x2221 : Int) : Option ((Int × (List (List Evt)) × Int) ⊕ (Int × (List (List Evt)))) :=
  (if (decide (x2221 < (r1552.lens.length : Int))) = true then (iter (fun s => make_Codes_Lineages_B3 fuel r1552 x2221 x1634 c0_0 s.1 s.2.1 s.2.2.1 s.2.2.2) fuel (x2211, x2218, 0, 1)).bind (fun t => make_Codes_Lineages_K5 fuel x2221 t.1 t.2) else some (Sum.inr (x2211, x2218)))
def make_Codes_Lineages_K2 (fuel : Nat) (r1552 : (Pat)) (x1634 : (List Int)) (c0_0 : (List Int)) (x1993 : Int) (x2000 : (List (List Evt))) : Option ((List (List Evt)) × Pat × Int) :=
  (iter (fun s => make_Codes_Lineages_B2 fuel r1552 x1634 c0_0 s.1 s.2.1 s.2.2) fuel (x1993, x2000, 0)).bind (fun t => make_Codes_Lineages_K3 fuel r1552 c0_0 t.1 t.2)
def make_Codes_Lineages_K6 (fuel : Nat) (x1827 : Int) (x3028 : Int) (x3035 : (List (List Evt))) : Option ((Int × (List (List Evt)) × Int) ⊕ (Int × (List (List Evt)))) :=
  some (Sum.inl (x3028, x3035, (w64 (x1827 + 1))))
def make_Codes_Lineages_B5 (fuel : Nat) (r1552 : (Pat)) (x1827 : Int) (c0_0 : (List Int)) (x2974 : Int) (x2981 : (List (List Evt))) (x2984 : Int) : Option ((Int × (List (List Evt)) × Int) ⊕ (Int × (List (List Evt)))) :=
  (ati r1552.lens x1827).bind fun x3040 => (if (decide (x2984 ≤ x3040)) = true then (ati x2981 x1827).bind fun x3054 => (make_Codes_Next fuel 4 c0_0 x2974).bind fun r3056 => (snoc x3054 (⟨2, 0, 0, (⟨0, 0⟩ : Lab), 0, r3056.1⟩ : Evt)).bind fun x3060 => (seti x2981 x1827 x3060).bind fun x3061 => (ati x3061 x1827).bind fun x3062 => some (Sum.inl (r3056.2, x3061, (w64 (x2984 + 1)))) else some (Sum.inr (x2974, x2981)))
def make_Codes_Lineages_B4 (fuel : Nat) (r1552 : (Pat)) (c0_0 : (List Int)) (x1817 : Int) (x1824 : (List (List Evt))) (x1827 : Int) : Option ((Int × (List (List Evt)) × Int) ⊕ (Int × (List (List Evt)))) :=
  (if (decide (x1827 < (r1552.lens.length : Int))) = true then (iter (fun s => make_Codes_Lineages_B5 fuel r1552 x1827 c0_0 s.1 s.2.1 s.2.2) fuel (x1817, x1824, 1)).bind (fun t => make_Codes_Lineages_K6 fuel x1827 t.1 t.2) else some (Sum.inr (x1817, x1824)))
def make_Codes_Lineages_K1 (fuel : Nat) (r1552 : (Pat)) (c0_0 : (List Int)) (x1628 : Int) (x1634 : (List Int)) : Option ((List (List Evt)) × Pat × Int) :=
  (mkL (r1552.lens.length : Int) ([] : List Evt)).bind fun x1636 => (iter (fun s => make_Codes_Lineages_B4 fuel r1552 c0_0 s.1 s.2.1 s.2.2) fuel (x1628, x1636, 0)).bind (fun t => make_Codes_Lineages_K2 fuel r1552 x1634 c0_0 t.1 t.2)
def make_Codes_Lineages_B6 (fuel : Nat) (r1552 : (Pat)) (c0_0 : (List Int)) (x1597 : Int) (x1603 : (List Int)) (x1604 : Int) : Option ((Int × (List Int) × Int) ⊕ (Int × (List Int))) :=
  (if (decide (x1604 < (r1552.lens.length : Int))) = true then (make_Codes_Next fuel 6 c0_0 x1597).bind fun r3069 => (ati x1603 x1604).bind fun x3070 => (seti x1603 x1604 (w64 (1 + r3069.1))).bind fun x3072 => some (Sum.inl (r3069.2, x3072, (w64 (x1604 + 1)))) else some (Sum.inr (x1597, x1603)))
def make_Codes_Lineages (fuel : Nat) (a1 : Int) (c0_0 : (List Int)) (c0_1 : Int) : Option ((List (List Evt)) × Pat × Int) :=
  (make_Codes_Pattern fuel a1 c0_0 c0_1).bind fun r1546 => (ref16_Reduce fuel r1546.1).bind fun r1552 => (mkL (r1552.lens.length : Int) (0 : Int)).bind fun x1561 => (iter (fun s => make_Codes_Lineages_B6 fuel r1552 c0_0 s.1 s.2.1 s.2.2) fuel (r1546.2, x1561, 0)).bind (fun t => make_Codes_Lineages_K1 fuel r1552 c0_0 t.1 t.2)
end Go.Mine
namespace Go.Proofs.Ytbmjcbhappjnaaa
open Go.RowKit Go.Mine
attribute [local irreducible] eseq ewp iter
theorem ref16_Reduce_w {F R : Nat → Prop} {w : World} {fuel : Nat} {a0 : Pat} {v1 : Value} {v2 : Value} {v3 : Value} {r : (Pat)} (hS : Sep F R R w w []) (f1 : IsSlice Ty.int w R v1 a0.lens) (f2 : IsSlice (Ty.slice Ty.int) w R v2 a0.ckpts) (f3 : IsSlice arcTy w R v3 a0.arcs) (h : ref16_Reduce fuel a0 = some r) :
    Gives Try.prog 63 [.agg #[v1, v2, v3]] w fun u w1 => ∃ (v161 : Value), ∃ (v162 : Value), ∃ (v163 : Value), ∃ (R1 : Nat → Prop), u = .agg #[v161, v162, v163] ∧ Sep F R R1 w w1 [HP.own arcTy (fun _ => False) 107 v163 r.arcs] ∧ IsSlice Ty.int w1 R1 v161 r.lens ∧ IsSlice (Ty.slice Ty.int) w1 R1 v162 r.ckpts := by
  refine fn_of Try.func63 rfl Try.ntmps63 (Nat.le_of_ble_eq_true rfl) ?_
  unfold ref16_Reduce at h
  refine e_seq fun K164 hK164 => ?_
  refine e_region_text rfl ?_
  refine q_boxB rfl rfl rfl fun w165 bl165 hg165 hb165 hB165 => ?_
  replace f1 := f1.ext hB165
  replace f2 := f2.ext hB165
  replace f3 := f3.ext hB165
  replace hS := hS.newBlk hB165 hg165 hb165
  refine q_allocB rfl fun w167 bl167 hg167 hb167 hB167 => ?_
  replace f1 := f1.ext hB167
  replace f2 := f2.ext hB167
  replace f3 := f3.ext hB167
  replace hS := hS.newBlk hB167 hg167 hb167
  refine eseq_nil ?_
  refine hK164 _ _ ?_
  refine e_seq fun K169 hK169 => ?_
  refine e_region_text rfl ?_
  refine q_field rfl rfl ?_
  refine q_load rfl (Blk.cell (hS.blk 1 rfl) rfl) rfl ?_
  refine q_field rfl rfl ?_
  refine q_load rfl (Blk.cell (hS.blk 1 rfl) rfl) rfl ?_
  refine q_build (Parts.cons rfl (cells_one f1.one) (Parts.cons rfl (cells_one f2.one) Parts.nil)) rfl rfl ?_
  refine q_allocB rfl fun w170 bl170 hg170 hb170 hB170 => ?_
  replace f1 := f1.ext hB170
  replace f2 := f2.ext hB170
  replace f3 := f3.ext hB170
  replace hS := hS.newBlk hB170 hg170 hb170
  refine q_storeAgg rfl rfl (hS.blk 0 rfl) rfl (Nat.le_of_ble_eq_true rfl) (all_cons f1.one (all_cons f2.one (all_cons rfl (all_nil)))) rfl rfl fun w172 hb172 hO172 => ?_
  simp only [setN, List.set, List.take, List.drop] at hb172
  have hk172 := hS.keptBlk 0 rfl hO172
  replace f1 := f1.kept hk172
  replace f2 := f2.kept hk172
  replace f3 := f3.kept hk172
  replace hS := hS.setBlk 0 rfl hb172 hO172; simp only [List.set] at hS
  refine eseq_nil ?_
  refine hK169 _ _ ?_
  refine e_seq fun K173 hK173 => ?_
  refine e_seq fun K174 hK174 => ?_
  refine e_region_text rfl ?_
  refine q_assign rfl rfl ?_
  refine eseq_nil ?_
  refine hK174 _ _ ?_
  refine e_block ?_
  obtain ⟨tl175, ht175, h⟩ := Option.of_bind h
  have hX175_0 : ∀ (x291 : (List Arc)) (v290 : Value) (R285 : Nat → Prop) (w286 : World) (E_ : Env), ref16_Reduce_K1 fuel a0 x291 = some r → Sep F R R285 w w286 [HP.blk bl167 [.slice none 0 0, .slice none 0 0, .slice none 0 0] 31, HP.blk bl170 [v1, v2, v290] 31, HP.own arcTy (fun _ => False) 107 v290 x291] → IsSlice Ty.int w286 R285 v1 a0.lens → IsSlice (Ty.slice Ty.int) w286 R285 v2 a0.ckpts → Sub [(2, .pointer (some ⟨bl167, 0, none⟩)), (3, .pointer (some ⟨bl170, 0, none⟩))] E_ → K173 E_ w286 := by
    intro x291 v290 R285 w286 E_ h hS f287 f288 hsub
    refine hK173 _ _ (e_sub hsub ?_); clear hsub
    unfold ref16_Reduce_K1 at h
    refine e_seq fun K292 hK292 => ?_
    refine e_region_text rfl ?_
    refine q_loadAgg rfl (Blk.cellsAt (hS.blk 1 rfl) 0 3 rfl) rfl rfl ?_
    refine q_storeAgg rfl rfl (hS.blk 0 rfl) rfl (Nat.le_of_ble_eq_true rfl) (all_cons f287.one (all_cons f288.one (all_cons (hS.own 2 rfl).one (all_nil)))) rfl rfl fun w293 hb293 hO293 => ?_
    simp only [setN, List.set, List.take, List.drop] at hb293
    have hk293 := hS.keptBlk 0 rfl hO293
    replace f287 := f287.kept hk293
    replace f288 := f288.kept hk293
    replace hS := hS.setBlk 0 rfl hb293 hO293; simp only [List.set] at hS
    refine eseq_nil ?_
    refine hK292 _ _ ?_
    refine e_ret ?_
    obtain rfl := Option.some.inj h
    exact ⟨_, resC1 rfl rfl ((hS.blk 0 rfl).cellsAt 0 3 rfl) rfl, v1, v2, v290, _, rfl, (hS.pickB [2] 3 rfl rfl), f287, f288⟩
  replace hS := hS.nilOwn0 arcTy 107
  refine e_loop (fun m_ E_ w230 => ∃ (x238 : (List Arc)), ∃ (x239 : Int), ∃ (v237 : Value), ∃ (R229 : Nat → Prop), iter (fun s => ref16_Reduce_B1 fuel a0 s.1 s.2) m_ (x238, x239) = some tl175 ∧ Sep F R R229 w w230 [HP.blk bl165 [v1, v2, v3] 31, HP.blk bl167 [.slice none 0 0, .slice none 0 0, .slice none 0 0] 31, HP.blk bl170 [v1, v2, v237] 31, HP.own arcTy (fun _ => False) 107 v237 x238] ∧ IsSlice Ty.int w230 R229 v1 a0.lens ∧ IsSlice (Ty.slice Ty.int) w230 R229 v2 a0.ckpts ∧ IsSlice arcTy w230 R229 v3 a0.arcs ∧ IsSlice Ty.int w230 R229 v1 a0.lens ∧ IsSlice (Ty.slice Ty.int) w230 R229 v2 a0.ckpts ∧ E_ = [(1, .pointer (some ⟨bl165, 0, none⟩)), (2, .pointer (some ⟨bl167, 0, none⟩)), (3, .pointer (some ⟨bl170, 0, none⟩)), (4, .int .i64 x239)]) _ ⟨_, ⟨([] : List Arc), 0, (.slice none 0 0), _, ht175, (hS.pickB [3, 2, 1, 0] 4 rfl rfl), f1, f2, f3, f1, f2, rfl⟩, Sub.cons rfl (Sub.cons rfl (Sub.cons rfl (Sub.cons rfl (Sub.nil _))))⟩ ?_
  clear ht175 hS
  rintro m175 _ w230 ⟨x238, x239, v237, R229, ht175, hS, f231, f232, f233, f234, f235, rfl⟩
  obtain ⟨m175, rfl, o175, ho175, ht175⟩ := iter_some ht175
  replace ho175 : ref16_Reduce_B1 fuel a0 x238 x239 = some o175 := ho175
  unfold ref16_Reduce_B1 at ho175
  refine e_seq fun K295 hK295 => ?_
  refine e_seq fun K296 hK296 => ?_
  refine e_region_text rfl ?_
  refine q_move rfl rfl ?_
  refine q_field rfl rfl ?_
  refine q_load rfl (Blk.cell (hS.blk 0 rfl) rfl) rfl ?_
  refine q_lenS rfl f233 rfl ?_
  refine q_lss rfl rfl rfl ?_
  refine eseq_nil ?_
  refine hK296 _ _ ?_
  refine e_cond rfl (fun hc297 => ?_) (fun hc297 => ?_)
  · replace ho175 := (if_pos hc297).symm.trans ho175
    refine e_skip ?_
    refine hK295 _ _ ?_
    refine e_seq fun K298 hK298 => ?_
    refine e_block ?_
    refine e_seq fun K299 hK299 => ?_
    refine e_region_text rfl ?_
    refine q_field rfl rfl ?_
    refine q_load rfl (Blk.cell (hS.blk 0 rfl) rfl) rfl ?_
    refine q_move rfl rfl ?_
    obtain ⟨x300, hx300, ho175⟩ := Option.of_bind ho175
    refine q_atS (by infer_instance) rfl f233 rfl hx300 rfl fun b301 o301 hm301 f301 => ?_
    refine q_field rfl rfl ?_
    have f302 := Arc_F3 f301
    refine q_load rfl (Elt.intCell f302) rfl ?_
    refine q_neq rfl rfl rfl ?_
    refine eseq_nil ?_
    refine hK299 _ _ ?_
    refine e_cond rfl (fun hc303 => ?_) (fun hc303 => ?_)
    · replace ho175 := (if_pos hc303).symm.trans ho175
      refine e_region_draw mixed (fun _ => False) [0, 1, 0, 4, 0, 28, 60, 124, 255, 511, 1023] [7] [0, 1, 2, 3, 4, 5, 6, 7, 8, 9, 10] (by kernel_rfl) ?_
      refine q_field rfl rfl ?_
      refine q_load rfl (Blk.cell (hS.blk 2 rfl) rfl) rfl ?_
      refine q_field rfl rfl ?_
      refine q_load rfl (Blk.cell (hS.blk 0 rfl) rfl) rfl ?_
      refine q_move rfl rfl ?_
      obtain ⟨x312, hx312, ho175⟩ := Option.of_bind ho175
      refine q_atS (by infer_instance) rfl f233 rfl hx312 rfl fun b313 o313 hm313 f313 => ?_
      have hc314 := Arc_open f313
      refine q_loadAgg rfl hc314 rfl rfl ?_
      refine q_litO (T := arcTy) (S := (fun _ => False)) (cells := [[.int .i64 x312.fr, .int .i64 x312.ix, .int .i64 x312.to, .int .i64 x312.rcv]]) (ys := [x312]) ((Parts.cons rfl rfl Parts.nil)) rfl rfl rfl rfl rfl rfl rfl (fun w1 hB => ⟨⟨[_], _, rfl, rfl, ⟨[_], _, rfl, rfl, ⟨[_], _, rfl, rfl, rfl⟩⟩⟩, trivial⟩) (fun _ h => h.elim) rfl fun w315 v315 ho315 hv315 hB315 => ?_
      replace f231 := f231.ext hB315
      replace f232 := f232.ext hB315
      replace f233 := f233.ext hB315
      replace f234 := f234.ext hB315
      replace f235 := f235.ext hB315
      replace hS := hS.newOwnS hB315 ho315 hv315 (fun _ h => h.elim)
      obtain ⟨x318, hx318, ho175⟩ := Option.of_bind ho175
      refine q_catOwn (T := arcTy) rfl rfl rfl rfl (hS.own 4 rfl) rfl (hS.own 0 rfl) (fun _ h _ => h.elim) (snoc_cat hx318) (Nat.zero_le _) rfl (fun h => by cases h) fun v317 w317 hw317 hgr317 hnw317 => ?_
      have hk317 := hS.keptOwn 4 rfl hgr317
      replace f231 := f231.kept hk317
      replace f232 := f232.kept hk317
      replace f233 := f233.kept hk317
      replace f234 := f234.kept hk317
      replace f235 := f235.kept hk317
      replace hS := hS.setOwn 4 rfl hw317 hgr317 hnw317; simp only [List.set] at hS
      refine q_field rfl rfl ?_
      refine q_store rfl rfl (hS.blk 3 rfl) (Nat.le_of_ble_eq_true rfl) (hS.own 4 rfl).one rfl rfl fun w319 hb319 hO319 => ?_
      have hk319 := hS.keptBlk 3 rfl hO319
      replace f231 := f231.kept hk319
      replace f232 := f232.kept hk319
      replace f233 := f233.kept hk319
      replace f234 := f234.kept hk319
      replace f235 := f235.kept hk319
      replace hS := hS.setBlk 3 rfl hb319 hO319; simp only [List.set] at hS
      refine eseq_nil ?_
      refine hK298 _ _ ?_
      refine e_region_text rfl ?_
      refine q_move rfl rfl ?_
      refine q_addW rfl rfl rfl ?_
      refine q_assign rfl rfl ?_
      refine eseq_nil ?_
      obtain rfl := Option.some.inj ho175
      exact ⟨m175, _, Nat.lt_succ_self _, ⟨x318, (w64 (x239 + 1)), v317, _, ht175, (hS.pickB [1, 2, 3, 4] 5 rfl rfl), f231, f232, f233, f234, f235, rfl⟩, Sub.cons rfl (Sub.cons rfl (Sub.cons rfl (Sub.cons rfl (Sub.nil _))))⟩
    · replace ho175 := (if_neg (not_true hc303)).symm.trans ho175
      refine e_skip ?_
      refine hK298 _ _ ?_
      refine e_region_text rfl ?_
      refine q_move rfl rfl ?_
      refine q_addW rfl rfl rfl ?_
      refine q_assign rfl rfl ?_
      refine eseq_nil ?_
      obtain rfl := Option.some.inj ho175
      exact ⟨m175, _, Nat.lt_succ_self _, ⟨x238, (w64 (x239 + 1)), v237, _, ht175, hS, f231, f232, f233, f234, f235, rfl⟩, Sub.cons rfl (Sub.cons rfl (Sub.cons rfl (Sub.cons rfl (Sub.nil _))))⟩
  · replace ho175 := (if_neg (not_true hc297)).symm.trans ho175
    refine e_exit ?_
    obtain rfl := Option.some.inj ho175
    obtain rfl := Option.some.inj ht175
    exact hX175_0 x238 v237 _ _ _ h (hS.pickB [1, 2, 3] 4 rfl rfl) f234 f235 (Sub.cons rfl (Sub.cons rfl (Sub.nil _)))
theorem make_Codes_Lineages_w {F R : Nat → Prop} {w : World} {fuel : Nat} {a1 : Int} {c0_0 : (List Int)} {c0_1 : Int} {B0 : Nat} {v2 : Value} {r : ((List (List Evt)) × Pat × Int)} (hS : Sep F R R w w [HP.blk B0 [v2, .int .i64 c0_1] 117]) (f2 : IsSlice Ty.u8 w R v2 c0_0) (h : make_Codes_Lineages fuel a1 c0_0 c0_1 = some r) :
    Gives Try.prog 31 [.pointer (some ⟨B0, 0, none⟩), .int .i64 a1] w fun u w1 => ∃ (v1536 : Value), ∃ (v1537 : List Value), ∃ (v1538 : Value), ∃ (v1539 : Value), ∃ (v1540 : Value), ∃ (R1 : Nat → Prop), u = .tuple #[v1536, .agg #[v1538, v1539, v1540]] ∧ Sep F R R1 w w1 [HP.blk B0 [v2, .int .i64 r.2.2] 117, HP.own Ty.raw (fun _ => False) 58 v1536 v1537, HP.famS evtTy (fun _ => False) 62 v1537 r.1, HP.own arcTy (fun _ => False) 107 v1540 r.2.1.arcs] ∧ IsSlice Ty.int w1 R1 v1538 r.2.1.lens ∧ IsSlice (Ty.slice Ty.int) w1 R1 v1539 r.2.1.ckpts := by
  refine fn_of Try.func31 rfl Try.ntmps31 (Nat.le_of_ble_eq_true rfl) ?_
  unfold make_Codes_Lineages at h
  refine e_seq fun K1541 hK1541 => ?_
  refine e_region_text rfl ?_
  refine q_assign rfl rfl ?_
  refine q_allocB rfl fun w1542 bl1542 hg1542 hb1542 hB1542 => ?_
  replace f2 := f2.ext hB1542
  replace hS := hS.newBlk hB1542 hg1542 hb1542
  refine eseq_nil ?_
  refine hK1541 _ _ ?_
  refine e_seq fun K1544 hK1544 => ?_
  refine e_region_text rfl ?_
  refine q_move rfl rfl ?_
  refine q_move rfl rfl ?_
  obtain ⟨r1546, hr1546, h⟩ := Option.of_bind h
  replace hS := hS.pickB [1, 0] 2 rfl rfl; simp only [List.map_cons, List.map_nil, List.getD_cons_zero, List.getD_cons_succ] at hS
  refine q_call rfl (make_Codes_Pattern_w (Sep.enter (As := [_]) hS) f2 hr1546) rfl ?_
  rintro _ w1545 ⟨v1547, v1548, v1549, R1545, rfl, hC1545, f1547, f1548⟩
  refine ⟨(fun h => by cases h), ?_⟩
  have hk1545 := hC1545.keptR (Sep.offFeet (As := [_]) hS)
  replace f2 := (f2.kept hk1545).mono fun k hk _ => hC1545.ro0 k hk
  replace hS := Sep.leave (As := [_]) hS hC1545; simp only [List.cons_append, List.nil_append] at hS
  obtain ⟨R1551, hS, hm1551, f1551⟩ := hS.freezeOwn 1 rfl; simp only [List.eraseIdx] at hS
  replace f2 := f2.mono fun k hk _ => hm1551 k hk
  replace f1547 := f1547.mono fun k hk _ => hm1551 k hk
  replace f1548 := f1548.mono fun k hk _ => hm1551 k hk
  obtain ⟨r1552, hr1552, h⟩ := Option.of_bind h
  refine q_call rfl (ref16_Reduce_w (a0 := r1546.1) (Sep.enter (As := []) hS) f1547 f1548 f1551 hr1552) rfl ?_
  rintro _ w1550 ⟨v1553, v1554, v1555, R1550, rfl, hC1550, f1553, f1554⟩
  have hB1550 : Below (World.heap w1545).size w1545 w1550 := hC1550.stepB0
  refine ⟨fun _ => .of_below hB1550, ?_⟩
  replace f2 := (f2.ext hB1550).mono fun k hk _ => hC1550.ro0 k hk
  replace f1547 := (f1547.ext hB1550).mono fun k hk _ => hC1550.ro0 k hk
  replace f1548 := (f1548.ext hB1550).mono fun k hk _ => hC1550.ro0 k hk
  replace f1551 := (f1551.ext hB1550).mono fun k hk _ => hC1550.ro0 k hk
  replace hS := Sep.leave (As := []) hS hC1550; simp only [List.cons_append, List.nil_append] at hS
  refine q_allocB rfl fun w1556 bl1556 hg1556 hb1556 hB1556 => ?_
  replace f2 := f2.ext hB1556
  replace f1553 := f1553.ext hB1556
  replace f1554 := f1554.ext hB1556
  replace hS := hS.newBlk hB1556 hg1556 hb1556
  refine q_storeAgg rfl rfl (hS.blk 0 rfl) rfl (Nat.le_of_ble_eq_true rfl) (all_cons f1553.one (all_cons f1554.one (all_cons (hS.own 1 rfl).one (all_nil)))) rfl rfl fun w1558 hb1558 hO1558 => ?_
  simp only [setN, List.set, List.take, List.drop] at hb1558
  have hk1558 := hS.keptBlk 0 rfl hO1558
  replace f2 := f2.kept hk1558
  replace f1553 := f1553.kept hk1558
  replace f1554 := f1554.kept hk1558
  replace hS := hS.setBlk 0 rfl hb1558 hO1558; simp only [List.set] at hS
  refine eseq_nil ?_
  refine hK1544 _ _ ?_
  refine e_seq fun K1559 hK1559 => ?_
  refine e_region_text rfl ?_
  refine q_field rfl rfl ?_
  refine q_load rfl (Blk.cell (hS.blk 0 rfl) rfl) rfl ?_
  refine q_lenS rfl f1553 rfl ?_
  refine q_assign rfl rfl ?_
  refine eseq_nil ?_
  refine hK1559 _ _ ?_
  refine e_seq fun K1560 hK1560 => ?_
  refine e_region_text rfl ?_
  refine q_move rfl rfl ?_
  obtain ⟨x1561, hx1561, h⟩ := Option.of_bind h
  refine q_makeO (T := Ty.int) (S := (fun _ => False)) rfl rfl rfl hx1561 (fun _ h => h.elim) rfl fun w1562 v1562 ho1562 hv1562 hB1562 => ?_
  replace f2 := f2.ext hB1562
  replace f1553 := f1553.ext hB1562
  replace f1554 := f1554.ext hB1562
  replace hS := hS.newOwnS hB1562 ho1562 hv1562 (fun _ h => h.elim)
  refine q_assign rfl rfl ?_
  refine eseq_nil ?_
  refine hK1560 _ _ ?_
  refine e_seq fun K1564 hK1564 => ?_
  refine e_seq fun K1565 hK1565 => ?_
  refine e_region_text rfl ?_
  refine q_assign rfl rfl ?_
  refine eseq_nil ?_
  refine hK1565 _ _ ?_
  refine e_block ?_
  obtain ⟨tl1566, ht1566, h⟩ := Option.of_bind h
  have hX1566_0 : ∀ (x1628 : Int) (x1634 : (List Int)) (v1633 : Value) (R1625 : Nat → Prop) (w1626 : World) (E_ : Env), make_Codes_Lineages_K1 fuel r1552 c0_0 x1628 x1634 = some r → Sep F R R1625 w w1626 [HP.blk B0 [v2, .int .i64 x1628] 117, HP.blk bl1542 [.slice none 0 0, .slice none 0 0, .slice none 0 0] 31, HP.blk bl1556 [v1553, v1554, v1555] 31, HP.own arcTy (fun _ => False) 107 v1555 r1552.arcs, HP.own Ty.int (fun _ => False) 3 v1633 x1634] → IsSlice Ty.u8 w1626 R1625 v2 c0_0 → IsSlice Ty.int w1626 R1625 v1553 r1552.lens → IsSlice (Ty.slice Ty.int) w1626 R1625 v1554 r1552.ckpts → Sub [(0, .pointer (some ⟨B0, 0, none⟩)), (5, .pointer (some ⟨bl1542, 0, none⟩)), (6, .pointer (some ⟨bl1556, 0, none⟩)), (7, .int .i64 (r1552.lens.length : Int)), (8, v1633)] E_ → K1564 E_ w1626 := by
    intro x1628 x1634 v1633 R1625 w1626 E_ h hS f1627 f1629 f1630 hsub
    refine hK1564 _ _ (e_sub hsub ?_); clear hsub
    unfold make_Codes_Lineages_K1 at h
    refine e_seq fun K1635 hK1635 => ?_
    refine e_region_text rfl ?_
    refine q_move rfl rfl ?_
    obtain ⟨x1636, hx1636, h⟩ := Option.of_bind h
    refine q_makeO (T := Ty.raw) (S := (fun _ => False)) rfl rfl rfl (mkL_raw hx1636) (fun _ h => h.elim) rfl fun w1637 v1637 ho1637 hv1637 hB1637 => ?_
    replace f1627 := f1627.ext hB1637
    replace f1629 := f1629.ext hB1637
    replace f1630 := f1630.ext hB1637
    replace hS := (hS.famNilsM (S := fun _ => False) evtTy 62 (fun _ h => h.elim) hx1636).newOwnS hB1637 ho1637 hv1637 (fun _ h => h.elim)
    refine q_assign rfl rfl ?_
    refine eseq_nil ?_
    refine hK1635 _ _ ?_
    refine e_seq fun K1640 hK1640 => ?_
    refine e_seq fun K1641 hK1641 => ?_
    refine e_region_text rfl ?_
    refine q_assign rfl rfl ?_
    refine eseq_nil ?_
    refine hK1641 _ _ ?_
    refine e_block ?_
    obtain ⟨tl1642, ht1642, h⟩ := Option.of_bind h
    have hX1642_2 : ∀ (x1993 : Int) (x2000 : (List (List Evt))) (v1998 : Value) (v1999 : List Value) (R1990 : Nat → Prop) (w1991 : World) (E_ : Env), make_Codes_Lineages_K2 fuel r1552 x1634 c0_0 x1993 x2000 = some r → Sep F R R1990 w w1991 [HP.blk B0 [v2, .int .i64 x1993] 117, HP.blk bl1542 [.slice none 0 0, .slice none 0 0, .slice none 0 0] 31, HP.blk bl1556 [v1553, v1554, v1555] 31, HP.own arcTy (fun _ => False) 107 v1555 r1552.arcs, HP.own Ty.int (fun _ => False) 3 v1633 x1634, HP.own Ty.raw (fun _ => False) 58 v1998 v1999, HP.famS evtTy (fun _ => False) 62 v1999 x2000] → IsSlice Ty.u8 w1991 R1990 v2 c0_0 → IsSlice Ty.int w1991 R1990 v1553 r1552.lens → IsSlice (Ty.slice Ty.int) w1991 R1990 v1554 r1552.ckpts → Sub [(0, .pointer (some ⟨B0, 0, none⟩)), (5, .pointer (some ⟨bl1542, 0, none⟩)), (6, .pointer (some ⟨bl1556, 0, none⟩)), (7, .int .i64 (r1552.lens.length : Int)), (8, v1633), (10, v1998)] E_ → K1640 E_ w1991 := by
      intro x1993 x2000 v1998 v1999 R1990 w1991 E_ h hS f1992 f1994 f1995 hsub
      refine hK1640 _ _ (e_sub hsub ?_); clear hsub
      unfold make_Codes_Lineages_K2 at h
      refine e_seq fun K2003 hK2003 => ?_
      refine e_seq fun K2004 hK2004 => ?_
      refine e_region_text rfl ?_
      refine q_assign rfl rfl ?_
      refine eseq_nil ?_
      refine hK2004 _ _ ?_
      refine e_block ?_
      obtain ⟨tl2005, ht2005, h⟩ := Option.of_bind h
      have hX2005_6 : ∀ (x2418 : Int) (x2424 : (List (List Evt))) (v2422 : Value) (v2423 : List Value) (R2415 : Nat → Prop) (w2416 : World) (E_ : Env), make_Codes_Lineages_K3 fuel r1552 c0_0 x2418 x2424 = some r → Sep F R R2415 w w2416 [HP.blk B0 [v2, .int .i64 x2418] 117, HP.blk bl1542 [.slice none 0 0, .slice none 0 0, .slice none 0 0] 31, HP.blk bl1556 [v1553, v1554, v1555] 31, HP.own arcTy (fun _ => False) 107 v1555 r1552.arcs, HP.own Ty.raw (fun _ => False) 58 v2422 v2423, HP.famS evtTy (fun _ => False) 62 v2423 x2424] → IsSlice Ty.u8 w2416 R2415 v2 c0_0 → IsSlice Ty.int w2416 R2415 v1553 r1552.lens → IsSlice (Ty.slice Ty.int) w2416 R2415 v1554 r1552.ckpts → Sub [(0, .pointer (some ⟨B0, 0, none⟩)), (5, .pointer (some ⟨bl1542, 0, none⟩)), (6, .pointer (some ⟨bl1556, 0, none⟩)), (10, v2422)] E_ → K2003 E_ w2416 := by
        intro x2418 x2424 v2422 v2423 R2415 w2416 E_ h hS f2417 f2419 f2420 hsub
        refine hK2003 _ _ (e_sub hsub ?_); clear hsub
        unfold make_Codes_Lineages_K3 at h
        refine e_seq fun K2427 hK2427 => ?_
        refine e_seq fun K2428 hK2428 => ?_
        refine e_region_text rfl ?_
        refine q_assign rfl rfl ?_
        refine eseq_nil ?_
        refine hK2428 _ _ ?_
        refine e_block ?_
        obtain ⟨tl2429, ht2429, h⟩ := Option.of_bind h
        have hX2429_10 : ∀ (x2644 : Int) (x2650 : (List (List Evt))) (v2648 : Value) (v2649 : List Value) (R2641 : Nat → Prop) (w2642 : World) (E_ : Env), make_Codes_Lineages_K4 fuel r1552 x2644 x2650 = some r → Sep F R R2641 w w2642 [HP.blk B0 [v2, .int .i64 x2644] 117, HP.blk bl1542 [.slice none 0 0, .slice none 0 0, .slice none 0 0] 31, HP.blk bl1556 [v1553, v1554, v1555] 31, HP.own arcTy (fun _ => False) 107 v1555 r1552.arcs, HP.own Ty.raw (fun _ => False) 58 v2648 v2649, HP.famS evtTy (fun _ => False) 62 v2649 x2650] → IsSlice Ty.u8 w2642 R2641 v2 c0_0 → IsSlice Ty.int w2642 R2641 v1553 r1552.lens → IsSlice (Ty.slice Ty.int) w2642 R2641 v1554 r1552.ckpts → Sub [(5, .pointer (some ⟨bl1542, 0, none⟩)), (6, .pointer (some ⟨bl1556, 0, none⟩)), (10, v2648)] E_ → K2427 E_ w2642 := by
          intro x2644 x2650 v2648 v2649 R2641 w2642 E_ h hS f2643 f2645 f2646 hsub
          refine hK2427 _ _ (e_sub hsub ?_); clear hsub
          unfold make_Codes_Lineages_K4 at h
          refine e_seq fun K2653 hK2653 => ?_
          refine e_region_draw mixed (fun _ => False) [0, 0, 1, 7] [] [0, 1, 2, 3] (by kernel_rfl) ?_
          refine q_move rfl rfl ?_
          refine q_loadAgg rfl (Blk.cellsAt (hS.blk 2 rfl) 0 3 rfl) rfl rfl ?_
          refine q_assign rfl rfl ?_
          refine q_storeAgg rfl rfl (hS.blk 1 rfl) rfl (Nat.le_of_ble_eq_true rfl) (all_cons f2645.one (all_cons f2646.one (all_cons (hS.own 3 rfl).one (all_nil)))) rfl rfl fun w2654 hb2654 hO2654 => ?_
          simp only [setN, List.set, List.take, List.drop] at hb2654
          have hk2654 := hS.keptBlk 1 rfl hO2654
          replace f2645 := f2645.kept hk2654
          replace f2646 := f2646.kept hk2654
          replace f2643 := f2643.kept hk2654
          replace hS := hS.setBlk 1 rfl hb2654 hO2654; simp only [List.set] at hS
          refine eseq_nil ?_
          refine hK2653 _ _ ?_
          refine e_ret ?_
          obtain rfl := Option.some.inj h
          exact ⟨_, resTC rfl rfl rfl ((hS.blk 1 rfl).cellsAt 0 3 rfl) rfl, v2648, v2649, v1553, v1554, v1555, _, rfl, (hS.pickB [0, 4, 5, 3] 6 rfl rfl), f2645, f2646⟩
        refine e_loop (fun m_ E_ w2534 => ∃ (x2536 : Int), ∃ (x2542 : (List (List Evt))), ∃ (x2545 : Int), ∃ (v2540 : Value), ∃ (v2541 : List Value), ∃ (R2533 : Nat → Prop), iter (fun s => make_Codes_Lineages_B1 fuel r1552 c0_0 s.1 s.2.1 s.2.2) m_ (x2536, x2542, x2545) = some tl2429 ∧ Sep F R R2533 w w2534 [HP.blk B0 [v2, .int .i64 x2536] 117, HP.blk bl1542 [.slice none 0 0, .slice none 0 0, .slice none 0 0] 31, HP.blk bl1556 [v1553, v1554, v1555] 31, HP.own arcTy (fun _ => False) 107 v1555 r1552.arcs, HP.own Ty.raw (fun _ => False) 58 v2540 v2541, HP.famS evtTy (fun _ => False) 62 v2541 x2542] ∧ IsSlice Ty.u8 w2534 R2533 v2 c0_0 ∧ IsSlice Ty.int w2534 R2533 v1553 r1552.lens ∧ IsSlice (Ty.slice Ty.int) w2534 R2533 v1554 r1552.ckpts ∧ E_ = [(0, .pointer (some ⟨B0, 0, none⟩)), (5, .pointer (some ⟨bl1542, 0, none⟩)), (6, .pointer (some ⟨bl1556, 0, none⟩)), (10, v2540), (16, .int .i64 x2545)]) _ ⟨_, ⟨x2418, x2424, 0, v2422, v2423, _, ht2429, hS, f2417, f2419, f2420, rfl⟩, Sub.cons rfl (Sub.cons rfl (Sub.cons rfl (Sub.cons rfl (Sub.cons rfl (Sub.nil _)))))⟩ ?_
        clear ht2429 hS
        rintro m2429 _ w2534 ⟨x2536, x2542, x2545, v2540, v2541, R2533, ht2429, hS, f2535, f2537, f2538, rfl⟩
        obtain ⟨m2429, rfl, o2429, ho2429, ht2429⟩ := iter_some ht2429
        replace ho2429 : make_Codes_Lineages_B1 fuel r1552 c0_0 x2536 x2542 x2545 = some o2429 := ho2429
        unfold make_Codes_Lineages_B1 at ho2429
        refine e_seq fun K2655 hK2655 => ?_
        refine e_seq fun K2656 hK2656 => ?_
        refine e_region_text rfl ?_
        refine q_move rfl rfl ?_
        refine q_field rfl rfl ?_
        refine q_load rfl (Blk.cell (hS.blk 2 rfl) rfl) rfl ?_
        refine q_lenS rfl (hS.isl 3 rfl) rfl ?_
        refine q_lss rfl rfl rfl ?_
        refine eseq_nil ?_
        refine hK2656 _ _ ?_
        refine e_cond rfl (fun hc2657 => ?_) (fun hc2657 => ?_)
        · replace ho2429 := (if_pos hc2657).symm.trans ho2429
          refine e_skip ?_
          refine hK2655 _ _ ?_
          refine e_seq fun K2658 hK2658 => ?_
          refine e_block ?_
          refine e_seq fun K2659 hK2659 => ?_
          refine e_region_text rfl ?_
          refine q_field rfl rfl ?_
          refine q_load rfl (Blk.cell (hS.blk 2 rfl) rfl) rfl ?_
          refine q_move rfl rfl ?_
          obtain ⟨x2660, hx2660, ho2429⟩ := Option.of_bind ho2429
          refine q_indexO (by infer_instance) rfl (hS.own 3 rfl) rfl hx2660 rfl ?_
          have f2661 := (hS.ownR 3 rfl).elt hx2660
          have hc2662 := Arc_open f2661
          refine q_loadAgg rfl hc2662 rfl rfl ?_
          refine q_allocB rfl fun w2663 bl2663 hg2663 hb2663 hB2663 => ?_
          replace f2535 := f2535.ext hB2663
          replace f2537 := f2537.ext hB2663
          replace f2538 := f2538.ext hB2663
          replace hS := hS.newBlk hB2663 hg2663 hb2663
          refine q_storeAgg rfl rfl (hS.blk 0 rfl) rfl (Nat.le_of_ble_eq_true rfl) (all_cons rfl (all_cons rfl (all_cons rfl (all_cons rfl (all_nil))))) rfl rfl fun w2665 hb2665 hO2665 => ?_
          simp only [setN, List.set, List.take, List.drop] at hb2665
          have hk2665 := hS.keptBlk 0 rfl hO2665
          replace f2535 := f2535.kept hk2665
          replace f2537 := f2537.kept hk2665
          replace f2538 := f2538.kept hk2665
          replace hS := hS.setBlk 0 rfl hb2665 hO2665; simp only [List.set] at hS
          refine eseq_nil ?_
          refine hK2659 _ _ ?_
          refine e_seq fun K2666 hK2666 => ?_
          have hJt2696 : ∀ (x2668 : Evt) (r2672 : (Int × Int)) (B2695 : Nat) (R2686 : Nat → Prop) (w2687 : World) (E_ : Env), make_Codes_Lineages_J1 fuel x2660 x2542 x2668 r2672 x2545 = some o2429 → Sep F R R2686 w w2687 [HP.blk B0 [v2, .int .i64 r2672.2] 117, HP.blk bl1542 [.slice none 0 0, .slice none 0 0, .slice none 0 0] 31, HP.blk bl1556 [v1553, v1554, v1555] 31, HP.own arcTy (fun _ => False) 107 v1555 r1552.arcs, HP.own Ty.raw (fun _ => False) 58 v2540 v2541, HP.famS evtTy (fun _ => False) 62 v2541 x2542, HP.blk bl2663 [.int .i64 x2660.fr, .int .i64 x2660.ix, .int .i64 x2660.to, .int .i64 x2660.rcv] 107, HP.blk B2695 [.int .i64 1, .int .i64 x2668.inc, .int .i64 x2660.fr, .int .i64 0, .int .i64 0, .int .i64 r2672.1, .int .i64 1] 62] → IsSlice Ty.u8 w2687 R2686 v2 c0_0 → IsSlice Ty.int w2687 R2686 v1553 r1552.lens → IsSlice (Ty.slice Ty.int) w2687 R2686 v1554 r1552.ckpts → Sub [(0, .pointer (some ⟨B0, 0, none⟩)), (5, .pointer (some ⟨bl1542, 0, none⟩)), (6, .pointer (some ⟨bl1556, 0, none⟩)), (10, v2540), (16, .int .i64 x2545), (17, .pointer (some ⟨bl2663, 0, none⟩)), (18, .pointer (some ⟨B2695, 0, none⟩))] E_ → K2666 E_ w2687 := by
            intro x2668 r2672 B2695 R2686 w2687 E_ ho2429 hS f2688 f2689 f2690 hsub
            refine hK2666 _ _ (e_sub hsub ?_); clear hsub
            unfold make_Codes_Lineages_J1 at ho2429
            refine e_seq fun K2697 hK2697 => ?_
            have hJ2697 : ∀ (x2713 : Int) (x2714 : Int) (R2705 : Nat → Prop) (w2706 : World) (E_ : Env), make_Codes_Lineages_J2 fuel x2542 x2660 x2668 r2672 x2545 x2713 x2714 = some o2429 → Sep F R R2705 w w2706 [HP.blk B0 [v2, .int .i64 r2672.2] 117, HP.blk bl1542 [.slice none 0 0, .slice none 0 0, .slice none 0 0] 31, HP.blk bl1556 [v1553, v1554, v1555] 31, HP.own arcTy (fun _ => False) 107 v1555 r1552.arcs, HP.own Ty.raw (fun _ => False) 58 v2540 v2541, HP.famS evtTy (fun _ => False) 62 v2541 x2542, HP.blk bl2663 [.int .i64 x2660.fr, .int .i64 x2660.ix, .int .i64 x2660.to, .int .i64 x2660.rcv] 107, HP.blk B2695 [.int .i64 1, .int .i64 x2668.inc, .int .i64 x2660.fr, .int .i64 x2713, .int .i64 x2714, .int .i64 r2672.1, .int .i64 1] 62] → IsSlice Ty.u8 w2706 R2705 v2 c0_0 → IsSlice Ty.int w2706 R2705 v1553 r1552.lens → IsSlice (Ty.slice Ty.int) w2706 R2705 v1554 r1552.ckpts → Sub [(0, .pointer (some ⟨B0, 0, none⟩)), (5, .pointer (some ⟨bl1542, 0, none⟩)), (6, .pointer (some ⟨bl1556, 0, none⟩)), (10, v2540), (16, .int .i64 x2545), (17, .pointer (some ⟨bl2663, 0, none⟩)), (18, .pointer (some ⟨B2695, 0, none⟩))] E_ → K2697 E_ w2706 := by
              intro x2713 x2714 R2705 w2706 E_ ho2429 hS f2707 f2708 f2709 hsub
              refine hK2697 _ _ (e_sub hsub ?_); clear hsub
              unfold make_Codes_Lineages_J2 at ho2429
              refine e_region_draw mixed (fun _ => False) [0, 0, 2, 7, 15, 0, 32, 96, 0, 511, 1023] [] [0, 1, 2, 3, 4, 5, 6, 7, 8, 9, 10] (by kernel_rfl) ?_
              refine q_move rfl rfl ?_
              refine q_field rfl rfl ?_
              refine q_load rfl (Blk.cell (hS.blk 6 rfl) rfl) rfl ?_
              obtain ⟨x2715, hx2715, ho2429⟩ := Option.of_bind ho2429
              have hax2715 := ati_nth (hS.famLen 5 rfl) hx2715
              refine q_indexO (T := Ty.raw) (by infer_instance) rfl (hS.own 4 rfl) rfl hax2715 rfl ?_
              refine q_load rfl (Elt.rawCell ((hS.own 4 rfl).elt hax2715)) rfl ?_
              refine q_field rfl rfl ?_
              refine q_load rfl (Blk.cell (hS.blk 6 rfl) rfl) rfl ?_
              refine q_subW rfl rfl rfl ?_
              refine q_loadAgg rfl (Blk.cellsAt (hS.blk 7 rfl) 0 7 rfl) rfl rfl ?_
              obtain ⟨x2716, hx2716, ho2429⟩ := Option.of_bind ho2429
              refine q_indexO (by infer_instance) rfl (hS.famO 5 rfl hx2715) rfl hx2716 rfl ?_
              obtain ⟨x2718, hx2718, ho2429⟩ := Option.of_bind ho2429
              obtain ⟨x2719, hx2719, ho2429⟩ := Option.of_bind ho2429
              refine q_storeOA (T := evtTy) (j := 0) rfl rfl (hS.famO 5 rfl hx2715) hx2716 hx2718 rfl rfl (all_cons rfl (all_cons rfl (all_cons rfl (all_cons rfl (all_cons rfl (all_cons rfl (all_cons rfl (all_nil)))))))) rfl (Enc.setNL rfl) fun w2717 ho2717 hO2717 => ?_
              have hk2717 := hS.famKeptC 5 rfl hx2715 hx2716 hO2717
              replace f2707 := f2707.kept hk2717
              replace f2708 := f2708.kept hk2717
              replace f2709 := f2709.kept hk2717
              replace hS := hS.famCellM 5 rfl hx2715 hx2716 hx2719 ho2717 hO2717; simp only [List.set] at hS
              have hr2717 := ati_seti_same hx2719
              refine eseq_nil ?_
              refine hK2658 _ _ ?_
              refine e_region_text rfl ?_
              refine q_move rfl rfl ?_
              refine q_addW rfl rfl rfl ?_
              refine q_assign rfl rfl ?_
              refine eseq_nil ?_
              obtain rfl := Option.some.inj ho2429
              exact ⟨m2429, _, Nat.lt_succ_self _, ⟨r2672.2, x2719, (w64 (x2545 + 1)), v2540, v2541, _, ht2429, (hS.pickB [0, 1, 2, 3, 4, 5] 8 rfl rfl), f2707, f2708, f2709, rfl⟩, Sub.cons rfl (Sub.cons rfl (Sub.cons rfl (Sub.cons rfl (Sub.cons rfl (Sub.nil _)))))⟩
            refine e_seq fun K2720 hK2720 => ?_
            refine e_region_text rfl ?_
            refine q_field rfl rfl ?_
            refine q_load rfl (Blk.cell (hS.blk 6 rfl) rfl) rfl ?_
            refine q_gtr rfl rfl rfl ?_
            refine eseq_nil ?_
            refine hK2720 _ _ ?_
            refine e_cond rfl (fun hc2721 => ?_) (fun hc2721 => ?_)
            · replace ho2429 := (if_pos hc2721).symm.trans ho2429
              refine e_region_draw mixed (fun _ => False) [0, 0, 2, 7, 15, 0, 32, 96, 255, 511, 1023, 0, 2048, 8191, 16383, 32767] [] [0, 1, 2, 3, 4, 5, 6, 7, 8, 9, 10, 11, 12, 13, 14, 15] (by kernel_rfl) ?_
              refine q_move rfl rfl ?_
              refine q_field rfl rfl ?_
              refine q_load rfl (Blk.cell (hS.blk 6 rfl) rfl) rfl ?_
              obtain ⟨x2722, hx2722, ho2429⟩ := Option.of_bind ho2429
              have hax2722 := ati_nth (hS.famLen 5 rfl) hx2722
              refine q_indexO (T := Ty.raw) (by infer_instance) rfl (hS.own 4 rfl) rfl hax2722 rfl ?_
              refine q_load rfl (Elt.rawCell ((hS.own 4 rfl).elt hax2722)) rfl ?_
              refine q_field rfl rfl ?_
              refine q_load rfl (Blk.cell (hS.blk 6 rfl) rfl) rfl ?_
              refine q_subW rfl rfl rfl ?_
              obtain ⟨x2723, hx2723, ho2429⟩ := Option.of_bind ho2429
              refine q_indexO (by infer_instance) rfl (hS.famO 5 rfl hx2722) rfl hx2723 rfl ?_
              refine q_field rfl rfl ?_
              have f2724 := (hS.famOR 5 rfl hx2722).elt hx2723
              have f2725 := Evt_F1 f2724
              refine q_load rfl (Elt.intCell f2725) rfl ?_
              refine q_field rfl rfl ?_
              refine q_load rfl (Blk.cell (hS.blk 6 rfl) rfl) rfl ?_
              refine q_build (Parts.cons rfl rfl (Parts.cons rfl rfl Parts.nil)) rfl rfl ?_
              refine q_field rfl rfl ?_
              refine q_storeAgg rfl rfl (hS.blk 7 rfl) rfl (Nat.le_of_ble_eq_true rfl) (all_cons rfl (all_cons rfl (all_nil))) rfl rfl fun w2726 hb2726 hO2726 => ?_
              simp only [setN, List.set, List.take, List.drop] at hb2726
              have hk2726 := hS.keptBlk 7 rfl hO2726
              replace f2688 := f2688.kept hk2726
              replace f2689 := f2689.kept hk2726
              replace f2690 := f2690.kept hk2726
              replace hS := hS.setBlk 7 rfl hb2726 hO2726; simp only [List.set] at hS
              refine eseq_nil ?_
              exact hJ2697 x2723.inc x2660.ix _ _ _ ho2429 hS f2688 f2689 f2690 (Sub.cons rfl (Sub.cons rfl (Sub.cons rfl (Sub.cons rfl (Sub.cons rfl (Sub.cons rfl (Sub.cons rfl (Sub.nil _))))))))
            · replace ho2429 := (if_neg (not_true hc2721)).symm.trans ho2429
              refine e_skip ?_
              exact hJ2697 0 0 _ _ _ ho2429 hS f2688 f2689 f2690 (Sub.cons rfl (Sub.cons rfl (Sub.cons rfl (Sub.cons rfl (Sub.cons rfl (Sub.cons rfl (Sub.cons rfl (Sub.nil _))))))))
          obtain ⟨x2667, hx2667, ho2429⟩ := Option.of_bind ho2429
          obtain ⟨x2668, hx2668, ho2429⟩ := Option.of_bind ho2429
          obtain ⟨r2672, hr2672, ho2429⟩ := Option.of_bind ho2429
          refine e_region_T mixed (fun k => k = B0) [0, 0, 2, 7, 15, 0, 32, 96, 255, 511, 1023, 0, 2048, 0, 8192, 32767, 0, 131071] [14, 16] (QT.op 0 (QT.op 1 (QT.op 2 (QT.op 3 (QT.op 4 (QT.op 5 (QT.op 6 (QT.op 7 (QT.op 8 (QT.op 9 (QT.op 10 (QT.op 11 (QT.op 12 (QT.op 13 (QT.alt (QT.op 14 (QT.op 15 (QT.op 16 (QT.op 17 QT.fin)))) (QT.op 16 (QT.op 14 (QT.op 15 (QT.op 17 QT.fin))))))))))))))))))) (by kernel_rfl) ?_
          refine t_op ?_
          refine q_move rfl rfl ?_
          refine eseq_nil ?_
          refine t_op ?_
          refine q_field rfl rfl ?_
          refine eseq_nil ?_
          refine t_op ?_
          refine q_load rfl (Blk.cell (hS.blk 0 rfl) rfl) rfl ?_ (hX := fun hx_ => hS.apart 0 1 rfl rfl (by decide) _ rfl hx_)
          refine eseq_nil ?_
          refine t_op ?_
          have hax2667 := ati_nth (hS.famLen 6 rfl) hx2667
          refine q_indexO (T := Ty.raw) (by infer_instance) rfl (hS.own 5 rfl) rfl hax2667 rfl ?_
          refine eseq_nil ?_
          refine t_op ?_
          refine q_load rfl (Elt.rawCell ((hS.own 5 rfl).elt hax2667)) rfl ?_ (hX := fun hx_ => hS.apart 5 1 rfl rfl (by decide) _ ((hS.own 5 rfl).vblk hax2667) hx_)
          refine eseq_nil ?_
          refine t_op ?_
          refine q_field rfl rfl ?_
          refine eseq_nil ?_
          refine t_op ?_
          refine q_load rfl (Blk.cell (hS.blk 0 rfl) rfl) rfl ?_ (hX := fun hx_ => hS.apart 0 1 rfl rfl (by decide) _ rfl hx_)
          refine eseq_nil ?_
          refine t_op ?_
          refine q_subW rfl rfl rfl ?_
          refine eseq_nil ?_
          refine t_op ?_
          refine q_indexO (by infer_instance) rfl (hS.famO 6 rfl hx2667) rfl hx2668 rfl ?_
          refine eseq_nil ?_
          refine t_op ?_
          refine q_field rfl rfl ?_
          refine eseq_nil ?_
          refine t_op ?_
          have f2727 := (hS.famOR 6 rfl hx2667).elt hx2668
          have f2728 := Evt_F1 f2727
          refine q_load rfl (Elt.intCell f2728) rfl ?_ (hX := fun hx_ => hS.apart 6 1 rfl rfl (by decide) _ (hS.famFoot 6 rfl hx2667 _ ((hS.famO 6 rfl hx2667).vblk hx2668)) hx_)
          refine eseq_nil ?_
          refine t_op ?_
          refine q_field rfl rfl ?_
          refine eseq_nil ?_
          refine t_op ?_
          refine q_load rfl (Blk.cell (hS.blk 0 rfl) rfl) rfl ?_ (hX := fun hx_ => hS.apart 0 1 rfl rfl (by decide) _ rfl hx_)
          refine eseq_nil ?_
          refine t_op ?_
          refine q_move rfl rfl ?_
          refine eseq_nil ?_
          refine t_alt ?_ ?_
          · skip
            refine t_op ?_
            replace hS := hS.pickB [1, 0, 2, 3, 4, 5, 6] 7 rfl rfl; simp only [List.map_cons, List.map_nil, List.getD_cons_zero, List.getD_cons_succ] at hS
            refine q_call rfl (make_Codes_Next_w (Sep.enter (As := [_]) hS) f2535 hr2672) rfl ?_
            rintro _ w2729 ⟨R2729, rfl, hC2729⟩
            refine ⟨fun _ => hC2729.relX1, ?_⟩
            have hk2729 := hC2729.keptR (Sep.offFeet (As := [_]) hS)
            replace f2535 := (f2535.kept hk2729).mono fun k hk _ => hC2729.ro0 k hk
            replace f2537 := (f2537.kept hk2729).mono fun k hk _ => hC2729.ro0 k hk
            replace f2538 := (f2538.kept hk2729).mono fun k hk _ => hC2729.ro0 k hk
            replace hS := Sep.leave (As := [_]) hS hC2729; simp only [List.cons_append, List.nil_append] at hS
            refine eseq_nil ?_
            refine t_op ?_
            refine q_build (Parts.cons rfl rfl (Parts.cons rfl rfl (Parts.cons rfl rfl (Parts.cons rfl rfl (Parts.cons rfl rfl Parts.nil))))) rfl rfl ?_
            refine eseq_nil ?_
            refine t_op ?_
            refine q_allocB rfl fun w2730 bl2730 hg2730 hb2730 hB2730 => ?_
            replace f2535 := f2535.ext hB2730
            replace f2537 := f2537.ext hB2730
            replace f2538 := f2538.ext hB2730
            replace hS := hS.newBlk hB2730 hg2730 hb2730
            refine eseq_nil ?_
            refine t_op ?_
            refine q_storeAgg rfl rfl (hS.blk 0 rfl) rfl (Nat.le_of_ble_eq_true rfl) (all_cons rfl (all_cons rfl (all_cons rfl (all_cons rfl (all_cons rfl (all_cons rfl (all_cons rfl (all_nil)))))))) rfl rfl fun w2732 hb2732 hO2732 => ?_
            simp only [setN, List.set, List.take, List.drop] at hb2732
            have hk2732 := hS.keptBlk 0 rfl hO2732
            replace f2535 := f2535.kept hk2732
            replace f2537 := f2537.kept hk2732
            replace f2538 := f2538.kept hk2732
            replace hS := hS.setBlk 0 rfl hb2732 hO2732; simp only [List.set] at hS
            refine eseq_nil ?_
            refine t_fin ?_
            exact hJt2696 x2668 r2672 bl2730 _ _ _ ho2429 (hS.pickB [1, 3, 4, 5, 6, 7, 2, 0] 8 rfl rfl) f2535 f2537 f2538 (Sub.cons rfl (Sub.cons rfl (Sub.cons rfl (Sub.cons rfl (Sub.cons rfl (Sub.cons rfl (Sub.cons rfl (Sub.nil _))))))))
          · skip
            refine t_op ?_
            refine q_allocB rfl fun w2733 bl2733 hg2733 hb2733 hB2733 => ?_
            replace f2535 := f2535.ext hB2733
            replace f2537 := f2537.ext hB2733
            replace f2538 := f2538.ext hB2733
            replace hS := hS.newBlk hB2733 hg2733 hb2733
            refine eseq_nil ?_
            refine t_op ?_
            replace hS := hS.pickB [2, 0, 1, 3, 4, 5, 6, 7] 8 rfl rfl; simp only [List.map_cons, List.map_nil, List.getD_cons_zero, List.getD_cons_succ] at hS
            refine q_call rfl (make_Codes_Next_w (Sep.enter (As := [_]) hS) f2535 hr2672) rfl ?_
            rintro _ w2735 ⟨R2735, rfl, hC2735⟩
            refine ⟨fun _ => hC2735.relX1, ?_⟩
            have hk2735 := hC2735.keptR (Sep.offFeet (As := [_]) hS)
            replace f2535 := (f2535.kept hk2735).mono fun k hk _ => hC2735.ro0 k hk
            replace f2537 := (f2537.kept hk2735).mono fun k hk _ => hC2735.ro0 k hk
            replace f2538 := (f2538.kept hk2735).mono fun k hk _ => hC2735.ro0 k hk
            replace hS := Sep.leave (As := [_]) hS hC2735; simp only [List.cons_append, List.nil_append] at hS
            refine eseq_nil ?_
            refine t_op ?_
            refine q_build (Parts.cons rfl rfl (Parts.cons rfl rfl (Parts.cons rfl rfl (Parts.cons rfl rfl (Parts.cons rfl rfl Parts.nil))))) rfl rfl ?_
            refine eseq_nil ?_
            refine t_op ?_
            refine q_storeAgg rfl rfl (hS.blk 1 rfl) rfl (Nat.le_of_ble_eq_true rfl) (all_cons rfl (all_cons rfl (all_cons rfl (all_cons rfl (all_cons rfl (all_cons rfl (all_cons rfl (all_nil)))))))) rfl rfl fun w2736 hb2736 hO2736 => ?_
            simp only [setN, List.set, List.take, List.drop] at hb2736
            have hk2736 := hS.keptBlk 1 rfl hO2736
            replace f2535 := f2535.kept hk2736
            replace f2537 := f2537.kept hk2736
            replace f2538 := f2538.kept hk2736
            replace hS := hS.setBlk 1 rfl hb2736 hO2736; simp only [List.set] at hS
            refine eseq_nil ?_
            refine t_fin ?_
            exact hJt2696 x2668 r2672 bl2733 _ _ _ ho2429 (hS.pickB [0, 3, 4, 5, 6, 7, 2, 1] 8 rfl rfl) f2535 f2537 f2538 (Sub.cons rfl (Sub.cons rfl (Sub.cons rfl (Sub.cons rfl (Sub.cons rfl (Sub.cons rfl (Sub.cons rfl (Sub.nil _))))))))
        · replace ho2429 := (if_neg (not_true hc2657)).symm.trans ho2429
          refine e_exit ?_
          obtain rfl := Option.some.inj ho2429
          obtain rfl := Option.some.inj ht2429
          exact hX2429_10 x2536 x2542 v2540 v2541 _ _ _ h hS f2535 f2537 f2538 (Sub.cons rfl (Sub.cons rfl (Sub.cons rfl (Sub.nil _))))
      refine e_loop (fun m_ E_ w2209 => ∃ (x2211 : Int), ∃ (x2218 : (List (List Evt))), ∃ (x2221 : Int), ∃ (v2216 : Value), ∃ (v2217 : List Value), ∃ (R2208 : Nat → Prop), iter (fun s => make_Codes_Lineages_B2 fuel r1552 x1634 c0_0 s.1 s.2.1 s.2.2) m_ (x2211, x2218, x2221) = some tl2005 ∧ Sep F R R2208 w w2209 [HP.blk B0 [v2, .int .i64 x2211] 117, HP.blk bl1542 [.slice none 0 0, .slice none 0 0, .slice none 0 0] 31, HP.blk bl1556 [v1553, v1554, v1555] 31, HP.own arcTy (fun _ => False) 107 v1555 r1552.arcs, HP.own Ty.int (fun _ => False) 3 v1633 x1634, HP.own Ty.raw (fun _ => False) 58 v2216 v2217, HP.famS evtTy (fun _ => False) 62 v2217 x2218] ∧ IsSlice Ty.u8 w2209 R2208 v2 c0_0 ∧ IsSlice Ty.int w2209 R2208 v1553 r1552.lens ∧ IsSlice (Ty.slice Ty.int) w2209 R2208 v1554 r1552.ckpts ∧ E_ = [(0, .pointer (some ⟨B0, 0, none⟩)), (5, .pointer (some ⟨bl1542, 0, none⟩)), (6, .pointer (some ⟨bl1556, 0, none⟩)), (7, .int .i64 (r1552.lens.length : Int)), (8, v1633), (10, v2216), (13, .int .i64 x2221)]) _ ⟨_, ⟨x1993, x2000, 0, v1998, v1999, _, ht2005, hS, f1992, f1994, f1995, rfl⟩, Sub.cons rfl (Sub.cons rfl (Sub.cons rfl (Sub.cons rfl (Sub.cons rfl (Sub.cons rfl (Sub.cons rfl (Sub.nil _)))))))⟩ ?_
      clear ht2005 hS
      rintro m2005 _ w2209 ⟨x2211, x2218, x2221, v2216, v2217, R2208, ht2005, hS, f2210, f2212, f2213, rfl⟩
      obtain ⟨m2005, rfl, o2005, ho2005, ht2005⟩ := iter_some ht2005
      replace ho2005 : make_Codes_Lineages_B2 fuel r1552 x1634 c0_0 x2211 x2218 x2221 = some o2005 := ho2005
      unfold make_Codes_Lineages_B2 at ho2005
      refine e_seq fun K2737 hK2737 => ?_
      refine e_seq fun K2738 hK2738 => ?_
      refine e_region_text rfl ?_
      refine q_move rfl rfl ?_
      refine q_move rfl rfl ?_
      refine q_lss rfl rfl rfl ?_
      refine eseq_nil ?_
      refine hK2738 _ _ ?_
      refine e_cond rfl (fun hc2739 => ?_) (fun hc2739 => ?_)
      · replace ho2005 := (if_pos hc2739).symm.trans ho2005
        refine e_skip ?_
        refine hK2737 _ _ ?_
        refine e_seq fun K2740 hK2740 => ?_
        refine e_block ?_
        refine e_seq fun K2741 hK2741 => ?_
        refine e_region_text rfl ?_
        refine q_assign rfl rfl ?_
        refine eseq_nil ?_
        refine hK2741 _ _ ?_
        refine e_seq fun K2742 hK2742 => ?_
        refine e_region_text rfl ?_
        refine q_assign rfl rfl ?_
        refine eseq_nil ?_
        refine hK2742 _ _ ?_
        refine e_block ?_
        obtain ⟨tl2743, ht2743, ho2005⟩ := Option.of_bind ho2005
        have hX2743_8 : ∀ (x2871 : Int) (x2878 : (List (List Evt))) (v2876 : Value) (v2877 : List Value) (R2868 : Nat → Prop) (w2869 : World) (E_ : Env), make_Codes_Lineages_K5 fuel x2221 x2871 x2878 = some o2005 → Sep F R R2868 w w2869 [HP.blk B0 [v2, .int .i64 x2871] 117, HP.blk bl1542 [.slice none 0 0, .slice none 0 0, .slice none 0 0] 31, HP.blk bl1556 [v1553, v1554, v1555] 31, HP.own arcTy (fun _ => False) 107 v1555 r1552.arcs, HP.own Ty.int (fun _ => False) 3 v1633 x1634, HP.own Ty.raw (fun _ => False) 58 v2876 v2877, HP.famS evtTy (fun _ => False) 62 v2877 x2878] → IsSlice Ty.u8 w2869 R2868 v2 c0_0 → IsSlice Ty.int w2869 R2868 v1553 r1552.lens → IsSlice (Ty.slice Ty.int) w2869 R2868 v1554 r1552.ckpts → Sub [(0, .pointer (some ⟨B0, 0, none⟩)), (5, .pointer (some ⟨bl1542, 0, none⟩)), (6, .pointer (some ⟨bl1556, 0, none⟩)), (7, .int .i64 (r1552.lens.length : Int)), (8, v1633), (10, v2876), (13, .int .i64 x2221)] E_ → K2740 E_ w2869 := by
          intro x2871 x2878 v2876 v2877 R2868 w2869 E_ ho2005 hS f2870 f2872 f2873 hsub
          refine hK2740 _ _ (e_sub hsub ?_); clear hsub
          unfold make_Codes_Lineages_K5 at ho2005
          refine e_region_text rfl ?_
          refine q_move rfl rfl ?_
          refine q_addW rfl rfl rfl ?_
          refine q_assign rfl rfl ?_
          refine eseq_nil ?_
          obtain rfl := Option.some.inj ho2005
          exact ⟨m2005, _, Nat.lt_succ_self _, ⟨x2871, x2878, (w64 (x2221 + 1)), v2876, v2877, _, ht2005, hS, f2870, f2872, f2873, rfl⟩, Sub.cons rfl (Sub.cons rfl (Sub.cons rfl (Sub.cons rfl (Sub.cons rfl (Sub.cons rfl (Sub.cons rfl (Sub.nil _)))))))⟩
        refine e_loop (fun m_ E_ w2804 => ∃ (x2806 : Int), ∃ (x2813 : (List (List Evt))), ∃ (x2816 : Int), ∃ (x2817 : Int), ∃ (v2811 : Value), ∃ (v2812 : List Value), ∃ (R2803 : Nat → Prop), iter (fun s => make_Codes_Lineages_B3 fuel r1552 x2221 x1634 c0_0 s.1 s.2.1 s.2.2.1 s.2.2.2) m_ (x2806, x2813, x2816, x2817) = some tl2743 ∧ Sep F R R2803 w w2804 [HP.blk B0 [v2, .int .i64 x2806] 117, HP.blk bl1542 [.slice none 0 0, .slice none 0 0, .slice none 0 0] 31, HP.blk bl1556 [v1553, v1554, v1555] 31, HP.own arcTy (fun _ => False) 107 v1555 r1552.arcs, HP.own Ty.int (fun _ => False) 3 v1633 x1634, HP.own Ty.raw (fun _ => False) 58 v2811 v2812, HP.famS evtTy (fun _ => False) 62 v2812 x2813] ∧ IsSlice Ty.u8 w2804 R2803 v2 c0_0 ∧ IsSlice Ty.int w2804 R2803 v1553 r1552.lens ∧ IsSlice (Ty.slice Ty.int) w2804 R2803 v1554 r1552.ckpts ∧ E_ = [(0, .pointer (some ⟨B0, 0, none⟩)), (5, .pointer (some ⟨bl1542, 0, none⟩)), (6, .pointer (some ⟨bl1556, 0, none⟩)), (7, .int .i64 (r1552.lens.length : Int)), (8, v1633), (10, v2811), (13, .int .i64 x2221), (14, .int .i64 x2816), (15, .int .i64 x2817)]) _ ⟨_, ⟨x2211, x2218, 0, 1, v2216, v2217, _, ht2743, hS, f2210, f2212, f2213, rfl⟩, Sub.cons rfl (Sub.cons rfl (Sub.cons rfl (Sub.cons rfl (Sub.cons rfl (Sub.cons rfl (Sub.cons rfl (Sub.cons rfl (Sub.cons rfl (Sub.nil _)))))))))⟩ ?_
        clear ht2743 hS
        rintro m2743 _ w2804 ⟨x2806, x2813, x2816, x2817, v2811, v2812, R2803, ht2743, hS, f2805, f2807, f2808, rfl⟩
        obtain ⟨m2743, rfl, o2743, ho2743, ht2743⟩ := iter_some ht2743
        replace ho2743 : make_Codes_Lineages_B3 fuel r1552 x2221 x1634 c0_0 x2806 x2813 x2816 x2817 = some o2743 := ho2743
        unfold make_Codes_Lineages_B3 at ho2743
        refine e_seq fun K2881 hK2881 => ?_
        refine e_seq fun K2882 hK2882 => ?_
        refine e_region_text rfl ?_
        refine q_move rfl rfl ?_
        refine q_field rfl rfl ?_
        refine q_load rfl (Blk.cell (hS.blk 2 rfl) rfl) rfl ?_
        refine q_move rfl rfl ?_
        obtain ⟨x2883, hx2883, ho2743⟩ := Option.of_bind ho2743
        refine q_atS (by infer_instance) rfl f2807 rfl hx2883 rfl fun b2884 o2884 hm2884 f2884 => ?_
        refine q_load rfl (Elt.intCell f2884) rfl ?_
        refine q_leq rfl rfl rfl ?_
        refine eseq_nil ?_
        refine hK2882 _ _ ?_
        refine e_cond rfl (fun hc2885 => ?_) (fun hc2885 => ?_)
        · replace ho2743 := (if_pos hc2885).symm.trans ho2743
          refine e_skip ?_
          refine hK2881 _ _ ?_
          refine e_seq fun K2886 hK2886 => ?_
          refine e_block ?_
          refine e_seq fun K2887 hK2887 => ?_
          have hJ2887 : ∀ (x2897 : Int) (x2904 : Int) (R2894 : Nat → Prop) (w2895 : World) (E_ : Env), make_Codes_Lineages_J3 fuel x2813 x2221 x2817 x2897 x2904 = some o2743 → Sep F R R2894 w w2895 [HP.blk B0 [v2, .int .i64 x2897] 117, HP.blk bl1542 [.slice none 0 0, .slice none 0 0, .slice none 0 0] 31, HP.blk bl1556 [v1553, v1554, v1555] 31, HP.own arcTy (fun _ => False) 107 v1555 r1552.arcs, HP.own Ty.int (fun _ => False) 3 v1633 x1634, HP.own Ty.raw (fun _ => False) 58 v2811 v2812, HP.famS evtTy (fun _ => False) 62 v2812 x2813] → IsSlice Ty.u8 w2895 R2894 v2 c0_0 → IsSlice Ty.int w2895 R2894 v1553 r1552.lens → IsSlice (Ty.slice Ty.int) w2895 R2894 v1554 r1552.ckpts → Sub [(0, .pointer (some ⟨B0, 0, none⟩)), (5, .pointer (some ⟨bl1542, 0, none⟩)), (6, .pointer (some ⟨bl1556, 0, none⟩)), (7, .int .i64 (r1552.lens.length : Int)), (8, v1633), (10, v2811), (13, .int .i64 x2221), (14, .int .i64 x2904), (15, .int .i64 x2817)] E_ → K2887 E_ w2895 := by
            intro x2897 x2904 R2894 w2895 E_ ho2743 hS f2896 f2898 f2899 hsub
            refine hK2887 _ _ (e_sub hsub ?_); clear hsub
            unfold make_Codes_Lineages_J3 at ho2743
            refine e_region_text rfl ?_
            refine q_move rfl rfl ?_
            refine q_move rfl rfl ?_
            obtain ⟨x2905, hx2905, ho2743⟩ := Option.of_bind ho2743
            have hax2905 := ati_nth (hS.famLen 6 rfl) hx2905
            refine q_indexO (T := Ty.raw) (by infer_instance) rfl (hS.own 5 rfl) rfl hax2905 rfl ?_
            refine q_load rfl (Elt.rawCell ((hS.own 5 rfl).elt hax2905)) rfl ?_
            refine q_move rfl rfl ?_
            refine q_subW rfl rfl rfl ?_
            refine q_move rfl rfl ?_
            obtain ⟨x2906, hx2906, ho2743⟩ := Option.of_bind ho2743
            refine q_indexO (by infer_instance) rfl (hS.famO 6 rfl hx2905) rfl hx2906 rfl ?_
            refine q_field rfl rfl ?_
            obtain ⟨x2908, hx2908, ho2743⟩ := Option.of_bind ho2743
            obtain ⟨x2909, hx2909, ho2743⟩ := Option.of_bind ho2743
            refine q_storeO (T := evtTy) (j := 1) rfl rfl (hS.famO 6 rfl hx2905) hx2906 hx2908 rfl rfl rfl (Enc.setL rfl) fun w2907 ho2907 hO2907 => ?_
            have hk2907 := hS.famKeptC 6 rfl hx2905 hx2906 hO2907
            replace f2896 := f2896.kept hk2907
            replace f2898 := f2898.kept hk2907
            replace f2899 := f2899.kept hk2907
            replace hS := hS.famCellM 6 rfl hx2905 hx2906 hx2909 ho2907 hO2907; simp only [List.set] at hS
            have hr2907 := ati_seti_same hx2909
            refine eseq_nil ?_
            refine hK2886 _ _ ?_
            refine e_region_text rfl ?_
            refine q_move rfl rfl ?_
            refine q_addW rfl rfl rfl ?_
            refine q_assign rfl rfl ?_
            refine eseq_nil ?_
            obtain rfl := Option.some.inj ho2743
            exact ⟨m2743, _, Nat.lt_succ_self _, ⟨x2897, x2909, x2904, (w64 (x2817 + 1)), v2811, v2812, _, ht2743, hS, f2896, f2898, f2899, rfl⟩, Sub.cons rfl (Sub.cons rfl (Sub.cons rfl (Sub.cons rfl (Sub.cons rfl (Sub.cons rfl (Sub.cons rfl (Sub.cons rfl (Sub.cons rfl (Sub.nil _)))))))))⟩
          refine e_seq fun K2910 hK2910 => ?_
          refine e_region_text rfl ?_
          refine q_move rfl rfl ?_
          refine q_move rfl rfl ?_
          refine q_move rfl rfl ?_
          obtain ⟨x2911, hx2911, ho2743⟩ := Option.of_bind ho2743
          refine q_indexO (by infer_instance) rfl (hS.own 4 rfl) rfl hx2911 rfl ?_
          have f2912 := (hS.ownR 4 rfl).elt hx2911
          refine q_load rfl (Elt.intCell f2912) rfl ?_
          obtain ⟨r2914, hr2914, ho2743⟩ := Option.of_bind ho2743
          refine q_call rfl (make_Codes_Next_w (Sep.enter (As := [_]) hS) f2805 hr2914) rfl ?_
          rintro _ w2913 ⟨R2913, rfl, hC2913⟩
          refine ⟨(fun h => by cases h), ?_⟩
          have hk2913 := hC2913.keptR (Sep.offFeet (As := [_]) hS)
          replace f2805 := (f2805.kept hk2913).mono fun k hk _ => hC2913.ro0 k hk
          replace f2807 := (f2807.kept hk2913).mono fun k hk _ => hC2913.ro0 k hk
          replace f2808 := (f2808.kept hk2913).mono fun k hk _ => hC2913.ro0 k hk
          replace hS := Sep.leave (As := [_]) hS hC2913; simp only [List.cons_append, List.nil_append] at hS
          refine q_eql rfl rfl rfl ?_
          refine eseq_nil ?_
          refine hK2910 _ _ ?_
          refine e_cond rfl (fun hc2915 => ?_) (fun hc2915 => ?_)
          · replace ho2743 := (if_pos hc2915).symm.trans ho2743
            refine e_region_text rfl ?_
            refine q_move rfl rfl ?_
            refine q_addW rfl rfl rfl ?_
            refine q_assign rfl rfl ?_
            refine eseq_nil ?_
            exact hJ2887 r2914.2 (w64 (x2816 + 1)) _ _ _ ho2743 hS f2805 f2807 f2808 (Sub.cons rfl (Sub.cons rfl (Sub.cons rfl (Sub.cons rfl (Sub.cons rfl (Sub.cons rfl (Sub.cons rfl (Sub.cons rfl (Sub.cons rfl (Sub.nil _))))))))))
          · replace ho2743 := (if_neg (not_true hc2915)).symm.trans ho2743
            refine e_skip ?_
            exact hJ2887 r2914.2 x2816 _ _ _ ho2743 hS f2805 f2807 f2808 (Sub.cons rfl (Sub.cons rfl (Sub.cons rfl (Sub.cons rfl (Sub.cons rfl (Sub.cons rfl (Sub.cons rfl (Sub.cons rfl (Sub.cons rfl (Sub.nil _))))))))))
        · replace ho2743 := (if_neg (not_true hc2885)).symm.trans ho2743
          refine e_exit ?_
          obtain rfl := Option.some.inj ho2743
          obtain rfl := Option.some.inj ht2743
          exact hX2743_8 x2806 x2813 v2811 v2812 _ _ _ ho2005 hS f2805 f2807 f2808 (Sub.cons rfl (Sub.cons rfl (Sub.cons rfl (Sub.cons rfl (Sub.cons rfl (Sub.cons rfl (Sub.cons rfl (Sub.nil _))))))))
      · replace ho2005 := (if_neg (not_true hc2739)).symm.trans ho2005
        refine e_exit ?_
        obtain rfl := Option.some.inj ho2005
        obtain rfl := Option.some.inj ht2005
        exact hX2005_6 x2211 x2218 v2216 v2217 _ _ _ h (hS.pickB [0, 1, 2, 3, 5, 6] 7 rfl rfl) f2210 f2212 f2213 (Sub.cons rfl (Sub.cons rfl (Sub.cons rfl (Sub.cons rfl (Sub.nil _)))))
    refine e_loop (fun m_ E_ w1815 => ∃ (x1817 : Int), ∃ (x1824 : (List (List Evt))), ∃ (x1827 : Int), ∃ (v1822 : Value), ∃ (v1823 : List Value), ∃ (R1814 : Nat → Prop), iter (fun s => make_Codes_Lineages_B4 fuel r1552 c0_0 s.1 s.2.1 s.2.2) m_ (x1817, x1824, x1827) = some tl1642 ∧ Sep F R R1814 w w1815 [HP.blk B0 [v2, .int .i64 x1817] 117, HP.blk bl1542 [.slice none 0 0, .slice none 0 0, .slice none 0 0] 31, HP.blk bl1556 [v1553, v1554, v1555] 31, HP.own arcTy (fun _ => False) 107 v1555 r1552.arcs, HP.own Ty.int (fun _ => False) 3 v1633 x1634, HP.own Ty.raw (fun _ => False) 58 v1822 v1823, HP.famS evtTy (fun _ => False) 62 v1823 x1824] ∧ IsSlice Ty.u8 w1815 R1814 v2 c0_0 ∧ IsSlice Ty.int w1815 R1814 v1553 r1552.lens ∧ IsSlice (Ty.slice Ty.int) w1815 R1814 v1554 r1552.ckpts ∧ E_ = [(0, .pointer (some ⟨B0, 0, none⟩)), (5, .pointer (some ⟨bl1542, 0, none⟩)), (6, .pointer (some ⟨bl1556, 0, none⟩)), (7, .int .i64 (r1552.lens.length : Int)), (8, v1633), (10, v1822), (11, .int .i64 x1827)]) _ ⟨_, ⟨x1628, x1636, 0, v1637, (List.replicate ((r1552.lens.length : Int)).toNat (.slice none 0 0)), _, ht1642, (hS.pickB [2, 3, 4, 5, 6, 0, 1] 7 rfl rfl), f1627, f1629, f1630, rfl⟩, Sub.cons rfl (Sub.cons rfl (Sub.cons rfl (Sub.cons rfl (Sub.cons rfl (Sub.cons rfl (Sub.cons rfl (Sub.nil _)))))))⟩ ?_
    clear ht1642 hS
    rintro m1642 _ w1815 ⟨x1817, x1824, x1827, v1822, v1823, R1814, ht1642, hS, f1816, f1818, f1819, rfl⟩
    obtain ⟨m1642, rfl, o1642, ho1642, ht1642⟩ := iter_some ht1642
    replace ho1642 : make_Codes_Lineages_B4 fuel r1552 c0_0 x1817 x1824 x1827 = some o1642 := ho1642
    unfold make_Codes_Lineages_B4 at ho1642
    refine e_seq fun K2916 hK2916 => ?_
    refine e_seq fun K2917 hK2917 => ?_
    refine e_region_text rfl ?_
    refine q_move rfl rfl ?_
    refine q_move rfl rfl ?_
    refine q_lss rfl rfl rfl ?_
    refine eseq_nil ?_
    refine hK2917 _ _ ?_
    refine e_cond rfl (fun hc2918 => ?_) (fun hc2918 => ?_)
    · replace ho1642 := (if_pos hc2918).symm.trans ho1642
      refine e_skip ?_
      refine hK2916 _ _ ?_
      refine e_seq fun K2919 hK2919 => ?_
      refine e_block ?_
      refine e_seq fun K2920 hK2920 => ?_
      refine e_region_text rfl ?_
      refine q_assign rfl rfl ?_
      refine eseq_nil ?_
      refine hK2920 _ _ ?_
      refine e_block ?_
      obtain ⟨tl2921, ht2921, ho1642⟩ := Option.of_bind ho1642
      have hX2921_4 : ∀ (x3028 : Int) (x3035 : (List (List Evt))) (v3033 : Value) (v3034 : List Value) (R3025 : Nat → Prop) (w3026 : World) (E_ : Env), make_Codes_Lineages_K6 fuel x1827 x3028 x3035 = some o1642 → Sep F R R3025 w w3026 [HP.blk B0 [v2, .int .i64 x3028] 117, HP.blk bl1542 [.slice none 0 0, .slice none 0 0, .slice none 0 0] 31, HP.blk bl1556 [v1553, v1554, v1555] 31, HP.own arcTy (fun _ => False) 107 v1555 r1552.arcs, HP.own Ty.int (fun _ => False) 3 v1633 x1634, HP.own Ty.raw (fun _ => False) 58 v3033 v3034, HP.famS evtTy (fun _ => False) 62 v3034 x3035] → IsSlice Ty.u8 w3026 R3025 v2 c0_0 → IsSlice Ty.int w3026 R3025 v1553 r1552.lens → IsSlice (Ty.slice Ty.int) w3026 R3025 v1554 r1552.ckpts → Sub [(0, .pointer (some ⟨B0, 0, none⟩)), (5, .pointer (some ⟨bl1542, 0, none⟩)), (6, .pointer (some ⟨bl1556, 0, none⟩)), (7, .int .i64 (r1552.lens.length : Int)), (8, v1633), (10, v3033), (11, .int .i64 x1827)] E_ → K2919 E_ w3026 := by
        intro x3028 x3035 v3033 v3034 R3025 w3026 E_ ho1642 hS f3027 f3029 f3030 hsub
        refine hK2919 _ _ (e_sub hsub ?_); clear hsub
        unfold make_Codes_Lineages_K6 at ho1642
        refine e_region_text rfl ?_
        refine q_move rfl rfl ?_
        refine q_addW rfl rfl rfl ?_
        refine q_assign rfl rfl ?_
        refine eseq_nil ?_
        obtain rfl := Option.some.inj ho1642
        exact ⟨m1642, _, Nat.lt_succ_self _, ⟨x3028, x3035, (w64 (x1827 + 1)), v3033, v3034, _, ht1642, hS, f3027, f3029, f3030, rfl⟩, Sub.cons rfl (Sub.cons rfl (Sub.cons rfl (Sub.cons rfl (Sub.cons rfl (Sub.cons rfl (Sub.cons rfl (Sub.nil _)))))))⟩
      refine e_loop (fun m_ E_ w2972 => ∃ (x2974 : Int), ∃ (x2981 : (List (List Evt))), ∃ (x2984 : Int), ∃ (v2979 : Value), ∃ (v2980 : List Value), ∃ (R2971 : Nat → Prop), iter (fun s => make_Codes_Lineages_B5 fuel r1552 x1827 c0_0 s.1 s.2.1 s.2.2) m_ (x2974, x2981, x2984) = some tl2921 ∧ Sep F R R2971 w w2972 [HP.blk B0 [v2, .int .i64 x2974] 117, HP.blk bl1542 [.slice none 0 0, .slice none 0 0, .slice none 0 0] 31, HP.blk bl1556 [v1553, v1554, v1555] 31, HP.own arcTy (fun _ => False) 107 v1555 r1552.arcs, HP.own Ty.int (fun _ => False) 3 v1633 x1634, HP.own Ty.raw (fun _ => False) 58 v2979 v2980, HP.famS evtTy (fun _ => False) 62 v2980 x2981] ∧ IsSlice Ty.u8 w2972 R2971 v2 c0_0 ∧ IsSlice Ty.int w2972 R2971 v1553 r1552.lens ∧ IsSlice (Ty.slice Ty.int) w2972 R2971 v1554 r1552.ckpts ∧ E_ = [(0, .pointer (some ⟨B0, 0, none⟩)), (5, .pointer (some ⟨bl1542, 0, none⟩)), (6, .pointer (some ⟨bl1556, 0, none⟩)), (7, .int .i64 (r1552.lens.length : Int)), (8, v1633), (10, v2979), (11, .int .i64 x1827), (12, .int .i64 x2984)]) _ ⟨_, ⟨x1817, x1824, 1, v1822, v1823, _, ht2921, hS, f1816, f1818, f1819, rfl⟩, Sub.cons rfl (Sub.cons rfl (Sub.cons rfl (Sub.cons rfl (Sub.cons rfl (Sub.cons rfl (Sub.cons rfl (Sub.cons rfl (Sub.nil _))))))))⟩ ?_
      clear ht2921 hS
      rintro m2921 _ w2972 ⟨x2974, x2981, x2984, v2979, v2980, R2971, ht2921, hS, f2973, f2975, f2976, rfl⟩
      obtain ⟨m2921, rfl, o2921, ho2921, ht2921⟩ := iter_some ht2921
      replace ho2921 : make_Codes_Lineages_B5 fuel r1552 x1827 c0_0 x2974 x2981 x2984 = some o2921 := ho2921
      unfold make_Codes_Lineages_B5 at ho2921
      refine e_seq fun K3038 hK3038 => ?_
      refine e_seq fun K3039 hK3039 => ?_
      refine e_region_text rfl ?_
      refine q_move rfl rfl ?_
      refine q_field rfl rfl ?_
      refine q_load rfl (Blk.cell (hS.blk 2 rfl) rfl) rfl ?_
      refine q_move rfl rfl ?_
      obtain ⟨x3040, hx3040, ho2921⟩ := Option.of_bind ho2921
      refine q_atS (by infer_instance) rfl f2975 rfl hx3040 rfl fun b3041 o3041 hm3041 f3041 => ?_
      refine q_load rfl (Elt.intCell f3041) rfl ?_
      refine q_leq rfl rfl rfl ?_
      refine eseq_nil ?_
      refine hK3039 _ _ ?_
      refine e_cond rfl (fun hc3042 => ?_) (fun hc3042 => ?_)
      · replace ho2921 := (if_pos hc3042).symm.trans ho2921
        refine e_skip ?_
        refine hK3038 _ _ ?_
        refine e_seq fun K3043 hK3043 => ?_
        refine e_block ?_
        refine e_region_draw mixed (fun k => k = B0) [0, 0, 0, 0, 12, 28, 0, 64, 192, 448, 1020, 2047, 4095] [7, 9] [0, 1, 2, 3, 4, 5, 6, 7, 8, 9, 10, 11, 12] (by kernel_rfl) ?_
        refine q_move rfl rfl ?_
        refine q_move rfl rfl ?_
        refine q_move rfl rfl ?_
        refine q_move rfl rfl ?_
        obtain ⟨x3054, hx3054, ho2921⟩ := Option.of_bind ho2921
        have hax3054 := ati_nth (hS.famLen 6 rfl) hx3054
        refine q_indexO (T := Ty.raw) (by infer_instance) rfl (hS.own 5 rfl) rfl hax3054 rfl ?_
        refine q_load rfl (Elt.rawCell ((hS.own 5 rfl).elt hax3054)) rfl ?_ (hX := fun hx_ => hS.apart 5 0 rfl rfl (by decide) _ ((hS.own 5 rfl).vblk hax3054) hx_)
        refine q_move rfl rfl ?_
        obtain ⟨r3056, hr3056, ho2921⟩ := Option.of_bind ho2921
        refine q_call rfl (make_Codes_Next_w (Sep.enter (As := [_]) hS) f2973 hr3056) rfl ?_
        rintro _ w3055 ⟨R3055, rfl, hC3055⟩
        refine ⟨fun _ => hC3055.relX1, ?_⟩
        have hk3055 := hC3055.keptR (Sep.offFeet (As := [_]) hS)
        replace f2973 := (f2973.kept hk3055).mono fun k hk _ => hC3055.ro0 k hk
        replace f2975 := (f2975.kept hk3055).mono fun k hk _ => hC3055.ro0 k hk
        replace f2976 := (f2976.kept hk3055).mono fun k hk _ => hC3055.ro0 k hk
        replace hS := Sep.leave (As := [_]) hS hC3055; simp only [List.cons_append, List.nil_append] at hS
        refine q_build (Parts.cons rfl rfl (Parts.cons rfl rfl Parts.nil)) rfl rfl ?_
        refine q_litO (T := evtTy) (S := (fun _ => False)) (cells := [[.int .i64 2, .int .i64 0, .int .i64 0, .int .i64 0, .int .i64 0, .int .i64 0, .int .i64 r3056.1]]) (ys := [(⟨2, 0, 0, (⟨0, 0⟩ : Lab), 0, r3056.1⟩ : Evt)]) ((Parts.cons rfl rfl Parts.nil)) rfl rfl rfl rfl rfl rfl rfl (fun w1 hB => ⟨⟨[_], _, rfl, rfl, ⟨[_], _, rfl, rfl, ⟨[_], _, rfl, rfl, ⟨[_, _], _, rfl, ⟨[_], _, rfl, rfl, rfl⟩, ⟨[_], _, rfl, rfl, rfl⟩⟩⟩⟩⟩, trivial⟩) (fun _ h => h.elim) rfl fun w3057 v3057 ho3057 hv3057 hB3057 => ?_
        replace f2973 := f2973.ext hB3057
        replace f2975 := f2975.ext hB3057
        replace f2976 := f2976.ext hB3057
        replace hS := hS.newOwnS hB3057 ho3057 hv3057 (fun _ h => h.elim)
        obtain ⟨x3060, hx3060, ho2921⟩ := Option.of_bind ho2921
        obtain ⟨x3061, hx3061, ho2921⟩ := Option.of_bind ho2921
        refine q_catOwn (T := evtTy) rfl rfl rfl rfl (hS.famO 7 rfl hx3054) rfl (hS.own 0 rfl) (fun _ h _ => h.elim) (snoc_cat hx3060) (Nat.zero_le _) rfl (fun h => by cases h) fun v3059 w3059 hw3059 hgr3059 hnw3059 => ?_
        have hk3059 := hS.famKeptM 7 rfl hx3054 hgr3059
        replace f2973 := f2973.kept hk3059
        replace f2975 := f2975.kept hk3059
        replace f2976 := f2976.kept hk3059
        replace hS := hS.famSetM 7 rfl hx3054 hx3061 hw3059 hgr3059 hnw3059; simp only [List.set] at hS
        obtain ⟨x3062, hx3062, ho2921⟩ := Option.of_bind ho2921
        have hax3062 := ati_nth (show v2980.length = _ by simpa using hS.famLen 7 rfl) hx3062
        refine q_indexO (T := Ty.raw) (by infer_instance) rfl (hS.own 6 rfl) rfl hax3062 rfl ?_
        refine q_storeO (T := Ty.raw) (j := 0) rfl rfl (hS.own 6 rfl) hax3062 (seti_ok hax3062) rfl hw3059.one rfl (rawSet hw3059.one) fun w3063 ho3063 hO3063 => ?_
        have hk3063 := hS.keptO 6 rfl hax3062 hO3063
        replace f2973 := f2973.kept hk3063
        replace f2975 := f2975.kept hk3063
        replace f2976 := f2976.kept hk3063
        replace hS := hS.putO 6 rfl hax3062 ho3063 hO3063; simp only [List.set] at hS
        refine eseq_nil ?_
        refine hK3043 _ _ ?_
        refine e_region_text rfl ?_
        refine q_move rfl rfl ?_
        refine q_addW rfl rfl rfl ?_
        refine q_assign rfl rfl ?_
        refine eseq_nil ?_
        obtain rfl := Option.some.inj ho2921
        exact ⟨m2921, _, Nat.lt_succ_self _, ⟨r3056.2, x3061, (w64 (x2984 + 1)), v2979, (v2980.set (x1827).toNat v3059), _, ht2921, (hS.pickB [1, 2, 3, 4, 5, 6, 7] 8 rfl rfl), f2973, f2975, f2976, rfl⟩, Sub.cons rfl (Sub.cons rfl (Sub.cons rfl (Sub.cons rfl (Sub.cons rfl (Sub.cons rfl (Sub.cons rfl (Sub.cons rfl (Sub.nil _))))))))⟩
      · replace ho2921 := (if_neg (not_true hc3042)).symm.trans ho2921
        refine e_exit ?_
        obtain rfl := Option.some.inj ho2921
        obtain rfl := Option.some.inj ht2921
        exact hX2921_4 x2974 x2981 v2979 v2980 _ _ _ ho1642 hS f2973 f2975 f2976 (Sub.cons rfl (Sub.cons rfl (Sub.cons rfl (Sub.cons rfl (Sub.cons rfl (Sub.cons rfl (Sub.cons rfl (Sub.nil _))))))))
    · replace ho1642 := (if_neg (not_true hc2918)).symm.trans ho1642
      refine e_exit ?_
      obtain rfl := Option.some.inj ho1642
      obtain rfl := Option.some.inj ht1642
      exact hX1642_2 x1817 x1824 v1822 v1823 _ _ _ h hS f1816 f1818 f1819 (Sub.cons rfl (Sub.cons rfl (Sub.cons rfl (Sub.cons rfl (Sub.cons rfl (Sub.cons rfl (Sub.nil _)))))))
  refine e_loop (fun m_ E_ w1595 => ∃ (x1597 : Int), ∃ (x1603 : (List Int)), ∃ (x1604 : Int), ∃ (v1602 : Value), ∃ (R1594 : Nat → Prop), iter (fun s => make_Codes_Lineages_B6 fuel r1552 c0_0 s.1 s.2.1 s.2.2) m_ (x1597, x1603, x1604) = some tl1566 ∧ Sep F R R1594 w w1595 [HP.blk B0 [v2, .int .i64 x1597] 117, HP.blk bl1542 [.slice none 0 0, .slice none 0 0, .slice none 0 0] 31, HP.blk bl1556 [v1553, v1554, v1555] 31, HP.own arcTy (fun _ => False) 107 v1555 r1552.arcs, HP.own Ty.int (fun _ => False) 3 v1602 x1603] ∧ IsSlice Ty.u8 w1595 R1594 v2 c0_0 ∧ IsSlice Ty.int w1595 R1594 v1553 r1552.lens ∧ IsSlice (Ty.slice Ty.int) w1595 R1594 v1554 r1552.ckpts ∧ E_ = [(0, .pointer (some ⟨B0, 0, none⟩)), (5, .pointer (some ⟨bl1542, 0, none⟩)), (6, .pointer (some ⟨bl1556, 0, none⟩)), (7, .int .i64 (r1552.lens.length : Int)), (8, v1602), (9, .int .i64 x1604)]) _ ⟨_, ⟨r1546.2, x1561, 0, v1562, _, ht1566, (hS.pickB [3, 4, 1, 2, 0] 5 rfl rfl), f2, f1553, f1554, rfl⟩, Sub.cons rfl (Sub.cons rfl (Sub.cons rfl (Sub.cons rfl (Sub.cons rfl (Sub.cons rfl (Sub.nil _))))))⟩ ?_
  clear ht1566 hS
  rintro m1566 _ w1595 ⟨x1597, x1603, x1604, v1602, R1594, ht1566, hS, f1596, f1598, f1599, rfl⟩
  obtain ⟨m1566, rfl, o1566, ho1566, ht1566⟩ := iter_some ht1566
  replace ho1566 : make_Codes_Lineages_B6 fuel r1552 c0_0 x1597 x1603 x1604 = some o1566 := ho1566
  unfold make_Codes_Lineages_B6 at ho1566
  refine e_seq fun K3064 hK3064 => ?_
  refine e_seq fun K3065 hK3065 => ?_
  refine e_region_text rfl ?_
  refine q_move rfl rfl ?_
  refine q_move rfl rfl ?_
  refine q_lss rfl rfl rfl ?_
  refine eseq_nil ?_
  refine hK3065 _ _ ?_
  refine e_cond rfl (fun hc3066 => ?_) (fun hc3066 => ?_)
  · replace ho1566 := (if_pos hc3066).symm.trans ho1566
    refine e_skip ?_
    refine hK3064 _ _ ?_
    refine e_seq fun K3067 hK3067 => ?_
    refine e_block ?_
    refine e_region_text rfl ?_
    refine q_move rfl rfl ?_
    refine q_move rfl rfl ?_
    refine q_move rfl rfl ?_
    obtain ⟨r3069, hr3069, ho1566⟩ := Option.of_bind ho1566
    refine q_call rfl (make_Codes_Next_w (Sep.enter (As := [_]) hS) f1596 hr3069) rfl ?_
    rintro _ w3068 ⟨R3068, rfl, hC3068⟩
    refine ⟨(fun h => by cases h), ?_⟩
    have hk3068 := hC3068.keptR (Sep.offFeet (As := [_]) hS)
    replace f1596 := (f1596.kept hk3068).mono fun k hk _ => hC3068.ro0 k hk
    replace f1598 := (f1598.kept hk3068).mono fun k hk _ => hC3068.ro0 k hk
    replace f1599 := (f1599.kept hk3068).mono fun k hk _ => hC3068.ro0 k hk
    replace hS := Sep.leave (As := [_]) hS hC3068; simp only [List.cons_append, List.nil_append] at hS
    refine q_addW rfl rfl rfl ?_
    obtain ⟨x3070, hx3070, ho1566⟩ := Option.of_bind ho1566
    refine q_indexO (by infer_instance) rfl (hS.own 4 rfl) rfl hx3070 rfl ?_
    obtain ⟨x3072, hx3072, ho1566⟩ := Option.of_bind ho1566
    refine q_storeO (T := Ty.int) (j := 0) rfl rfl (hS.own 4 rfl) hx3070 hx3072 rfl rfl rfl (Enc.setL rfl) fun w3071 ho3071 hO3071 => ?_
    have hk3071 := hS.keptO 4 rfl hx3070 hO3071
    replace f1596 := f1596.kept hk3071
    replace f1598 := f1598.kept hk3071
    replace f1599 := f1599.kept hk3071
    replace hS := hS.putO 4 rfl hx3070 ho3071 hO3071; simp only [List.set] at hS
    refine eseq_nil ?_
    refine hK3067 _ _ ?_
    refine e_region_text rfl ?_
    refine q_move rfl rfl ?_
    refine q_addW rfl rfl rfl ?_
    refine q_assign rfl rfl ?_
    refine eseq_nil ?_
    obtain rfl := Option.some.inj ho1566
    exact ⟨m1566, _, Nat.lt_succ_self _, ⟨r3069.2, x3072, (w64 (x1604 + 1)), v1602, _, ht1566, hS, f1596, f1598, f1599, rfl⟩, Sub.cons rfl (Sub.cons rfl (Sub.cons rfl (Sub.cons rfl (Sub.cons rfl (Sub.cons rfl (Sub.nil _))))))⟩
  · replace ho1566 := (if_neg (not_true hc3066)).symm.trans ho1566
    refine e_exit ?_
    obtain rfl := Option.some.inj ho1566
    obtain rfl := Option.some.inj ht1566
    exact hX1566_0 x1597 x1603 v1602 _ _ _ h hS f1596 f1598 f1599 (Sub.cons rfl (Sub.cons rfl (Sub.cons rfl (Sub.cons rfl (Sub.cons rfl (Sub.nil _))))))
end Go.Proofs.Ytbmjcbhappjnaaa
