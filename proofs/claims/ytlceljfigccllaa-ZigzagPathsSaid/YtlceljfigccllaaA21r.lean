/- Printed walks: A21r. -/
import Derived.Test.YtlceljfigccllaaA21p
import Derived.Test.YtlceljfigccllaaA17r
set_option linter.unusedVariables false
set_option linter.unusedSimpArgs false
namespace Go.Mine
open Go.RowKit
def ref20_SamePoints_K1 (fuel : Nat) : Option (Bool) :=
  some true
def ref20_SamePoints_B1 (fuel : Nat) (a0 : (List Pt)) (a1 : (List Pt)) (x107 : Int) : Option ((Int) ⊕ (Unit ⊕ (Bool))) :=
  (if (decide (x107 < (a0.length : Int))) = true then (ati a0 x107).bind fun x134 => (ati a1 x107).bind fun x137 => (if (!((x134.proc == x137.proc) && ((x134.index == x137.index) && true))) = true then some (Sum.inr (Sum.inr false)) else some (Sum.inl (w64 (x107 + 1)))) else some (Sum.inr (Sum.inl ())))
def ref20_SamePoints (fuel : Nat) (a0 : (List Pt)) (a1 : (List Pt)) : Option (Bool) :=
  (if ((a0.length : Int) != (a1.length : Int)) = true then some false else (iter (fun s => ref20_SamePoints_B1 fuel a0 a1 s) fuel 0).bind (fun t => Sum.elim (fun t => ref20_SamePoints_K1 fuel) (fun t => some t) t))
def ref21_Cycle (fuel : Nat) (a0 : Pat) (a1 : Pt) : Option (Bool) :=
  (ref21_Path fuel (⟨a0.lens, a0.ckpts, a0.arcs⟩ : Pat) (⟨a1.proc, a1.index⟩ : Pt) (⟨a1.proc, a1.index⟩ : Pt)).bind fun r19 => some r19
def ref21_Useless_K1 (fuel : Nat) (x233 : (List Pt)) : Option ((List Pt)) :=
  some x233
def ref21_Useless_B1 (fuel : Nat) (r136 : ((List Pt))) (a0 : Pat) (x190 : (List Pt)) (x192 : Int) : Option (((List Pt) × Int) ⊕ ((List Pt))) :=
  (if (decide (x192 < (r136.length : Int))) = true then (ati r136 x192).bind fun x241 => (ref21_Cycle fuel (⟨a0.lens, a0.ckpts, a0.arcs⟩ : Pat) x241).bind fun r245 => (if r245 = true then (ati r136 x192).bind fun x247 => (snoc x190 x247).bind fun x253 => some (Sum.inl (x253, (w64 (x192 + 1)))) else some (Sum.inl (x190, (w64 (x192 + 1))))) else some (Sum.inr x190))
def ref21_Useless (fuel : Nat) (a0 : Pat) : Option ((List Pt)) :=
  (ref19_All fuel (⟨a0.lens, a0.ckpts, a0.arcs⟩ : Pat)).bind fun r136 => (iter (fun s => ref21_Useless_B1 fuel r136 a0 s.1 s.2) fuel (([] : List Pt), 0)).bind (fun t => ref21_Useless_K1 fuel t)
def ref21_Trackable_K1 (fuel : Nat) : Option (Bool) :=
  some true
def ref21_Trackable_K2 (fuel : Nat) (x650 : Int) : Option ((Int) ⊕ (Unit ⊕ (Bool))) :=
  some (Sum.inl (w64 (x650 + 1)))
def ref21_Trackable_B2 (fuel : Nat) (r482 : ((List Pt))) (x650 : Int) (a0 : Pat) (x865 : Int) : Option ((Int) ⊕ (Unit ⊕ (Bool))) :=
  (if (decide (x865 < (r482.length : Int))) = true then (ati r482 x650).bind fun x919 => (ati r482 x865).bind fun x922 => (ref21_Path fuel (⟨a0.lens, a0.ckpts, a0.arcs⟩ : Pat) x919 x922).bind fun r926 => (andM r926 ((ati r482 x865).bind fun x939 => (ati r482 x650).bind fun x942 => (ref19_Depends fuel (⟨a0.lens, a0.ckpts, a0.arcs⟩ : Pat) x939 x942).bind fun r946 => some (!r946))).bind fun x938 => (if x938 = true then some (Sum.inr (Sum.inr false)) else some (Sum.inl (w64 (x865 + 1)))) else some (Sum.inr (Sum.inl ())))
def ref21_Trackable_B1 (fuel : Nat) (r482 : ((List Pt))) (a0 : Pat) (x650 : Int) : Option ((Int) ⊕ (Unit ⊕ (Bool))) :=
  (if (decide (x650 < (r482.length : Int))) = true then (iter (fun s => ref21_Trackable_B2 fuel r482 x650 a0 s) fuel 0).bind (fun t => Sum.elim (fun t => ref21_Trackable_K2 fuel x650) (fun t => some (Sum.inr (Sum.inr t))) t) else some (Sum.inr (Sum.inl ())))
def ref21_Trackable (fuel : Nat) (a0 : Pat) : Option (Bool) :=
  (ref19_All fuel (⟨a0.lens, a0.ckpts, a0.arcs⟩ : Pat)).bind fun r482 => (iter (fun s => ref21_Trackable_B1 fuel r482 a0 s) fuel 0).bind (fun t => Sum.elim (fun t => ref21_Trackable_K1 fuel) (fun t => some t) t)
end Go.Mine
namespace Go.Proofs.Ytlceljfigccllaa
open Go.RowKit Go.Mine
attribute [local irreducible] eseq ewp iter
theorem ref20_SamePoints_w {F R : Nat → Prop} {w : World} {fuel : Nat} {a0 : (List Pt)} {a1 : (List Pt)} {v1 : Value} {v2 : Value} {r : (Bool)} (hS : Sep F R R w w []) (f1 : IsSlice ptTy w R v1 a0) (f2 : IsSlice ptTy w R v2 a1) (h : ref20_SamePoints fuel a0 a1 = some r) :
    Gives Try.prog 23 [v1, v2] w fun u w1 => ∃ (R1 : Nat → Prop), u = .bool r ∧ Sep F R R1 w w1 [] := by
  refine fn_of Try.func23 rfl Try.ntmps23 (Nat.le_of_ble_eq_true rfl) ?_
  unfold ref20_SamePoints at h
  refine e_seq fun K73 hK73 => ?_
  refine e_region_text rfl ?_
  refine q_assign rfl rfl ?_
  refine eseq_nil ?_
  refine hK73 _ _ ?_
  refine e_seq fun K74 hK74 => ?_
  refine e_seq fun K75 hK75 => ?_
  refine e_region_text rfl ?_
  refine q_move rfl rfl ?_
  refine q_lenS rfl f1 rfl ?_
  refine q_move rfl rfl ?_
  refine q_lenS rfl f2 rfl ?_
  refine q_neq rfl rfl rfl ?_
  refine eseq_nil ?_
  refine hK75 _ _ ?_
  refine e_cond rfl (fun hc76 => ?_) (fun hc76 => ?_)
  · replace h := (if_pos hc76).symm.trans h
    refine e_seq fun K77 hK77 => ?_
    refine e_region_text rfl ?_
    refine q_assign rfl rfl ?_
    refine eseq_nil ?_
    refine hK77 _ _ ?_
    refine e_ret ?_
    obtain rfl := Option.some.inj h
    exact ⟨_, res1 rfl rfl, _, rfl, hS⟩
  · replace h := (if_neg (not_true hc76)).symm.trans h
    refine e_skip ?_
    refine hK74 _ _ ?_
    refine e_seq fun K78 hK78 => ?_
    refine e_seq fun K79 hK79 => ?_
    refine e_region_text rfl ?_
    refine q_assign rfl rfl ?_
    refine eseq_nil ?_
    refine hK79 _ _ ?_
    refine e_block ?_
    obtain ⟨tl80, ht80, h⟩ := Option.of_bind h
    have hX80_0 : ∀ (R126 : Nat → Prop) (w127 : World) (E_ : Env), ref20_SamePoints_K1 fuel = some r → Sep F R R126 w w127 [] → Sub [] E_ → K78 E_ w127 := by
      intro R126 w127 E_ h hS  hsub
      refine hK78 _ _ (e_sub hsub ?_); clear hsub
      unfold ref20_SamePoints_K1 at h
      refine e_seq fun K128 hK128 => ?_
      refine e_region_text rfl ?_
      refine q_assign rfl rfl ?_
      refine eseq_nil ?_
      refine hK128 _ _ ?_
      refine e_ret ?_
      obtain rfl := Option.some.inj h
      exact ⟨_, res1 rfl rfl, _, rfl, hS⟩
    refine e_loop (fun m_ E_ w104 => ∃ (x107 : Int), ∃ (R103 : Nat → Prop), iter (fun s => ref20_SamePoints_B1 fuel a0 a1 s) m_ x107 = some tl80 ∧ Sep F R R103 w w104 [] ∧ IsSlice ptTy w104 R103 v1 a0 ∧ IsSlice ptTy w104 R103 v2 a1 ∧ E_ = [(0, v1), (1, v2), (5, .int .i64 x107)]) _ ⟨_, ⟨0, _, ht80, hS, f1, f2, rfl⟩, Sub.cons rfl (Sub.cons rfl (Sub.cons rfl (Sub.nil _)))⟩ ?_
    clear ht80 hS
    rintro m80 _ w104 ⟨x107, R103, ht80, hS, f105, f106, rfl⟩
    obtain ⟨m80, rfl, o80, ho80, ht80⟩ := iter_some ht80
    replace ho80 : ref20_SamePoints_B1 fuel a0 a1 x107 = some o80 := ho80
    unfold ref20_SamePoints_B1 at ho80
    refine e_seq fun K129 hK129 => ?_
    refine e_seq fun K130 hK130 => ?_
    refine e_region_text rfl ?_
    refine q_move rfl rfl ?_
    refine q_move rfl rfl ?_
    refine q_lenS rfl f105 rfl ?_
    refine q_lss rfl rfl rfl ?_
    refine eseq_nil ?_
    refine hK130 _ _ ?_
    refine e_cond rfl (fun hc131 => ?_) (fun hc131 => ?_)
    · replace ho80 := (if_pos hc131).symm.trans ho80
      refine e_skip ?_
      refine hK129 _ _ ?_
      refine e_seq fun K132 hK132 => ?_
      refine e_block ?_
      refine e_seq fun K133 hK133 => ?_
      refine e_region_draw mixed (fun _ => False) [0, 0, 3, 7, 0, 0, 48, 112, 255] [] [0, 1, 2, 3, 4, 5, 6, 7, 8] (by kernel_rfl) ?_
      refine q_move rfl rfl ?_
      refine q_move rfl rfl ?_
      obtain ⟨x134, hx134, ho80⟩ := Option.of_bind ho80
      refine q_atS (by infer_instance) rfl f105 rfl hx134 rfl fun b135 o135 hm135 f135 => ?_
      have hc136 := Pt_open f135
      refine q_loadAgg rfl hc136 rfl rfl ?_
      refine q_move rfl rfl ?_
      refine q_move rfl rfl ?_
      obtain ⟨x137, hx137, ho80⟩ := Option.of_bind ho80
      refine q_atS (by infer_instance) rfl f106 rfl hx137 rfl fun b138 o138 hm138 f138 => ?_
      have hc139 := Pt_open f138
      refine q_loadAgg rfl hc139 rfl rfl ?_
      refine q_neqA eqT36 (by kernel_rfl) rfl rfl rfl ?_
      refine eseq_nil ?_
      refine hK133 _ _ ?_
      refine e_cond rfl (fun hc140 => ?_) (fun hc140 => ?_)
      · replace ho80 := (if_pos hc140).symm.trans ho80
        refine e_seq fun K141 hK141 => ?_
        refine e_region_text rfl ?_
        refine q_assign rfl rfl ?_
        refine eseq_nil ?_
        refine hK141 _ _ ?_
        refine e_ret ?_
        obtain rfl := Option.some.inj ho80
        obtain rfl := Option.some.inj ht80
        obtain rfl := Option.some.inj h
        exact ⟨_, res1 rfl rfl, _, rfl, hS⟩
      · replace ho80 := (if_neg (not_true hc140)).symm.trans ho80
        refine e_skip ?_
        refine hK132 _ _ ?_
        refine e_region_text rfl ?_
        refine q_move rfl rfl ?_
        refine q_addW rfl rfl rfl ?_
        refine q_assign rfl rfl ?_
        refine eseq_nil ?_
        obtain rfl := Option.some.inj ho80
        exact ⟨m80, _, Nat.lt_succ_self _, ⟨(w64 (x107 + 1)), _, ht80, hS, f105, f106, rfl⟩, Sub.cons rfl (Sub.cons rfl (Sub.cons rfl (Sub.nil _)))⟩
    · replace ho80 := (if_neg (not_true hc131)).symm.trans ho80
      refine e_exit ?_
      obtain rfl := Option.some.inj ho80
      obtain rfl := Option.some.inj ht80
      exact hX80_0  _ _ _ h hS  (Sub.nil _)
theorem ref21_Cycle_w {F R : Nat → Prop} {w : World} {fuel : Nat} {a0 : Pat} {a1 : Pt} {v1 : Value} {v2 : Value} {v3 : Value} {r : (Bool)} (hS : Sep F R R w w []) (f1 : IsSlice Ty.int w R v1 a0.lens) (f2 : IsSlice (Ty.slice Ty.int) w R v2 a0.ckpts) (f3 : IsSlice arcTy w R v3 a0.arcs) (h : ref21_Cycle fuel a0 a1 = some r) :
    Gives Try.prog 20 [.agg #[v1, v2, v3], .agg #[.int .i64 a1.proc, .int .i64 a1.index]] w fun u w1 => ∃ (R1 : Nat → Prop), u = .bool r ∧ Sep F R R1 w w1 [] := by
  refine fn_of Try.func20 rfl Try.ntmps20 (Nat.le_of_ble_eq_true rfl) ?_
  unfold ref21_Cycle at h
  refine e_seq fun K12 hK12 => ?_
  refine e_region_text rfl ?_
  refine q_boxB rfl rfl rfl fun w13 bl13 hg13 hb13 hB13 => ?_
  replace f1 := f1.ext hB13
  replace f2 := f2.ext hB13
  replace f3 := f3.ext hB13
  replace hS := hS.newBlk hB13 hg13 hb13
  refine q_boxB rfl rfl rfl fun w15 bl15 hg15 hb15 hB15 => ?_
  replace f1 := f1.ext hB15
  replace f2 := f2.ext hB15
  replace f3 := f3.ext hB15
  replace hS := hS.newBlk hB15 hg15 hb15
  refine q_assign rfl rfl ?_
  refine eseq_nil ?_
  refine hK12 _ _ ?_
  refine e_seq fun K17 hK17 => ?_
  refine e_region_text rfl ?_
  refine q_loadAgg rfl (Blk.cellsAt (hS.blk 1 rfl) 0 3 rfl) rfl rfl ?_
  refine q_loadAgg rfl (Blk.cellsAt (hS.blk 0 rfl) 0 2 rfl) rfl rfl ?_
  refine q_loadAgg rfl (Blk.cellsAt (hS.blk 0 rfl) 0 2 rfl) rfl rfl ?_
  obtain ⟨r19, hr19, h⟩ := Option.of_bind h
  refine q_call rfl (ref21_Path_w (a0 := (⟨a0.lens, a0.ckpts, a0.arcs⟩ : Pat)) (a1 := (⟨a1.proc, a1.index⟩ : Pt)) (a2 := (⟨a1.proc, a1.index⟩ : Pt)) (Sep.enter (As := []) hS) f1 f2 f3 hr19) rfl ?_
  rintro _ w18 ⟨R18, rfl, hC18⟩
  have hB18 : Below (World.heap w15).size w15 w18 := hC18.stepB0
  refine ⟨fun _ => .of_below hB18, ?_⟩
  replace f1 := (f1.ext hB18).mono fun k hk _ => hC18.ro0 k hk
  replace f2 := (f2.ext hB18).mono fun k hk _ => hC18.ro0 k hk
  replace f3 := (f3.ext hB18).mono fun k hk _ => hC18.ro0 k hk
  replace hS := Sep.leave (As := []) hS hC18; simp only [List.cons_append, List.nil_append] at hS
  refine q_assign rfl rfl ?_
  refine eseq_nil ?_
  refine hK17 _ _ ?_
  refine e_ret ?_
  obtain rfl := Option.some.inj h
  exact ⟨_, res1 rfl rfl, _, rfl, (hS.pickB [] 2 rfl rfl)⟩
theorem ref21_Useless_w {F R : Nat → Prop} {w : World} {fuel : Nat} {a0 : Pat} {v1 : Value} {v2 : Value} {v3 : Value} {r : ((List Pt))} (hS : Sep F R R w w []) (f1 : IsSlice Ty.int w R v1 a0.lens) (f2 : IsSlice (Ty.slice Ty.int) w R v2 a0.ckpts) (f3 : IsSlice arcTy w R v3 a0.arcs) (h : ref21_Useless fuel a0 = some r) :
    Gives Try.prog 25 [.agg #[v1, v2, v3]] w fun u w1 => ∃ (v129 : Value), ∃ (R1 : Nat → Prop), u = v129 ∧ Sep F R R1 w w1 [HP.own ptTy (fun _ => False) 36 v129 r] := by
  refine fn_of Try.func25 rfl Try.ntmps25 (Nat.le_of_ble_eq_true rfl) ?_
  unfold ref21_Useless at h
  refine e_seq fun K130 hK130 => ?_
  refine e_region_text rfl ?_
  refine q_boxB rfl rfl rfl fun w131 bl131 hg131 hb131 hB131 => ?_
  replace f1 := f1.ext hB131
  replace f2 := f2.ext hB131
  replace f3 := f3.ext hB131
  replace hS := hS.newBlk hB131 hg131 hb131
  refine q_assign rfl rfl ?_
  refine eseq_nil ?_
  refine hK130 _ _ ?_
  refine e_seq fun K133 hK133 => ?_
  refine e_region_text rfl ?_
  refine q_assign rfl rfl ?_
  refine eseq_nil ?_
  refine hK133 _ _ ?_
  refine e_seq fun K134 hK134 => ?_
  refine e_region_text rfl ?_
  refine q_loadAgg rfl (Blk.cellsAt (hS.blk 0 rfl) 0 3 rfl) rfl rfl ?_
  obtain ⟨r136, hr136, h⟩ := Option.of_bind h
  refine q_call rfl (ref19_All_w (a0 := (⟨a0.lens, a0.ckpts, a0.arcs⟩ : Pat)) (Sep.enter (As := []) hS) f1 f2 f3 hr136) rfl ?_
  rintro v137 w135 ⟨_, R135, rfl, hC135⟩
  have hB135 : Below (World.heap w131).size w131 w135 := hC135.stepB0
  refine ⟨fun _ => .of_below hB135, ?_⟩
  replace f1 := (f1.ext hB135).mono fun k hk _ => hC135.ro0 k hk
  replace f2 := (f2.ext hB135).mono fun k hk _ => hC135.ro0 k hk
  replace f3 := (f3.ext hB135).mono fun k hk _ => hC135.ro0 k hk
  replace hS := Sep.leave (As := []) hS hC135; simp only [List.cons_append, List.nil_append] at hS
  refine q_assign rfl rfl ?_
  refine eseq_nil ?_
  refine hK134 _ _ ?_
  refine e_seq fun K138 hK138 => ?_
  refine e_seq fun K139 hK139 => ?_
  refine e_region_text rfl ?_
  refine q_assign rfl rfl ?_
  refine eseq_nil ?_
  refine hK139 _ _ ?_
  refine e_block ?_
  obtain ⟨tl140, ht140, h⟩ := Option.of_bind h
  have hX140_0 : ∀ (x233 : (List Pt)) (v232 : Value) (R229 : Nat → Prop) (w230 : World) (E_ : Env), ref21_Useless_K1 fuel x233 = some r → Sep F R R229 w w230 [HP.own ptTy (fun _ => False) 36 v232 x233] → Sub [(3, v232)] E_ → K138 E_ w230 := by
    intro x233 v232 R229 w230 E_ h hS  hsub
    refine hK138 _ _ (e_sub hsub ?_); clear hsub
    unfold ref21_Useless_K1 at h
    refine e_seq fun K234 hK234 => ?_
    refine e_region_text rfl ?_
    refine q_move rfl rfl ?_
    refine q_assign rfl rfl ?_
    refine eseq_nil ?_
    refine hK234 _ _ ?_
    refine e_ret ?_
    obtain rfl := Option.some.inj h
    exact ⟨_, res1 rfl rfl, v232, _, rfl, hS⟩
  replace hS := hS.nilOwn0 ptTy 36
  refine e_loop (fun m_ E_ w184 => ∃ (x190 : (List Pt)), ∃ (x192 : Int), ∃ (v189 : Value), ∃ (R183 : Nat → Prop), iter (fun s => ref21_Useless_B1 fuel r136 a0 s.1 s.2) m_ (x190, x192) = some tl140 ∧ Sep F R R183 w w184 [HP.blk bl131 [v1, v2, v3] 28, HP.own ptTy (fun _ => False) 36 v189 x190, HP.own ptTy (fun _ => False) 36 v137 r136] ∧ IsSlice Ty.int w184 R183 v1 a0.lens ∧ IsSlice (Ty.slice Ty.int) w184 R183 v2 a0.ckpts ∧ IsSlice arcTy w184 R183 v3 a0.arcs ∧ E_ = [(1, .pointer (some ⟨bl131, 0, none⟩)), (3, v189), (4, v137), (5, .int .i64 x192)]) _ ⟨_, ⟨([] : List Pt), 0, (.slice none 0 0), _, ht140, (hS.pickB [2, 0, 1] 3 rfl rfl), f1, f2, f3, rfl⟩, Sub.cons rfl (Sub.cons rfl (Sub.cons rfl (Sub.cons rfl (Sub.nil _))))⟩ ?_
  clear ht140 hS
  rintro m140 _ w184 ⟨x190, x192, v189, R183, ht140, hS, f185, f186, f187, rfl⟩
  obtain ⟨m140, rfl, o140, ho140, ht140⟩ := iter_some ht140
  replace ho140 : ref21_Useless_B1 fuel r136 a0 x190 x192 = some o140 := ho140
  unfold ref21_Useless_B1 at ho140
  refine e_seq fun K236 hK236 => ?_
  refine e_seq fun K237 hK237 => ?_
  refine e_region_text rfl ?_
  refine q_move rfl rfl ?_
  refine q_move rfl rfl ?_
  refine q_lenS rfl (hS.isl 2 rfl) rfl ?_
  refine q_lss rfl rfl rfl ?_
  refine eseq_nil ?_
  refine hK237 _ _ ?_
  refine e_cond rfl (fun hc238 => ?_) (fun hc238 => ?_)
  · replace ho140 := (if_pos hc238).symm.trans ho140
    refine e_skip ?_
    refine hK236 _ _ ?_
    refine e_seq fun K239 hK239 => ?_
    refine e_block ?_
    refine e_seq fun K240 hK240 => ?_
    refine e_region_draw mixed (fun _ => False) [0, 0, 0, 6, 14, 31] [] [0, 1, 2, 3, 4, 5] (by kernel_rfl) ?_
    refine q_loadAgg rfl (Blk.cellsAt (hS.blk 0 rfl) 0 3 rfl) rfl rfl ?_
    refine q_move rfl rfl ?_
    refine q_move rfl rfl ?_
    obtain ⟨x241, hx241, ho140⟩ := Option.of_bind ho140
    refine q_indexO (by infer_instance) rfl (hS.own 2 rfl) rfl hx241 rfl ?_
    have f242 := (hS.ownR 2 rfl).elt hx241
    have hc243 := Pt_open f242
    refine q_loadAgg rfl hc243 rfl rfl ?_
    obtain ⟨r245, hr245, ho140⟩ := Option.of_bind ho140
    refine q_call rfl (ref21_Cycle_w (a0 := (⟨a0.lens, a0.ckpts, a0.arcs⟩ : Pat)) (a1 := x241) (Sep.enter (As := []) hS) f185 f186 f187 hr245) rfl ?_
    rintro _ w244 ⟨R244, rfl, hC244⟩
    have hB244 : Below (World.heap w184).size w184 w244 := hC244.stepB0
    refine ⟨fun _ => .of_below hB244, ?_⟩
    replace f185 := (f185.ext hB244).mono fun k hk _ => hC244.ro0 k hk
    replace f186 := (f186.ext hB244).mono fun k hk _ => hC244.ro0 k hk
    replace f187 := (f187.ext hB244).mono fun k hk _ => hC244.ro0 k hk
    replace hS := Sep.leave (As := []) hS hC244; simp only [List.cons_append, List.nil_append] at hS
    refine eseq_nil ?_
    refine hK240 _ _ ?_
    refine e_cond rfl (fun hc246 => ?_) (fun hc246 => ?_)
    · replace ho140 := (if_pos hc246).symm.trans ho140
      refine e_region_text rfl ?_
      refine q_move rfl rfl ?_
      refine q_move rfl rfl ?_
      refine q_move rfl rfl ?_
      obtain ⟨x247, hx247, ho140⟩ := Option.of_bind ho140
      refine q_indexO (by infer_instance) rfl (hS.own 2 rfl) rfl hx247 rfl ?_
      have f248 := (hS.ownR 2 rfl).elt hx247
      have hc249 := Pt_open f248
      refine q_loadAgg rfl hc249 rfl rfl ?_
      refine q_litO (T := ptTy) (S := (fun _ => False)) (cells := [[.int .i64 x247.proc, .int .i64 x247.index]]) (ys := [x247]) ((Parts.cons rfl rfl Parts.nil)) rfl rfl rfl rfl rfl rfl rfl (fun w1 hB => ⟨⟨[_], _, rfl, rfl, rfl⟩, trivial⟩) (fun _ h => h.elim) rfl fun w250 v250 ho250 hv250 hB250 => ?_
      replace f185 := f185.ext hB250
      replace f186 := f186.ext hB250
      replace f187 := f187.ext hB250
      replace hS := hS.newOwnS hB250 ho250 hv250 (fun _ h => h.elim)
      obtain ⟨x253, hx253, ho140⟩ := Option.of_bind ho140
      refine q_catOwn (T := ptTy) rfl rfl rfl rfl (hS.own 2 rfl) rfl (hS.own 0 rfl) (fun _ h _ => h.elim) (snoc_cat hx253) (Nat.zero_le _) rfl (fun h => by cases h) fun v252 w252 hw252 hgr252 hnw252 => ?_
      have hk252 := hS.keptOwn 2 rfl hgr252
      replace f185 := f185.kept hk252
      replace f186 := f186.kept hk252
      replace f187 := f187.kept hk252
      replace hS := hS.setOwn 2 rfl hw252 hgr252 hnw252; simp only [List.set] at hS
      refine q_assign rfl rfl ?_
      refine eseq_nil ?_
      refine hK239 _ _ ?_
      refine e_region_text rfl ?_
      refine q_move rfl rfl ?_
      refine q_addW rfl rfl rfl ?_
      refine q_assign rfl rfl ?_
      refine eseq_nil ?_
      obtain rfl := Option.some.inj ho140
      exact ⟨m140, _, Nat.lt_succ_self _, ⟨x253, (w64 (x192 + 1)), v252, _, ht140, (hS.pickB [1, 2, 3] 4 rfl rfl), f185, f186, f187, rfl⟩, Sub.cons rfl (Sub.cons rfl (Sub.cons rfl (Sub.cons rfl (Sub.nil _))))⟩
    · replace ho140 := (if_neg (not_true hc246)).symm.trans ho140
      refine e_skip ?_
      refine hK239 _ _ ?_
      refine e_region_text rfl ?_
      refine q_move rfl rfl ?_
      refine q_addW rfl rfl rfl ?_
      refine q_assign rfl rfl ?_
      refine eseq_nil ?_
      obtain rfl := Option.some.inj ho140
      exact ⟨m140, _, Nat.lt_succ_self _, ⟨x190, (w64 (x192 + 1)), v189, _, ht140, hS, f185, f186, f187, rfl⟩, Sub.cons rfl (Sub.cons rfl (Sub.cons rfl (Sub.cons rfl (Sub.nil _))))⟩
  · replace ho140 := (if_neg (not_true hc238)).symm.trans ho140
    refine e_exit ?_
    obtain rfl := Option.some.inj ho140
    obtain rfl := Option.some.inj ht140
    exact hX140_0 x190 v189 _ _ _ h (hS.pickB [1] 3 rfl rfl)  (Sub.cons rfl (Sub.nil _))
theorem ref21_Trackable_w {F R : Nat → Prop} {w : World} {fuel : Nat} {a0 : Pat} {v1 : Value} {v2 : Value} {v3 : Value} {r : (Bool)} (hS : Sep F R R w w []) (f1 : IsSlice Ty.int w R v1 a0.lens) (f2 : IsSlice (Ty.slice Ty.int) w R v2 a0.ckpts) (f3 : IsSlice arcTy w R v3 a0.arcs) (h : ref21_Trackable fuel a0 = some r) :
    Gives Try.prog 27 [.agg #[v1, v2, v3]] w fun u w1 => ∃ (R1 : Nat → Prop), u = .bool r ∧ Sep F R R1 w w1 [] := by
  refine fn_of Try.func27 rfl Try.ntmps27 (Nat.le_of_ble_eq_true rfl) ?_
  unfold ref21_Trackable at h
  refine e_seq fun K477 hK477 => ?_
  refine e_region_text rfl ?_
  refine q_boxB rfl rfl rfl fun w478 bl478 hg478 hb478 hB478 => ?_
  replace f1 := f1.ext hB478
  replace f2 := f2.ext hB478
  replace f3 := f3.ext hB478
  replace hS := hS.newBlk hB478 hg478 hb478
  refine q_assign rfl rfl ?_
  refine eseq_nil ?_
  refine hK477 _ _ ?_
  refine e_seq fun K480 hK480 => ?_
  refine e_region_text rfl ?_
  refine q_loadAgg rfl (Blk.cellsAt (hS.blk 0 rfl) 0 3 rfl) rfl rfl ?_
  obtain ⟨r482, hr482, h⟩ := Option.of_bind h
  refine q_call rfl (ref19_All_w (a0 := (⟨a0.lens, a0.ckpts, a0.arcs⟩ : Pat)) (Sep.enter (As := []) hS) f1 f2 f3 hr482) rfl ?_
  rintro v483 w481 ⟨_, R481, rfl, hC481⟩
  have hB481 : Below (World.heap w478).size w478 w481 := hC481.stepB0
  refine ⟨fun _ => .of_below hB481, ?_⟩
  replace f1 := (f1.ext hB481).mono fun k hk _ => hC481.ro0 k hk
  replace f2 := (f2.ext hB481).mono fun k hk _ => hC481.ro0 k hk
  replace f3 := (f3.ext hB481).mono fun k hk _ => hC481.ro0 k hk
  replace hS := Sep.leave (As := []) hS hC481; simp only [List.cons_append, List.nil_append] at hS
  refine q_assign rfl rfl ?_
  refine eseq_nil ?_
  refine hK480 _ _ ?_
  refine e_seq fun K484 hK484 => ?_
  refine e_seq fun K485 hK485 => ?_
  refine e_region_text rfl ?_
  refine q_assign rfl rfl ?_
  refine eseq_nil ?_
  refine hK485 _ _ ?_
  refine e_block ?_
  obtain ⟨tl486, ht486, h⟩ := Option.of_bind h
  have hX486_0 : ∀ (R802 : Nat → Prop) (w803 : World) (E_ : Env), ref21_Trackable_K1 fuel = some r → Sep F R R802 w w803 [] → Sub [] E_ → K484 E_ w803 := by
    intro R802 w803 E_ h hS  hsub
    refine hK484 _ _ (e_sub hsub ?_); clear hsub
    unfold ref21_Trackable_K1 at h
    refine e_seq fun K804 hK804 => ?_
    refine e_region_text rfl ?_
    refine q_assign rfl rfl ?_
    refine eseq_nil ?_
    refine hK804 _ _ ?_
    refine e_ret ?_
    obtain rfl := Option.some.inj h
    exact ⟨_, res1 rfl rfl, _, rfl, hS⟩
  refine e_loop (fun m_ E_ w645 => ∃ (x650 : Int), ∃ (R644 : Nat → Prop), iter (fun s => ref21_Trackable_B1 fuel r482 a0 s) m_ x650 = some tl486 ∧ Sep F R R644 w w645 [HP.blk bl478 [v1, v2, v3] 28, HP.own ptTy (fun _ => False) 36 v483 r482] ∧ IsSlice Ty.int w645 R644 v1 a0.lens ∧ IsSlice (Ty.slice Ty.int) w645 R644 v2 a0.ckpts ∧ IsSlice arcTy w645 R644 v3 a0.arcs ∧ E_ = [(1, .pointer (some ⟨bl478, 0, none⟩)), (3, v483), (4, .int .i64 x650)]) _ ⟨_, ⟨0, _, ht486, (hS.pickB [1, 0] 2 rfl rfl), f1, f2, f3, rfl⟩, Sub.cons rfl (Sub.cons rfl (Sub.cons rfl (Sub.nil _)))⟩ ?_
  clear ht486 hS
  rintro m486 _ w645 ⟨x650, R644, ht486, hS, f646, f647, f648, rfl⟩
  obtain ⟨m486, rfl, o486, ho486, ht486⟩ := iter_some ht486
  replace ho486 : ref21_Trackable_B1 fuel r482 a0 x650 = some o486 := ho486
  unfold ref21_Trackable_B1 at ho486
  refine e_seq fun K805 hK805 => ?_
  refine e_seq fun K806 hK806 => ?_
  refine e_region_text rfl ?_
  refine q_move rfl rfl ?_
  refine q_move rfl rfl ?_
  refine q_lenS rfl (hS.isl 1 rfl) rfl ?_
  refine q_lss rfl rfl rfl ?_
  refine eseq_nil ?_
  refine hK806 _ _ ?_
  refine e_cond rfl (fun hc807 => ?_) (fun hc807 => ?_)
  · replace ho486 := (if_pos hc807).symm.trans ho486
    refine e_skip ?_
    refine hK805 _ _ ?_
    refine e_seq fun K808 hK808 => ?_
    refine e_block ?_
    refine e_seq fun K809 hK809 => ?_
    refine e_region_text rfl ?_
    refine q_assign rfl rfl ?_
    refine eseq_nil ?_
    refine hK809 _ _ ?_
    refine e_block ?_
    obtain ⟨tl810, ht810, ho486⟩ := Option.of_bind ho486
    have hX810_2 : ∀ (R908 : Nat → Prop) (w909 : World) (E_ : Env), ref21_Trackable_K2 fuel x650 = some o486 → Sep F R R908 w w909 [HP.blk bl478 [v1, v2, v3] 28, HP.own ptTy (fun _ => False) 36 v483 r482] → IsSlice Ty.int w909 R908 v1 a0.lens → IsSlice (Ty.slice Ty.int) w909 R908 v2 a0.ckpts → IsSlice arcTy w909 R908 v3 a0.arcs → Sub [(1, .pointer (some ⟨bl478, 0, none⟩)), (3, v483), (4, .int .i64 x650)] E_ → K808 E_ w909 := by
      intro R908 w909 E_ ho486 hS f910 f911 f912 hsub
      refine hK808 _ _ (e_sub hsub ?_); clear hsub
      unfold ref21_Trackable_K2 at ho486
      refine e_region_text rfl ?_
      refine q_move rfl rfl ?_
      refine q_addW rfl rfl rfl ?_
      refine q_assign rfl rfl ?_
      refine eseq_nil ?_
      obtain rfl := Option.some.inj ho486
      exact ⟨m486, _, Nat.lt_succ_self _, ⟨(w64 (x650 + 1)), _, ht486, hS, f910, f911, f912, rfl⟩, Sub.cons rfl (Sub.cons rfl (Sub.cons rfl (Sub.nil _)))⟩
    refine e_loop (fun m_ E_ w860 => ∃ (x865 : Int), ∃ (R859 : Nat → Prop), iter (fun s => ref21_Trackable_B2 fuel r482 x650 a0 s) m_ x865 = some tl810 ∧ Sep F R R859 w w860 [HP.blk bl478 [v1, v2, v3] 28, HP.own ptTy (fun _ => False) 36 v483 r482] ∧ IsSlice Ty.int w860 R859 v1 a0.lens ∧ IsSlice (Ty.slice Ty.int) w860 R859 v2 a0.ckpts ∧ IsSlice arcTy w860 R859 v3 a0.arcs ∧ E_ = [(1, .pointer (some ⟨bl478, 0, none⟩)), (3, v483), (4, .int .i64 x650), (5, .int .i64 x865)]) _ ⟨_, ⟨0, _, ht810, hS, f646, f647, f648, rfl⟩, Sub.cons rfl (Sub.cons rfl (Sub.cons rfl (Sub.cons rfl (Sub.nil _))))⟩ ?_
    clear ht810 hS
    rintro m810 _ w860 ⟨x865, R859, ht810, hS, f861, f862, f863, rfl⟩
    obtain ⟨m810, rfl, o810, ho810, ht810⟩ := iter_some ht810
    replace ho810 : ref21_Trackable_B2 fuel r482 x650 a0 x865 = some o810 := ho810
    unfold ref21_Trackable_B2 at ho810
    refine e_seq fun K914 hK914 => ?_
    refine e_seq fun K915 hK915 => ?_
    refine e_region_text rfl ?_
    refine q_move rfl rfl ?_
    refine q_move rfl rfl ?_
    refine q_lenS rfl (hS.isl 1 rfl) rfl ?_
    refine q_lss rfl rfl rfl ?_
    refine eseq_nil ?_
    refine hK915 _ _ ?_
    refine e_cond rfl (fun hc916 => ?_) (fun hc916 => ?_)
    · replace ho810 := (if_pos hc916).symm.trans ho810
      refine e_skip ?_
      refine hK914 _ _ ?_
      refine e_seq fun K917 hK917 => ?_
      refine e_block ?_
      refine e_seq fun K918 hK918 => ?_
      refine e_region_draw mixed (fun _ => False) [0, 0, 0, 6, 14, 0, 0, 96, 224, 511, 1023, 2047, 2047, 2047, 14335, 30719, 2047, 2047, 198655, 460799, 1048575, 2097151, 4194303] [] [0, 1, 2, 3, 4, 5, 6, 7, 8, 9, 10, 11, 12, 13, 14, 15, 16, 17, 18, 19, 20, 21, 22] (by kernel_rfl) ?_
      refine q_loadAgg rfl (Blk.cellsAt (hS.blk 0 rfl) 0 3 rfl) rfl rfl ?_
      refine q_move rfl rfl ?_
      refine q_move rfl rfl ?_
      obtain ⟨x919, hx919, ho810⟩ := Option.of_bind ho810
      refine q_indexO (by infer_instance) rfl (hS.own 1 rfl) rfl hx919 rfl ?_
      have f920 := (hS.ownR 1 rfl).elt hx919
      have hc921 := Pt_open f920
      refine q_loadAgg rfl hc921 rfl rfl ?_
      refine q_move rfl rfl ?_
      refine q_move rfl rfl ?_
      obtain ⟨x922, hx922, ho810⟩ := Option.of_bind ho810
      refine q_indexO (by infer_instance) rfl (hS.own 1 rfl) rfl hx922 rfl ?_
      have f923 := (hS.ownR 1 rfl).elt hx922
      have hc924 := Pt_open f923
      refine q_loadAgg rfl hc924 rfl rfl ?_
      obtain ⟨r926, hr926, ho810⟩ := Option.of_bind ho810
      refine q_call rfl (ref21_Path_w (a0 := (⟨a0.lens, a0.ckpts, a0.arcs⟩ : Pat)) (a1 := x919) (a2 := x922) (Sep.enter (As := []) hS) f861 f862 f863 hr926) rfl ?_
      rintro _ w925 ⟨R925, rfl, hC925⟩
      have hB925 : Below (World.heap w860).size w860 w925 := hC925.stepB0
      refine ⟨fun _ => .of_below hB925, ?_⟩
      replace f861 := (f861.ext hB925).mono fun k hk _ => hC925.ro0 k hk
      replace f862 := (f862.ext hB925).mono fun k hk _ => hC925.ro0 k hk
      replace f863 := (f863.ext hB925).mono fun k hk _ => hC925.ro0 k hk
      replace hS := Sep.leave (As := []) hS hC925; simp only [List.cons_append, List.nil_append] at hS
      refine q_move rfl rfl ?_
      obtain ⟨x938, hx937, ho810⟩ := Option.of_bind ho810
      refine g_andM 11 hx937 rfl trivial rfl rfl ?_ ?_ ?_
      · intro hg937 hx937
        clear ho810
        have hT937 := Below.refl (World.heap w925).size w925
        refine g_run rfl ?_; refine q_loadAgg rfl (Blk.cellsAt (hS.blk 0 rfl) 0 3 rfl) rfl rfl ?_
        refine g_run rfl ?_; refine q_move rfl rfl ?_
        refine g_run rfl ?_; refine q_move rfl rfl ?_
        obtain ⟨x939, hx939, hx937⟩ := Option.of_bind hx937
        refine g_run rfl ?_; refine q_indexO (by infer_instance) rfl (hS.own 1 rfl) rfl hx939 rfl ?_
        have f940 := (hS.ownR 1 rfl).elt hx939
        have hc941 := Pt_open f940
        refine g_run rfl ?_; refine q_loadAgg rfl hc941 rfl rfl ?_
        refine g_run rfl ?_; refine q_move rfl rfl ?_
        refine g_run rfl ?_; refine q_move rfl rfl ?_
        obtain ⟨x942, hx942, hx937⟩ := Option.of_bind hx937
        refine g_run rfl ?_; refine q_indexO (by infer_instance) rfl (hS.own 1 rfl) rfl hx942 rfl ?_
        have f943 := (hS.ownR 1 rfl).elt hx942
        have hc944 := Pt_open f943
        refine g_run rfl ?_; refine q_loadAgg rfl hc944 rfl rfl ?_
        obtain ⟨r946, hr946, hx937⟩ := Option.of_bind hx937
        refine g_run rfl ?_; refine q_call rfl (ref19_Depends_w (a0 := (⟨a0.lens, a0.ckpts, a0.arcs⟩ : Pat)) (a1 := x939) (a2 := x942) (Sep.enter (As := []) hS) f861 f862 f863 hr946) rfl ?_
        rintro _ w945 ⟨R945, rfl, hC945⟩
        have hB945 : Below (World.heap w925).size w925 w945 := hC945.stepB0
        refine ⟨fun _ => .of_below hB945, ?_⟩
        replace f861 := (f861.ext hB945).mono fun k hk _ => hC945.ro0 k hk
        replace f862 := (f862.ext hB945).mono fun k hk _ => hC945.ro0 k hk
        replace f863 := (f863.ext hB945).mono fun k hk _ => hC945.ro0 k hk
        replace hT937 := hT937.trans (Below.mono hB945 hT937.size)
        replace hS := Sep.leave (As := []) hS hC945; simp only [List.cons_append, List.nil_append] at hS
        refine g_run rfl ?_; refine q_not rfl rfl ?_
        cases hx937
        exact eseq_nil ⟨hT937, Sub.set rfl (Sub.set rfl (Sub.set rfl (Sub.set rfl (Sub.set rfl (Sub.set rfl (Sub.set rfl (Sub.set rfl (Sub.set rfl (Sub.set rfl (Sub.set rfl (Sub.bool true rfl hg937))))))))))), rfl⟩
      · intro hg937
        refine g_skip rfl rfl rfl ?_
        refine g_skip rfl rfl rfl ?_
        refine g_skip rfl rfl rfl ?_
        refine g_skip rfl rfl rfl ?_
        refine g_skip rfl rfl rfl ?_
        refine g_skip rfl rfl rfl ?_
        refine g_skip rfl rfl rfl ?_
        refine g_skip rfl rfl rfl ?_
        refine g_skip rfl rfl rfl ?_
        refine g_skip rfl rfl rfl ?_
        refine g_skip rfl rfl rfl ?_
        exact eseq_nil ⟨rfl, Sub.set rfl (Sub.set rfl (Sub.set rfl (Sub.set rfl (Sub.set rfl (Sub.set rfl (Sub.set rfl (Sub.set rfl (Sub.set rfl (Sub.set rfl (Sub.set rfl (Sub.bool false rfl hg937)))))))))))⟩
      intro wm937 hBm937; clear hx937
      replace hS := hS.below hBm937
      replace f861 := f861.ext hBm937
      replace f862 := f862.ext hBm937
      replace f863 := f863.ext hBm937
      refine eseq_nil ?_
      refine hK918 _ _ ?_
      refine e_cond rfl (fun hc947 => ?_) (fun hc947 => ?_)
      · replace ho810 := (if_pos hc947).symm.trans ho810
        refine e_seq fun K948 hK948 => ?_
        refine e_region_text rfl ?_
        refine q_assign rfl rfl ?_
        refine eseq_nil ?_
        refine hK948 _ _ ?_
        refine e_ret ?_
        obtain rfl := Option.some.inj ho810
        obtain rfl := Option.some.inj ht810
        obtain rfl := Option.some.inj ho486
        obtain rfl := Option.some.inj ht486
        obtain rfl := Option.some.inj h
        exact ⟨_, res1 rfl rfl, _, rfl, (hS.pickB [] 2 rfl rfl)⟩
      · replace ho810 := (if_neg (not_true hc947)).symm.trans ho810
        refine e_skip ?_
        refine hK917 _ _ ?_
        refine e_region_text rfl ?_
        refine q_move rfl rfl ?_
        refine q_addW rfl rfl rfl ?_
        refine q_assign rfl rfl ?_
        refine eseq_nil ?_
        obtain rfl := Option.some.inj ho810
        exact ⟨m810, _, Nat.lt_succ_self _, ⟨(w64 (x865 + 1)), _, ht810, hS, f861, f862, f863, rfl⟩, Sub.cons rfl (Sub.cons rfl (Sub.cons rfl (Sub.cons rfl (Sub.nil _))))⟩
    · replace ho810 := (if_neg (not_true hc916)).symm.trans ho810
      refine e_exit ?_
      obtain rfl := Option.some.inj ho810
      obtain rfl := Option.some.inj ht810
      exact hX810_2  _ _ _ ho486 hS f861 f862 f863 (Sub.cons rfl (Sub.cons rfl (Sub.cons rfl (Sub.nil _))))
  · replace ho486 := (if_neg (not_true hc807)).symm.trans ho486
    refine e_exit ?_
    obtain rfl := Option.some.inj ho486
    obtain rfl := Option.some.inj ht486
    exact hX486_0  _ _ _ h (hS.pickB [] 2 rfl rfl)  (Sub.nil _)
end Go.Proofs.Ytlceljfigccllaa
