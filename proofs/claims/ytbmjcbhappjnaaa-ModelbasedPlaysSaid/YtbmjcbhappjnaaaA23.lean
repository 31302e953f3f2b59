/- Printed walks: A23. -/
import Derived.Test.YtbmjcbhappjnaaaTypes
import Derived.Test.YtbmjcbhappjnaaaAcdat
set_option linter.unusedVariables false
set_option linter.unusedSimpArgs false
namespace Go.Mine
open Go.RowKit
def ref23_SameInts_K1 (fuel : Nat) : Option (Bool) :=
  some true
def ref23_SameInts_B1 (fuel : Nat) (a0 : (List Int)) (a1 : (List Int)) (x99 : Int) : Option ((Int) ⊕ (Unit ⊕ (Bool))) :=
  (if (decide (x99 < (a0.length : Int))) = true then (ati a0 x99).bind fun x124 => (ati a1 x99).bind fun x126 => (if (x124 != x126) = true then some (Sum.inr (Sum.inr false)) else some (Sum.inl (w64 (x99 + 1)))) else some (Sum.inr (Sum.inl ())))
def ref23_SameInts (fuel : Nat) (a0 : (List Int)) (a1 : (List Int)) : Option (Bool) :=
  (if ((a0.length : Int) != (a1.length : Int)) = true then some false else (iter (fun s => ref23_SameInts_B1 fuel a0 a1 s) fuel 0).bind (fun t => Sum.elim (fun t => ref23_SameInts_K1 fuel) (fun t => some t) t))
def ref23_SameLists_K1 (fuel : Nat) : Option (Bool) :=
  some true
def ref23_SameLists_B1 (fuel : Nat) (a0 : (List (List Int))) (a1 : (List (List Int))) (x115 : Int) : Option ((Int) ⊕ (Unit ⊕ (Bool))) :=
  (if (decide (x115 < (a0.length : Int))) = true then (ati a0 x115).bind fun x144 => (ati a1 x115).bind fun x147 => (ref23_SameInts fuel x144 x147).bind fun r151 => (if (!r151) = true then some (Sum.inr (Sum.inr false)) else some (Sum.inl (w64 (x115 + 1)))) else some (Sum.inr (Sum.inl ())))
def ref23_SameLists (fuel : Nat) (a0 : (List (List Int))) (a1 : (List (List Int))) : Option (Bool) :=
  (if ((a0.length : Int) != (a1.length : Int)) = true then some false else (iter (fun s => ref23_SameLists_B1 fuel a0 a1 s) fuel 0).bind (fun t => Sum.elim (fun t => ref23_SameLists_K1 fuel) (fun t => some t) t))
def ref23_SameBools_K1 (fuel : Nat) : Option (Bool) :=
  some true
def ref23_SameBools_B1 (fuel : Nat) (a0 : (List Bool)) (a1 : (List Bool)) (x99 : Int) : Option ((Int) ⊕ (Unit ⊕ (Bool))) :=
  (if (decide (x99 < (a0.length : Int))) = true then (ati a0 x99).bind fun x124 => (ati a1 x99).bind fun x126 => (if (x124 != x126) = true then some (Sum.inr (Sum.inr false)) else some (Sum.inl (w64 (x99 + 1)))) else some (Sum.inr (Sum.inl ())))
def ref23_SameBools (fuel : Nat) (a0 : (List Bool)) (a1 : (List Bool)) : Option (Bool) :=
  (if ((a0.length : Int) != (a1.length : Int)) = true then some false else (iter (fun s => ref23_SameBools_B1 fuel a0 a1 s) fuel 0).bind (fun t => Sum.elim (fun t => ref23_SameBools_K1 fuel) (fun t => some t) t))
def ref16_sameInts_K1 (fuel : Nat) : Option (Bool) :=
  some true
def ref16_sameInts_B1 (fuel : Nat) (a0 : (List Int)) (a1 : (List Int)) (x99 : Int) : Option ((Int) ⊕ (Unit ⊕ (Bool))) :=
  (if (decide (x99 < (a0.length : Int))) = true then (ati a0 x99).bind fun x124 => (ati a1 x99).bind fun x126 => (if (x124 != x126) = true then some (Sum.inr (Sum.inr false)) else some (Sum.inl (w64 (x99 + 1)))) else some (Sum.inr (Sum.inl ())))
def ref16_sameInts (fuel : Nat) (a0 : (List Int)) (a1 : (List Int)) : Option (Bool) :=
  (if ((a0.length : Int) != (a1.length : Int)) = true then some false else (iter (fun s => ref16_sameInts_B1 fuel a0 a1 s) fuel 0).bind (fun t => Sum.elim (fun t => ref16_sameInts_K1 fuel) (fun t => some t) t))
def ref16_Same_K2 (fuel : Nat) : Option (Bool) :=
  some true
def ref16_Same_B1 (fuel : Nat) (a0 : Pat) (a1 : Pat) (x334 : Int) : Option ((Int) ⊕ (Unit ⊕ (Bool))) :=
  (if (decide (x334 < (a0.arcs.length : Int))) = true then (ati a0.arcs x334).bind fun x365 => (ati a1.arcs x334).bind fun x368 => (if (!((x365.fr == x368.fr) && ((x365.ix == x368.ix) && ((x365.to == x368.to) && ((x365.rcv == x368.rcv) && true))))) = true then some (Sum.inr (Sum.inr false)) else some (Sum.inl (w64 (x334 + 1)))) else some (Sum.inr (Sum.inl ())))
def ref16_Same_K1 (fuel : Nat) (a0 : Pat) (a1 : Pat) : Option (Bool) :=
  (iter (fun s => ref16_Same_B1 fuel a0 a1 s) fuel 0).bind (fun t => Sum.elim (fun t => ref16_Same_K2 fuel) (fun t => some t) t)
def ref16_Same_B2 (fuel : Nat) (a0 : Pat) (a1 : Pat) (x260 : Int) : Option ((Int) ⊕ (Unit ⊕ (Bool))) :=
  (if (decide (x260 < (a0.ckpts.length : Int))) = true then (ati a0.ckpts x260).bind fun x378 => (ati a1.ckpts x260).bind fun x381 => (ref16_sameInts fuel x378 x381).bind fun r385 => (if (!r385) = true then some (Sum.inr (Sum.inr false)) else some (Sum.inl (w64 (x260 + 1)))) else some (Sum.inr (Sum.inl ())))
def ref16_Same (fuel : Nat) (a0 : Pat) (a1 : Pat) : Option (Bool) :=
  (ref16_sameInts fuel a0.lens a1.lens).bind fun r206 => (orM (!r206) (some ((a0.ckpts.length : Int) != (a1.ckpts.length : Int)))).bind fun x210 => (orM x210 (some ((a0.arcs.length : Int) != (a1.arcs.length : Int)))).bind fun x214 => (if x214 = true then some false else (iter (fun s => ref16_Same_B2 fuel a0 a1 s) fuel 0).bind (fun t => Sum.elim (fun t => ref16_Same_K1 fuel a0 a1) (fun t => some t) t))
def ref25_Same_K2 (fuel : Nat) : Option (Bool) :=
  some true
def ref25_Same_B1 (fuel : Nat) (a0 : Hist) (a1 : Hist) (x466 : Int) : Option ((Int) ⊕ (Unit ⊕ (Bool))) :=
  (if (decide (x466 < (a0.forced.length : Int))) = true then (ati a0.forced x466).bind fun x505 => (ati a1.forced x466).bind fun x508 => (ref23_SameBools fuel x505 x508).bind fun r512 => (if (!r512) = true then some (Sum.inr (Sum.inr false)) else some (Sum.inl (w64 (x466 + 1)))) else some (Sum.inr (Sum.inl ())))
def ref25_Same_K1 (fuel : Nat) (a0 : Hist) (a1 : Hist) : Option (Bool) :=
  (iter (fun s => ref25_Same_B1 fuel a0 a1 s) fuel 0).bind (fun t => Sum.elim (fun t => ref25_Same_K2 fuel) (fun t => some t) t)
def ref25_Same_B2 (fuel : Nat) (a0 : Hist) (a1 : Hist) (x360 : Int) : Option ((Int) ⊕ (Unit ⊕ (Bool))) :=
  (if (decide (x360 < (a0.vecs.length : Int))) = true then (ati a0.vecs x360).bind fun x520 => (ati a1.vecs x360).bind fun x523 => (ref23_SameLists fuel x520 x523).bind fun r527 => (if (!r527) = true then some (Sum.inr (Sum.inr false)) else some (Sum.inl (w64 (x360 + 1)))) else some (Sum.inr (Sum.inl ())))
def ref25_Same (fuel : Nat) (a0 : Hist) (a1 : Hist) : Option (Bool) :=
  (ref16_Same fuel (⟨a0.pat.lens, a0.pat.ckpts, a0.pat.arcs⟩ : Pat) (⟨a1.pat.lens, a1.pat.ckpts, a1.pat.arcs⟩ : Pat)).bind fun r280 => (orM (!r280) ((ref23_SameLists fuel a0.clocks a1.clocks).bind fun r288 => some (!r288))).bind fun x286 => (orM x286 (some ((a0.vecs.length : Int) != (a1.vecs.length : Int)))).bind fun x292 => (orM x292 (some ((a0.forced.length : Int) != (a1.forced.length : Int)))).bind fun x296 => (if x296 = true then some false else (iter (fun s => ref25_Same_B2 fuel a0 a1 s) fuel 0).bind (fun t => Sum.elim (fun t => ref25_Same_K1 fuel a0 a1) (fun t => some t) t))
end Go.Mine
namespace Go.Proofs.Ytbmjcbhappjnaaa
open Go.RowKit Go.Mine
attribute [local irreducible] eseq ewp iter
theorem ref23_SameInts_w {F R : Nat → Prop} {w : World} {fuel : Nat} {a0 : (List Int)} {a1 : (List Int)} {v1 : Value} {v2 : Value} {r : (Bool)} (hS : Sep F R R w w []) (f1 : IsSlice Ty.int w R v1 a0) (f2 : IsSlice Ty.int w R v2 a1) (h : ref23_SameInts fuel a0 a1 = some r) :
    Gives Try.prog 25 [v1, v2] w fun u w1 => ∃ (R1 : Nat → Prop), u = .bool r ∧ Sep F R R1 w w1 [] := by
  refine fn_of Try.func25 rfl Try.ntmps25 (Nat.le_of_ble_eq_true rfl) ?_
  unfold ref23_SameInts at h
  refine e_seq fun K67 hK67 => ?_
  refine e_region_text rfl ?_
  refine q_assign rfl rfl ?_
  refine eseq_nil ?_
  refine hK67 _ _ ?_
  refine e_seq fun K68 hK68 => ?_
  refine e_seq fun K69 hK69 => ?_
  refine e_region_text rfl ?_
  refine q_move rfl rfl ?_
  refine q_lenS rfl f1 rfl ?_
  refine q_move rfl rfl ?_
  refine q_lenS rfl f2 rfl ?_
  refine q_neq rfl rfl rfl ?_
  refine eseq_nil ?_
  refine hK69 _ _ ?_
  refine e_cond rfl (fun hc70 => ?_) (fun hc70 => ?_)
  · replace h := (if_pos hc70).symm.trans h
    refine e_seq fun K71 hK71 => ?_
    refine e_region_text rfl ?_
    refine q_assign rfl rfl ?_
    refine eseq_nil ?_
    refine hK71 _ _ ?_
    refine e_ret ?_
    obtain rfl := Option.some.inj h
    exact ⟨_, res1 rfl rfl, _, rfl, hS⟩
  · replace h := (if_neg (not_true hc70)).symm.trans h
    refine e_skip ?_
    refine hK68 _ _ ?_
    refine e_seq fun K72 hK72 => ?_
    refine e_seq fun K73 hK73 => ?_
    refine e_region_text rfl ?_
    refine q_assign rfl rfl ?_
    refine eseq_nil ?_
    refine hK73 _ _ ?_
    refine e_block ?_
    obtain ⟨tl74, ht74, h⟩ := Option.of_bind h
    have hX74_0 : ∀ (R116 : Nat → Prop) (w117 : World) (E_ : Env), ref23_SameInts_K1 fuel = some r → Sep F R R116 w w117 [] → Sub [] E_ → K72 E_ w117 := by
      intro R116 w117 E_ h hS  hsub
      refine hK72 _ _ (e_sub hsub ?_); clear hsub
      unfold ref23_SameInts_K1 at h
      refine e_seq fun K118 hK118 => ?_
      refine e_region_text rfl ?_
      refine q_assign rfl rfl ?_
      refine eseq_nil ?_
      refine hK118 _ _ ?_
      refine e_ret ?_
      obtain rfl := Option.some.inj h
      exact ⟨_, res1 rfl rfl, _, rfl, hS⟩
    refine e_loop (fun m_ E_ w96 => ∃ (x99 : Int), ∃ (R95 : Nat → Prop), iter (fun s => ref23_SameInts_B1 fuel a0 a1 s) m_ x99 = some tl74 ∧ Sep F R R95 w w96 [] ∧ IsSlice Ty.int w96 R95 v1 a0 ∧ IsSlice Ty.int w96 R95 v2 a1 ∧ E_ = [(0, v1), (1, v2), (5, .int .i64 x99)]) _ ⟨_, ⟨0, _, ht74, hS, f1, f2, rfl⟩, Sub.cons rfl (Sub.cons rfl (Sub.cons rfl (Sub.nil _)))⟩ ?_
    clear ht74 hS
    rintro m74 _ w96 ⟨x99, R95, ht74, hS, f97, f98, rfl⟩
    obtain ⟨m74, rfl, o74, ho74, ht74⟩ := iter_some ht74
    replace ho74 : ref23_SameInts_B1 fuel a0 a1 x99 = some o74 := ho74
    unfold ref23_SameInts_B1 at ho74
    refine e_seq fun K119 hK119 => ?_
    refine e_seq fun K120 hK120 => ?_
    refine e_region_text rfl ?_
    refine q_move rfl rfl ?_
    refine q_move rfl rfl ?_
    refine q_lenS rfl f97 rfl ?_
    refine q_lss rfl rfl rfl ?_
    refine eseq_nil ?_
    refine hK120 _ _ ?_
    refine e_cond rfl (fun hc121 => ?_) (fun hc121 => ?_)
    · replace ho74 := (if_pos hc121).symm.trans ho74
      refine e_skip ?_
      refine hK119 _ _ ?_
      refine e_seq fun K122 hK122 => ?_
      refine e_block ?_
      refine e_seq fun K123 hK123 => ?_
      refine e_region_draw mixed (fun _ => False) [0, 0, 3, 7, 0, 0, 48, 112, 255] [] [0, 1, 2, 3, 4, 5, 6, 7, 8] (by kernel_rfl) ?_
      refine q_move rfl rfl ?_
      refine q_move rfl rfl ?_
      obtain ⟨x124, hx124, ho74⟩ := Option.of_bind ho74
      refine q_atS (by infer_instance) rfl f97 rfl hx124 rfl fun b125 o125 hm125 f125 => ?_
      refine q_load rfl (Elt.intCell f125) rfl ?_
      refine q_move rfl rfl ?_
      refine q_move rfl rfl ?_
      obtain ⟨x126, hx126, ho74⟩ := Option.of_bind ho74
      refine q_atS (by infer_instance) rfl f98 rfl hx126 rfl fun b127 o127 hm127 f127 => ?_
      refine q_load rfl (Elt.intCell f127) rfl ?_
      refine q_neq rfl rfl rfl ?_
      refine eseq_nil ?_
      refine hK123 _ _ ?_
      refine e_cond rfl (fun hc128 => ?_) (fun hc128 => ?_)
      · replace ho74 := (if_pos hc128).symm.trans ho74
        refine e_seq fun K129 hK129 => ?_
        refine e_region_text rfl ?_
        refine q_assign rfl rfl ?_
        refine eseq_nil ?_
        refine hK129 _ _ ?_
        refine e_ret ?_
        obtain rfl := Option.some.inj ho74
        obtain rfl := Option.some.inj ht74
        obtain rfl := Option.some.inj h
        exact ⟨_, res1 rfl rfl, _, rfl, hS⟩
      · replace ho74 := (if_neg (not_true hc128)).symm.trans ho74
        refine e_skip ?_
        refine hK122 _ _ ?_
        refine e_region_text rfl ?_
        refine q_move rfl rfl ?_
        refine q_addW rfl rfl rfl ?_
        refine q_assign rfl rfl ?_
        refine eseq_nil ?_
        obtain rfl := Option.some.inj ho74
        exact ⟨m74, _, Nat.lt_succ_self _, ⟨(w64 (x99 + 1)), _, ht74, hS, f97, f98, rfl⟩, Sub.cons rfl (Sub.cons rfl (Sub.cons rfl (Sub.nil _)))⟩
    · replace ho74 := (if_neg (not_true hc121)).symm.trans ho74
      refine e_exit ?_
      obtain rfl := Option.some.inj ho74
      obtain rfl := Option.some.inj ht74
      exact hX74_0  _ _ _ h hS  (Sub.nil _)
theorem ref23_SameLists_w {F R : Nat → Prop} {w : World} {fuel : Nat} {a0 : (List (List Int))} {a1 : (List (List Int))} {v1 : Value} {v2 : Value} {r : (Bool)} (hS : Sep F R R w w []) (f1 : IsSlice (Ty.slice Ty.int) w R v1 a0) (f2 : IsSlice (Ty.slice Ty.int) w R v2 a1) (h : ref23_SameLists fuel a0 a1 = some r) :
    Gives Try.prog 41 [v1, v2] w fun u w1 => ∃ (R1 : Nat → Prop), u = .bool r ∧ Sep F R R1 w w1 [] := by
  refine fn_of Try.func41 rfl Try.ntmps41 (Nat.le_of_ble_eq_true rfl) ?_
  unfold ref23_SameLists at h
  refine e_seq fun K79 hK79 => ?_
  refine e_region_text rfl ?_
  refine q_assign rfl rfl ?_
  refine eseq_nil ?_
  refine hK79 _ _ ?_
  refine e_seq fun K80 hK80 => ?_
  refine e_seq fun K81 hK81 => ?_
  refine e_region_text rfl ?_
  refine q_move rfl rfl ?_
  refine q_lenS rfl f1 rfl ?_
  refine q_move rfl rfl ?_
  refine q_lenS rfl f2 rfl ?_
  refine q_neq rfl rfl rfl ?_
  refine eseq_nil ?_
  refine hK81 _ _ ?_
  refine e_cond rfl (fun hc82 => ?_) (fun hc82 => ?_)
  · replace h := (if_pos hc82).symm.trans h
    refine e_seq fun K83 hK83 => ?_
    refine e_region_text rfl ?_
    refine q_assign rfl rfl ?_
    refine eseq_nil ?_
    refine hK83 _ _ ?_
    refine e_ret ?_
    obtain rfl := Option.some.inj h
    exact ⟨_, res1 rfl rfl, _, rfl, hS⟩
  · replace h := (if_neg (not_true hc82)).symm.trans h
    refine e_skip ?_
    refine hK80 _ _ ?_
    refine e_seq fun K84 hK84 => ?_
    refine e_seq fun K85 hK85 => ?_
    refine e_region_text rfl ?_
    refine q_assign rfl rfl ?_
    refine eseq_nil ?_
    refine hK85 _ _ ?_
    refine e_block ?_
    obtain ⟨tl86, ht86, h⟩ := Option.of_bind h
    have hX86_0 : ∀ (R136 : Nat → Prop) (w137 : World) (E_ : Env), ref23_SameLists_K1 fuel = some r → Sep F R R136 w w137 [] → Sub [] E_ → K84 E_ w137 := by
      intro R136 w137 E_ h hS  hsub
      refine hK84 _ _ (e_sub hsub ?_); clear hsub
      unfold ref23_SameLists_K1 at h
      refine e_seq fun K138 hK138 => ?_
      refine e_region_text rfl ?_
      refine q_assign rfl rfl ?_
      refine eseq_nil ?_
      refine hK138 _ _ ?_
      refine e_ret ?_
      obtain rfl := Option.some.inj h
      exact ⟨_, res1 rfl rfl, _, rfl, hS⟩
    refine e_loop (fun m_ E_ w112 => ∃ (x115 : Int), ∃ (R111 : Nat → Prop), iter (fun s => ref23_SameLists_B1 fuel a0 a1 s) m_ x115 = some tl86 ∧ Sep F R R111 w w112 [] ∧ IsSlice (Ty.slice Ty.int) w112 R111 v1 a0 ∧ IsSlice (Ty.slice Ty.int) w112 R111 v2 a1 ∧ E_ = [(0, v1), (1, v2), (5, .int .i64 x115)]) _ ⟨_, ⟨0, _, ht86, hS, f1, f2, rfl⟩, Sub.cons rfl (Sub.cons rfl (Sub.cons rfl (Sub.nil _)))⟩ ?_
    clear ht86 hS
    rintro m86 _ w112 ⟨x115, R111, ht86, hS, f113, f114, rfl⟩
    obtain ⟨m86, rfl, o86, ho86, ht86⟩ := iter_some ht86
    replace ho86 : ref23_SameLists_B1 fuel a0 a1 x115 = some o86 := ho86
    unfold ref23_SameLists_B1 at ho86
    refine e_seq fun K139 hK139 => ?_
    refine e_seq fun K140 hK140 => ?_
    refine e_region_text rfl ?_
    refine q_move rfl rfl ?_
    refine q_move rfl rfl ?_
    refine q_lenS rfl f113 rfl ?_
    refine q_lss rfl rfl rfl ?_
    refine eseq_nil ?_
    refine hK140 _ _ ?_
    refine e_cond rfl (fun hc141 => ?_) (fun hc141 => ?_)
    · replace ho86 := (if_pos hc141).symm.trans ho86
      refine e_skip ?_
      refine hK139 _ _ ?_
      refine e_seq fun K142 hK142 => ?_
      refine e_block ?_
      refine e_seq fun K143 hK143 => ?_
      refine e_region_draw mixed (fun _ => False) [0, 0, 3, 7, 0, 0, 48, 112, 255, 511] [] [0, 1, 2, 3, 4, 5, 6, 7, 8, 9] (by kernel_rfl) ?_
      refine q_move rfl rfl ?_
      refine q_move rfl rfl ?_
      obtain ⟨x144, hx144, ho86⟩ := Option.of_bind ho86
      refine q_atS (by infer_instance) rfl f113 rfl hx144 rfl fun b145 o145 hm145 f145 => ?_
      refine q_loadE rfl f145 rfl (fun v146 f146 => ?_)
      refine q_move rfl rfl ?_
      refine q_move rfl rfl ?_
      obtain ⟨x147, hx147, ho86⟩ := Option.of_bind ho86
      refine q_atS (by infer_instance) rfl f114 rfl hx147 rfl fun b148 o148 hm148 f148 => ?_
      refine q_loadE rfl f148 rfl (fun v149 f149 => ?_)
      obtain ⟨r151, hr151, ho86⟩ := Option.of_bind ho86
      refine q_call rfl (ref23_SameInts_w (Sep.enter (As := []) hS) f146 f149 hr151) rfl ?_
      rintro _ w150 ⟨R150, rfl, hC150⟩
      have hB150 : Below (World.heap w112).size w112 w150 := hC150.stepB0
      refine ⟨fun _ => .of_below hB150, ?_⟩
      replace f113 := (f113.ext hB150).mono fun k hk _ => hC150.ro0 k hk
      replace f114 := (f114.ext hB150).mono fun k hk _ => hC150.ro0 k hk
      replace f146 := (f146.ext hB150).mono fun k hk _ => hC150.ro0 k hk
      replace f149 := (f149.ext hB150).mono fun k hk _ => hC150.ro0 k hk
      replace hS := Sep.leave (As := []) hS hC150; simp only [List.cons_append, List.nil_append] at hS
      refine q_not rfl rfl ?_
      refine eseq_nil ?_
      refine hK143 _ _ ?_
      refine e_cond rfl (fun hc152 => ?_) (fun hc152 => ?_)
      · replace ho86 := (if_pos hc152).symm.trans ho86
        refine e_seq fun K153 hK153 => ?_
        refine e_region_text rfl ?_
        refine q_assign rfl rfl ?_
        refine eseq_nil ?_
        refine hK153 _ _ ?_
        refine e_ret ?_
        obtain rfl := Option.some.inj ho86
        obtain rfl := Option.some.inj ht86
        obtain rfl := Option.some.inj h
        exact ⟨_, res1 rfl rfl, _, rfl, hS⟩
      · replace ho86 := (if_neg (not_true hc152)).symm.trans ho86
        refine e_skip ?_
        refine hK142 _ _ ?_
        refine e_region_text rfl ?_
        refine q_move rfl rfl ?_
        refine q_addW rfl rfl rfl ?_
        refine q_assign rfl rfl ?_
        refine eseq_nil ?_
        obtain rfl := Option.some.inj ho86
        exact ⟨m86, _, Nat.lt_succ_self _, ⟨(w64 (x115 + 1)), _, ht86, hS, f113, f114, rfl⟩, Sub.cons rfl (Sub.cons rfl (Sub.cons rfl (Sub.nil _)))⟩
    · replace ho86 := (if_neg (not_true hc141)).symm.trans ho86
      refine e_exit ?_
      obtain rfl := Option.some.inj ho86
      obtain rfl := Option.some.inj ht86
      exact hX86_0  _ _ _ h hS  (Sub.nil _)
theorem ref23_SameBools_w {F R : Nat → Prop} {w : World} {fuel : Nat} {a0 : (List Bool)} {a1 : (List Bool)} {v1 : Value} {v2 : Value} {r : (Bool)} (hS : Sep F R R w w []) (f1 : IsSlice Ty.bool w R v1 a0) (f2 : IsSlice Ty.bool w R v2 a1) (h : ref23_SameBools fuel a0 a1 = some r) :
    Gives Try.prog 50 [v1, v2] w fun u w1 => ∃ (R1 : Nat → Prop), u = .bool r ∧ Sep F R R1 w w1 [] := by
  refine fn_of Try.func50 rfl Try.ntmps50 (Nat.le_of_ble_eq_true rfl) ?_
  unfold ref23_SameBools at h
  refine e_seq fun K67 hK67 => ?_
  refine e_region_text rfl ?_
  refine q_assign rfl rfl ?_
  refine eseq_nil ?_
  refine hK67 _ _ ?_
  refine e_seq fun K68 hK68 => ?_
  refine e_seq fun K69 hK69 => ?_
  refine e_region_text rfl ?_
  refine q_move rfl rfl ?_
  refine q_lenS rfl f1 rfl ?_
  refine q_move rfl rfl ?_
  refine q_lenS rfl f2 rfl ?_
  refine q_neq rfl rfl rfl ?_
  refine eseq_nil ?_
  refine hK69 _ _ ?_
  refine e_cond rfl (fun hc70 => ?_) (fun hc70 => ?_)
  · replace h := (if_pos hc70).symm.trans h
    refine e_seq fun K71 hK71 => ?_
    refine e_region_text rfl ?_
    refine q_assign rfl rfl ?_
    refine eseq_nil ?_
    refine hK71 _ _ ?_
    refine e_ret ?_
    obtain rfl := Option.some.inj h
    exact ⟨_, res1 rfl rfl, _, rfl, hS⟩
  · replace h := (if_neg (not_true hc70)).symm.trans h
    refine e_skip ?_
    refine hK68 _ _ ?_
    refine e_seq fun K72 hK72 => ?_
    refine e_seq fun K73 hK73 => ?_
    refine e_region_text rfl ?_
    refine q_assign rfl rfl ?_
    refine eseq_nil ?_
    refine hK73 _ _ ?_
    refine e_block ?_
    obtain ⟨tl74, ht74, h⟩ := Option.of_bind h
    have hX74_0 : ∀ (R116 : Nat → Prop) (w117 : World) (E_ : Env), ref23_SameBools_K1 fuel = some r → Sep F R R116 w w117 [] → Sub [] E_ → K72 E_ w117 := by
      intro R116 w117 E_ h hS  hsub
      refine hK72 _ _ (e_sub hsub ?_); clear hsub
      unfold ref23_SameBools_K1 at h
      refine e_seq fun K118 hK118 => ?_
      refine e_region_text rfl ?_
      refine q_assign rfl rfl ?_
      refine eseq_nil ?_
      refine hK118 _ _ ?_
      refine e_ret ?_
      obtain rfl := Option.some.inj h
      exact ⟨_, res1 rfl rfl, _, rfl, hS⟩
    refine e_loop (fun m_ E_ w96 => ∃ (x99 : Int), ∃ (R95 : Nat → Prop), iter (fun s => ref23_SameBools_B1 fuel a0 a1 s) m_ x99 = some tl74 ∧ Sep F R R95 w w96 [] ∧ IsSlice Ty.bool w96 R95 v1 a0 ∧ IsSlice Ty.bool w96 R95 v2 a1 ∧ E_ = [(0, v1), (1, v2), (5, .int .i64 x99)]) _ ⟨_, ⟨0, _, ht74, hS, f1, f2, rfl⟩, Sub.cons rfl (Sub.cons rfl (Sub.cons rfl (Sub.nil _)))⟩ ?_
    clear ht74 hS
    rintro m74 _ w96 ⟨x99, R95, ht74, hS, f97, f98, rfl⟩
    obtain ⟨m74, rfl, o74, ho74, ht74⟩ := iter_some ht74
    replace ho74 : ref23_SameBools_B1 fuel a0 a1 x99 = some o74 := ho74
    unfold ref23_SameBools_B1 at ho74
    refine e_seq fun K119 hK119 => ?_
    refine e_seq fun K120 hK120 => ?_
    refine e_region_text rfl ?_
    refine q_move rfl rfl ?_
    refine q_move rfl rfl ?_
    refine q_lenS rfl f97 rfl ?_
    refine q_lss rfl rfl rfl ?_
    refine eseq_nil ?_
    refine hK120 _ _ ?_
    refine e_cond rfl (fun hc121 => ?_) (fun hc121 => ?_)
    · replace ho74 := (if_pos hc121).symm.trans ho74
      refine e_skip ?_
      refine hK119 _ _ ?_
      refine e_seq fun K122 hK122 => ?_
      refine e_block ?_
      refine e_seq fun K123 hK123 => ?_
      refine e_region_draw mixed (fun _ => False) [0, 0, 3, 7, 0, 0, 48, 112, 255] [] [0, 1, 2, 3, 4, 5, 6, 7, 8] (by kernel_rfl) ?_
      refine q_move rfl rfl ?_
      refine q_move rfl rfl ?_
      obtain ⟨x124, hx124, ho74⟩ := Option.of_bind ho74
      refine q_atS (by infer_instance) rfl f97 rfl hx124 rfl fun b125 o125 hm125 f125 => ?_
      refine q_load rfl (Elt.boolCell f125) rfl ?_
      refine q_move rfl rfl ?_
      refine q_move rfl rfl ?_
      obtain ⟨x126, hx126, ho74⟩ := Option.of_bind ho74
      refine q_atS (by infer_instance) rfl f98 rfl hx126 rfl fun b127 o127 hm127 f127 => ?_
      refine q_load rfl (Elt.boolCell f127) rfl ?_
      refine q_neqB rfl rfl rfl ?_
      refine eseq_nil ?_
      refine hK123 _ _ ?_
      refine e_cond rfl (fun hc128 => ?_) (fun hc128 => ?_)
      · replace ho74 := (if_pos hc128).symm.trans ho74
        refine e_seq fun K129 hK129 => ?_
        refine e_region_text rfl ?_
        refine q_assign rfl rfl ?_
        refine eseq_nil ?_
        refine hK129 _ _ ?_
        refine e_ret ?_
        obtain rfl := Option.some.inj ho74
        obtain rfl := Option.some.inj ht74
        obtain rfl := Option.some.inj h
        exact ⟨_, res1 rfl rfl, _, rfl, hS⟩
      · replace ho74 := (if_neg (not_true hc128)).symm.trans ho74
        refine e_skip ?_
        refine hK122 _ _ ?_
        refine e_region_text rfl ?_
        refine q_move rfl rfl ?_
        refine q_addW rfl rfl rfl ?_
        refine q_assign rfl rfl ?_
        refine eseq_nil ?_
        obtain rfl := Option.some.inj ho74
        exact ⟨m74, _, Nat.lt_succ_self _, ⟨(w64 (x99 + 1)), _, ht74, hS, f97, f98, rfl⟩, Sub.cons rfl (Sub.cons rfl (Sub.cons rfl (Sub.nil _)))⟩
    · replace ho74 := (if_neg (not_true hc121)).symm.trans ho74
      refine e_exit ?_
      obtain rfl := Option.some.inj ho74
      obtain rfl := Option.some.inj ht74
      exact hX74_0  _ _ _ h hS  (Sub.nil _)
theorem ref16_sameInts_w {F R : Nat → Prop} {w : World} {fuel : Nat} {a0 : (List Int)} {a1 : (List Int)} {v1 : Value} {v2 : Value} {r : (Bool)} (hS : Sep F R R w w []) (f1 : IsSlice Ty.int w R v1 a0) (f2 : IsSlice Ty.int w R v2 a1) (h : ref16_sameInts fuel a0 a1 = some r) :
    Gives Try.prog 52 [v1, v2] w fun u w1 => ∃ (R1 : Nat → Prop), u = .bool r ∧ Sep F R R1 w w1 [] := by
  refine fn_of Try.func52 rfl Try.ntmps52 (Nat.le_of_ble_eq_true rfl) ?_
  unfold ref16_sameInts at h
  refine e_seq fun K67 hK67 => ?_
  refine e_region_text rfl ?_
  refine q_assign rfl rfl ?_
  refine eseq_nil ?_
  refine hK67 _ _ ?_
  refine e_seq fun K68 hK68 => ?_
  refine e_seq fun K69 hK69 => ?_
  refine e_region_text rfl ?_
  refine q_move rfl rfl ?_
  refine q_lenS rfl f1 rfl ?_
  refine q_move rfl rfl ?_
  refine q_lenS rfl f2 rfl ?_
  refine q_neq rfl rfl rfl ?_
  refine eseq_nil ?_
  refine hK69 _ _ ?_
  refine e_cond rfl (fun hc70 => ?_) (fun hc70 => ?_)
  · replace h := (if_pos hc70).symm.trans h
    refine e_seq fun K71 hK71 => ?_
    refine e_region_text rfl ?_
    refine q_assign rfl rfl ?_
    refine eseq_nil ?_
    refine hK71 _ _ ?_
    refine e_ret ?_
    obtain rfl := Option.some.inj h
    exact ⟨_, res1 rfl rfl, _, rfl, hS⟩
  · replace h := (if_neg (not_true hc70)).symm.trans h
    refine e_skip ?_
    refine hK68 _ _ ?_
    refine e_seq fun K72 hK72 => ?_
    refine e_seq fun K73 hK73 => ?_
    refine e_region_text rfl ?_
    refine q_assign rfl rfl ?_
    refine eseq_nil ?_
    refine hK73 _ _ ?_
    refine e_block ?_
    obtain ⟨tl74, ht74, h⟩ := Option.of_bind h
    have hX74_0 : ∀ (R116 : Nat → Prop) (w117 : World) (E_ : Env), ref16_sameInts_K1 fuel = some r → Sep F R R116 w w117 [] → Sub [] E_ → K72 E_ w117 := by
      intro R116 w117 E_ h hS  hsub
      refine hK72 _ _ (e_sub hsub ?_); clear hsub
      unfold ref16_sameInts_K1 at h
      refine e_seq fun K118 hK118 => ?_
      refine e_region_text rfl ?_
      refine q_assign rfl rfl ?_
      refine eseq_nil ?_
      refine hK118 _ _ ?_
      refine e_ret ?_
      obtain rfl := Option.some.inj h
      exact ⟨_, res1 rfl rfl, _, rfl, hS⟩
    refine e_loop (fun m_ E_ w96 => ∃ (x99 : Int), ∃ (R95 : Nat → Prop), iter (fun s => ref16_sameInts_B1 fuel a0 a1 s) m_ x99 = some tl74 ∧ Sep F R R95 w w96 [] ∧ IsSlice Ty.int w96 R95 v1 a0 ∧ IsSlice Ty.int w96 R95 v2 a1 ∧ E_ = [(0, v1), (1, v2), (5, .int .i64 x99)]) _ ⟨_, ⟨0, _, ht74, hS, f1, f2, rfl⟩, Sub.cons rfl (Sub.cons rfl (Sub.cons rfl (Sub.nil _)))⟩ ?_
    clear ht74 hS
    rintro m74 _ w96 ⟨x99, R95, ht74, hS, f97, f98, rfl⟩
    obtain ⟨m74, rfl, o74, ho74, ht74⟩ := iter_some ht74
    replace ho74 : ref16_sameInts_B1 fuel a0 a1 x99 = some o74 := ho74
    unfold ref16_sameInts_B1 at ho74
    refine e_seq fun K119 hK119 => ?_
    refine e_seq fun K120 hK120 => ?_
    refine e_region_text rfl ?_
    refine q_move rfl rfl ?_
    refine q_move rfl rfl ?_
    refine q_lenS rfl f97 rfl ?_
    refine q_lss rfl rfl rfl ?_
    refine eseq_nil ?_
    refine hK120 _ _ ?_
    refine e_cond rfl (fun hc121 => ?_) (fun hc121 => ?_)
    · replace ho74 := (if_pos hc121).symm.trans ho74
      refine e_skip ?_
      refine hK119 _ _ ?_
      refine e_seq fun K122 hK122 => ?_
      refine e_block ?_
      refine e_seq fun K123 hK123 => ?_
      refine e_region_draw mixed (fun _ => False) [0, 0, 3, 7, 0, 0, 48, 112, 255] [] [0, 1, 2, 3, 4, 5, 6, 7, 8] (by kernel_rfl) ?_
      refine q_move rfl rfl ?_
      refine q_move rfl rfl ?_
      obtain ⟨x124, hx124, ho74⟩ := Option.of_bind ho74
      refine q_atS (by infer_instance) rfl f97 rfl hx124 rfl fun b125 o125 hm125 f125 => ?_
      refine q_load rfl (Elt.intCell f125) rfl ?_
      refine q_move rfl rfl ?_
      refine q_move rfl rfl ?_
      obtain ⟨x126, hx126, ho74⟩ := Option.of_bind ho74
      refine q_atS (by infer_instance) rfl f98 rfl hx126 rfl fun b127 o127 hm127 f127 => ?_
      refine q_load rfl (Elt.intCell f127) rfl ?_
      refine q_neq rfl rfl rfl ?_
      refine eseq_nil ?_
      refine hK123 _ _ ?_
      refine e_cond rfl (fun hc128 => ?_) (fun hc128 => ?_)
      · replace ho74 := (if_pos hc128).symm.trans ho74
        refine e_seq fun K129 hK129 => ?_
        refine e_region_text rfl ?_
        refine q_assign rfl rfl ?_
        refine eseq_nil ?_
        refine hK129 _ _ ?_
        refine e_ret ?_
        obtain rfl := Option.some.inj ho74
        obtain rfl := Option.some.inj ht74
        obtain rfl := Option.some.inj h
        exact ⟨_, res1 rfl rfl, _, rfl, hS⟩
      · replace ho74 := (if_neg (not_true hc128)).symm.trans ho74
        refine e_skip ?_
        refine hK122 _ _ ?_
        refine e_region_text rfl ?_
        refine q_move rfl rfl ?_
        refine q_addW rfl rfl rfl ?_
        refine q_assign rfl rfl ?_
        refine eseq_nil ?_
        obtain rfl := Option.some.inj ho74
        exact ⟨m74, _, Nat.lt_succ_self _, ⟨(w64 (x99 + 1)), _, ht74, hS, f97, f98, rfl⟩, Sub.cons rfl (Sub.cons rfl (Sub.cons rfl (Sub.nil _)))⟩
    · replace ho74 := (if_neg (not_true hc121)).symm.trans ho74
      refine e_exit ?_
      obtain rfl := Option.some.inj ho74
      obtain rfl := Option.some.inj ht74
      exact hX74_0  _ _ _ h hS  (Sub.nil _)
theorem ref16_Same_w {F R : Nat → Prop} {w : World} {fuel : Nat} {a0 : Pat} {a1 : Pat} {v1 : Value} {v2 : Value} {v3 : Value} {v4 : Value} {v5 : Value} {v6 : Value} {r : (Bool)} (hS : Sep F R R w w []) (f1 : IsSlice Ty.int w R v1 a0.lens) (f2 : IsSlice (Ty.slice Ty.int) w R v2 a0.ckpts) (f3 : IsSlice arcTy w R v3 a0.arcs) (f4 : IsSlice Ty.int w R v4 a1.lens) (f5 : IsSlice (Ty.slice Ty.int) w R v5 a1.ckpts) (f6 : IsSlice arcTy w R v6 a1.arcs) (h : ref16_Same fuel a0 a1 = some r) :
    Gives Try.prog 18 [.agg #[v1, v2, v3], .agg #[v4, v5, v6]] w fun u w1 => ∃ (R1 : Nat → Prop), u = .bool r ∧ Sep F R R1 w w1 [] := by
  refine fn_of Try.func18 rfl Try.ntmps18 (Nat.le_of_ble_eq_true rfl) ?_
  unfold ref16_Same at h
  refine e_seq fun K198 hK198 => ?_
  refine e_region_text rfl ?_
  refine q_boxB rfl rfl rfl fun w199 bl199 hg199 hb199 hB199 => ?_
  replace f1 := f1.ext hB199
  replace f2 := f2.ext hB199
  replace f3 := f3.ext hB199
  replace f4 := f4.ext hB199
  replace f5 := f5.ext hB199
  replace f6 := f6.ext hB199
  replace hS := hS.newBlk hB199 hg199 hb199
  refine q_boxB rfl rfl rfl fun w201 bl201 hg201 hb201 hB201 => ?_
  replace f4 := f4.ext hB201
  replace f5 := f5.ext hB201
  replace f6 := f6.ext hB201
  replace f1 := f1.ext hB201
  replace f2 := f2.ext hB201
  replace f3 := f3.ext hB201
  replace hS := hS.newBlk hB201 hg201 hb201
  refine q_assign rfl rfl ?_
  refine eseq_nil ?_
  refine hK198 _ _ ?_
  refine e_seq fun K203 hK203 => ?_
  refine e_seq fun K204 hK204 => ?_
  refine e_region_text rfl ?_
  refine q_field rfl rfl ?_
  refine q_load rfl (Blk.cell (hS.blk 1 rfl) rfl) rfl ?_
  refine q_field rfl rfl ?_
  refine q_load rfl (Blk.cell (hS.blk 0 rfl) rfl) rfl ?_
  obtain ⟨r206, hr206, h⟩ := Option.of_bind h
  refine q_call rfl (ref16_sameInts_w (Sep.enter (As := []) hS) f1 f4 hr206) rfl ?_
  rintro _ w205 ⟨R205, rfl, hC205⟩
  have hB205 : Below (World.heap w201).size w201 w205 := hC205.stepB0
  refine ⟨fun _ => .of_below hB205, ?_⟩
  replace f1 := (f1.ext hB205).mono fun k hk _ => hC205.ro0 k hk
  replace f2 := (f2.ext hB205).mono fun k hk _ => hC205.ro0 k hk
  replace f3 := (f3.ext hB205).mono fun k hk _ => hC205.ro0 k hk
  replace f4 := (f4.ext hB205).mono fun k hk _ => hC205.ro0 k hk
  replace f5 := (f5.ext hB205).mono fun k hk _ => hC205.ro0 k hk
  replace f6 := (f6.ext hB205).mono fun k hk _ => hC205.ro0 k hk
  replace hS := Sep.leave (As := []) hS hC205; simp only [List.cons_append, List.nil_append] at hS
  refine q_not rfl rfl ?_
  refine q_move rfl rfl ?_
  obtain ⟨x210, hx209, h⟩ := Option.of_bind h
  refine g_orM 7 hx209 rfl trivial rfl rfl ?_ ?_ ?_
  · intro hg209
    refine g_skip rfl rfl rfl ?_
    refine g_skip rfl rfl rfl ?_
    refine g_skip rfl rfl rfl ?_
    refine g_skip rfl rfl rfl ?_
    refine g_skip rfl rfl rfl ?_
    refine g_skip rfl rfl rfl ?_
    refine g_skip rfl rfl rfl ?_
    exact eseq_nil ⟨rfl, Sub.set rfl (Sub.set rfl (Sub.set rfl (Sub.set rfl (Sub.set rfl (Sub.set rfl (Sub.set rfl (Sub.bool true rfl hg209)))))))⟩
  · intro hg209 hx209
    clear h
    have hT209 := Below.refl (World.heap w205).size w205
    refine g_run rfl ?_; refine q_field rfl rfl ?_
    refine g_run rfl ?_; refine q_load rfl (Blk.cell (hS.blk 1 rfl) rfl) rfl ?_
    refine g_run rfl ?_; refine q_lenS rfl f2 rfl ?_
    refine g_run rfl ?_; refine q_field rfl rfl ?_
    refine g_run rfl ?_; refine q_load rfl (Blk.cell (hS.blk 0 rfl) rfl) rfl ?_
    refine g_run rfl ?_; refine q_lenS rfl f5 rfl ?_
    refine g_run rfl ?_; refine q_neq rfl rfl rfl ?_
    cases hx209
    exact eseq_nil ⟨hT209, Sub.set rfl (Sub.set rfl (Sub.set rfl (Sub.set rfl (Sub.set rfl (Sub.set rfl (Sub.set rfl (Sub.bool false rfl hg209))))))), rfl⟩
  intro wm209 hBm209; clear hx209
  replace hS := hS.below hBm209
  replace f1 := f1.ext hBm209
  replace f2 := f2.ext hBm209
  replace f3 := f3.ext hBm209
  replace f4 := f4.ext hBm209
  replace f5 := f5.ext hBm209
  replace f6 := f6.ext hBm209
  refine q_move rfl rfl ?_
  obtain ⟨x214, hx213, h⟩ := Option.of_bind h
  refine g_orM 7 hx213 rfl trivial rfl rfl ?_ ?_ ?_
  · intro hg213
    refine g_skip rfl rfl rfl ?_
    refine g_skip rfl rfl rfl ?_
    refine g_skip rfl rfl rfl ?_
    refine g_skip rfl rfl rfl ?_
    refine g_skip rfl rfl rfl ?_
    refine g_skip rfl rfl rfl ?_
    refine g_skip rfl rfl rfl ?_
    exact eseq_nil ⟨rfl, Sub.set rfl (Sub.set rfl (Sub.set rfl (Sub.set rfl (Sub.set rfl (Sub.set rfl (Sub.set rfl (Sub.bool true rfl hg213)))))))⟩
  · intro hg213 hx213
    clear h
    have hT213 := Below.refl (World.heap wm209).size wm209
    refine g_run rfl ?_; refine q_field rfl rfl ?_
    refine g_run rfl ?_; refine q_load rfl (Blk.cell (hS.blk 1 rfl) rfl) rfl ?_
    refine g_run rfl ?_; refine q_lenS rfl f3 rfl ?_
    refine g_run rfl ?_; refine q_field rfl rfl ?_
    refine g_run rfl ?_; refine q_load rfl (Blk.cell (hS.blk 0 rfl) rfl) rfl ?_
    refine g_run rfl ?_; refine q_lenS rfl f6 rfl ?_
    refine g_run rfl ?_; refine q_neq rfl rfl rfl ?_
    cases hx213
    exact eseq_nil ⟨hT213, Sub.set rfl (Sub.set rfl (Sub.set rfl (Sub.set rfl (Sub.set rfl (Sub.set rfl (Sub.set rfl (Sub.bool false rfl hg213))))))), rfl⟩
  intro wm213 hBm213; clear hx213
  replace hS := hS.below hBm213
  replace f1 := f1.ext hBm213
  replace f2 := f2.ext hBm213
  replace f3 := f3.ext hBm213
  replace f4 := f4.ext hBm213
  replace f5 := f5.ext hBm213
  replace f6 := f6.ext hBm213
  refine eseq_nil ?_
  refine hK204 _ _ ?_
  refine e_cond rfl (fun hc215 => ?_) (fun hc215 => ?_)
  · replace h := (if_pos hc215).symm.trans h
    refine e_seq fun K216 hK216 => ?_
    refine e_region_text rfl ?_
    refine q_assign rfl rfl ?_
    refine eseq_nil ?_
    refine hK216 _ _ ?_
    refine e_ret ?_
    obtain rfl := Option.some.inj h
    exact ⟨_, res1 rfl rfl, _, rfl, (hS.pickB [] 2 rfl rfl)⟩
  · replace h := (if_neg (not_true hc215)).symm.trans h
    refine e_skip ?_
    refine hK203 _ _ ?_
    refine e_seq fun K217 hK217 => ?_
    refine e_seq fun K218 hK218 => ?_
    refine e_region_text rfl ?_
    refine q_assign rfl rfl ?_
    refine eseq_nil ?_
    refine hK218 _ _ ?_
    refine e_block ?_
    obtain ⟨tl219, ht219, h⟩ := Option.of_bind h
    have hX219_0 : ∀ (R285 : Nat → Prop) (w286 : World) (E_ : Env), ref16_Same_K1 fuel a0 a1 = some r → Sep F R R285 w w286 [HP.blk bl199 [v1, v2, v3] 31, HP.blk bl201 [v4, v5, v6] 31] → IsSlice Ty.int w286 R285 v1 a0.lens → IsSlice (Ty.slice Ty.int) w286 R285 v2 a0.ckpts → IsSlice arcTy w286 R285 v3 a0.arcs → IsSlice Ty.int w286 R285 v4 a1.lens → IsSlice (Ty.slice Ty.int) w286 R285 v5 a1.ckpts → IsSlice arcTy w286 R285 v6 a1.arcs → Sub [(2, .pointer (some ⟨bl199, 0, none⟩)), (3, .pointer (some ⟨bl201, 0, none⟩))] E_ → K217 E_ w286 := by
      intro R285 w286 E_ h hS f287 f288 f289 f290 f291 f292 hsub
      refine hK217 _ _ (e_sub hsub ?_); clear hsub
      unfold ref16_Same_K1 at h
      refine e_seq fun K293 hK293 => ?_
      refine e_seq fun K294 hK294 => ?_
      refine e_region_text rfl ?_
      refine q_assign rfl rfl ?_
      refine eseq_nil ?_
      refine hK294 _ _ ?_
      refine e_block ?_
      obtain ⟨tl295, ht295, h⟩ := Option.of_bind h
      have hX295_2 : ∀ (R357 : Nat → Prop) (w358 : World) (E_ : Env), ref16_Same_K2 fuel = some r → Sep F R R357 w w358 [] → Sub [] E_ → K293 E_ w358 := by
        intro R357 w358 E_ h hS  hsub
        refine hK293 _ _ (e_sub hsub ?_); clear hsub
        unfold ref16_Same_K2 at h
        refine e_seq fun K359 hK359 => ?_
        refine e_region_text rfl ?_
        refine q_assign rfl rfl ?_
        refine eseq_nil ?_
        refine hK359 _ _ ?_
        refine e_ret ?_
        obtain rfl := Option.some.inj h
        exact ⟨_, res1 rfl rfl, _, rfl, hS⟩
      refine e_loop (fun m_ E_ w327 => ∃ (x334 : Int), ∃ (R326 : Nat → Prop), iter (fun s => ref16_Same_B1 fuel a0 a1 s) m_ x334 = some tl295 ∧ Sep F R R326 w w327 [HP.blk bl199 [v1, v2, v3] 31, HP.blk bl201 [v4, v5, v6] 31] ∧ IsSlice Ty.int w327 R326 v1 a0.lens ∧ IsSlice (Ty.slice Ty.int) w327 R326 v2 a0.ckpts ∧ IsSlice arcTy w327 R326 v3 a0.arcs ∧ IsSlice Ty.int w327 R326 v4 a1.lens ∧ IsSlice (Ty.slice Ty.int) w327 R326 v5 a1.ckpts ∧ IsSlice arcTy w327 R326 v6 a1.arcs ∧ E_ = [(2, .pointer (some ⟨bl199, 0, none⟩)), (3, .pointer (some ⟨bl201, 0, none⟩)), (6, .int .i64 x334)]) _ ⟨_, ⟨0, _, ht295, hS, f287, f288, f289, f290, f291, f292, rfl⟩, Sub.cons rfl (Sub.cons rfl (Sub.cons rfl (Sub.nil _)))⟩ ?_
      clear ht295 hS
      rintro m295 _ w327 ⟨x334, R326, ht295, hS, f328, f329, f330, f331, f332, f333, rfl⟩
      obtain ⟨m295, rfl, o295, ho295, ht295⟩ := iter_some ht295
      replace ho295 : ref16_Same_B1 fuel a0 a1 x334 = some o295 := ho295
      unfold ref16_Same_B1 at ho295
      refine e_seq fun K360 hK360 => ?_
      refine e_seq fun K361 hK361 => ?_
      refine e_region_text rfl ?_
      refine q_move rfl rfl ?_
      refine q_field rfl rfl ?_
      refine q_load rfl (Blk.cell (hS.blk 0 rfl) rfl) rfl ?_
      refine q_lenS rfl f330 rfl ?_
      refine q_lss rfl rfl rfl ?_
      refine eseq_nil ?_
      refine hK361 _ _ ?_
      refine e_cond rfl (fun hc362 => ?_) (fun hc362 => ?_)
      · replace ho295 := (if_pos hc362).symm.trans ho295
        refine e_skip ?_
        refine hK360 _ _ ?_
        refine e_seq fun K363 hK363 => ?_
        refine e_block ?_
        refine e_seq fun K364 hK364 => ?_
        refine e_region_draw mixed (fun _ => False) [0, 1, 0, 7, 15, 0, 32, 0, 224, 480, 1023] [] [0, 1, 2, 3, 4, 5, 6, 7, 8, 9, 10] (by kernel_rfl) ?_
        refine q_field rfl rfl ?_
        refine q_load rfl (Blk.cell (hS.blk 0 rfl) rfl) rfl ?_
        refine q_move rfl rfl ?_
        obtain ⟨x365, hx365, ho295⟩ := Option.of_bind ho295
        refine q_atS (by infer_instance) rfl f330 rfl hx365 rfl fun b366 o366 hm366 f366 => ?_
        have hc367 := Arc_open f366
        refine q_loadAgg rfl hc367 rfl rfl ?_
        refine q_field rfl rfl ?_
        refine q_load rfl (Blk.cell (hS.blk 1 rfl) rfl) rfl ?_
        refine q_move rfl rfl ?_
        obtain ⟨x368, hx368, ho295⟩ := Option.of_bind ho295
        refine q_atS (by infer_instance) rfl f333 rfl hx368 rfl fun b369 o369 hm369 f369 => ?_
        have hc370 := Arc_open f369
        refine q_loadAgg rfl hc370 rfl rfl ?_
        refine q_neqA eqT107 (by kernel_rfl) rfl rfl rfl ?_
        refine eseq_nil ?_
        refine hK364 _ _ ?_
        refine e_cond rfl (fun hc371 => ?_) (fun hc371 => ?_)
        · replace ho295 := (if_pos hc371).symm.trans ho295
          refine e_seq fun K372 hK372 => ?_
          refine e_region_text rfl ?_
          refine q_assign rfl rfl ?_
          refine eseq_nil ?_
          refine hK372 _ _ ?_
          refine e_ret ?_
          obtain rfl := Option.some.inj ho295
          obtain rfl := Option.some.inj ht295
          obtain rfl := Option.some.inj h
          exact ⟨_, res1 rfl rfl, _, rfl, (hS.pickB [] 2 rfl rfl)⟩
        · replace ho295 := (if_neg (not_true hc371)).symm.trans ho295
          refine e_skip ?_
          refine hK363 _ _ ?_
          refine e_region_text rfl ?_
          refine q_move rfl rfl ?_
          refine q_addW rfl rfl rfl ?_
          refine q_assign rfl rfl ?_
          refine eseq_nil ?_
          obtain rfl := Option.some.inj ho295
          exact ⟨m295, _, Nat.lt_succ_self _, ⟨(w64 (x334 + 1)), _, ht295, hS, f328, f329, f330, f331, f332, f333, rfl⟩, Sub.cons rfl (Sub.cons rfl (Sub.cons rfl (Sub.nil _)))⟩
      · replace ho295 := (if_neg (not_true hc362)).symm.trans ho295
        refine e_exit ?_
        obtain rfl := Option.some.inj ho295
        obtain rfl := Option.some.inj ht295
        exact hX295_2  _ _ _ h (hS.pickB [] 2 rfl rfl)  (Sub.nil _)
    refine e_loop (fun m_ E_ w253 => ∃ (x260 : Int), ∃ (R252 : Nat → Prop), iter (fun s => ref16_Same_B2 fuel a0 a1 s) m_ x260 = some tl219 ∧ Sep F R R252 w w253 [HP.blk bl199 [v1, v2, v3] 31, HP.blk bl201 [v4, v5, v6] 31] ∧ IsSlice Ty.int w253 R252 v1 a0.lens ∧ IsSlice (Ty.slice Ty.int) w253 R252 v2 a0.ckpts ∧ IsSlice arcTy w253 R252 v3 a0.arcs ∧ IsSlice Ty.int w253 R252 v4 a1.lens ∧ IsSlice (Ty.slice Ty.int) w253 R252 v5 a1.ckpts ∧ IsSlice arcTy w253 R252 v6 a1.arcs ∧ E_ = [(2, .pointer (some ⟨bl199, 0, none⟩)), (3, .pointer (some ⟨bl201, 0, none⟩)), (5, .int .i64 x260)]) _ ⟨_, ⟨0, _, ht219, (hS.pickB [1, 0] 2 rfl rfl), f1, f2, f3, f4, f5, f6, rfl⟩, Sub.cons rfl (Sub.cons rfl (Sub.cons rfl (Sub.nil _)))⟩ ?_
    clear ht219 hS
    rintro m219 _ w253 ⟨x260, R252, ht219, hS, f254, f255, f256, f257, f258, f259, rfl⟩
    obtain ⟨m219, rfl, o219, ho219, ht219⟩ := iter_some ht219
    replace ho219 : ref16_Same_B2 fuel a0 a1 x260 = some o219 := ho219
    unfold ref16_Same_B2 at ho219
    refine e_seq fun K373 hK373 => ?_
    refine e_seq fun K374 hK374 => ?_
    refine e_region_text rfl ?_
    refine q_move rfl rfl ?_
    refine q_field rfl rfl ?_
    refine q_load rfl (Blk.cell (hS.blk 0 rfl) rfl) rfl ?_
    refine q_lenS rfl f255 rfl ?_
    refine q_lss rfl rfl rfl ?_
    refine eseq_nil ?_
    refine hK374 _ _ ?_
    refine e_cond rfl (fun hc375 => ?_) (fun hc375 => ?_)
    · replace ho219 := (if_pos hc375).symm.trans ho219
      refine e_skip ?_
      refine hK373 _ _ ?_
      refine e_seq fun K376 hK376 => ?_
      refine e_block ?_
      refine e_seq fun K377 hK377 => ?_
      refine e_region_draw mixed (fun _ => False) [0, 1, 0, 7, 15, 0, 32, 0, 224, 480, 1023, 2047] [] [0, 1, 2, 3, 4, 5, 6, 7, 8, 9, 10, 11] (by kernel_rfl) ?_
      refine q_field rfl rfl ?_
      refine q_load rfl (Blk.cell (hS.blk 0 rfl) rfl) rfl ?_
      refine q_move rfl rfl ?_
      obtain ⟨x378, hx378, ho219⟩ := Option.of_bind ho219
      refine q_atS (by infer_instance) rfl f255 rfl hx378 rfl fun b379 o379 hm379 f379 => ?_
      refine q_loadE rfl f379 rfl (fun v380 f380 => ?_)
      refine q_field rfl rfl ?_
      refine q_load rfl (Blk.cell (hS.blk 1 rfl) rfl) rfl ?_
      refine q_move rfl rfl ?_
      obtain ⟨x381, hx381, ho219⟩ := Option.of_bind ho219
      refine q_atS (by infer_instance) rfl f258 rfl hx381 rfl fun b382 o382 hm382 f382 => ?_
      refine q_loadE rfl f382 rfl (fun v383 f383 => ?_)
      obtain ⟨r385, hr385, ho219⟩ := Option.of_bind ho219
      refine q_call rfl (ref16_sameInts_w (Sep.enter (As := []) hS) f380 f383 hr385) rfl ?_
      rintro _ w384 ⟨R384, rfl, hC384⟩
      have hB384 : Below (World.heap w253).size w253 w384 := hC384.stepB0
      refine ⟨fun _ => .of_below hB384, ?_⟩
      replace f254 := (f254.ext hB384).mono fun k hk _ => hC384.ro0 k hk
      replace f255 := (f255.ext hB384).mono fun k hk _ => hC384.ro0 k hk
      replace f256 := (f256.ext hB384).mono fun k hk _ => hC384.ro0 k hk
      replace f257 := (f257.ext hB384).mono fun k hk _ => hC384.ro0 k hk
      replace f258 := (f258.ext hB384).mono fun k hk _ => hC384.ro0 k hk
      replace f259 := (f259.ext hB384).mono fun k hk _ => hC384.ro0 k hk
      replace f380 := (f380.ext hB384).mono fun k hk _ => hC384.ro0 k hk
      replace f383 := (f383.ext hB384).mono fun k hk _ => hC384.ro0 k hk
      replace hS := Sep.leave (As := []) hS hC384; simp only [List.cons_append, List.nil_append] at hS
      refine q_not rfl rfl ?_
      refine eseq_nil ?_
      refine hK377 _ _ ?_
      refine e_cond rfl (fun hc386 => ?_) (fun hc386 => ?_)
      · replace ho219 := (if_pos hc386).symm.trans ho219
        refine e_seq fun K387 hK387 => ?_
        refine e_region_text rfl ?_
        refine q_assign rfl rfl ?_
        refine eseq_nil ?_
        refine hK387 _ _ ?_
        refine e_ret ?_
        obtain rfl := Option.some.inj ho219
        obtain rfl := Option.some.inj ht219
        obtain rfl := Option.some.inj h
        exact ⟨_, res1 rfl rfl, _, rfl, (hS.pickB [] 2 rfl rfl)⟩
      · replace ho219 := (if_neg (not_true hc386)).symm.trans ho219
        refine e_skip ?_
        refine hK376 _ _ ?_
        refine e_region_text rfl ?_
        refine q_move rfl rfl ?_
        refine q_addW rfl rfl rfl ?_
        refine q_assign rfl rfl ?_
        refine eseq_nil ?_
        obtain rfl := Option.some.inj ho219
        exact ⟨m219, _, Nat.lt_succ_self _, ⟨(w64 (x260 + 1)), _, ht219, hS, f254, f255, f256, f257, f258, f259, rfl⟩, Sub.cons rfl (Sub.cons rfl (Sub.cons rfl (Sub.nil _)))⟩
    · replace ho219 := (if_neg (not_true hc375)).symm.trans ho219
      refine e_exit ?_
      obtain rfl := Option.some.inj ho219
      obtain rfl := Option.some.inj ht219
      exact hX219_0  _ _ _ h hS f254 f255 f256 f257 f258 f259 (Sub.cons rfl (Sub.cons rfl (Sub.nil _)))
theorem ref25_Same_w {F R : Nat → Prop} {w : World} {fuel : Nat} {a0 : Hist} {a1 : Hist} {v1 : Value} {v2 : Value} {v3 : Value} {v4 : Value} {v5 : Value} {v6 : Value} {v7 : Value} {v8 : Value} {v9 : Value} {v10 : Value} {v11 : Value} {v12 : Value} {r : (Bool)} (hS : Sep F R R w w []) (f1 : IsSlice Ty.int w R v1 a0.pat.lens) (f2 : IsSlice (Ty.slice Ty.int) w R v2 a0.pat.ckpts) (f3 : IsSlice arcTy w R v3 a0.pat.arcs) (f4 : IsSlice (Ty.slice Ty.int) w R v4 a0.clocks) (f5 : IsSlice (Ty.slice (Ty.slice Ty.int)) w R v5 a0.vecs) (f6 : IsSlice (Ty.slice Ty.bool) w R v6 a0.forced) (f7 : IsSlice Ty.int w R v7 a1.pat.lens) (f8 : IsSlice (Ty.slice Ty.int) w R v8 a1.pat.ckpts) (f9 : IsSlice arcTy w R v9 a1.pat.arcs) (f10 : IsSlice (Ty.slice Ty.int) w R v10 a1.clocks) (f11 : IsSlice (Ty.slice (Ty.slice Ty.int)) w R v11 a1.vecs) (f12 : IsSlice (Ty.slice Ty.bool) w R v12 a1.forced) (h : ref25_Same fuel a0 a1 = some r) :
    Gives Try.prog 16 [.agg #[v1, v2, v3, v4, v5, v6], .agg #[v7, v8, v9, v10, v11, v12]] w fun u w1 => ∃ (R1 : Nat → Prop), u = .bool r ∧ Sep F R R1 w w1 [] := by
  refine fn_of Try.func16 rfl Try.ntmps16 (Nat.le_of_ble_eq_true rfl) ?_
  unfold ref25_Same at h
  refine e_seq fun K272 hK272 => ?_
  refine e_region_text rfl ?_
  refine q_boxB rfl rfl rfl fun w273 bl273 hg273 hb273 hB273 => ?_
  replace f1 := f1.ext hB273
  replace f2 := f2.ext hB273
  replace f3 := f3.ext hB273
  replace f4 := f4.ext hB273
  replace f5 := f5.ext hB273
  replace f6 := f6.ext hB273
  replace f7 := f7.ext hB273
  replace f8 := f8.ext hB273
  replace f9 := f9.ext hB273
  replace f10 := f10.ext hB273
  replace f11 := f11.ext hB273
  replace f12 := f12.ext hB273
  replace hS := hS.newBlk hB273 hg273 hb273
  refine q_boxB rfl rfl rfl fun w275 bl275 hg275 hb275 hB275 => ?_
  replace f7 := f7.ext hB275
  replace f8 := f8.ext hB275
  replace f9 := f9.ext hB275
  replace f10 := f10.ext hB275
  replace f11 := f11.ext hB275
  replace f12 := f12.ext hB275
  replace f1 := f1.ext hB275
  replace f2 := f2.ext hB275
  replace f3 := f3.ext hB275
  replace f4 := f4.ext hB275
  replace f5 := f5.ext hB275
  replace f6 := f6.ext hB275
  replace hS := hS.newBlk hB275 hg275 hb275
  refine q_assign rfl rfl ?_
  refine eseq_nil ?_
  refine hK272 _ _ ?_
  refine e_seq fun K277 hK277 => ?_
  refine e_seq fun K278 hK278 => ?_
  refine e_region_text rfl ?_
  refine q_field rfl rfl ?_
  refine q_loadAgg rfl (Blk.cellsAt (hS.blk 1 rfl) 0 3 rfl) rfl rfl ?_
  refine q_field rfl rfl ?_
  refine q_loadAgg rfl (Blk.cellsAt (hS.blk 0 rfl) 0 3 rfl) rfl rfl ?_
  obtain ⟨r280, hr280, h⟩ := Option.of_bind h
  refine q_call rfl (ref16_Same_w (a0 := (⟨a0.pat.lens, a0.pat.ckpts, a0.pat.arcs⟩ : Pat)) (a1 := (⟨a1.pat.lens, a1.pat.ckpts, a1.pat.arcs⟩ : Pat)) (Sep.enter (As := []) hS) f1 f2 f3 f7 f8 f9 hr280) rfl ?_
  rintro _ w279 ⟨R279, rfl, hC279⟩
  have hB279 : Below (World.heap w275).size w275 w279 := hC279.stepB0
  refine ⟨fun _ => .of_below hB279, ?_⟩
  replace f1 := (f1.ext hB279).mono fun k hk _ => hC279.ro0 k hk
  replace f2 := (f2.ext hB279).mono fun k hk _ => hC279.ro0 k hk
  replace f3 := (f3.ext hB279).mono fun k hk _ => hC279.ro0 k hk
  replace f4 := (f4.ext hB279).mono fun k hk _ => hC279.ro0 k hk
  replace f5 := (f5.ext hB279).mono fun k hk _ => hC279.ro0 k hk
  replace f6 := (f6.ext hB279).mono fun k hk _ => hC279.ro0 k hk
  replace f7 := (f7.ext hB279).mono fun k hk _ => hC279.ro0 k hk
  replace f8 := (f8.ext hB279).mono fun k hk _ => hC279.ro0 k hk
  replace f9 := (f9.ext hB279).mono fun k hk _ => hC279.ro0 k hk
  replace f10 := (f10.ext hB279).mono fun k hk _ => hC279.ro0 k hk
  replace f11 := (f11.ext hB279).mono fun k hk _ => hC279.ro0 k hk
  replace f12 := (f12.ext hB279).mono fun k hk _ => hC279.ro0 k hk
  replace hS := Sep.leave (As := []) hS hC279; simp only [List.cons_append, List.nil_append] at hS
  refine q_not rfl rfl ?_
  refine q_move rfl rfl ?_
  obtain ⟨x286, hx285, h⟩ := Option.of_bind h
  refine g_orM 6 hx285 rfl trivial rfl rfl ?_ ?_ ?_
  · intro hg285
    refine g_skip rfl rfl rfl ?_
    refine g_skip rfl rfl rfl ?_
    refine g_skip rfl rfl rfl ?_
    refine g_skip rfl rfl rfl ?_
    refine g_skip rfl rfl rfl ?_
    refine g_skip rfl rfl rfl ?_
    exact eseq_nil ⟨rfl, Sub.set rfl (Sub.set rfl (Sub.set rfl (Sub.set rfl (Sub.set rfl (Sub.set rfl (Sub.bool true rfl hg285))))))⟩
  · intro hg285 hx285
    clear h
    have hT285 := Below.refl (World.heap w279).size w279
    refine g_run rfl ?_; refine q_field rfl rfl ?_
    refine g_run rfl ?_; refine q_load rfl (Blk.cell (hS.blk 1 rfl) rfl) rfl ?_
    refine g_run rfl ?_; refine q_field rfl rfl ?_
    refine g_run rfl ?_; refine q_load rfl (Blk.cell (hS.blk 0 rfl) rfl) rfl ?_
    obtain ⟨r288, hr288, hx285⟩ := Option.of_bind hx285
    refine g_run rfl ?_; refine q_call rfl (ref23_SameLists_w (Sep.enter (As := []) hS) f4 f10 hr288) rfl ?_
    rintro _ w287 ⟨R287, rfl, hC287⟩
    have hB287 : Below (World.heap w279).size w279 w287 := hC287.stepB0
    refine ⟨fun _ => .of_below hB287, ?_⟩
    replace f1 := (f1.ext hB287).mono fun k hk _ => hC287.ro0 k hk
    replace f2 := (f2.ext hB287).mono fun k hk _ => hC287.ro0 k hk
    replace f3 := (f3.ext hB287).mono fun k hk _ => hC287.ro0 k hk
    replace f4 := (f4.ext hB287).mono fun k hk _ => hC287.ro0 k hk
    replace f5 := (f5.ext hB287).mono fun k hk _ => hC287.ro0 k hk
    replace f6 := (f6.ext hB287).mono fun k hk _ => hC287.ro0 k hk
    replace f7 := (f7.ext hB287).mono fun k hk _ => hC287.ro0 k hk
    replace f8 := (f8.ext hB287).mono fun k hk _ => hC287.ro0 k hk
    replace f9 := (f9.ext hB287).mono fun k hk _ => hC287.ro0 k hk
    replace f10 := (f10.ext hB287).mono fun k hk _ => hC287.ro0 k hk
    replace f11 := (f11.ext hB287).mono fun k hk _ => hC287.ro0 k hk
    replace f12 := (f12.ext hB287).mono fun k hk _ => hC287.ro0 k hk
    replace hT285 := hT285.trans (Below.mono hB287 hT285.size)
    replace hS := Sep.leave (As := []) hS hC287; simp only [List.cons_append, List.nil_append] at hS
    refine g_run rfl ?_; refine q_not rfl rfl ?_
    cases hx285
    exact eseq_nil ⟨hT285, Sub.set rfl (Sub.set rfl (Sub.set rfl (Sub.set rfl (Sub.set rfl (Sub.set rfl (Sub.bool false rfl hg285)))))), rfl⟩
  intro wm285 hBm285; clear hx285
  replace hS := hS.below hBm285
  replace f1 := f1.ext hBm285
  replace f2 := f2.ext hBm285
  replace f3 := f3.ext hBm285
  replace f4 := f4.ext hBm285
  replace f5 := f5.ext hBm285
  replace f6 := f6.ext hBm285
  replace f7 := f7.ext hBm285
  replace f8 := f8.ext hBm285
  replace f9 := f9.ext hBm285
  replace f10 := f10.ext hBm285
  replace f11 := f11.ext hBm285
  replace f12 := f12.ext hBm285
  refine q_move rfl rfl ?_
  obtain ⟨x292, hx291, h⟩ := Option.of_bind h
  refine g_orM 7 hx291 rfl trivial rfl rfl ?_ ?_ ?_
  · intro hg291
    refine g_skip rfl rfl rfl ?_
    refine g_skip rfl rfl rfl ?_
    refine g_skip rfl rfl rfl ?_
    refine g_skip rfl rfl rfl ?_
    refine g_skip rfl rfl rfl ?_
    refine g_skip rfl rfl rfl ?_
    refine g_skip rfl rfl rfl ?_
    exact eseq_nil ⟨rfl, Sub.set rfl (Sub.set rfl (Sub.set rfl (Sub.set rfl (Sub.set rfl (Sub.set rfl (Sub.set rfl (Sub.bool true rfl hg291)))))))⟩
  · intro hg291 hx291
    clear h
    have hT291 := Below.refl (World.heap wm285).size wm285
    refine g_run rfl ?_; refine q_field rfl rfl ?_
    refine g_run rfl ?_; refine q_load rfl (Blk.cell (hS.blk 1 rfl) rfl) rfl ?_
    refine g_run rfl ?_; refine q_lenS rfl f5 rfl ?_
    refine g_run rfl ?_; refine q_field rfl rfl ?_
    refine g_run rfl ?_; refine q_load rfl (Blk.cell (hS.blk 0 rfl) rfl) rfl ?_
    refine g_run rfl ?_; refine q_lenS rfl f11 rfl ?_
    refine g_run rfl ?_; refine q_neq rfl rfl rfl ?_
    cases hx291
    exact eseq_nil ⟨hT291, Sub.set rfl (Sub.set rfl (Sub.set rfl (Sub.set rfl (Sub.set rfl (Sub.set rfl (Sub.set rfl (Sub.bool false rfl hg291))))))), rfl⟩
  intro wm291 hBm291; clear hx291
  replace hS := hS.below hBm291
  replace f1 := f1.ext hBm291
  replace f2 := f2.ext hBm291
  replace f3 := f3.ext hBm291
  replace f4 := f4.ext hBm291
  replace f5 := f5.ext hBm291
  replace f6 := f6.ext hBm291
  replace f7 := f7.ext hBm291
  replace f8 := f8.ext hBm291
  replace f9 := f9.ext hBm291
  replace f10 := f10.ext hBm291
  replace f11 := f11.ext hBm291
  replace f12 := f12.ext hBm291
  refine q_move rfl rfl ?_
  obtain ⟨x296, hx295, h⟩ := Option.of_bind h
  refine g_orM 7 hx295 rfl trivial rfl rfl ?_ ?_ ?_
  · intro hg295
    refine g_skip rfl rfl rfl ?_
    refine g_skip rfl rfl rfl ?_
    refine g_skip rfl rfl rfl ?_
    refine g_skip rfl rfl rfl ?_
    refine g_skip rfl rfl rfl ?_
    refine g_skip rfl rfl rfl ?_
    refine g_skip rfl rfl rfl ?_
    exact eseq_nil ⟨rfl, Sub.set rfl (Sub.set rfl (Sub.set rfl (Sub.set rfl (Sub.set rfl (Sub.set rfl (Sub.set rfl (Sub.bool true rfl hg295)))))))⟩
  · intro hg295 hx295
    clear h
    have hT295 := Below.refl (World.heap wm291).size wm291
    refine g_run rfl ?_; refine q_field rfl rfl ?_
    refine g_run rfl ?_; refine q_load rfl (Blk.cell (hS.blk 1 rfl) rfl) rfl ?_
    refine g_run rfl ?_; refine q_lenS rfl f6 rfl ?_
    refine g_run rfl ?_; refine q_field rfl rfl ?_
    refine g_run rfl ?_; refine q_load rfl (Blk.cell (hS.blk 0 rfl) rfl) rfl ?_
    refine g_run rfl ?_; refine q_lenS rfl f12 rfl ?_
    refine g_run rfl ?_; refine q_neq rfl rfl rfl ?_
    cases hx295
    exact eseq_nil ⟨hT295, Sub.set rfl (Sub.set rfl (Sub.set rfl (Sub.set rfl (Sub.set rfl (Sub.set rfl (Sub.set rfl (Sub.bool false rfl hg295))))))), rfl⟩
  intro wm295 hBm295; clear hx295
  replace hS := hS.below hBm295
  replace f1 := f1.ext hBm295
  replace f2 := f2.ext hBm295
  replace f3 := f3.ext hBm295
  replace f4 := f4.ext hBm295
  replace f5 := f5.ext hBm295
  replace f6 := f6.ext hBm295
  replace f7 := f7.ext hBm295
  replace f8 := f8.ext hBm295
  replace f9 := f9.ext hBm295
  replace f10 := f10.ext hBm295
  replace f11 := f11.ext hBm295
  replace f12 := f12.ext hBm295
  refine eseq_nil ?_
  refine hK278 _ _ ?_
  refine e_cond rfl (fun hc297 => ?_) (fun hc297 => ?_)
  · replace h := (if_pos hc297).symm.trans h
    refine e_seq fun K298 hK298 => ?_
    refine e_region_text rfl ?_
    refine q_assign rfl rfl ?_
    refine eseq_nil ?_
    refine hK298 _ _ ?_
    refine e_ret ?_
    obtain rfl := Option.some.inj h
    exact ⟨_, res1 rfl rfl, _, rfl, (hS.pickB [] 2 rfl rfl)⟩
  · replace h := (if_neg (not_true hc297)).symm.trans h
    refine e_skip ?_
    refine hK277 _ _ ?_
    refine e_seq fun K299 hK299 => ?_
    refine e_seq fun K300 hK300 => ?_
    refine e_region_text rfl ?_
    refine q_assign rfl rfl ?_
    refine eseq_nil ?_
    refine hK300 _ _ ?_
    refine e_block ?_
    obtain ⟨tl301, ht301, h⟩ := Option.of_bind h
    have hX301_0 : ∀ (R391 : Nat → Prop) (w392 : World) (E_ : Env), ref25_Same_K1 fuel a0 a1 = some r → Sep F R R391 w w392 [HP.blk bl273 [v1, v2, v3, v4, v5, v6] 35, HP.blk bl275 [v7, v8, v9, v10, v11, v12] 35] → IsSlice Ty.int w392 R391 v1 a0.pat.lens → IsSlice (Ty.slice Ty.int) w392 R391 v2 a0.pat.ckpts → IsSlice arcTy w392 R391 v3 a0.pat.arcs → IsSlice (Ty.slice Ty.int) w392 R391 v4 a0.clocks → IsSlice (Ty.slice (Ty.slice Ty.int)) w392 R391 v5 a0.vecs → IsSlice (Ty.slice Ty.bool) w392 R391 v6 a0.forced → IsSlice Ty.int w392 R391 v7 a1.pat.lens → IsSlice (Ty.slice Ty.int) w392 R391 v8 a1.pat.ckpts → IsSlice arcTy w392 R391 v9 a1.pat.arcs → IsSlice (Ty.slice Ty.int) w392 R391 v10 a1.clocks → IsSlice (Ty.slice (Ty.slice Ty.int)) w392 R391 v11 a1.vecs → IsSlice (Ty.slice Ty.bool) w392 R391 v12 a1.forced → Sub [(2, .pointer (some ⟨bl273, 0, none⟩)), (3, .pointer (some ⟨bl275, 0, none⟩))] E_ → K299 E_ w392 := by
      intro R391 w392 E_ h hS f393 f394 f395 f396 f397 f398 f399 f400 f401 f402 f403 f404 hsub
      refine hK299 _ _ (e_sub hsub ?_); clear hsub
      unfold ref25_Same_K1 at h
      refine e_seq fun K405 hK405 => ?_
      refine e_seq fun K406 hK406 => ?_
      refine e_region_text rfl ?_
      refine q_assign rfl rfl ?_
      refine eseq_nil ?_
      refine hK406 _ _ ?_
      refine e_block ?_
      obtain ⟨tl407, ht407, h⟩ := Option.of_bind h
      have hX407_2 : ∀ (R497 : Nat → Prop) (w498 : World) (E_ : Env), ref25_Same_K2 fuel = some r → Sep F R R497 w w498 [] → Sub [] E_ → K405 E_ w498 := by
        intro R497 w498 E_ h hS  hsub
        refine hK405 _ _ (e_sub hsub ?_); clear hsub
        unfold ref25_Same_K2 at h
        refine e_seq fun K499 hK499 => ?_
        refine e_region_text rfl ?_
        refine q_assign rfl rfl ?_
        refine eseq_nil ?_
        refine hK499 _ _ ?_
        refine e_ret ?_
        obtain rfl := Option.some.inj h
        exact ⟨_, res1 rfl rfl, _, rfl, hS⟩
      refine e_loop (fun m_ E_ w453 => ∃ (x466 : Int), ∃ (R452 : Nat → Prop), iter (fun s => ref25_Same_B1 fuel a0 a1 s) m_ x466 = some tl407 ∧ Sep F R R452 w w453 [HP.blk bl273 [v1, v2, v3, v4, v5, v6] 35, HP.blk bl275 [v7, v8, v9, v10, v11, v12] 35] ∧ IsSlice Ty.int w453 R452 v1 a0.pat.lens ∧ IsSlice (Ty.slice Ty.int) w453 R452 v2 a0.pat.ckpts ∧ IsSlice arcTy w453 R452 v3 a0.pat.arcs ∧ IsSlice (Ty.slice Ty.int) w453 R452 v4 a0.clocks ∧ IsSlice (Ty.slice (Ty.slice Ty.int)) w453 R452 v5 a0.vecs ∧ IsSlice (Ty.slice Ty.bool) w453 R452 v6 a0.forced ∧ IsSlice Ty.int w453 R452 v7 a1.pat.lens ∧ IsSlice (Ty.slice Ty.int) w453 R452 v8 a1.pat.ckpts ∧ IsSlice arcTy w453 R452 v9 a1.pat.arcs ∧ IsSlice (Ty.slice Ty.int) w453 R452 v10 a1.clocks ∧ IsSlice (Ty.slice (Ty.slice Ty.int)) w453 R452 v11 a1.vecs ∧ IsSlice (Ty.slice Ty.bool) w453 R452 v12 a1.forced ∧ E_ = [(2, .pointer (some ⟨bl273, 0, none⟩)), (3, .pointer (some ⟨bl275, 0, none⟩)), (6, .int .i64 x466)]) _ ⟨_, ⟨0, _, ht407, hS, f393, f394, f395, f396, f397, f398, f399, f400, f401, f402, f403, f404, rfl⟩, Sub.cons rfl (Sub.cons rfl (Sub.cons rfl (Sub.nil _)))⟩ ?_
      clear ht407 hS
      rintro m407 _ w453 ⟨x466, R452, ht407, hS, f454, f455, f456, f457, f458, f459, f460, f461, f462, f463, f464, f465, rfl⟩
      obtain ⟨m407, rfl, o407, ho407, ht407⟩ := iter_some ht407
      replace ho407 : ref25_Same_B1 fuel a0 a1 x466 = some o407 := ho407
      unfold ref25_Same_B1 at ho407
      refine e_seq fun K500 hK500 => ?_
      refine e_seq fun K501 hK501 => ?_
      refine e_region_text rfl ?_
      refine q_move rfl rfl ?_
      refine q_field rfl rfl ?_
      refine q_load rfl (Blk.cell (hS.blk 0 rfl) rfl) rfl ?_
      refine q_lenS rfl f459 rfl ?_
      refine q_lss rfl rfl rfl ?_
      refine eseq_nil ?_
      refine hK501 _ _ ?_
      refine e_cond rfl (fun hc502 => ?_) (fun hc502 => ?_)
      · replace ho407 := (if_pos hc502).symm.trans ho407
        refine e_skip ?_
        refine hK500 _ _ ?_
        refine e_seq fun K503 hK503 => ?_
        refine e_block ?_
        refine e_seq fun K504 hK504 => ?_
        refine e_region_draw mixed (fun _ => False) [0, 1, 0, 7, 15, 0, 32, 0, 224, 480, 1023, 2047] [] [0, 1, 2, 3, 4, 5, 6, 7, 8, 9, 10, 11] (by kernel_rfl) ?_
        refine q_field rfl rfl ?_
        refine q_load rfl (Blk.cell (hS.blk 0 rfl) rfl) rfl ?_
        refine q_move rfl rfl ?_
        obtain ⟨x505, hx505, ho407⟩ := Option.of_bind ho407
        refine q_atS (by infer_instance) rfl f459 rfl hx505 rfl fun b506 o506 hm506 f506 => ?_
        refine q_loadE rfl f506 rfl (fun v507 f507 => ?_)
        refine q_field rfl rfl ?_
        refine q_load rfl (Blk.cell (hS.blk 1 rfl) rfl) rfl ?_
        refine q_move rfl rfl ?_
        obtain ⟨x508, hx508, ho407⟩ := Option.of_bind ho407
        refine q_atS (by infer_instance) rfl f465 rfl hx508 rfl fun b509 o509 hm509 f509 => ?_
        refine q_loadE rfl f509 rfl (fun v510 f510 => ?_)
        obtain ⟨r512, hr512, ho407⟩ := Option.of_bind ho407
        refine q_call rfl (ref23_SameBools_w (Sep.enter (As := []) hS) f507 f510 hr512) rfl ?_
        rintro _ w511 ⟨R511, rfl, hC511⟩
        have hB511 : Below (World.heap w453).size w453 w511 := hC511.stepB0
        refine ⟨fun _ => .of_below hB511, ?_⟩
        replace f454 := (f454.ext hB511).mono fun k hk _ => hC511.ro0 k hk
        replace f455 := (f455.ext hB511).mono fun k hk _ => hC511.ro0 k hk
        replace f456 := (f456.ext hB511).mono fun k hk _ => hC511.ro0 k hk
        replace f457 := (f457.ext hB511).mono fun k hk _ => hC511.ro0 k hk
        replace f458 := (f458.ext hB511).mono fun k hk _ => hC511.ro0 k hk
        replace f459 := (f459.ext hB511).mono fun k hk _ => hC511.ro0 k hk
        replace f460 := (f460.ext hB511).mono fun k hk _ => hC511.ro0 k hk
        replace f461 := (f461.ext hB511).mono fun k hk _ => hC511.ro0 k hk
        replace f462 := (f462.ext hB511).mono fun k hk _ => hC511.ro0 k hk
        replace f463 := (f463.ext hB511).mono fun k hk _ => hC511.ro0 k hk
        replace f464 := (f464.ext hB511).mono fun k hk _ => hC511.ro0 k hk
        replace f465 := (f465.ext hB511).mono fun k hk _ => hC511.ro0 k hk
        replace f507 := (f507.ext hB511).mono fun k hk _ => hC511.ro0 k hk
        replace f510 := (f510.ext hB511).mono fun k hk _ => hC511.ro0 k hk
        replace hS := Sep.leave (As := []) hS hC511; simp only [List.cons_append, List.nil_append] at hS
        refine q_not rfl rfl ?_
        refine eseq_nil ?_
        refine hK504 _ _ ?_
        refine e_cond rfl (fun hc513 => ?_) (fun hc513 => ?_)
        · replace ho407 := (if_pos hc513).symm.trans ho407
          refine e_seq fun K514 hK514 => ?_
          refine e_region_text rfl ?_
          refine q_assign rfl rfl ?_
          refine eseq_nil ?_
          refine hK514 _ _ ?_
          refine e_ret ?_
          obtain rfl := Option.some.inj ho407
          obtain rfl := Option.some.inj ht407
          obtain rfl := Option.some.inj h
          exact ⟨_, res1 rfl rfl, _, rfl, (hS.pickB [] 2 rfl rfl)⟩
        · replace ho407 := (if_neg (not_true hc513)).symm.trans ho407
          refine e_skip ?_
          refine hK503 _ _ ?_
          refine e_region_text rfl ?_
          refine q_move rfl rfl ?_
          refine q_addW rfl rfl rfl ?_
          refine q_assign rfl rfl ?_
          refine eseq_nil ?_
          obtain rfl := Option.some.inj ho407
          exact ⟨m407, _, Nat.lt_succ_self _, ⟨(w64 (x466 + 1)), _, ht407, hS, f454, f455, f456, f457, f458, f459, f460, f461, f462, f463, f464, f465, rfl⟩, Sub.cons rfl (Sub.cons rfl (Sub.cons rfl (Sub.nil _)))⟩
      · replace ho407 := (if_neg (not_true hc502)).symm.trans ho407
        refine e_exit ?_
        obtain rfl := Option.some.inj ho407
        obtain rfl := Option.some.inj ht407
        exact hX407_2  _ _ _ h (hS.pickB [] 2 rfl rfl)  (Sub.nil _)
    refine e_loop (fun m_ E_ w347 => ∃ (x360 : Int), ∃ (R346 : Nat → Prop), iter (fun s => ref25_Same_B2 fuel a0 a1 s) m_ x360 = some tl301 ∧ Sep F R R346 w w347 [HP.blk bl273 [v1, v2, v3, v4, v5, v6] 35, HP.blk bl275 [v7, v8, v9, v10, v11, v12] 35] ∧ IsSlice Ty.int w347 R346 v1 a0.pat.lens ∧ IsSlice (Ty.slice Ty.int) w347 R346 v2 a0.pat.ckpts ∧ IsSlice arcTy w347 R346 v3 a0.pat.arcs ∧ IsSlice (Ty.slice Ty.int) w347 R346 v4 a0.clocks ∧ IsSlice (Ty.slice (Ty.slice Ty.int)) w347 R346 v5 a0.vecs ∧ IsSlice (Ty.slice Ty.bool) w347 R346 v6 a0.forced ∧ IsSlice Ty.int w347 R346 v7 a1.pat.lens ∧ IsSlice (Ty.slice Ty.int) w347 R346 v8 a1.pat.ckpts ∧ IsSlice arcTy w347 R346 v9 a1.pat.arcs ∧ IsSlice (Ty.slice Ty.int) w347 R346 v10 a1.clocks ∧ IsSlice (Ty.slice (Ty.slice Ty.int)) w347 R346 v11 a1.vecs ∧ IsSlice (Ty.slice Ty.bool) w347 R346 v12 a1.forced ∧ E_ = [(2, .pointer (some ⟨bl273, 0, none⟩)), (3, .pointer (some ⟨bl275, 0, none⟩)), (5, .int .i64 x360)]) _ ⟨_, ⟨0, _, ht301, (hS.pickB [1, 0] 2 rfl rfl), f1, f2, f3, f4, f5, f6, f7, f8, f9, f10, f11, f12, rfl⟩, Sub.cons rfl (Sub.cons rfl (Sub.cons rfl (Sub.nil _)))⟩ ?_
    clear ht301 hS
    rintro m301 _ w347 ⟨x360, R346, ht301, hS, f348, f349, f350, f351, f352, f353, f354, f355, f356, f357, f358, f359, rfl⟩
    obtain ⟨m301, rfl, o301, ho301, ht301⟩ := iter_some ht301
    replace ho301 : ref25_Same_B2 fuel a0 a1 x360 = some o301 := ho301
    unfold ref25_Same_B2 at ho301
    refine e_seq fun K515 hK515 => ?_
    refine e_seq fun K516 hK516 => ?_
    refine e_region_text rfl ?_
    refine q_move rfl rfl ?_
    refine q_field rfl rfl ?_
    refine q_load rfl (Blk.cell (hS.blk 0 rfl) rfl) rfl ?_
    refine q_lenS rfl f352 rfl ?_
    refine q_lss rfl rfl rfl ?_
    refine eseq_nil ?_
    refine hK516 _ _ ?_
    refine e_cond rfl (fun hc517 => ?_) (fun hc517 => ?_)
    · replace ho301 := (if_pos hc517).symm.trans ho301
      refine e_skip ?_
      refine hK515 _ _ ?_
      refine e_seq fun K518 hK518 => ?_
      refine e_block ?_
      refine e_seq fun K519 hK519 => ?_
      refine e_region_draw mixed (fun _ => False) [0, 1, 0, 7, 15, 0, 32, 0, 224, 480, 1023, 2047] [] [0, 1, 2, 3, 4, 5, 6, 7, 8, 9, 10, 11] (by kernel_rfl) ?_
      refine q_field rfl rfl ?_
      refine q_load rfl (Blk.cell (hS.blk 0 rfl) rfl) rfl ?_
      refine q_move rfl rfl ?_
      obtain ⟨x520, hx520, ho301⟩ := Option.of_bind ho301
      refine q_atS (by infer_instance) rfl f352 rfl hx520 rfl fun b521 o521 hm521 f521 => ?_
      refine q_loadE rfl f521 rfl (fun v522 f522 => ?_)
      refine q_field rfl rfl ?_
      refine q_load rfl (Blk.cell (hS.blk 1 rfl) rfl) rfl ?_
      refine q_move rfl rfl ?_
      obtain ⟨x523, hx523, ho301⟩ := Option.of_bind ho301
      refine q_atS (by infer_instance) rfl f358 rfl hx523 rfl fun b524 o524 hm524 f524 => ?_
      refine q_loadE rfl f524 rfl (fun v525 f525 => ?_)
      obtain ⟨r527, hr527, ho301⟩ := Option.of_bind ho301
      refine q_call rfl (ref23_SameLists_w (Sep.enter (As := []) hS) f522 f525 hr527) rfl ?_
      rintro _ w526 ⟨R526, rfl, hC526⟩
      have hB526 : Below (World.heap w347).size w347 w526 := hC526.stepB0
      refine ⟨fun _ => .of_below hB526, ?_⟩
      replace f348 := (f348.ext hB526).mono fun k hk _ => hC526.ro0 k hk
      replace f349 := (f349.ext hB526).mono fun k hk _ => hC526.ro0 k hk
      replace f350 := (f350.ext hB526).mono fun k hk _ => hC526.ro0 k hk
      replace f351 := (f351.ext hB526).mono fun k hk _ => hC526.ro0 k hk
      replace f352 := (f352.ext hB526).mono fun k hk _ => hC526.ro0 k hk
      replace f353 := (f353.ext hB526).mono fun k hk _ => hC526.ro0 k hk
      replace f354 := (f354.ext hB526).mono fun k hk _ => hC526.ro0 k hk
      replace f355 := (f355.ext hB526).mono fun k hk _ => hC526.ro0 k hk
      replace f356 := (f356.ext hB526).mono fun k hk _ => hC526.ro0 k hk
      replace f357 := (f357.ext hB526).mono fun k hk _ => hC526.ro0 k hk
      replace f358 := (f358.ext hB526).mono fun k hk _ => hC526.ro0 k hk
      replace f359 := (f359.ext hB526).mono fun k hk _ => hC526.ro0 k hk
      replace f522 := (f522.ext hB526).mono fun k hk _ => hC526.ro0 k hk
      replace f525 := (f525.ext hB526).mono fun k hk _ => hC526.ro0 k hk
      replace hS := Sep.leave (As := []) hS hC526; simp only [List.cons_append, List.nil_append] at hS
      refine q_not rfl rfl ?_
      refine eseq_nil ?_
      refine hK519 _ _ ?_
      refine e_cond rfl (fun hc528 => ?_) (fun hc528 => ?_)
      · replace ho301 := (if_pos hc528).symm.trans ho301
        refine e_seq fun K529 hK529 => ?_
        refine e_region_text rfl ?_
        refine q_assign rfl rfl ?_
        refine eseq_nil ?_
        refine hK529 _ _ ?_
        refine e_ret ?_
        obtain rfl := Option.some.inj ho301
        obtain rfl := Option.some.inj ht301
        obtain rfl := Option.some.inj h
        exact ⟨_, res1 rfl rfl, _, rfl, (hS.pickB [] 2 rfl rfl)⟩
      · replace ho301 := (if_neg (not_true hc528)).symm.trans ho301
        refine e_skip ?_
        refine hK518 _ _ ?_
        refine e_region_text rfl ?_
        refine q_move rfl rfl ?_
        refine q_addW rfl rfl rfl ?_
        refine q_assign rfl rfl ?_
        refine eseq_nil ?_
        obtain rfl := Option.some.inj ho301
        exact ⟨m301, _, Nat.lt_succ_self _, ⟨(w64 (x360 + 1)), _, ht301, hS, f348, f349, f350, f351, f352, f353, f354, f355, f356, f357, f358, f359, rfl⟩, Sub.cons rfl (Sub.cons rfl (Sub.cons rfl (Sub.nil _)))⟩
    · replace ho301 := (if_neg (not_true hc517)).symm.trans ho301
      refine e_exit ?_
      obtain rfl := Option.some.inj ho301
      obtain rfl := Option.some.inj ht301
      exact hX301_0  _ _ _ h hS f348 f349 f350 f351 f352 f353 f354 f355 f356 f357 f358 f359 (Sub.cons rfl (Sub.cons rfl (Sub.nil _)))
end Go.Proofs.Ytbmjcbhappjnaaa
