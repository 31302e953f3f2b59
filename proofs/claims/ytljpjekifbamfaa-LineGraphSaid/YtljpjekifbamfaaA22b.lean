/- Printed walks: A22b. -/
import Derived.Test.YtljpjekifbamfaaA22a
import Derived.Test.YtljpjekifbamfaaApat
import Derived.Test.YtljpjekifbamfaaA18r
set_option linter.unusedVariables false
set_option linter.unusedSimpArgs false
namespace Go.Mine
open Go.RowKit
def make_Codes_Procs_K1 (fuel : Nat) (x165 : Int) (x168 : (List Int)) : Option ((List Int) × Int) :=
  some (x168, x165)
def make_Codes_Procs_B1 (fuel : Nat) (a1 : Int) (c0_0 : (List Int)) (x131 : Int) (x134 : (List Int)) (x135 : Int) : Option ((Int × (List Int) × Int) ⊕ (Int × (List Int))) :=
  (if (decide (x135 < a1)) = true then (make_Codes_Next fuel 2 c0_0 x131).bind fun r177 => (if (r177.1 == 1) = true then (snoc x134 x135).bind fun x182 => some (Sum.inl (r177.2, x182, (w64 (x135 + 1)))) else some (Sum.inl (r177.2, x134, (w64 (x135 + 1))))) else some (Sum.inr (x131, x134)))
def make_Codes_Procs (fuel : Nat) (a1 : Int) (c0_0 : (List Int)) (c0_1 : Int) : Option ((List Int) × Int) :=
  (iter (fun s => make_Codes_Procs_B1 fuel a1 c0_0 s.1 s.2.1 s.2.2) fuel (c0_1, ([] : List Int), 0)).bind (fun t => make_Codes_Procs_K1 fuel t.1 t.2)
def ref03_SameInts_K1 (fuel : Nat) : Option (Bool) :=
  some true
def ref03_SameInts_B1 (fuel : Nat) (a0 : (List Int)) (a1 : (List Int)) (x99 : Int) : Option ((Int) ⊕ (Unit ⊕ (Bool))) :=
  (if (decide (x99 < (a0.length : Int))) = true then (ati a0 x99).bind fun x124 => (ati a1 x99).bind fun x126 => (if (x124 != x126) = true then some (Sum.inr (Sum.inr false)) else some (Sum.inl (w64 (x99 + 1)))) else some (Sum.inr (Sum.inl ())))
def ref03_SameInts (fuel : Nat) (a0 : (List Int)) (a1 : (List Int)) : Option (Bool) :=
  (if ((a0.length : Int) != (a1.length : Int)) = true then some false else (iter (fun s => ref03_SameInts_B1 fuel a0 a1 s) fuel 0).bind (fun t => Sum.elim (fun t => ref03_SameInts_K1 fuel) (fun t => some t) t))
end Go.Mine
namespace Go.Proofs.Ytljpjekifbamfaa
open Go.RowKit Go.Mine
attribute [local irreducible] eseq ewp iter
theorem make_Codes_Procs_w {F R : Nat → Prop} {w : World} {fuel : Nat} {a1 : Int} {c0_0 : (List Int)} {c0_1 : Int} {B0 : Nat} {v2 : Value} {r : ((List Int) × Int)} (hS : Sep F R R w w [HP.blk B0 [v2, .int .i64 c0_1] 54]) (f2 : IsSlice Ty.u8 w R v2 c0_0) (h : make_Codes_Procs fuel a1 c0_0 c0_1 = some r) :
    Gives Try.prog 17 [.pointer (some ⟨B0, 0, none⟩), .int .i64 a1] w fun u w1 => ∃ (v93 : Value), ∃ (R1 : Nat → Prop), u = v93 ∧ Sep F R R1 w w1 [HP.blk B0 [v2, .int .i64 r.2] 54, HP.own Ty.int (fun _ => False) 3 v93 r.1] := by
  refine fn_of Try.func17 rfl Try.ntmps17 (Nat.le_of_ble_eq_true rfl) ?_
  unfold make_Codes_Procs at h
  refine e_seq fun K94 hK94 => ?_
  refine e_region_text rfl ?_
  refine q_assign rfl rfl ?_
  refine eseq_nil ?_
  refine hK94 _ _ ?_
  refine e_seq fun K95 hK95 => ?_
  refine e_region_text rfl ?_
  refine q_assign rfl rfl ?_
  refine eseq_nil ?_
  refine hK95 _ _ ?_
  refine e_seq fun K96 hK96 => ?_
  refine e_seq fun K97 hK97 => ?_
  refine e_region_text rfl ?_
  refine q_assign rfl rfl ?_
  refine eseq_nil ?_
  refine hK97 _ _ ?_
  refine e_block ?_
  obtain ⟨tl98, ht98, h⟩ := Option.of_bind h
  have hX98_0 : ∀ (x165 : Int) (x168 : (List Int)) (v167 : Value) (R162 : Nat → Prop) (w163 : World) (E_ : Env), make_Codes_Procs_K1 fuel x165 x168 = some r → Sep F R R162 w w163 [HP.blk B0 [v2, .int .i64 x165] 54, HP.own Ty.int (fun _ => False) 3 v167 x168] → IsSlice Ty.u8 w163 R162 v2 c0_0 → Sub [(5, v167)] E_ → K96 E_ w163 := by
    intro x165 x168 v167 R162 w163 E_ h hS f164 hsub
    refine hK96 _ _ (e_sub hsub ?_); clear hsub
    unfold make_Codes_Procs_K1 at h
    refine e_seq fun K169 hK169 => ?_
    refine e_region_text rfl ?_
    refine q_move rfl rfl ?_
    refine q_assign rfl rfl ?_
    refine eseq_nil ?_
    refine hK169 _ _ ?_
    refine e_ret ?_
    obtain rfl := Option.some.inj h
    exact ⟨_, res1 rfl rfl, v167, _, rfl, hS⟩
  replace hS := hS.nilOwn0 Ty.int 3
  refine e_loop (fun m_ E_ w129 => ∃ (x131 : Int), ∃ (x134 : (List Int)), ∃ (x135 : Int), ∃ (v133 : Value), ∃ (R128 : Nat → Prop), iter (fun s => make_Codes_Procs_B1 fuel a1 c0_0 s.1 s.2.1 s.2.2) m_ (x131, x134, x135) = some tl98 ∧ Sep F R R128 w w129 [HP.blk B0 [v2, .int .i64 x131] 54, HP.own Ty.int (fun _ => False) 3 v133 x134] ∧ IsSlice Ty.u8 w129 R128 v2 c0_0 ∧ E_ = [(0, .pointer (some ⟨B0, 0, none⟩)), (1, .int .i64 a1), (5, v133), (6, .int .i64 x135)]) _ ⟨_, ⟨c0_1, ([] : List Int), 0, (.slice none 0 0), _, ht98, (hS.pickB [1, 0] 2 rfl rfl), f2, rfl⟩, Sub.cons rfl (Sub.cons rfl (Sub.cons rfl (Sub.cons rfl (Sub.nil _))))⟩ ?_
  clear ht98 hS
  rintro m98 _ w129 ⟨x131, x134, x135, v133, R128, ht98, hS, f130, rfl⟩
  obtain ⟨m98, rfl, o98, ho98, ht98⟩ := iter_some ht98
  replace ho98 : make_Codes_Procs_B1 fuel a1 c0_0 x131 x134 x135 = some o98 := ho98
  unfold make_Codes_Procs_B1 at ho98
  refine e_seq fun K171 hK171 => ?_
  refine e_seq fun K172 hK172 => ?_
  refine e_region_text rfl ?_
  refine q_move rfl rfl ?_
  refine q_move rfl rfl ?_
  refine q_lss rfl rfl rfl ?_
  refine eseq_nil ?_
  refine hK172 _ _ ?_
  refine e_cond rfl (fun hc173 => ?_) (fun hc173 => ?_)
  · replace ho98 := (if_pos hc173).symm.trans ho98
    refine e_skip ?_
    refine hK171 _ _ ?_
    refine e_seq fun K174 hK174 => ?_
    refine e_block ?_
    refine e_seq fun K175 hK175 => ?_
    refine e_region_text rfl ?_
    refine q_move rfl rfl ?_
    obtain ⟨r177, hr177, ho98⟩ := Option.of_bind ho98
    refine q_call rfl (make_Codes_Next_w (Sep.enter (As := [_]) hS) f130 hr177) rfl ?_
    rintro _ w176 ⟨R176, rfl, hC176⟩
    refine ⟨(fun h => by cases h), ?_⟩
    have hk176 := hC176.keptR (Sep.offFeet (As := [_]) hS)
    replace f130 := (f130.kept hk176).mono fun k hk _ => hC176.ro0 k hk
    replace hS := Sep.leave (As := [_]) hS hC176; simp only [List.cons_append, List.nil_append] at hS
    refine q_eql rfl rfl rfl ?_
    refine eseq_nil ?_
    refine hK175 _ _ ?_
    refine e_cond rfl (fun hc178 => ?_) (fun hc178 => ?_)
    · replace ho98 := (if_pos hc178).symm.trans ho98
      refine e_region_text rfl ?_
      refine q_move rfl rfl ?_
      refine q_move rfl rfl ?_
      refine q_litO (T := Ty.int) (S := (fun _ => False)) (cells := [[.int .i64 x135]]) (ys := [x135]) ((Parts.cons rfl rfl Parts.nil)) rfl rfl rfl rfl rfl rfl rfl (fun w1 hB => ⟨rfl, trivial⟩) (fun _ h => h.elim) rfl fun w179 v179 ho179 hv179 hB179 => ?_
      replace f130 := f130.ext hB179
      replace hS := hS.newOwnS hB179 ho179 hv179 (fun _ h => h.elim)
      obtain ⟨x182, hx182, ho98⟩ := Option.of_bind ho98
      refine q_catOwn (T := Ty.int) rfl rfl rfl rfl (hS.own 2 rfl) rfl (hS.own 0 rfl) (fun _ h _ => h.elim) (snoc_cat hx182) (Nat.zero_le _) rfl (fun h => by cases h) fun v181 w181 hw181 hgr181 hnw181 => ?_
      have hk181 := hS.keptOwn 2 rfl hgr181
      replace f130 := f130.kept hk181
      replace hS := hS.setOwn 2 rfl hw181 hgr181 hnw181; simp only [List.set] at hS
      refine q_assign rfl rfl ?_
      refine eseq_nil ?_
      refine hK174 _ _ ?_
      refine e_region_text rfl ?_
      refine q_move rfl rfl ?_
      refine q_addW rfl rfl rfl ?_
      refine q_assign rfl rfl ?_
      refine eseq_nil ?_
      obtain rfl := Option.some.inj ho98
      exact ⟨m98, _, Nat.lt_succ_self _, ⟨r177.2, x182, (w64 (x135 + 1)), v181, _, ht98, (hS.pickB [1, 2] 3 rfl rfl), f130, rfl⟩, Sub.cons rfl (Sub.cons rfl (Sub.cons rfl (Sub.cons rfl (Sub.nil _))))⟩
    · replace ho98 := (if_neg (not_true hc178)).symm.trans ho98
      refine e_skip ?_
      refine hK174 _ _ ?_
      refine e_region_text rfl ?_
      refine q_move rfl rfl ?_
      refine q_addW rfl rfl rfl ?_
      refine q_assign rfl rfl ?_
      refine eseq_nil ?_
      obtain rfl := Option.some.inj ho98
      exact ⟨m98, _, Nat.lt_succ_self _, ⟨r177.2, x134, (w64 (x135 + 1)), v133, _, ht98, hS, f130, rfl⟩, Sub.cons rfl (Sub.cons rfl (Sub.cons rfl (Sub.cons rfl (Sub.nil _))))⟩
  · replace ho98 := (if_neg (not_true hc173)).symm.trans ho98
    refine e_exit ?_
    obtain rfl := Option.some.inj ho98
    obtain rfl := Option.some.inj ht98
    exact hX98_0 x131 x134 v133 _ _ _ h hS f130 (Sub.cons rfl (Sub.nil _))
theorem ref03_SameInts_w {F R : Nat → Prop} {w : World} {fuel : Nat} {a0 : (List Int)} {a1 : (List Int)} {v1 : Value} {v2 : Value} {r : (Bool)} (hS : Sep F R R w w []) (f1 : IsSlice Ty.int w R v1 a0) (f2 : IsSlice Ty.int w R v2 a1) (h : ref03_SameInts fuel a0 a1 = some r) :
    Gives Try.prog 20 [v1, v2] w fun u w1 => ∃ (R1 : Nat → Prop), u = .bool r ∧ Sep F R R1 w w1 [] := by
  refine fn_of Try.func20 rfl Try.ntmps20 (Nat.le_of_ble_eq_true rfl) ?_
  unfold ref03_SameInts at h
  refine e_seq fun K67 hK67 => ?_
  refine e_region_text rfl ?_
  refine q_assign rfl rfl ?_
  refine eseq_nil ?_
  refine hK67 _ _ ?_
  refine e_seq fun K68 hK68 => ?_
  refine e_seq fun K69 hK69 => ?_
  refine e_region_text rfl ?_
  refine q_move rfl rfl ?_
  refine q_lenS rfl f1 rfl ?_
  refine q_move rfl rfl ?_
  refine q_lenS rfl f2 rfl ?_
  refine q_neq rfl rfl rfl ?_
  refine eseq_nil ?_
  refine hK69 _ _ ?_
  refine e_cond rfl (fun hc70 => ?_) (fun hc70 => ?_)
  · replace h := (if_pos hc70).symm.trans h
    refine e_seq fun K71 hK71 => ?_
    refine e_region_text rfl ?_
    refine q_assign rfl rfl ?_
    refine eseq_nil ?_
    refine hK71 _ _ ?_
    refine e_ret ?_
    obtain rfl := Option.some.inj h
    exact ⟨_, res1 rfl rfl, _, rfl, hS⟩
  · replace h := (if_neg (not_true hc70)).symm.trans h
    refine e_skip ?_
    refine hK68 _ _ ?_
    refine e_seq fun K72 hK72 => ?_
    refine e_seq fun K73 hK73 => ?_
    refine e_region_text rfl ?_
    refine q_assign rfl rfl ?_
    refine eseq_nil ?_
    refine hK73 _ _ ?_
    refine e_block ?_
    obtain ⟨tl74, ht74, h⟩ := Option.of_bind h
    have hX74_0 : ∀ (R116 : Nat → Prop) (w117 : World) (E_ : Env), ref03_SameInts_K1 fuel = some r → Sep F R R116 w w117 [] → Sub [] E_ → K72 E_ w117 := by
      intro R116 w117 E_ h hS  hsub
      refine hK72 _ _ (e_sub hsub ?_); clear hsub
      unfold ref03_SameInts_K1 at h
      refine e_seq fun K118 hK118 => ?_
      refine e_region_text rfl ?_
      refine q_assign rfl rfl ?_
      refine eseq_nil ?_
      refine hK118 _ _ ?_
      refine e_ret ?_
      obtain rfl := Option.some.inj h
      exact ⟨_, res1 rfl rfl, _, rfl, hS⟩
    refine e_loop (fun m_ E_ w96 => ∃ (x99 : Int), ∃ (R95 : Nat → Prop), iter (fun s => ref03_SameInts_B1 fuel a0 a1 s) m_ x99 = some tl74 ∧ Sep F R R95 w w96 [] ∧ IsSlice Ty.int w96 R95 v1 a0 ∧ IsSlice Ty.int w96 R95 v2 a1 ∧ E_ = [(0, v1), (1, v2), (5, .int .i64 x99)]) _ ⟨_, ⟨0, _, ht74, hS, f1, f2, rfl⟩, Sub.cons rfl (Sub.cons rfl (Sub.cons rfl (Sub.nil _)))⟩ ?_
    clear ht74 hS
    rintro m74 _ w96 ⟨x99, R95, ht74, hS, f97, f98, rfl⟩
    obtain ⟨m74, rfl, o74, ho74, ht74⟩ := iter_some ht74
    replace ho74 : ref03_SameInts_B1 fuel a0 a1 x99 = some o74 := ho74
    unfold ref03_SameInts_B1 at ho74
    refine e_seq fun K119 hK119 => ?_
    refine e_seq fun K120 hK120 => ?_
    refine e_region_text rfl ?_
    refine q_move rfl rfl ?_
    refine q_move rfl rfl ?_
    refine q_lenS rfl f97 rfl ?_
    refine q_lss rfl rfl rfl ?_
    refine eseq_nil ?_
    refine hK120 _ _ ?_
    refine e_cond rfl (fun hc121 => ?_) (fun hc121 => ?_)
    · replace ho74 := (if_pos hc121).symm.trans ho74
      refine e_skip ?_
      refine hK119 _ _ ?_
      refine e_seq fun K122 hK122 => ?_
      refine e_block ?_
      refine e_seq fun K123 hK123 => ?_
      refine e_region_draw mixed (fun _ => False) [0, 0, 3, 7, 0, 0, 48, 112, 255] [] [0, 1, 2, 3, 4, 5, 6, 7, 8] (by kernel_rfl) ?_
      refine q_move rfl rfl ?_
      refine q_move rfl rfl ?_
      obtain ⟨x124, hx124, ho74⟩ := Option.of_bind ho74
      refine q_atS (by infer_instance) rfl f97 rfl hx124 rfl fun b125 o125 hm125 f125 => ?_
      refine q_load rfl (Elt.intCell f125) rfl ?_
      refine q_move rfl rfl ?_
      refine q_move rfl rfl ?_
      obtain ⟨x126, hx126, ho74⟩ := Option.of_bind ho74
      refine q_atS (by infer_instance) rfl f98 rfl hx126 rfl fun b127 o127 hm127 f127 => ?_
      refine q_load rfl (Elt.intCell f127) rfl ?_
      refine q_neq rfl rfl rfl ?_
      refine eseq_nil ?_
      refine hK123 _ _ ?_
      refine e_cond rfl (fun hc128 => ?_) (fun hc128 => ?_)
      · replace ho74 := (if_pos hc128).symm.trans ho74
        refine e_seq fun K129 hK129 => ?_
        refine e_region_text rfl ?_
        refine q_assign rfl rfl ?_
        refine eseq_nil ?_
        refine hK129 _ _ ?_
        refine e_ret ?_
        obtain rfl := Option.some.inj ho74
        obtain rfl := Option.some.inj ht74
        obtain rfl := Option.some.inj h
        exact ⟨_, res1 rfl rfl, _, rfl, hS⟩
      · replace ho74 := (if_neg (not_true hc128)).symm.trans ho74
        refine e_skip ?_
        refine hK122 _ _ ?_
        refine e_region_text rfl ?_
        refine q_move rfl rfl ?_
        refine q_addW rfl rfl rfl ?_
        refine q_assign rfl rfl ?_
        refine eseq_nil ?_
        obtain rfl := Option.some.inj ho74
        exact ⟨m74, _, Nat.lt_succ_self _, ⟨(w64 (x99 + 1)), _, ht74, hS, f97, f98, rfl⟩, Sub.cons rfl (Sub.cons rfl (Sub.cons rfl (Sub.nil _)))⟩
    · replace ho74 := (if_neg (not_true hc121)).symm.trans ho74
      refine e_exit ?_
      obtain rfl := Option.some.inj ho74
      obtain rfl := Option.some.inj ht74
      exact hX74_0  _ _ _ h hS  (Sub.nil _)
end Go.Proofs.Ytljpjekifbamfaa
