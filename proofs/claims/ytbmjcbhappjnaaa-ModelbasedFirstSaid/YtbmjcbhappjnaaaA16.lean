/- Printed walks: A16. -/
import Derived.Test.YtbmjcbhappjnaaaAmk
set_option linter.unusedVariables false
set_option linter.unusedSimpArgs false
namespace Go.Mine
open Go.RowKit
def pattern_process (fuel : Nat) (a0 : Pat) (a1 : Int) : Option (Bool) :=
  (andM (decide (0 ≤ a1)) (some (decide (a1 < (a0.lens.length : Int))))).bind fun x19 => some x19
def pattern_ascending_K1 (fuel : Nat) : Option (Bool) :=
  some true
def pattern_ascending_B1 (fuel : Nat) (a0 : (List Int)) (x123 : Int) : Option ((Int) ⊕ (Unit ⊕ (Bool))) :=
  (if (decide (x123 < (a0.length : Int))) = true then (ati a0 x123).bind fun x147 => (ati a0 (w64 (x123 - 1))).bind fun x149 => (if (decide (x147 ≤ x149)) = true then some (Sum.inr (Sum.inr false)) else some (Sum.inl (w64 (x123 + 1)))) else some (Sum.inr (Sum.inl ())))
def pattern_ascending (fuel : Nat) (a0 : (List Int)) (a1 : Int) : Option (Bool) :=
  (orM ((a0.length : Int) == 0) ((ati a0 0).bind fun x87 => some (x87 != 0))).bind fun x86 => (orM x86 ((ati a0 (w64 ((a0.length : Int) - 1))).bind fun x95 => some (decide (a1 < x95)))).bind fun x94 => (if x94 = true then some false else (iter (fun s => pattern_ascending_B1 fuel a0 s) fuel 1).bind (fun t => Sum.elim (fun t => pattern_ascending_K1 fuel) (fun t => some t) t))
def pattern_inRange (fuel : Nat) (a0 : Pat) (a1 : Arc) : Option (Bool) :=
  (pattern_process fuel (⟨a0.lens, a0.ckpts, a0.arcs⟩ : Pat) a1.fr).bind fun r56 => (orM (!r56) ((pattern_process fuel (⟨a0.lens, a0.ckpts, a0.arcs⟩ : Pat) a1.to).bind fun r65 => some (!r65))).bind fun x62 => (orM x62 (some (a1.fr == a1.to))).bind fun x69 => (if x69 = true then some false else (andM (decide (0 ≤ a1.ix)) ((ati a0.lens a1.fr).bind fun x79 => some (decide (a1.ix ≤ x79)))).bind fun x78 => (andM x78 (some (decide (0 ≤ a1.rcv)))).bind fun x84 => (andM x84 ((ati a0.lens a1.to).bind fun x91 => some (decide (a1.rcv ≤ x91)))).bind fun x90 => some x90)
def visit_J1 (fuel : Nat) (rec_ : Int → Int → (List Int) → (List Int) → (List (List Int)) → (List Arc) → (List Int) → Option (Bool × (List Int))) (a0 : Int) (a1 : Int) (x219 : (List Int)) (x220 : Bool) : Option (Bool × (List Int)) :=
  (bnd a0 5).bind fun x222 => (bnd a1 65).bind fun x223 => (seti x219 (((ix (ix 0 x222 65) x223 1) : Nat) : Int) 2).bind fun x225 => some (x220, x225)
def visit_F (fuel : Nat) (rec_ : Int → Int → (List Int) → (List Int) → (List (List Int)) → (List Arc) → (List Int) → Option (Bool × (List Int))) (a0 : Int) (a1 : Int) (c4_0 : (List Int)) (c5_0 : (List Int)) (c5_1 : (List (List Int))) (c5_2 : (List Arc)) (c2_0 : (List Int)) : Option (Bool × (List Int)) :=
  (orM (a1 == 0) ((bnd a0 5).bind fun x177 => (bnd a1 65).bind fun x178 => (ati c2_0 (((ix (ix 0 x177 65) x178 1) : Nat) : Int)).bind fun x179 => some (x179 == 2))).bind fun x176 => (if x176 = true then some (true, c2_0) else (bnd a0 5).bind fun x184 => (bnd a1 65).bind fun x185 => (ati c2_0 (((ix (ix 0 x184 65) x185 1) : Nat) : Int)).bind fun x186 => (if (x186 == 1) = true then some (false, c2_0) else (bnd a0 5).bind fun x190 => (bnd a1 65).bind fun x191 => (seti c2_0 (((ix (ix 0 x190 65) x191 1) : Nat) : Int) 1).bind fun x193 => (rec_ a0 (w64 (a1 - 1)) c4_0 c5_0 c5_1 c5_2 x193).bind fun r196 => (bnd a0 5).bind fun x228 => (bnd a1 65).bind fun x229 => (ati c4_0 (((ix (ix 0 x228 65) x229 1) : Nat) : Int)).bind fun x230 => (andM r196.1 (some (decide (0 < x230)))).bind fun x235 => (if x235 = true then (ati c5_2 (w64 (x230 - 1))).bind fun x238 => (rec_ x238.fr x238.ix c4_0 c5_0 c5_1 c5_2 r196.2).bind fun r245 => visit_J1 fuel rec_ a0 a1 r245.2 r245.1 else visit_J1 fuel rec_ a0 a1 r196.2 r196.1)))
def visit_R (fuel : Nat) : Nat → Int → Int → (List Int) → (List Int) → (List (List Int)) → (List Arc) → (List Int) → Option (Bool × (List Int))
  | 0 => fun _ _ _ _ _ _ _ => none
  | d_ + 1 => visit_F fuel (visit_R fuel d_)
def visit (fuel : Nat) (a0 : Int) (a1 : Int) (c4_0 : (List Int)) (c5_0 : (List Int)) (c5_1 : (List (List Int))) (c5_2 : (List Arc)) (c2_0 : (List Int)) : Option (Bool × (List Int)) := visit_R fuel fuel a0 a1 c4_0 c5_0 c5_1 c5_2 c2_0
def pattern_ordered_K1 (fuel : Nat) : Option (Bool) :=
  some true
def pattern_ordered_B1 (fuel : Nat) (a0 : Pat) (c1_0 : (List Int)) (x166 : (List Int)) (x174 : Int) : Option (((List Int) × Int) ⊕ (Unit ⊕ (Bool))) :=
  (if (decide (x174 < (a0.lens.length : Int))) = true then (ati a0.lens x174).bind fun x207 => (visit fuel x174 x207 c1_0 a0.lens a0.ckpts a0.arcs x166).bind fun r211 => (if (!r211.1) = true then some (Sum.inr (Sum.inr false)) else some (Sum.inl (r211.2, (w64 (x174 + 1))))) else some (Sum.inr (Sum.inl ())))
def pattern_ordered (fuel : Nat) (a0 : Pat) (c1_0 : (List Int)) : Option (Bool) :=
  (iter (fun s => pattern_ordered_B1 fuel a0 c1_0 s.1 s.2) fuel ((List.replicate 325 (0 : Int)), 0)).bind (fun t => Sum.elim (fun t => pattern_ordered_K1 fuel) (fun t => some t) t)
def pattern_Check_K3 (fuel : Nat) (a0 : Pat) (x593 : (List Int)) : Option (Int) :=
  (pattern_ordered fuel (⟨a0.lens, a0.ckpts, a0.arcs⟩ : Pat) x593).bind fun r597 => (if (!r597) = true then some 7 else some 0)
def pattern_Check_B1 (fuel : Nat) (a0 : Pat) (x539 : (List Int)) (x541 : Int) : Option (((List Int) × Int) ⊕ (((List Int)) ⊕ (Int))) :=
  (if (decide (x541 < (a0.arcs.length : Int))) = true then (ati a0.arcs x541).bind fun x606 => (pattern_inRange fuel (⟨a0.lens, a0.ckpts, a0.arcs⟩ : Pat) (⟨x606.fr, x606.ix, x606.to, x606.rcv⟩ : Arc)).bind fun r615 => (if (!r615) = true then some (Sum.inr (Sum.inr 3)) else (if (x606.rcv == 0) = true then some (Sum.inl (x539, (w64 (x541 + 1)))) else (bnd x606.to 5).bind fun x623 => (bnd x606.rcv 65).bind fun x624 => (ati x539 (((ix (ix 0 x623 65) x624 1) : Nat) : Int)).bind fun x625 => (if (x625 != 0) = true then some (Sum.inr (Sum.inr 7)) else (bnd x606.to 5).bind fun x628 => (bnd x606.rcv 65).bind fun x629 => (seti x539 (((ix (ix 0 x628 65) x629 1) : Nat) : Int) (w64 (x541 + 1))).bind fun x631 => some (Sum.inl (x631, (w64 (x541 + 1))))))) else some (Sum.inr (Sum.inl x539)))
def pattern_Check_K2 (fuel : Nat) (a0 : Pat) : Option (Int) :=
  (iter (fun s => pattern_Check_B1 fuel a0 s.1 s.2) fuel ((List.replicate 325 (0 : Int)), 0)).bind (fun t => Sum.elim (fun t => pattern_Check_K3 fuel a0 t) (fun t => some t) t)
def pattern_Check_B2 (fuel : Nat) (a0 : Pat) (x448 : Int) : Option ((Int) ⊕ (Unit ⊕ (Int))) :=
  (if (decide (x448 < (a0.ckpts.length : Int))) = true then (ati a0.ckpts x448).bind fun x637 => (ati a0.lens x448).bind fun x641 => (pattern_ascending fuel x637 x641).bind fun r644 => (if (!r644) = true then some (Sum.inr (Sum.inr 7)) else some (Sum.inl (w64 (x448 + 1)))) else some (Sum.inr (Sum.inl ())))
def pattern_Check_K1 (fuel : Nat) (a0 : Pat) : Option (Int) :=
  (iter (fun s => pattern_Check_B2 fuel a0 s) fuel 0).bind (fun t => Sum.elim (fun t => pattern_Check_K2 fuel a0) (fun t => some t) t)
def pattern_Check_B3 (fuel : Nat) (a0 : Pat) (x384 : Int) : Option ((Int) ⊕ (Unit ⊕ (Int))) :=
  (if (decide (x384 < (a0.lens.length : Int))) = true then (ati a0.lens x384).bind fun x652 => (orM (decide (x652 < 0)) (some (decide (64 < x652)))).bind fun x658 => (if x658 = true then some (Sum.inr (Sum.inr 3)) else some (Sum.inl (w64 (x384 + 1)))) else some (Sum.inr (Sum.inl ())))
def pattern_Check (fuel : Nat) (a0 : Pat) : Option (Int) :=
  (orM (decide (5 < (a0.lens.length : Int))) (some (decide (256 < (a0.arcs.length : Int))))).bind fun x341 => (if x341 = true then some 4 else (if ((a0.ckpts.length : Int) != (a0.lens.length : Int)) = true then some 7 else (iter (fun s => pattern_Check_B3 fuel a0 s) fuel 0).bind (fun t => Sum.elim (fun t => pattern_Check_K1 fuel a0) (fun t => some t) t)))
end Go.Mine
namespace Go.Proofs.Ytbmjcbhappjnaaa
open Go.RowKit Go.Mine
attribute [local irreducible] eseq ewp iter
theorem pattern_process_w {F R : Nat → Prop} {w : World} {fuel : Nat} {a0 : Pat} {a1 : Int} {v1 : Value} {v2 : Value} {v3 : Value} {r : (Bool)} (hS : Sep F R R w w []) (f1 : IsSlice Ty.int w R v1 a0.lens) (f2 : IsSlice (Ty.slice Ty.int) w R v2 a0.ckpts) (f3 : IsSlice arcTy w R v3 a0.arcs) (h : pattern_process fuel a0 a1 = some r) :
    Gives Try.prog 145 [.agg #[v1, v2, v3], .int .i64 a1] w fun u w1 => ∃ (R1 : Nat → Prop), u = .bool r ∧ Sep F R R1 w w1 [] := by
  refine fn_of Try.func145 rfl Try.ntmps145 (Nat.le_of_ble_eq_true rfl) ?_
  unfold pattern_process at h
  refine e_seq fun K12 hK12 => ?_
  refine e_region_text rfl ?_
  refine q_boxB rfl rfl rfl fun w13 bl13 hg13 hb13 hB13 => ?_
  replace f1 := f1.ext hB13
  replace f2 := f2.ext hB13
  replace f3 := f3.ext hB13
  replace hS := hS.newBlk hB13 hg13 hb13
  refine q_assign rfl rfl ?_
  refine eseq_nil ?_
  refine hK12 _ _ ?_
  refine e_seq fun K15 hK15 => ?_
  refine e_region_text rfl ?_
  refine q_move rfl rfl ?_
  refine q_geq rfl rfl rfl ?_
  refine q_move rfl rfl ?_
  obtain ⟨x19, hx18, h⟩ := Option.of_bind h
  refine g_andM 5 hx18 rfl trivial rfl rfl ?_ ?_ ?_
  · intro hg18 hx18
    clear h
    have hT18 := Below.refl (World.heap w13).size w13
    refine g_run rfl ?_; refine q_move rfl rfl ?_
    refine g_run rfl ?_; refine q_field rfl rfl ?_
    refine g_run rfl ?_; refine q_load rfl (Blk.cell (hS.blk 0 rfl) rfl) rfl ?_
    refine g_run rfl ?_; refine q_lenS rfl f1 rfl ?_
    refine g_run rfl ?_; refine q_lss rfl rfl rfl ?_
    cases hx18
    exact eseq_nil ⟨hT18, Sub.set rfl (Sub.set rfl (Sub.set rfl (Sub.set rfl (Sub.set rfl (Sub.bool true rfl hg18))))), rfl⟩
  · intro hg18
    refine g_skip rfl rfl rfl ?_
    refine g_skip rfl rfl rfl ?_
    refine g_skip rfl rfl rfl ?_
    refine g_skip rfl rfl rfl ?_
    refine g_skip rfl rfl rfl ?_
    exact eseq_nil ⟨rfl, Sub.set rfl (Sub.set rfl (Sub.set rfl (Sub.set rfl (Sub.set rfl (Sub.bool false rfl hg18)))))⟩
  intro wm18 hBm18; clear hx18
  replace hS := hS.below hBm18
  refine q_assign rfl rfl ?_
  refine eseq_nil ?_
  refine hK15 _ _ ?_
  refine e_ret ?_
  obtain rfl := Option.some.inj h
  exact ⟨_, res1 rfl rfl, _, rfl, (hS.pickB [] 1 rfl rfl)⟩
theorem pattern_ascending_w {F R : Nat → Prop} {w : World} {fuel : Nat} {a0 : (List Int)} {a1 : Int} {v1 : Value} {r : (Bool)} (hS : Sep F R R w w []) (f1 : IsSlice Ty.int w R v1 a0) (h : pattern_ascending fuel a0 a1 = some r) :
    Gives Try.prog 130 [v1, .int .i64 a1] w fun u w1 => ∃ (R1 : Nat → Prop), u = .bool r ∧ Sep F R R1 w w1 [] := by
  refine fn_of Try.func130 rfl Try.ntmps130 (Nat.le_of_ble_eq_true rfl) ?_
  unfold pattern_ascending at h
  refine e_seq fun K78 hK78 => ?_
  refine e_region_text rfl ?_
  refine q_assign rfl rfl ?_
  refine eseq_nil ?_
  refine hK78 _ _ ?_
  refine e_seq fun K79 hK79 => ?_
  refine e_seq fun K80 hK80 => ?_
  refine e_region_text rfl ?_
  refine q_move rfl rfl ?_
  refine q_lenS rfl f1 rfl ?_
  refine q_eql rfl rfl rfl ?_
  refine q_move rfl rfl ?_
  obtain ⟨x86, hx85, h⟩ := Option.of_bind h
  refine g_orM 4 hx85 rfl trivial rfl rfl ?_ ?_ ?_
  · intro hg85
    refine g_skip rfl rfl rfl ?_
    refine g_skip rfl rfl rfl ?_
    refine g_skip rfl rfl rfl ?_
    refine g_skip rfl rfl rfl ?_
    exact eseq_nil ⟨rfl, Sub.set rfl (Sub.set rfl (Sub.set rfl (Sub.set rfl (Sub.bool true rfl hg85))))⟩
  · intro hg85 hx85
    clear h
    have hT85 := Below.refl (World.heap w).size w
    refine g_run rfl ?_; refine q_move rfl rfl ?_
    obtain ⟨x87, hx87, hx85⟩ := Option.of_bind hx85
    refine g_run rfl ?_; refine q_atS (by infer_instance) rfl f1 rfl hx87 rfl fun b88 o88 hm88 f88 => ?_
    refine g_run rfl ?_; refine q_load rfl (Elt.intCell f88) rfl ?_
    refine g_run rfl ?_; refine q_neq rfl rfl rfl ?_
    cases hx85
    exact eseq_nil ⟨hT85, Sub.set rfl (Sub.set rfl (Sub.set rfl (Sub.set rfl (Sub.bool false rfl hg85)))), rfl⟩
  intro wm85 hBm85; clear hx85
  replace hS := hS.below hBm85
  replace f1 := f1.ext hBm85
  refine q_move rfl rfl ?_
  obtain ⟨x94, hx93, h⟩ := Option.of_bind h
  refine g_orM 8 hx93 rfl trivial rfl rfl ?_ ?_ ?_
  · intro hg93
    refine g_skip rfl rfl rfl ?_
    refine g_skip rfl rfl rfl ?_
    refine g_skip rfl rfl rfl ?_
    refine g_skip rfl rfl rfl ?_
    refine g_skip rfl rfl rfl ?_
    refine g_skip rfl rfl rfl ?_
    refine g_skip rfl rfl rfl ?_
    refine g_skip rfl rfl rfl ?_
    exact eseq_nil ⟨rfl, Sub.set rfl (Sub.set rfl (Sub.set rfl (Sub.set rfl (Sub.set rfl (Sub.set rfl (Sub.set rfl (Sub.set rfl (Sub.bool true rfl hg93))))))))⟩
  · intro hg93 hx93
    clear h
    have hT93 := Below.refl (World.heap wm85).size wm85
    refine g_run rfl ?_; refine q_move rfl rfl ?_
    refine g_run rfl ?_; refine q_move rfl rfl ?_
    refine g_run rfl ?_; refine q_lenS rfl f1 rfl ?_
    refine g_run rfl ?_; refine q_subW rfl rfl rfl ?_
    obtain ⟨x95, hx95, hx93⟩ := Option.of_bind hx93
    refine g_run rfl ?_; refine q_atS (by infer_instance) rfl f1 rfl hx95 rfl fun b96 o96 hm96 f96 => ?_
    refine g_run rfl ?_; refine q_load rfl (Elt.intCell f96) rfl ?_
    refine g_run rfl ?_; refine q_move rfl rfl ?_
    refine g_run rfl ?_; refine q_gtr rfl rfl rfl ?_
    cases hx93
    exact eseq_nil ⟨hT93, Sub.set rfl (Sub.set rfl (Sub.set rfl (Sub.set rfl (Sub.set rfl (Sub.set rfl (Sub.set rfl (Sub.set rfl (Sub.bool false rfl hg93)))))))), rfl⟩
  intro wm93 hBm93; clear hx93
  replace hS := hS.below hBm93
  replace f1 := f1.ext hBm93
  refine eseq_nil ?_
  refine hK80 _ _ ?_
  refine e_cond rfl (fun hc97 => ?_) (fun hc97 => ?_)
  · replace h := (if_pos hc97).symm.trans h
    refine e_seq fun K98 hK98 => ?_
    refine e_region_text rfl ?_
    refine q_assign rfl rfl ?_
    refine eseq_nil ?_
    refine hK98 _ _ ?_
    refine e_ret ?_
    obtain rfl := Option.some.inj h
    exact ⟨_, res1 rfl rfl, _, rfl, hS⟩
  · replace h := (if_neg (not_true hc97)).symm.trans h
    refine e_skip ?_
    refine hK79 _ _ ?_
    refine e_seq fun K99 hK99 => ?_
    refine e_seq fun K100 hK100 => ?_
    refine e_region_text rfl ?_
    refine q_assign rfl rfl ?_
    refine eseq_nil ?_
    refine hK100 _ _ ?_
    refine e_block ?_
    obtain ⟨tl101, ht101, h⟩ := Option.of_bind h
    have hX101_0 : ∀ (R139 : Nat → Prop) (w140 : World) (E_ : Env), pattern_ascending_K1 fuel = some r → Sep F R R139 w w140 [] → Sub [] E_ → K99 E_ w140 := by
      intro R139 w140 E_ h hS  hsub
      refine hK99 _ _ (e_sub hsub ?_); clear hsub
      unfold pattern_ascending_K1 at h
      refine e_seq fun K141 hK141 => ?_
      refine e_region_text rfl ?_
      refine q_assign rfl rfl ?_
      refine eseq_nil ?_
      refine hK141 _ _ ?_
      refine e_ret ?_
      obtain rfl := Option.some.inj h
      exact ⟨_, res1 rfl rfl, _, rfl, hS⟩
    refine e_loop (fun m_ E_ w121 => ∃ (x123 : Int), ∃ (R120 : Nat → Prop), iter (fun s => pattern_ascending_B1 fuel a0 s) m_ x123 = some tl101 ∧ Sep F R R120 w w121 [] ∧ IsSlice Ty.int w121 R120 v1 a0 ∧ E_ = [(0, v1), (5, .int .i64 x123)]) _ ⟨_, ⟨1, _, ht101, hS, f1, rfl⟩, Sub.cons rfl (Sub.cons rfl (Sub.nil _))⟩ ?_
    clear ht101 hS
    rintro m101 _ w121 ⟨x123, R120, ht101, hS, f122, rfl⟩
    obtain ⟨m101, rfl, o101, ho101, ht101⟩ := iter_some ht101
    replace ho101 : pattern_ascending_B1 fuel a0 x123 = some o101 := ho101
    unfold pattern_ascending_B1 at ho101
    refine e_seq fun K142 hK142 => ?_
    refine e_seq fun K143 hK143 => ?_
    refine e_region_text rfl ?_
    refine q_move rfl rfl ?_
    refine q_move rfl rfl ?_
    refine q_lenS rfl f122 rfl ?_
    refine q_lss rfl rfl rfl ?_
    refine eseq_nil ?_
    refine hK143 _ _ ?_
    refine e_cond rfl (fun hc144 => ?_) (fun hc144 => ?_)
    · replace ho101 := (if_pos hc144).symm.trans ho101
      refine e_skip ?_
      refine hK142 _ _ ?_
      refine e_seq fun K145 hK145 => ?_
      refine e_block ?_
      refine e_seq fun K146 hK146 => ?_
      refine e_region_draw mixed (fun _ => False) [0, 0, 3, 7, 0, 0, 32, 112, 240, 511] [] [0, 1, 2, 3, 4, 5, 6, 7, 8, 9] (by kernel_rfl) ?_
      refine q_move rfl rfl ?_
      refine q_move rfl rfl ?_
      obtain ⟨x147, hx147, ho101⟩ := Option.of_bind ho101
      refine q_atS (by infer_instance) rfl f122 rfl hx147 rfl fun b148 o148 hm148 f148 => ?_
      refine q_load rfl (Elt.intCell f148) rfl ?_
      refine q_move rfl rfl ?_
      refine q_move rfl rfl ?_
      refine q_subW rfl rfl rfl ?_
      obtain ⟨x149, hx149, ho101⟩ := Option.of_bind ho101
      refine q_atS (by infer_instance) rfl f122 rfl hx149 rfl fun b150 o150 hm150 f150 => ?_
      refine q_load rfl (Elt.intCell f150) rfl ?_
      refine q_leq rfl rfl rfl ?_
      refine eseq_nil ?_
      refine hK146 _ _ ?_
      refine e_cond rfl (fun hc151 => ?_) (fun hc151 => ?_)
      · replace ho101 := (if_pos hc151).symm.trans ho101
        refine e_seq fun K152 hK152 => ?_
        refine e_region_text rfl ?_
        refine q_assign rfl rfl ?_
        refine eseq_nil ?_
        refine hK152 _ _ ?_
        refine e_ret ?_
        obtain rfl := Option.some.inj ho101
        obtain rfl := Option.some.inj ht101
        obtain rfl := Option.some.inj h
        exact ⟨_, res1 rfl rfl, _, rfl, hS⟩
      · replace ho101 := (if_neg (not_true hc151)).symm.trans ho101
        refine e_skip ?_
        refine hK145 _ _ ?_
        refine e_region_text rfl ?_
        refine q_move rfl rfl ?_
        refine q_addW rfl rfl rfl ?_
        refine q_assign rfl rfl ?_
        refine eseq_nil ?_
        obtain rfl := Option.some.inj ho101
        exact ⟨m101, _, Nat.lt_succ_self _, ⟨(w64 (x123 + 1)), _, ht101, hS, f122, rfl⟩, Sub.cons rfl (Sub.cons rfl (Sub.nil _))⟩
    · replace ho101 := (if_neg (not_true hc144)).symm.trans ho101
      refine e_exit ?_
      obtain rfl := Option.some.inj ho101
      obtain rfl := Option.some.inj ht101
      exact hX101_0  _ _ _ h hS  (Sub.nil _)
theorem pattern_inRange_w {F R : Nat → Prop} {w : World} {fuel : Nat} {a0 : Pat} {a1 : Arc} {v1 : Value} {v2 : Value} {v3 : Value} {r : (Bool)} (hS : Sep F R R w w []) (f1 : IsSlice Ty.int w R v1 a0.lens) (f2 : IsSlice (Ty.slice Ty.int) w R v2 a0.ckpts) (f3 : IsSlice arcTy w R v3 a0.arcs) (h : pattern_inRange fuel a0 a1 = some r) :
    Gives Try.prog 131 [.agg #[v1, v2, v3], .agg #[.int .i64 a1.fr, .int .i64 a1.ix, .int .i64 a1.to, .int .i64 a1.rcv]] w fun u w1 => ∃ (R1 : Nat → Prop), u = .bool r ∧ Sep F R R1 w w1 [] := by
  refine fn_of Try.func131 rfl Try.ntmps131 (Nat.le_of_ble_eq_true rfl) ?_
  unfold pattern_inRange at h
  refine e_seq fun K48 hK48 => ?_
  refine e_region_text rfl ?_
  refine q_boxB rfl rfl rfl fun w49 bl49 hg49 hb49 hB49 => ?_
  replace f1 := f1.ext hB49
  replace f2 := f2.ext hB49
  replace f3 := f3.ext hB49
  replace hS := hS.newBlk hB49 hg49 hb49
  refine q_boxB rfl rfl rfl fun w51 bl51 hg51 hb51 hB51 => ?_
  replace f1 := f1.ext hB51
  replace f2 := f2.ext hB51
  replace f3 := f3.ext hB51
  replace hS := hS.newBlk hB51 hg51 hb51
  refine q_assign rfl rfl ?_
  refine eseq_nil ?_
  refine hK48 _ _ ?_
  refine e_seq fun K53 hK53 => ?_
  refine e_seq fun K54 hK54 => ?_
  refine e_region_text rfl ?_
  refine q_loadAgg rfl (Blk.cellsAt (hS.blk 1 rfl) 0 3 rfl) rfl rfl ?_
  refine q_field rfl rfl ?_
  refine q_load rfl (Blk.cell (hS.blk 0 rfl) rfl) rfl ?_
  obtain ⟨r56, hr56, h⟩ := Option.of_bind h
  refine q_call rfl (pattern_process_w (a0 := (⟨a0.lens, a0.ckpts, a0.arcs⟩ : Pat)) (Sep.enter (As := []) hS) f1 f2 f3 hr56) rfl ?_
  rintro _ w55 ⟨R55, rfl, hC55⟩
  have hB55 : Below (World.heap w51).size w51 w55 := hC55.stepB0
  refine ⟨fun _ => .of_below hB55, ?_⟩
  replace f1 := (f1.ext hB55).mono fun k hk _ => hC55.ro0 k hk
  replace f2 := (f2.ext hB55).mono fun k hk _ => hC55.ro0 k hk
  replace f3 := (f3.ext hB55).mono fun k hk _ => hC55.ro0 k hk
  replace hS := Sep.leave (As := []) hS hC55; simp only [List.cons_append, List.nil_append] at hS
  refine q_not rfl rfl ?_
  refine q_move rfl rfl ?_
  obtain ⟨x62, hx61, h⟩ := Option.of_bind h
  refine g_orM 5 hx61 rfl trivial rfl rfl ?_ ?_ ?_
  · intro hg61
    refine g_skip rfl rfl rfl ?_
    refine g_skip rfl rfl rfl ?_
    refine g_skip rfl rfl rfl ?_
    refine g_skip rfl rfl rfl ?_
    refine g_skip rfl rfl rfl ?_
    exact eseq_nil ⟨rfl, Sub.set rfl (Sub.set rfl (Sub.set rfl (Sub.set rfl (Sub.set rfl (Sub.bool true rfl hg61)))))⟩
  · intro hg61 hx61
    clear h
    have hT61 := Below.refl (World.heap w55).size w55
    refine g_run rfl ?_; refine q_loadAgg rfl (Blk.cellsAt (hS.blk 1 rfl) 0 3 rfl) rfl rfl ?_
    refine g_run rfl ?_; refine q_field rfl rfl ?_
    refine g_run rfl ?_; refine q_load rfl (Blk.cell (hS.blk 0 rfl) rfl) rfl ?_
    obtain ⟨r65, hr65, hx61⟩ := Option.of_bind hx61
    refine g_run rfl ?_; refine q_call rfl (pattern_process_w (a0 := (⟨a0.lens, a0.ckpts, a0.arcs⟩ : Pat)) (Sep.enter (As := []) hS) f1 f2 f3 hr65) rfl ?_
    rintro _ w63 ⟨R63, rfl, hC63⟩
    have hB63 : Below (World.heap w55).size w55 w63 := hC63.stepB0
    refine ⟨fun _ => .of_below hB63, ?_⟩
    replace f1 := (f1.ext hB63).mono fun k hk _ => hC63.ro0 k hk
    replace f2 := (f2.ext hB63).mono fun k hk _ => hC63.ro0 k hk
    replace f3 := (f3.ext hB63).mono fun k hk _ => hC63.ro0 k hk
    replace hT61 := hT61.trans (Below.mono hB63 hT61.size)
    replace hS := Sep.leave (As := []) hS hC63; simp only [List.cons_append, List.nil_append] at hS
    refine g_run rfl ?_; refine q_not rfl rfl ?_
    cases hx61
    exact eseq_nil ⟨hT61, Sub.set rfl (Sub.set rfl (Sub.set rfl (Sub.set rfl (Sub.set rfl (Sub.bool false rfl hg61))))), rfl⟩
  intro wm61 hBm61; clear hx61
  replace hS := hS.below hBm61
  replace f1 := f1.ext hBm61
  replace f2 := f2.ext hBm61
  replace f3 := f3.ext hBm61
  refine q_move rfl rfl ?_
  obtain ⟨x69, hx68, h⟩ := Option.of_bind h
  refine g_orM 5 hx68 rfl trivial rfl rfl ?_ ?_ ?_
  · intro hg68
    refine g_skip rfl rfl rfl ?_
    refine g_skip rfl rfl rfl ?_
    refine g_skip rfl rfl rfl ?_
    refine g_skip rfl rfl rfl ?_
    refine g_skip rfl rfl rfl ?_
    exact eseq_nil ⟨rfl, Sub.set rfl (Sub.set rfl (Sub.set rfl (Sub.set rfl (Sub.set rfl (Sub.bool true rfl hg68)))))⟩
  · intro hg68 hx68
    clear h
    have hT68 := Below.refl (World.heap wm61).size wm61
    refine g_run rfl ?_; refine q_field rfl rfl ?_
    refine g_run rfl ?_; refine q_load rfl (Blk.cell (hS.blk 0 rfl) rfl) rfl ?_
    refine g_run rfl ?_; refine q_field rfl rfl ?_
    refine g_run rfl ?_; refine q_load rfl (Blk.cell (hS.blk 0 rfl) rfl) rfl ?_
    refine g_run rfl ?_; refine q_eql rfl rfl rfl ?_
    cases hx68
    exact eseq_nil ⟨hT68, Sub.set rfl (Sub.set rfl (Sub.set rfl (Sub.set rfl (Sub.set rfl (Sub.bool false rfl hg68))))), rfl⟩
  intro wm68 hBm68; clear hx68
  replace hS := hS.below hBm68
  replace f1 := f1.ext hBm68
  replace f2 := f2.ext hBm68
  replace f3 := f3.ext hBm68
  refine eseq_nil ?_
  refine hK54 _ _ ?_
  refine e_cond rfl (fun hc70 => ?_) (fun hc70 => ?_)
  · replace h := (if_pos hc70).symm.trans h
    refine e_seq fun K71 hK71 => ?_
    refine e_region_text rfl ?_
    refine q_assign rfl rfl ?_
    refine eseq_nil ?_
    refine hK71 _ _ ?_
    refine e_ret ?_
    obtain rfl := Option.some.inj h
    exact ⟨_, res1 rfl rfl, _, rfl, (hS.pickB [] 2 rfl rfl)⟩
  · replace h := (if_neg (not_true hc70)).symm.trans h
    refine e_skip ?_
    refine hK53 _ _ ?_
    refine e_seq fun K72 hK72 => ?_
    refine e_region_draw mixed (fun _ => False) [0, 1, 3, 7, 15, 31, 15, 79, 15, 271, 975, 1999, 4095, 8191, 16383, 32767, 65535, 131071, 262143, 524287, 1048575, 2097151, 1048575, 5242879, 1048575, 17825791, 63963135, 131071999, 268435455, 536870911, 1073741823] [] [0, 1, 2, 3, 4, 5, 6, 7, 8, 9, 10, 11, 12, 13, 14, 15, 16, 17, 18, 19, 20, 21, 22, 23, 24, 25, 26, 27, 28, 29, 30] (by kernel_rfl) ?_
    refine q_field rfl rfl ?_
    refine q_load rfl (Blk.cell (hS.blk 0 rfl) rfl) rfl ?_
    refine q_geq rfl rfl rfl ?_
    refine q_move rfl rfl ?_
    obtain ⟨x78, hx77, h⟩ := Option.of_bind h
    refine g_andM 9 hx77 rfl trivial rfl rfl ?_ ?_ ?_
    · intro hg77 hx77
      clear h
      have hT77 := Below.refl (World.heap wm68).size wm68
      refine g_run rfl ?_; refine q_field rfl rfl ?_
      refine g_run rfl ?_; refine q_load rfl (Blk.cell (hS.blk 0 rfl) rfl) rfl ?_
      refine g_run rfl ?_; refine q_field rfl rfl ?_
      refine g_run rfl ?_; refine q_load rfl (Blk.cell (hS.blk 1 rfl) rfl) rfl ?_
      refine g_run rfl ?_; refine q_field rfl rfl ?_
      refine g_run rfl ?_; refine q_load rfl (Blk.cell (hS.blk 0 rfl) rfl) rfl ?_
      obtain ⟨x79, hx79, hx77⟩ := Option.of_bind hx77
      refine g_run rfl ?_; refine q_atS (by infer_instance) rfl f1 rfl hx79 rfl fun b80 o80 hm80 f80 => ?_
      refine g_run rfl ?_; refine q_load rfl (Elt.intCell f80) rfl ?_
      refine g_run rfl ?_; refine q_leq rfl rfl rfl ?_
      cases hx77
      exact eseq_nil ⟨hT77, Sub.set rfl (Sub.set rfl (Sub.set rfl (Sub.set rfl (Sub.set rfl (Sub.set rfl (Sub.set rfl (Sub.set rfl (Sub.set rfl (Sub.bool true rfl hg77))))))))), rfl⟩
    · intro hg77
      refine g_skip rfl rfl rfl ?_
      refine g_skip rfl rfl rfl ?_
      refine g_skip rfl rfl rfl ?_
      refine g_skip rfl rfl rfl ?_
      refine g_skip rfl rfl rfl ?_
      refine g_skip rfl rfl rfl ?_
      refine g_skip rfl rfl rfl ?_
      refine g_skip rfl rfl rfl ?_
      refine g_skip rfl rfl rfl ?_
      exact eseq_nil ⟨rfl, Sub.set rfl (Sub.set rfl (Sub.set rfl (Sub.set rfl (Sub.set rfl (Sub.set rfl (Sub.set rfl (Sub.set rfl (Sub.set rfl (Sub.bool false rfl hg77)))))))))⟩
    intro wm77 hBm77; clear hx77
    replace hS := hS.below hBm77
    replace f1 := f1.ext hBm77
    replace f2 := f2.ext hBm77
    replace f3 := f3.ext hBm77
    refine q_move rfl rfl ?_
    obtain ⟨x84, hx83, h⟩ := Option.of_bind h
    refine g_andM 3 hx83 rfl trivial rfl rfl ?_ ?_ ?_
    · intro hg83 hx83
      clear h
      have hT83 := Below.refl (World.heap wm77).size wm77
      refine g_run rfl ?_; refine q_field rfl rfl ?_
      refine g_run rfl ?_; refine q_load rfl (Blk.cell (hS.blk 0 rfl) rfl) rfl ?_
      refine g_run rfl ?_; refine q_geq rfl rfl rfl ?_
      cases hx83
      exact eseq_nil ⟨hT83, Sub.set rfl (Sub.set rfl (Sub.set rfl (Sub.bool true rfl hg83))), rfl⟩
    · intro hg83
      refine g_skip rfl rfl rfl ?_
      refine g_skip rfl rfl rfl ?_
      refine g_skip rfl rfl rfl ?_
      exact eseq_nil ⟨rfl, Sub.set rfl (Sub.set rfl (Sub.set rfl (Sub.bool false rfl hg83)))⟩
    intro wm83 hBm83; clear hx83
    replace hS := hS.below hBm83
    replace f1 := f1.ext hBm83
    replace f2 := f2.ext hBm83
    replace f3 := f3.ext hBm83
    refine q_move rfl rfl ?_
    obtain ⟨x90, hx89, h⟩ := Option.of_bind h
    refine g_andM 9 hx89 rfl trivial rfl rfl ?_ ?_ ?_
    · intro hg89 hx89
      clear h
      have hT89 := Below.refl (World.heap wm83).size wm83
      refine g_run rfl ?_; refine q_field rfl rfl ?_
      refine g_run rfl ?_; refine q_load rfl (Blk.cell (hS.blk 0 rfl) rfl) rfl ?_
      refine g_run rfl ?_; refine q_field rfl rfl ?_
      refine g_run rfl ?_; refine q_load rfl (Blk.cell (hS.blk 1 rfl) rfl) rfl ?_
      refine g_run rfl ?_; refine q_field rfl rfl ?_
      refine g_run rfl ?_; refine q_load rfl (Blk.cell (hS.blk 0 rfl) rfl) rfl ?_
      obtain ⟨x91, hx91, hx89⟩ := Option.of_bind hx89
      refine g_run rfl ?_; refine q_atS (by infer_instance) rfl f1 rfl hx91 rfl fun b92 o92 hm92 f92 => ?_
      refine g_run rfl ?_; refine q_load rfl (Elt.intCell f92) rfl ?_
      refine g_run rfl ?_; refine q_leq rfl rfl rfl ?_
      cases hx89
      exact eseq_nil ⟨hT89, Sub.set rfl (Sub.set rfl (Sub.set rfl (Sub.set rfl (Sub.set rfl (Sub.set rfl (Sub.set rfl (Sub.set rfl (Sub.set rfl (Sub.bool true rfl hg89))))))))), rfl⟩
    · intro hg89
      refine g_skip rfl rfl rfl ?_
      refine g_skip rfl rfl rfl ?_
      refine g_skip rfl rfl rfl ?_
      refine g_skip rfl rfl rfl ?_
      refine g_skip rfl rfl rfl ?_
      refine g_skip rfl rfl rfl ?_
      refine g_skip rfl rfl rfl ?_
      refine g_skip rfl rfl rfl ?_
      refine g_skip rfl rfl rfl ?_
      exact eseq_nil ⟨rfl, Sub.set rfl (Sub.set rfl (Sub.set rfl (Sub.set rfl (Sub.set rfl (Sub.set rfl (Sub.set rfl (Sub.set rfl (Sub.set rfl (Sub.bool false rfl hg89)))))))))⟩
    intro wm89 hBm89; clear hx89
    replace hS := hS.below hBm89
    refine q_assign rfl rfl ?_
    refine eseq_nil ?_
    refine hK72 _ _ ?_
    refine e_ret ?_
    obtain rfl := Option.some.inj h
    exact ⟨_, res1 rfl rfl, _, rfl, (hS.pickB [] 2 rfl rfl)⟩
theorem visit_d {fuel : Nat} : ∀ (d_ : Nat) {F R : Nat → Prop} {w : World} {a0 : Int} {a1 : Int} {c4_0 : (List Int)} {c5_0 : (List Int)} {c5_1 : (List (List Int))} {c5_2 : (List Arc)} {c2_0 : (List Int)} {B4 : Nat} {B4_p : Nat} {B5 : Nat} {v4 : Value} {v5 : Value} {v6 : Value} {B3 : Nat} {B2 : Nat} {r : (Bool × (List Int))} (hS : Sep F R R w w [HP.blk B2 (List.map encI c2_0) 196]) (f1 : Lent w R B4 [.pointer (some ⟨B4_p, 0, none⟩)] 199) (f2 : Lent w R B4_p (List.map encI c4_0) 196) (f3 : Lent w R B5 [v4, v5, v6] 31) (f4 : IsSlice Ty.int w R v4 c5_0) (f5 : IsSlice (Ty.slice Ty.int) w R v5 c5_1) (f6 : IsSlice arcTy w R v6 c5_2) (f7 : Lent w R B3 [.func (.func 146) #[] #[.pointer (some ⟨B2, 0, none⟩), .pointer (some ⟨B3, 0, none⟩), .pointer (some ⟨B4, 0, none⟩), .pointer (some ⟨B5, 0, none⟩)]] 125) (h : visit_R fuel d_ a0 a1 c4_0 c5_0 c5_1 c5_2 c2_0 = some r),
    Gives Try.prog 146 [.int .i64 a0, .int .i64 a1, .pointer (some ⟨B2, 0, none⟩), .pointer (some ⟨B3, 0, none⟩), .pointer (some ⟨B4, 0, none⟩), .pointer (some ⟨B5, 0, none⟩)] w fun u w1 => ∃ (R1 : Nat → Prop), u = .bool r.1 ∧ Sep F R R1 w w1 [HP.blk B2 (List.map encI r.2) 196] := by
  intro d_
  induction d_ with
  | zero => intro F R w a0 a1 c4_0 c5_0 c5_1 c5_2 c2_0 B4 B4_p B5 v4 v5 v6 B3 B2 r hS f1 f2 f3 f4 f5 f6 f7 h; cases h
  | succ d_ ih =>
    intro F R w a0 a1 c4_0 c5_0 c5_1 c5_2 c2_0 B4 B4_p B5 v4 v5 v6 B3 B2 r hS f1 f2 f3 f4 f5 f6 f7 h
    replace h : visit_F fuel (visit_R fuel d_) a0 a1 c4_0 c5_0 c5_1 c5_2 c2_0 = some r := h
    generalize visit_R fuel d_ = rec_ at h ih
    refine fn_of Try.func146 rfl Try.ntmps146 (Nat.le_of_ble_eq_true rfl) ?_
    unfold visit_F at h
    refine e_seq fun K167 hK167 => ?_
    refine e_region_text rfl ?_
    refine q_assign rfl rfl ?_
    refine eseq_nil ?_
    refine hK167 _ _ ?_
    refine e_seq fun K168 hK168 => ?_
    refine e_seq fun K169 hK169 => ?_
    refine e_region_text rfl ?_
    refine q_move rfl rfl ?_
    refine q_eql rfl rfl rfl ?_
    refine q_move rfl rfl ?_
    obtain ⟨x176, hx175, h⟩ := Option.of_bind h
    refine g_orM 6 hx175 rfl trivial rfl rfl ?_ ?_ ?_
    · intro hg175
      refine g_skip rfl rfl rfl ?_
      refine g_skip rfl rfl rfl ?_
      refine g_skip rfl rfl rfl ?_
      refine g_skip rfl rfl rfl ?_
      refine g_skip rfl rfl rfl ?_
      refine g_skip rfl rfl rfl ?_
      exact eseq_nil ⟨rfl, Sub.set rfl (Sub.set rfl (Sub.set rfl (Sub.set rfl (Sub.set rfl (Sub.set rfl (Sub.bool true rfl hg175))))))⟩
    · intro hg175 hx175
      clear h
      have hT175 := Below.refl (World.heap w).size w
      refine g_run rfl ?_; refine q_move rfl rfl ?_
      refine g_run rfl ?_; refine q_move rfl rfl ?_
      obtain ⟨x177, hx177, hx175⟩ := Option.of_bind hx175
      refine g_run rfl ?_; refine q_indexA rfl rfl hx177 rfl ?_
      obtain ⟨x178, hx178, hx175⟩ := Option.of_bind hx175
      refine g_run rfl ?_; refine q_indexA rfl rfl hx178 rfl ?_
      obtain ⟨x179, hx179, hx175⟩ := Option.of_bind hx175
      refine g_run rfl ?_; refine q_load rfl (Blk.atI (hS.blk 0 rfl) hx179) rfl ?_
      refine g_run rfl ?_; refine q_eql rfl rfl rfl ?_
      cases hx175
      exact eseq_nil ⟨hT175, Sub.set rfl (Sub.set rfl (Sub.set rfl (Sub.set rfl (Sub.set rfl (Sub.set rfl (Sub.bool false rfl hg175)))))), rfl⟩
    intro wm175 hBm175; clear hx175
    replace hS := hS.below hBm175
    replace f7 := f7.ext hBm175
    replace f1 := f1.ext hBm175
    replace f2 := f2.ext hBm175
    replace f3 := f3.ext hBm175
    replace f4 := f4.ext hBm175
    replace f5 := f5.ext hBm175
    replace f6 := f6.ext hBm175
    refine eseq_nil ?_
    refine hK169 _ _ ?_
    refine e_cond rfl (fun hc180 => ?_) (fun hc180 => ?_)
    · replace h := (if_pos hc180).symm.trans h
      refine e_seq fun K181 hK181 => ?_
      refine e_region_text rfl ?_
      refine q_assign rfl rfl ?_
      refine eseq_nil ?_
      refine hK181 _ _ ?_
      refine e_ret ?_
      obtain rfl := Option.some.inj h
      exact ⟨_, res1 rfl rfl, _, rfl, hS⟩
    · replace h := (if_neg (not_true hc180)).symm.trans h
      refine e_skip ?_
      refine hK168 _ _ ?_
      refine e_seq fun K182 hK182 => ?_
      refine e_seq fun K183 hK183 => ?_
      refine e_region_text rfl ?_
      refine q_move rfl rfl ?_
      refine q_move rfl rfl ?_
      obtain ⟨x184, hx184, h⟩ := Option.of_bind h
      refine q_indexA rfl rfl hx184 rfl ?_
      obtain ⟨x185, hx185, h⟩ := Option.of_bind h
      refine q_indexA rfl rfl hx185 rfl ?_
      obtain ⟨x186, hx186, h⟩ := Option.of_bind h
      refine q_load rfl (Blk.atI (hS.blk 0 rfl) hx186) rfl ?_
      refine q_eql rfl rfl rfl ?_
      refine eseq_nil ?_
      refine hK183 _ _ ?_
      refine e_cond rfl (fun hc187 => ?_) (fun hc187 => ?_)
      · replace h := (if_pos hc187).symm.trans h
        refine e_seq fun K188 hK188 => ?_
        refine e_region_text rfl ?_
        refine q_assign rfl rfl ?_
        refine eseq_nil ?_
        refine hK188 _ _ ?_
        refine e_ret ?_
        obtain rfl := Option.some.inj h
        exact ⟨_, res1 rfl rfl, _, rfl, hS⟩
      · replace h := (if_neg (not_true hc187)).symm.trans h
        refine e_skip ?_
        refine hK182 _ _ ?_
        refine e_seq fun K189 hK189 => ?_
        refine e_region_text rfl ?_
        refine q_move rfl rfl ?_
        refine q_move rfl rfl ?_
        obtain ⟨x190, hx190, h⟩ := Option.of_bind h
        refine q_indexA rfl rfl hx190 rfl ?_
        obtain ⟨x191, hx191, h⟩ := Option.of_bind h
        refine q_indexA rfl rfl hx191 rfl ?_
        obtain ⟨x193, hx193, h⟩ := Option.of_bind h
        refine q_storeAI rfl rfl (hS.blk 0 rfl) hx193 rfl rfl fun w192 hb192 hO192 => ?_
        have hk192 := hS.keptBlk 0 rfl hO192
        replace f7 := f7.kept hk192
        replace f1 := f1.kept hk192
        replace f2 := f2.kept hk192
        replace f3 := f3.kept hk192
        replace f4 := f4.kept hk192
        replace f5 := f5.kept hk192
        replace f6 := f6.kept hk192
        replace hS := hS.setBlk 0 rfl hb192 hO192; simp only [List.set] at hS
        refine eseq_nil ?_
        refine hK189 _ _ ?_
        refine e_seq fun K194 hK194 => ?_
        refine e_region_text rfl ?_
        refine q_load rfl (Blk.cell f7.blk rfl) rfl ?_
        refine q_move rfl rfl ?_
        refine q_move rfl rfl ?_
        refine q_subW rfl rfl rfl ?_
        obtain ⟨r196, hr196, h⟩ := Option.of_bind h
        refine q_callC rfl rfl (ih (Sep.enter (As := [_]) hS) f1 f2 f3 f4 f5 f6 f7 hr196) rfl ?_
        rintro _ w195 ⟨R195, rfl, hC195⟩
        refine ⟨(fun h => by cases h), ?_⟩
        have hk195 := hC195.keptR (Sep.offFeet (As := [_]) hS)
        replace f7 := (f7.kept hk195).mono fun k hk _ => hC195.ro0 k hk
        replace f1 := (f1.kept hk195).mono fun k hk _ => hC195.ro0 k hk
        replace f2 := (f2.kept hk195).mono fun k hk _ => hC195.ro0 k hk
        replace f3 := (f3.kept hk195).mono fun k hk _ => hC195.ro0 k hk
        replace f4 := (f4.kept hk195).mono fun k hk _ => hC195.ro0 k hk
        replace f5 := (f5.kept hk195).mono fun k hk _ => hC195.ro0 k hk
        replace f6 := (f6.kept hk195).mono fun k hk _ => hC195.ro0 k hk
        replace hS := Sep.leave (As := [_]) hS hC195; simp only [List.cons_append, List.nil_append] at hS
        refine q_assign rfl rfl ?_
        refine eseq_nil ?_
        refine hK194 _ _ ?_
        refine e_seq fun K197 hK197 => ?_
        have hJ197 : ∀ (x219 : (List Int)) (x220 : Bool) (R217 : Nat → Prop) (w218 : World) (E_ : Env), visit_J1 fuel rec_ a0 a1 x219 x220 = some r → Sep F R R217 w w218 [HP.blk B2 (List.map encI x219) 196] → Sub [(0, .int .i64 a0), (1, .int .i64 a1), (2, .pointer (some ⟨B2, 0, none⟩)), (9, .bool x220)] E_ → K197 E_ w218 := by
          intro x219 x220 R217 w218 E_ h hS  hsub
          refine hK197 _ _ (e_sub hsub ?_); clear hsub
          unfold visit_J1 at h
          refine e_seq fun K221 hK221 => ?_
          refine e_region_text rfl ?_
          refine q_move rfl rfl ?_
          refine q_move rfl rfl ?_
          obtain ⟨x222, hx222, h⟩ := Option.of_bind h
          refine q_indexA rfl rfl hx222 rfl ?_
          obtain ⟨x223, hx223, h⟩ := Option.of_bind h
          refine q_indexA rfl rfl hx223 rfl ?_
          obtain ⟨x225, hx225, h⟩ := Option.of_bind h
          refine q_storeAI rfl rfl (hS.blk 0 rfl) hx225 rfl rfl fun w224 hb224 hO224 => ?_
          have hk224 := hS.keptBlk 0 rfl hO224
          replace hS := hS.setBlk 0 rfl hb224 hO224; simp only [List.set] at hS
          refine eseq_nil ?_
          refine hK221 _ _ ?_
          refine e_seq fun K226 hK226 => ?_
          refine e_region_text rfl ?_
          refine q_move rfl rfl ?_
          refine q_assign rfl rfl ?_
          refine eseq_nil ?_
          refine hK226 _ _ ?_
          refine e_ret ?_
          obtain rfl := Option.some.inj h
          exact ⟨_, res1 rfl rfl, _, rfl, hS⟩
        refine e_seq fun K227 hK227 => ?_
        refine e_region_text rfl ?_
        refine q_load rfl (Blk.cell f1.blk rfl) rfl ?_
        refine q_move rfl rfl ?_
        refine q_move rfl rfl ?_
        refine q_nilCheck rfl rfl ?_
        obtain ⟨x228, hx228, h⟩ := Option.of_bind h
        refine q_indexA rfl rfl hx228 rfl ?_
        obtain ⟨x229, hx229, h⟩ := Option.of_bind h
        refine q_indexA rfl rfl hx229 rfl ?_
        obtain ⟨x230, hx230, h⟩ := Option.of_bind h
        refine q_load rfl (Blk.atI f2.blk hx230) rfl ?_
        refine q_assign rfl rfl ?_
        refine eseq_nil ?_
        refine hK227 _ _ ?_
        refine e_seq fun K231 hK231 => ?_
        refine e_region_text rfl ?_
        refine q_move rfl rfl ?_
        refine q_move rfl rfl ?_
        obtain ⟨x235, hx234, h⟩ := Option.of_bind h
        refine g_andM 2 hx234 rfl trivial rfl rfl ?_ ?_ ?_
        · intro hg234 hx234
          clear h
          have hT234 := Below.refl (World.heap w195).size w195
          refine g_run rfl ?_; refine q_move rfl rfl ?_
          refine g_run rfl ?_; refine q_gtr rfl rfl rfl ?_
          cases hx234
          exact eseq_nil ⟨hT234, Sub.set rfl (Sub.set rfl (Sub.bool true rfl hg234)), rfl⟩
        · intro hg234
          refine g_skip rfl rfl rfl ?_
          refine g_skip rfl rfl rfl ?_
          exact eseq_nil ⟨rfl, Sub.set rfl (Sub.set rfl (Sub.bool false rfl hg234))⟩
        intro wm234 hBm234; clear hx234
        replace hS := hS.below hBm234
        replace f7 := f7.ext hBm234
        replace f1 := f1.ext hBm234
        replace f2 := f2.ext hBm234
        replace f3 := f3.ext hBm234
        replace f4 := f4.ext hBm234
        replace f5 := f5.ext hBm234
        replace f6 := f6.ext hBm234
        refine eseq_nil ?_
        refine hK231 _ _ ?_
        refine e_cond rfl (fun hc236 => ?_) (fun hc236 => ?_)
        · replace h := (if_pos hc236).symm.trans h
          refine e_seq fun K237 hK237 => ?_
          refine e_region_text rfl ?_
          refine q_field rfl rfl ?_
          refine q_load rfl (Blk.cell f3.blk rfl) rfl ?_
          refine q_move rfl rfl ?_
          refine q_subW rfl rfl rfl ?_
          obtain ⟨x238, hx238, h⟩ := Option.of_bind h
          refine q_atS (by infer_instance) rfl f6 rfl hx238 rfl fun b239 o239 hm239 f239 => ?_
          have hc240 := Arc_open f239
          refine q_loadAgg rfl hc240 rfl rfl ?_
          refine q_allocB rfl fun w241 bl241 hg241 hb241 hB241 => ?_
          replace f7 := f7.ext hB241
          replace f1 := f1.ext hB241
          replace f2 := f2.ext hB241
          replace f3 := f3.ext hB241
          replace f4 := f4.ext hB241
          replace f5 := f5.ext hB241
          replace f6 := f6.ext hB241
          replace hS := hS.newBlk hB241 hg241 hb241
          refine q_storeAgg rfl rfl (hS.blk 0 rfl) rfl (Nat.le_of_ble_eq_true rfl) (all_cons rfl (all_cons rfl (all_cons rfl (all_cons rfl (all_nil))))) rfl rfl fun w243 hb243 hO243 => ?_
          simp only [setN, List.set, List.take, List.drop] at hb243
          have hk243 := hS.keptBlk 0 rfl hO243
          replace f7 := f7.kept hk243
          replace f1 := f1.kept hk243
          replace f2 := f2.kept hk243
          replace f3 := f3.kept hk243
          replace f4 := f4.kept hk243
          replace f5 := f5.kept hk243
          replace f6 := f6.kept hk243
          replace hS := hS.setBlk 0 rfl hb243 hO243; simp only [List.set] at hS
          refine eseq_nil ?_
          refine hK237 _ _ ?_
          refine e_region_text rfl ?_
          refine q_load rfl (Blk.cell f7.blk rfl) rfl ?_
          refine q_field rfl rfl ?_
          refine q_load rfl (Blk.cell (hS.blk 0 rfl) rfl) rfl ?_
          refine q_field rfl rfl ?_
          refine q_load rfl (Blk.cell (hS.blk 0 rfl) rfl) rfl ?_
          obtain ⟨r245, hr245, h⟩ := Option.of_bind h
          replace hS := hS.pickB [1, 0] 2 rfl rfl; simp only [List.map_cons, List.map_nil, List.getD_cons_zero, List.getD_cons_succ] at hS
          refine q_callC rfl rfl (ih (Sep.enter (As := [_]) hS) f1 f2 f3 f4 f5 f6 f7 hr245) rfl ?_
          rintro _ w244 ⟨R244, rfl, hC244⟩
          refine ⟨(fun h => by cases h), ?_⟩
          have hk244 := hC244.keptR (Sep.offFeet (As := [_]) hS)
          replace f7 := (f7.kept hk244).mono fun k hk _ => hC244.ro0 k hk
          replace f1 := (f1.kept hk244).mono fun k hk _ => hC244.ro0 k hk
          replace f2 := (f2.kept hk244).mono fun k hk _ => hC244.ro0 k hk
          replace f3 := (f3.kept hk244).mono fun k hk _ => hC244.ro0 k hk
          replace f4 := (f4.kept hk244).mono fun k hk _ => hC244.ro0 k hk
          replace f5 := (f5.kept hk244).mono fun k hk _ => hC244.ro0 k hk
          replace f6 := (f6.kept hk244).mono fun k hk _ => hC244.ro0 k hk
          replace hS := Sep.leave (As := [_]) hS hC244; simp only [List.cons_append, List.nil_append] at hS
          refine q_assign rfl rfl ?_
          refine eseq_nil ?_
          exact hJ197 r245.2 r245.1 _ _ _ h (hS.pickB [0] 2 rfl rfl)  (Sub.cons rfl (Sub.cons rfl (Sub.cons rfl (Sub.cons rfl (Sub.nil _)))))
        · replace h := (if_neg (not_true hc236)).symm.trans h
          refine e_skip ?_
          exact hJ197 r196.2 r196.1 _ _ _ h hS  (Sub.cons rfl (Sub.cons rfl (Sub.cons rfl (Sub.cons rfl (Sub.nil _)))))
theorem visit_w {F R : Nat → Prop} {w : World} {fuel : Nat} {a0 : Int} {a1 : Int} {c4_0 : (List Int)} {c5_0 : (List Int)} {c5_1 : (List (List Int))} {c5_2 : (List Arc)} {c2_0 : (List Int)} {B4 : Nat} {B4_p : Nat} {B5 : Nat} {v4 : Value} {v5 : Value} {v6 : Value} {B3 : Nat} {B2 : Nat} {r : (Bool × (List Int))} (hS : Sep F R R w w [HP.blk B2 (List.map encI c2_0) 196]) (f1 : Lent w R B4 [.pointer (some ⟨B4_p, 0, none⟩)] 199) (f2 : Lent w R B4_p (List.map encI c4_0) 196) (f3 : Lent w R B5 [v4, v5, v6] 31) (f4 : IsSlice Ty.int w R v4 c5_0) (f5 : IsSlice (Ty.slice Ty.int) w R v5 c5_1) (f6 : IsSlice arcTy w R v6 c5_2) (f7 : Lent w R B3 [.func (.func 146) #[] #[.pointer (some ⟨B2, 0, none⟩), .pointer (some ⟨B3, 0, none⟩), .pointer (some ⟨B4, 0, none⟩), .pointer (some ⟨B5, 0, none⟩)]] 125) (h : visit fuel a0 a1 c4_0 c5_0 c5_1 c5_2 c2_0 = some r) :
    Gives Try.prog 146 [.int .i64 a0, .int .i64 a1, .pointer (some ⟨B2, 0, none⟩), .pointer (some ⟨B3, 0, none⟩), .pointer (some ⟨B4, 0, none⟩), .pointer (some ⟨B5, 0, none⟩)] w fun u w1 => ∃ (R1 : Nat → Prop), u = .bool r.1 ∧ Sep F R R1 w w1 [HP.blk B2 (List.map encI r.2) 196] :=
  visit_d fuel hS f1 f2 f3 f4 f5 f6 f7 h
theorem pattern_ordered_w {F R : Nat → Prop} {w : World} {fuel : Nat} {a0 : Pat} {c1_0 : (List Int)} {v1 : Value} {v2 : Value} {v3 : Value} {B1 : Nat} {r : (Bool)} (hS : Sep F R R w w []) (f1 : IsSlice Ty.int w R v1 a0.lens) (f2 : IsSlice (Ty.slice Ty.int) w R v2 a0.ckpts) (f3 : IsSlice arcTy w R v3 a0.arcs) (f4 : Lent w R B1 (List.map encI c1_0) 196) (h : pattern_ordered fuel a0 c1_0 = some r) :
    Gives Try.prog 132 [.agg #[v1, v2, v3], .pointer (some ⟨B1, 0, none⟩)] w fun u w1 => ∃ (R1 : Nat → Prop), u = .bool r ∧ Sep F R R1 w w1 [] := by
  refine fn_of Try.func132 rfl Try.ntmps132 (Nat.le_of_ble_eq_true rfl) ?_
  unfold pattern_ordered at h
  refine e_seq fun K110 hK110 => ?_
  refine e_region_text rfl ?_
  refine q_boxB rfl rfl rfl fun w111 bl111 hg111 hb111 hB111 => ?_
  replace f1 := f1.ext hB111
  replace f2 := f2.ext hB111
  replace f3 := f3.ext hB111
  replace f4 := f4.ext hB111
  replace hS := hS.newBlk hB111 hg111 hb111
  refine q_boxB rfl rfl rfl fun w113 bl113 hg113 hb113 hB113 => ?_
  replace f4 := f4.ext hB113
  replace f1 := f1.ext hB113
  replace f2 := f2.ext hB113
  replace f3 := f3.ext hB113
  replace hS := hS.newBlk hB113 hg113 hb113
  refine q_assign rfl rfl ?_
  refine eseq_nil ?_
  refine hK110 _ _ ?_
  refine e_seq fun K115 hK115 => ?_
  refine e_region_text rfl ?_
  refine q_allocB rfl fun w116 bl116 hg116 hb116 hB116 => ?_
  replace f1 := f1.ext hB116
  replace f2 := f2.ext hB116
  replace f3 := f3.ext hB116
  replace f4 := f4.ext hB116
  replace hS := hS.newBlk hB116 hg116 hb116
  refine eseq_nil ?_
  refine hK115 _ _ ?_
  refine e_seq fun K118 hK118 => ?_
  refine e_region_text rfl ?_
  refine q_allocB rfl fun w119 bl119 hg119 hb119 hB119 => ?_
  replace f1 := f1.ext hB119
  replace f2 := f2.ext hB119
  replace f3 := f3.ext hB119
  replace f4 := f4.ext hB119
  replace hS := hS.newBlk hB119 hg119 hb119
  refine eseq_nil ?_
  refine hK118 _ _ ?_
  refine e_seq fun K121 hK121 => ?_
  refine e_region_text rfl ?_
  refine q_makeFunc rfl rfl ?_
  refine q_store rfl rfl (hS.blk 0 rfl) (Nat.le_of_ble_eq_true rfl) rfl rfl rfl fun w122 hb122 hO122 => ?_
  have hk122 := hS.keptBlk 0 rfl hO122
  replace f1 := f1.kept hk122
  replace f2 := f2.kept hk122
  replace f3 := f3.kept hk122
  replace f4 := f4.kept hk122
  replace hS := hS.setBlk 0 rfl hb122 hO122; simp only [List.set] at hS
  obtain ⟨R123, hS, hm123, f123⟩ := hS.lend 0 rfl; simp only [List.eraseIdx] at hS
  replace f1 := f1.mono fun k hk _ => hm123 k hk
  replace f2 := f2.mono fun k hk _ => hm123 k hk
  replace f3 := f3.mono fun k hk _ => hm123 k hk
  replace f4 := f4.mono fun k hk _ => hm123 k hk
  obtain ⟨R124, hS, hm124, f124⟩ := hS.lend 1 rfl; simp only [List.eraseIdx] at hS
  replace f1 := f1.mono fun k hk _ => hm124 k hk
  replace f2 := f2.mono fun k hk _ => hm124 k hk
  replace f3 := f3.mono fun k hk _ => hm124 k hk
  replace f123 := f123.mono fun k hk _ => hm124 k hk
  replace f4 := f4.mono fun k hk _ => hm124 k hk
  obtain ⟨R125, hS, hm125, f125⟩ := hS.lend 1 rfl; simp only [List.eraseIdx] at hS
  replace f1 := f1.mono fun k hk _ => hm125 k hk
  replace f2 := f2.mono fun k hk _ => hm125 k hk
  replace f3 := f3.mono fun k hk _ => hm125 k hk
  replace f123 := f123.mono fun k hk _ => hm125 k hk
  replace f124 := f124.mono fun k hk _ => hm125 k hk
  replace f4 := f4.mono fun k hk _ => hm125 k hk
  refine eseq_nil ?_
  refine hK121 _ _ ?_
  refine e_seq fun K126 hK126 => ?_
  refine e_seq fun K127 hK127 => ?_
  refine e_region_text rfl ?_
  refine q_field rfl rfl ?_
  refine q_load rfl (Blk.cell f125.blk rfl) rfl ?_
  refine q_lenS rfl f1 rfl ?_
  refine q_move rfl rfl ?_
  refine eseq_nil ?_
  refine hK127 _ _ ?_
  refine e_block ?_
  obtain ⟨tl128, ht128, h⟩ := Option.of_bind h
  have hX128_0 : ∀ (R199 : Nat → Prop) (w200 : World) (E_ : Env), pattern_ordered_K1 fuel = some r → Sep F R R199 w w200 [] → Sub [] E_ → K126 E_ w200 := by
    intro R199 w200 E_ h hS  hsub
    refine hK126 _ _ (e_sub hsub ?_); clear hsub
    unfold pattern_ordered_K1 at h
    refine e_seq fun K201 hK201 => ?_
    refine e_region_text rfl ?_
    refine q_assign rfl rfl ?_
    refine eseq_nil ?_
    refine hK201 _ _ ?_
    refine e_ret ?_
    obtain rfl := Option.some.inj h
    exact ⟨_, res1 rfl rfl, _, rfl, hS⟩
  refine e_loop (fun m_ E_ w164 => ∃ (x166 : (List Int)), ∃ (x174 : Int), ∃ (R163 : Nat → Prop), iter (fun s => pattern_ordered_B1 fuel a0 c1_0 s.1 s.2) m_ (x166, x174) = some tl128 ∧ Sep F R R163 w w164 [HP.blk bl116 (List.map encI x166) 196] ∧ Lent w164 R163 bl119 [.func (.func 146) #[] #[.pointer (some ⟨bl116, 0, none⟩), .pointer (some ⟨bl119, 0, none⟩), .pointer (some ⟨bl113, 0, none⟩), .pointer (some ⟨bl111, 0, none⟩)]] 125 ∧ Lent w164 R163 bl113 [.pointer (some ⟨B1, 0, none⟩)] 199 ∧ Lent w164 R163 B1 (List.map encI c1_0) 196 ∧ Lent w164 R163 bl111 [v1, v2, v3] 31 ∧ IsSlice Ty.int w164 R163 v1 a0.lens ∧ IsSlice (Ty.slice Ty.int) w164 R163 v2 a0.ckpts ∧ IsSlice arcTy w164 R163 v3 a0.arcs ∧ IsSlice Ty.int w164 R163 v1 a0.lens ∧ E_ = [(6, .pointer (some ⟨bl119, 0, none⟩)), (11, v1), (12, .int .i64 (a0.lens.length : Int)), (13, .int .i64 x174)]) _ ⟨_, ⟨(List.replicate 325 (0 : Int)), 0, _, ht128, hS, f123, f124, f4, f125, f1, f2, f3, f1, rfl⟩, Sub.cons rfl (Sub.cons rfl (Sub.cons rfl (Sub.cons rfl (Sub.nil _))))⟩ ?_
  clear ht128 hS
  rintro m128 _ w164 ⟨x166, x174, R163, ht128, hS, f165, f167, f168, f169, f170, f171, f172, f173, rfl⟩
  obtain ⟨m128, rfl, o128, ho128, ht128⟩ := iter_some ht128
  replace ho128 : pattern_ordered_B1 fuel a0 c1_0 x166 x174 = some o128 := ho128
  unfold pattern_ordered_B1 at ho128
  refine e_seq fun K202 hK202 => ?_
  refine e_region_text rfl ?_
  refine q_lss rfl rfl rfl ?_
  refine eseq_nil ?_
  refine hK202 _ _ ?_
  refine e_seq fun K203 hK203 => ?_
  refine e_cond rfl (fun hc204 => ?_) (fun hc204 => ?_)
  · replace ho128 := (if_pos hc204).symm.trans ho128
    refine e_skip ?_
    refine hK203 _ _ ?_
    refine e_seq fun K205 hK205 => ?_
    refine e_block ?_
    refine e_seq fun K206 hK206 => ?_
    refine e_region_text rfl ?_
    refine q_move rfl rfl ?_
    obtain ⟨x207, hx207, ho128⟩ := Option.of_bind ho128
    refine q_atS (by infer_instance) rfl f173 rfl hx207 rfl fun b208 o208 hm208 f208 => ?_
    refine q_load rfl (Elt.intCell f208) rfl ?_
    refine q_assign rfl rfl ?_
    refine q_assign rfl rfl ?_
    refine eseq_nil ?_
    refine hK206 _ _ ?_
    refine e_seq fun K209 hK209 => ?_
    refine e_region_text rfl ?_
    refine q_load rfl (Blk.cell f165.blk rfl) rfl ?_
    refine q_move rfl rfl ?_
    refine q_move rfl rfl ?_
    obtain ⟨r211, hr211, ho128⟩ := Option.of_bind ho128
    refine q_callC rfl rfl (visit_w (Sep.enter (As := [_]) hS) f167 f168 f169 f170 f171 f172 f165 hr211) rfl ?_
    rintro _ w210 ⟨R210, rfl, hC210⟩
    refine ⟨(fun h => by cases h), ?_⟩
    have hk210 := hC210.keptR (Sep.offFeet (As := [_]) hS)
    replace f165 := (f165.kept hk210).mono fun k hk _ => hC210.ro0 k hk
    replace f167 := (f167.kept hk210).mono fun k hk _ => hC210.ro0 k hk
    replace f168 := (f168.kept hk210).mono fun k hk _ => hC210.ro0 k hk
    replace f169 := (f169.kept hk210).mono fun k hk _ => hC210.ro0 k hk
    replace f170 := (f170.kept hk210).mono fun k hk _ => hC210.ro0 k hk
    replace f171 := (f171.kept hk210).mono fun k hk _ => hC210.ro0 k hk
    replace f172 := (f172.kept hk210).mono fun k hk _ => hC210.ro0 k hk
    replace f173 := (f173.kept hk210).mono fun k hk _ => hC210.ro0 k hk
    replace hS := Sep.leave (As := [_]) hS hC210; simp only [List.cons_append, List.nil_append] at hS
    refine q_not rfl rfl ?_
    refine eseq_nil ?_
    refine hK209 _ _ ?_
    refine e_cond rfl (fun hc212 => ?_) (fun hc212 => ?_)
    · replace ho128 := (if_pos hc212).symm.trans ho128
      refine e_seq fun K213 hK213 => ?_
      refine e_region_text rfl ?_
      refine q_assign rfl rfl ?_
      refine eseq_nil ?_
      refine hK213 _ _ ?_
      refine e_ret ?_
      obtain rfl := Option.some.inj ho128
      obtain rfl := Option.some.inj ht128
      obtain rfl := Option.some.inj h
      exact ⟨_, res1 rfl rfl, _, rfl, (hS.pickB [] 1 rfl rfl)⟩
    · replace ho128 := (if_neg (not_true hc212)).symm.trans ho128
      refine e_skip ?_
      refine hK205 _ _ ?_
      refine e_region_text rfl ?_
      refine q_addW rfl rfl rfl ?_
      refine q_move rfl rfl ?_
      refine eseq_nil ?_
      obtain rfl := Option.some.inj ho128
      exact ⟨m128, _, Nat.lt_succ_self _, ⟨r211.2, (w64 (x174 + 1)), _, ht128, hS, f165, f167, f168, f169, f170, f171, f172, f173, rfl⟩, Sub.cons rfl (Sub.cons rfl (Sub.cons rfl (Sub.cons rfl (Sub.nil _))))⟩
  · replace ho128 := (if_neg (not_true hc204)).symm.trans ho128
    refine e_exit ?_
    obtain rfl := Option.some.inj ho128
    obtain rfl := Option.some.inj ht128
    exact hX128_0  _ _ _ h (hS.pickB [] 1 rfl rfl)  (Sub.nil _)
theorem pattern_Check_w {F R : Nat → Prop} {w : World} {fuel : Nat} {a0 : Pat} {v1 : Value} {v2 : Value} {v3 : Value} {r : (Int)} (hS : Sep F R R w w []) (f1 : IsSlice Ty.int w R v1 a0.lens) (f2 : IsSlice (Ty.slice Ty.int) w R v2 a0.ckpts) (f3 : IsSlice arcTy w R v3 a0.arcs) (h : pattern_Check fuel a0 = some r) :
    Gives Try.prog 104 [.agg #[v1, v2, v3]] w fun u w1 => ∃ (R1 : Nat → Prop), u = .int .i64 r ∧ Sep F R R1 w w1 [] := by
  refine fn_of Try.func104 rfl Try.ntmps104 (Nat.le_of_ble_eq_true rfl) ?_
  unfold pattern_Check at h
  refine e_seq fun K333 hK333 => ?_
  refine e_region_text rfl ?_
  refine q_boxB rfl rfl rfl fun w334 bl334 hg334 hb334 hB334 => ?_
  replace f1 := f1.ext hB334
  replace f2 := f2.ext hB334
  replace f3 := f3.ext hB334
  replace hS := hS.newBlk hB334 hg334 hb334
  refine q_assign rfl rfl ?_
  refine eseq_nil ?_
  refine hK333 _ _ ?_
  refine e_seq fun K336 hK336 => ?_
  refine e_seq fun K337 hK337 => ?_
  refine e_region_text rfl ?_
  refine q_field rfl rfl ?_
  refine q_load rfl (Blk.cell (hS.blk 0 rfl) rfl) rfl ?_
  refine q_lenS rfl f1 rfl ?_
  refine q_gtr rfl rfl rfl ?_
  refine q_move rfl rfl ?_
  obtain ⟨x341, hx340, h⟩ := Option.of_bind h
  refine g_orM 4 hx340 rfl trivial rfl rfl ?_ ?_ ?_
  · intro hg340
    refine g_skip rfl rfl rfl ?_
    refine g_skip rfl rfl rfl ?_
    refine g_skip rfl rfl rfl ?_
    refine g_skip rfl rfl rfl ?_
    exact eseq_nil ⟨rfl, Sub.set rfl (Sub.set rfl (Sub.set rfl (Sub.set rfl (Sub.bool true rfl hg340))))⟩
  · intro hg340 hx340
    clear h
    have hT340 := Below.refl (World.heap w334).size w334
    refine g_run rfl ?_; refine q_field rfl rfl ?_
    refine g_run rfl ?_; refine q_load rfl (Blk.cell (hS.blk 0 rfl) rfl) rfl ?_
    refine g_run rfl ?_; refine q_lenS rfl f3 rfl ?_
    refine g_run rfl ?_; refine q_gtr rfl rfl rfl ?_
    cases hx340
    exact eseq_nil ⟨hT340, Sub.set rfl (Sub.set rfl (Sub.set rfl (Sub.set rfl (Sub.bool false rfl hg340)))), rfl⟩
  intro wm340 hBm340; clear hx340
  replace hS := hS.below hBm340
  replace f1 := f1.ext hBm340
  replace f2 := f2.ext hBm340
  replace f3 := f3.ext hBm340
  refine eseq_nil ?_
  refine hK337 _ _ ?_
  refine e_cond rfl (fun hc342 => ?_) (fun hc342 => ?_)
  · replace h := (if_pos hc342).symm.trans h
    refine e_seq fun K343 hK343 => ?_
    refine e_region_text rfl ?_
    refine q_assign rfl rfl ?_
    refine eseq_nil ?_
    refine hK343 _ _ ?_
    refine e_ret ?_
    obtain rfl := Option.some.inj h
    exact ⟨_, res1 rfl rfl, _, rfl, (hS.pickB [] 1 rfl rfl)⟩
  · replace h := (if_neg (not_true hc342)).symm.trans h
    refine e_skip ?_
    refine hK336 _ _ ?_
    refine e_seq fun K344 hK344 => ?_
    refine e_seq fun K345 hK345 => ?_
    refine e_region_text rfl ?_
    refine q_field rfl rfl ?_
    refine q_load rfl (Blk.cell (hS.blk 0 rfl) rfl) rfl ?_
    refine q_lenS rfl f2 rfl ?_
    refine q_field rfl rfl ?_
    refine q_load rfl (Blk.cell (hS.blk 0 rfl) rfl) rfl ?_
    refine q_lenS rfl f1 rfl ?_
    refine q_neq rfl rfl rfl ?_
    refine eseq_nil ?_
    refine hK345 _ _ ?_
    refine e_cond rfl (fun hc346 => ?_) (fun hc346 => ?_)
    · replace h := (if_pos hc346).symm.trans h
      refine e_seq fun K347 hK347 => ?_
      refine e_region_text rfl ?_
      refine q_assign rfl rfl ?_
      refine eseq_nil ?_
      refine hK347 _ _ ?_
      refine e_ret ?_
      obtain rfl := Option.some.inj h
      exact ⟨_, res1 rfl rfl, _, rfl, (hS.pickB [] 1 rfl rfl)⟩
    · replace h := (if_neg (not_true hc346)).symm.trans h
      refine e_skip ?_
      refine hK344 _ _ ?_
      refine e_seq fun K348 hK348 => ?_
      refine e_seq fun K349 hK349 => ?_
      refine e_region_text rfl ?_
      refine q_field rfl rfl ?_
      refine q_load rfl (Blk.cell (hS.blk 0 rfl) rfl) rfl ?_
      refine q_lenS rfl f1 rfl ?_
      refine q_move rfl rfl ?_
      refine eseq_nil ?_
      refine hK349 _ _ ?_
      refine e_block ?_
      obtain ⟨tl350, ht350, h⟩ := Option.of_bind h
      have hX350_0 : ∀ (R406 : Nat → Prop) (w407 : World) (E_ : Env), pattern_Check_K1 fuel a0 = some r → Sep F R R406 w w407 [HP.blk bl334 [v1, v2, v3] 31] → IsSlice Ty.int w407 R406 v1 a0.lens → IsSlice (Ty.slice Ty.int) w407 R406 v2 a0.ckpts → IsSlice arcTy w407 R406 v3 a0.arcs → Sub [(1, .pointer (some ⟨bl334, 0, none⟩))] E_ → K348 E_ w407 := by
        intro R406 w407 E_ h hS f408 f409 f410 hsub
        refine hK348 _ _ (e_sub hsub ?_); clear hsub
        unfold pattern_Check_K1 at h
        refine e_seq fun K411 hK411 => ?_
        refine e_seq fun K412 hK412 => ?_
        refine e_region_text rfl ?_
        refine q_field rfl rfl ?_
        refine q_load rfl (Blk.cell (hS.blk 0 rfl) rfl) rfl ?_
        refine q_lenS rfl f409 rfl ?_
        refine q_move rfl rfl ?_
        refine eseq_nil ?_
        refine hK412 _ _ ?_
        refine e_block ?_
        obtain ⟨tl413, ht413, h⟩ := Option.of_bind h
        have hX413_2 : ∀ (R471 : Nat → Prop) (w472 : World) (E_ : Env), pattern_Check_K2 fuel a0 = some r → Sep F R R471 w w472 [HP.blk bl334 [v1, v2, v3] 31] → IsSlice Ty.int w472 R471 v1 a0.lens → IsSlice (Ty.slice Ty.int) w472 R471 v2 a0.ckpts → IsSlice arcTy w472 R471 v3 a0.arcs → Sub [(1, .pointer (some ⟨bl334, 0, none⟩))] E_ → K411 E_ w472 := by
          intro R471 w472 E_ h hS f473 f474 f475 hsub
          refine hK411 _ _ (e_sub hsub ?_); clear hsub
          unfold pattern_Check_K2 at h
          refine e_seq fun K476 hK476 => ?_
          refine e_region_text rfl ?_
          refine q_allocB rfl fun w477 bl477 hg477 hb477 hB477 => ?_
          replace f473 := f473.ext hB477
          replace f474 := f474.ext hB477
          replace f475 := f475.ext hB477
          replace hS := hS.newBlk hB477 hg477 hb477
          refine eseq_nil ?_
          refine hK476 _ _ ?_
          refine e_seq fun K479 hK479 => ?_
          refine e_seq fun K480 hK480 => ?_
          refine e_region_text rfl ?_
          refine q_field rfl rfl ?_
          refine q_load rfl (Blk.cell (hS.blk 1 rfl) rfl) rfl ?_
          refine q_lenS rfl f475 rfl ?_
          refine q_move rfl rfl ?_
          refine eseq_nil ?_
          refine hK480 _ _ ?_
          refine e_block ?_
          obtain ⟨tl481, ht481, h⟩ := Option.of_bind h
          have hX481_4 : ∀ (x593 : (List Int)) (R588 : Nat → Prop) (w589 : World) (E_ : Env), pattern_Check_K3 fuel a0 x593 = some r → Sep F R R588 w w589 [HP.blk bl334 [v1, v2, v3] 31, HP.blk bl477 (List.map encI x593) 196] → IsSlice Ty.int w589 R588 v1 a0.lens → IsSlice (Ty.slice Ty.int) w589 R588 v2 a0.ckpts → IsSlice arcTy w589 R588 v3 a0.arcs → Sub [(1, .pointer (some ⟨bl334, 0, none⟩)), (7, .pointer (some ⟨bl477, 0, none⟩))] E_ → K479 E_ w589 := by
            intro x593 R588 w589 E_ h hS f590 f591 f592 hsub
            refine hK479 _ _ (e_sub hsub ?_); clear hsub
            unfold pattern_Check_K3 at h
            refine e_seq fun K594 hK594 => ?_
            refine e_seq fun K595 hK595 => ?_
            refine e_region_text rfl ?_
            refine q_loadAgg rfl (Blk.cellsAt (hS.blk 0 rfl) 0 3 rfl) rfl rfl ?_
            obtain ⟨r597, hr597, h⟩ := Option.of_bind h
            refine q_call rfl (pattern_ordered_w (a0 := (⟨a0.lens, a0.ckpts, a0.arcs⟩ : Pat)) (Sep.all w589) (f590).old (f591).old (f592).old (Lent.of (hS.blk 1 rfl)) hr597) rfl ?_
            rintro _ w596 ⟨R596, rfl, hC596⟩
            have hB596 : Below (World.heap w589).size w589 w596 := hC596.stepBF
            refine ⟨fun _ => .of_below hB596, ?_⟩
            replace f590 := f590.ext hB596
            replace f591 := f591.ext hB596
            replace f592 := f592.ext hB596
            replace hS := hS.below hB596
            refine q_not rfl rfl ?_
            refine eseq_nil ?_
            refine hK595 _ _ ?_
            refine e_cond rfl (fun hc598 => ?_) (fun hc598 => ?_)
            · replace h := (if_pos hc598).symm.trans h
              refine e_seq fun K599 hK599 => ?_
              refine e_region_text rfl ?_
              refine q_assign rfl rfl ?_
              refine eseq_nil ?_
              refine hK599 _ _ ?_
              refine e_ret ?_
              obtain rfl := Option.some.inj h
              exact ⟨_, res1 rfl rfl, _, rfl, (hS.pickB [] 2 rfl rfl)⟩
            · replace h := (if_neg (not_true hc598)).symm.trans h
              refine e_skip ?_
              refine hK594 _ _ ?_
              refine e_seq fun K600 hK600 => ?_
              refine e_region_text rfl ?_
              refine q_assign rfl rfl ?_
              refine eseq_nil ?_
              refine hK600 _ _ ?_
              refine e_ret ?_
              obtain rfl := Option.some.inj h
              exact ⟨_, res1 rfl rfl, _, rfl, (hS.pickB [] 2 rfl rfl)⟩
          refine e_loop (fun m_ E_ w535 => ∃ (x539 : (List Int)), ∃ (x541 : Int), ∃ (R534 : Nat → Prop), iter (fun s => pattern_Check_B1 fuel a0 s.1 s.2) m_ (x539, x541) = some tl481 ∧ Sep F R R534 w w535 [HP.blk bl334 [v1, v2, v3] 31, HP.blk bl477 (List.map encI x539) 196] ∧ IsSlice Ty.int w535 R534 v1 a0.lens ∧ IsSlice (Ty.slice Ty.int) w535 R534 v2 a0.ckpts ∧ IsSlice arcTy w535 R534 v3 a0.arcs ∧ IsSlice arcTy w535 R534 v3 a0.arcs ∧ E_ = [(1, .pointer (some ⟨bl334, 0, none⟩)), (7, .pointer (some ⟨bl477, 0, none⟩)), (59, v3), (60, .int .i64 (a0.arcs.length : Int)), (61, .int .i64 x541)]) _ ⟨_, ⟨(List.replicate 325 (0 : Int)), 0, _, ht481, (hS.pickB [1, 0] 2 rfl rfl), f473, f474, f475, f475, rfl⟩, Sub.cons rfl (Sub.cons rfl (Sub.cons rfl (Sub.cons rfl (Sub.cons rfl (Sub.nil _)))))⟩ ?_
          clear ht481 hS
          rintro m481 _ w535 ⟨x539, x541, R534, ht481, hS, f536, f537, f538, f540, rfl⟩
          obtain ⟨m481, rfl, o481, ho481, ht481⟩ := iter_some ht481
          replace ho481 : pattern_Check_B1 fuel a0 x539 x541 = some o481 := ho481
          unfold pattern_Check_B1 at ho481
          refine e_seq fun K601 hK601 => ?_
          refine e_region_text rfl ?_
          refine q_lss rfl rfl rfl ?_
          refine eseq_nil ?_
          refine hK601 _ _ ?_
          refine e_seq fun K602 hK602 => ?_
          refine e_cond rfl (fun hc603 => ?_) (fun hc603 => ?_)
          · replace ho481 := (if_pos hc603).symm.trans ho481
            refine e_skip ?_
            refine hK602 _ _ ?_
            refine e_seq fun K604 hK604 => ?_
            refine e_block ?_
            refine e_seq fun K605 hK605 => ?_
            refine e_region_text rfl ?_
            refine q_move rfl rfl ?_
            obtain ⟨x606, hx606, ho481⟩ := Option.of_bind ho481
            refine q_atS (by infer_instance) rfl f540 rfl hx606 rfl fun b607 o607 hm607 f607 => ?_
            have hc608 := Arc_open f607
            refine q_loadAgg rfl hc608 rfl rfl ?_
            refine q_allocB rfl fun w609 bl609 hg609 hb609 hB609 => ?_
            replace f536 := f536.ext hB609
            replace f537 := f537.ext hB609
            replace f538 := f538.ext hB609
            replace f540 := f540.ext hB609
            replace hS := hS.newBlk hB609 hg609 hb609
            refine q_assign rfl rfl ?_
            refine q_storeAgg rfl rfl (hS.blk 0 rfl) rfl (Nat.le_of_ble_eq_true rfl) (all_cons rfl (all_cons rfl (all_cons rfl (all_cons rfl (all_nil))))) rfl rfl fun w611 hb611 hO611 => ?_
            simp only [setN, List.set, List.take, List.drop] at hb611
            have hk611 := hS.keptBlk 0 rfl hO611
            replace f536 := f536.kept hk611
            replace f537 := f537.kept hk611
            replace f538 := f538.kept hk611
            replace f540 := f540.kept hk611
            replace hS := hS.setBlk 0 rfl hb611 hO611; simp only [List.set] at hS
            refine eseq_nil ?_
            refine hK605 _ _ ?_
            refine e_seq fun K612 hK612 => ?_
            refine e_seq fun K613 hK613 => ?_
            refine e_region_text rfl ?_
            refine q_loadAgg rfl (Blk.cellsAt (hS.blk 1 rfl) 0 3 rfl) rfl rfl ?_
            refine q_loadAgg rfl (Blk.cellsAt (hS.blk 0 rfl) 0 4 rfl) rfl rfl ?_
            obtain ⟨r615, hr615, ho481⟩ := Option.of_bind ho481
            refine q_call rfl (pattern_inRange_w (a0 := (⟨a0.lens, a0.ckpts, a0.arcs⟩ : Pat)) (a1 := (⟨x606.fr, x606.ix, x606.to, x606.rcv⟩ : Arc)) (Sep.enter (As := []) hS) f536 f537 f538 hr615) rfl ?_
            rintro _ w614 ⟨R614, rfl, hC614⟩
            have hB614 : Below (World.heap w611).size w611 w614 := hC614.stepB0
            refine ⟨fun _ => .of_below hB614, ?_⟩
            replace f536 := (f536.ext hB614).mono fun k hk _ => hC614.ro0 k hk
            replace f537 := (f537.ext hB614).mono fun k hk _ => hC614.ro0 k hk
            replace f538 := (f538.ext hB614).mono fun k hk _ => hC614.ro0 k hk
            replace f540 := (f540.ext hB614).mono fun k hk _ => hC614.ro0 k hk
            replace hS := Sep.leave (As := []) hS hC614; simp only [List.cons_append, List.nil_append] at hS
            refine q_not rfl rfl ?_
            refine eseq_nil ?_
            refine hK613 _ _ ?_
            refine e_cond rfl (fun hc616 => ?_) (fun hc616 => ?_)
            · replace ho481 := (if_pos hc616).symm.trans ho481
              refine e_seq fun K617 hK617 => ?_
              refine e_region_text rfl ?_
              refine q_assign rfl rfl ?_
              refine eseq_nil ?_
              refine hK617 _ _ ?_
              refine e_ret ?_
              obtain rfl := Option.some.inj ho481
              obtain rfl := Option.some.inj ht481
              obtain rfl := Option.some.inj h
              exact ⟨_, res1 rfl rfl, _, rfl, (hS.pickB [] 3 rfl rfl)⟩
            · replace ho481 := (if_neg (not_true hc616)).symm.trans ho481
              refine e_skip ?_
              refine hK612 _ _ ?_
              refine e_seq fun K618 hK618 => ?_
              refine e_seq fun K619 hK619 => ?_
              refine e_region_text rfl ?_
              refine q_field rfl rfl ?_
              refine q_load rfl (Blk.cell (hS.blk 0 rfl) rfl) rfl ?_
              refine q_eql rfl rfl rfl ?_
              refine eseq_nil ?_
              refine hK619 _ _ ?_
              refine e_cond rfl (fun hc620 => ?_) (fun hc620 => ?_)
              · replace ho481 := (if_pos hc620).symm.trans ho481
                refine e_exit ?_
                refine hK604 _ _ ?_
                refine e_region_text rfl ?_
                refine q_addW rfl rfl rfl ?_
                refine q_move rfl rfl ?_
                refine eseq_nil ?_
                obtain rfl := Option.some.inj ho481
                exact ⟨m481, _, Nat.lt_succ_self _, ⟨x539, (w64 (x541 + 1)), _, ht481, (hS.pickB [1, 2] 3 rfl rfl), f536, f537, f538, f540, rfl⟩, Sub.cons rfl (Sub.cons rfl (Sub.cons rfl (Sub.cons rfl (Sub.cons rfl (Sub.nil _)))))⟩
              · replace ho481 := (if_neg (not_true hc620)).symm.trans ho481
                refine e_skip ?_
                refine hK618 _ _ ?_
                refine e_seq fun K621 hK621 => ?_
                refine e_seq fun K622 hK622 => ?_
                refine e_region_draw mixed (fun _ => False) [0, 1, 0, 4, 3, 31, 63, 127] [] [0, 1, 2, 3, 4, 5, 6, 7] (by kernel_rfl) ?_
                refine q_field rfl rfl ?_
                refine q_load rfl (Blk.cell (hS.blk 0 rfl) rfl) rfl ?_
                refine q_field rfl rfl ?_
                refine q_load rfl (Blk.cell (hS.blk 0 rfl) rfl) rfl ?_
                obtain ⟨x623, hx623, ho481⟩ := Option.of_bind ho481
                refine q_indexA rfl rfl hx623 rfl ?_
                obtain ⟨x624, hx624, ho481⟩ := Option.of_bind ho481
                refine q_indexA rfl rfl hx624 rfl ?_
                obtain ⟨x625, hx625, ho481⟩ := Option.of_bind ho481
                refine q_load rfl (Blk.atI (hS.blk 2 rfl) hx625) rfl ?_
                refine q_neq rfl rfl rfl ?_
                refine eseq_nil ?_
                refine hK622 _ _ ?_
                refine e_cond rfl (fun hc626 => ?_) (fun hc626 => ?_)
                · replace ho481 := (if_pos hc626).symm.trans ho481
                  refine e_seq fun K627 hK627 => ?_
                  refine e_region_text rfl ?_
                  refine q_assign rfl rfl ?_
                  refine eseq_nil ?_
                  refine hK627 _ _ ?_
                  refine e_ret ?_
                  obtain rfl := Option.some.inj ho481
                  obtain rfl := Option.some.inj ht481
                  obtain rfl := Option.some.inj h
                  exact ⟨_, res1 rfl rfl, _, rfl, (hS.pickB [] 3 rfl rfl)⟩
                · replace ho481 := (if_neg (not_true hc626)).symm.trans ho481
                  refine e_skip ?_
                  refine hK621 _ _ ?_
                  refine e_region_draw mixed (fun _ => False) [0, 1, 0, 4, 0, 16, 3, 127, 255] [] [0, 1, 2, 3, 4, 5, 6, 7, 8] (by kernel_rfl) ?_
                  refine q_field rfl rfl ?_
                  refine q_load rfl (Blk.cell (hS.blk 0 rfl) rfl) rfl ?_
                  refine q_field rfl rfl ?_
                  refine q_load rfl (Blk.cell (hS.blk 0 rfl) rfl) rfl ?_
                  refine q_move rfl rfl ?_
                  refine q_addW rfl rfl rfl ?_
                  obtain ⟨x628, hx628, ho481⟩ := Option.of_bind ho481
                  refine q_indexA rfl rfl hx628 rfl ?_
                  obtain ⟨x629, hx629, ho481⟩ := Option.of_bind ho481
                  refine q_indexA rfl rfl hx629 rfl ?_
                  obtain ⟨x631, hx631, ho481⟩ := Option.of_bind ho481
                  refine q_storeAI rfl rfl (hS.blk 2 rfl) hx631 rfl rfl fun w630 hb630 hO630 => ?_
                  have hk630 := hS.keptBlk 2 rfl hO630
                  replace f536 := f536.kept hk630
                  replace f537 := f537.kept hk630
                  replace f538 := f538.kept hk630
                  replace f540 := f540.kept hk630
                  replace hS := hS.setBlk 2 rfl hb630 hO630; simp only [List.set] at hS
                  refine eseq_nil ?_
                  refine hK604 _ _ ?_
                  refine e_region_text rfl ?_
                  refine q_addW rfl rfl rfl ?_
                  refine q_move rfl rfl ?_
                  refine eseq_nil ?_
                  obtain rfl := Option.some.inj ho481
                  exact ⟨m481, _, Nat.lt_succ_self _, ⟨x631, (w64 (x541 + 1)), _, ht481, (hS.pickB [1, 2] 3 rfl rfl), f536, f537, f538, f540, rfl⟩, Sub.cons rfl (Sub.cons rfl (Sub.cons rfl (Sub.cons rfl (Sub.cons rfl (Sub.nil _)))))⟩
          · replace ho481 := (if_neg (not_true hc603)).symm.trans ho481
            refine e_exit ?_
            obtain rfl := Option.some.inj ho481
            obtain rfl := Option.some.inj ht481
            exact hX481_4 x539 _ _ _ h hS f536 f537 f538 (Sub.cons rfl (Sub.cons rfl (Sub.nil _)))
        refine e_loop (fun m_ E_ w443 => ∃ (x448 : Int), ∃ (R442 : Nat → Prop), iter (fun s => pattern_Check_B2 fuel a0 s) m_ x448 = some tl413 ∧ Sep F R R442 w w443 [HP.blk bl334 [v1, v2, v3] 31] ∧ IsSlice Ty.int w443 R442 v1 a0.lens ∧ IsSlice (Ty.slice Ty.int) w443 R442 v2 a0.ckpts ∧ IsSlice arcTy w443 R442 v3 a0.arcs ∧ IsSlice (Ty.slice Ty.int) w443 R442 v2 a0.ckpts ∧ E_ = [(1, .pointer (some ⟨bl334, 0, none⟩)), (42, v2), (43, .int .i64 (a0.ckpts.length : Int)), (44, .int .i64 x448)]) _ ⟨_, ⟨0, _, ht413, hS, f408, f409, f410, f409, rfl⟩, Sub.cons rfl (Sub.cons rfl (Sub.cons rfl (Sub.cons rfl (Sub.nil _))))⟩ ?_
        clear ht413 hS
        rintro m413 _ w443 ⟨x448, R442, ht413, hS, f444, f445, f446, f447, rfl⟩
        obtain ⟨m413, rfl, o413, ho413, ht413⟩ := iter_some ht413
        replace ho413 : pattern_Check_B2 fuel a0 x448 = some o413 := ho413
        unfold pattern_Check_B2 at ho413
        refine e_seq fun K632 hK632 => ?_
        refine e_region_text rfl ?_
        refine q_lss rfl rfl rfl ?_
        refine eseq_nil ?_
        refine hK632 _ _ ?_
        refine e_seq fun K633 hK633 => ?_
        refine e_cond rfl (fun hc634 => ?_) (fun hc634 => ?_)
        · replace ho413 := (if_pos hc634).symm.trans ho413
          refine e_skip ?_
          refine hK633 _ _ ?_
          refine e_seq fun K635 hK635 => ?_
          refine e_block ?_
          refine e_seq fun K636 hK636 => ?_
          refine e_region_text rfl ?_
          refine q_move rfl rfl ?_
          obtain ⟨x637, hx637, ho413⟩ := Option.of_bind ho413
          refine q_atS (by infer_instance) rfl f447 rfl hx637 rfl fun b638 o638 hm638 f638 => ?_
          refine q_loadE rfl f638 rfl (fun v639 f639 => ?_)
          refine q_assign rfl rfl ?_
          refine q_assign rfl rfl ?_
          refine eseq_nil ?_
          refine hK636 _ _ ?_
          refine e_seq fun K640 hK640 => ?_
          refine e_region_text rfl ?_
          refine q_move rfl rfl ?_
          refine q_field rfl rfl ?_
          refine q_load rfl (Blk.cell (hS.blk 0 rfl) rfl) rfl ?_
          refine q_move rfl rfl ?_
          obtain ⟨x641, hx641, ho413⟩ := Option.of_bind ho413
          refine q_atS (by infer_instance) rfl f444 rfl hx641 rfl fun b642 o642 hm642 f642 => ?_
          refine q_load rfl (Elt.intCell f642) rfl ?_
          obtain ⟨r644, hr644, ho413⟩ := Option.of_bind ho413
          refine q_call rfl (pattern_ascending_w (Sep.enter (As := []) hS) f639 hr644) rfl ?_
          rintro _ w643 ⟨R643, rfl, hC643⟩
          have hB643 : Below (World.heap w443).size w443 w643 := hC643.stepB0
          refine ⟨fun _ => .of_below hB643, ?_⟩
          replace f444 := (f444.ext hB643).mono fun k hk _ => hC643.ro0 k hk
          replace f445 := (f445.ext hB643).mono fun k hk _ => hC643.ro0 k hk
          replace f446 := (f446.ext hB643).mono fun k hk _ => hC643.ro0 k hk
          replace f447 := (f447.ext hB643).mono fun k hk _ => hC643.ro0 k hk
          replace f639 := (f639.ext hB643).mono fun k hk _ => hC643.ro0 k hk
          replace hS := Sep.leave (As := []) hS hC643; simp only [List.cons_append, List.nil_append] at hS
          refine q_not rfl rfl ?_
          refine eseq_nil ?_
          refine hK640 _ _ ?_
          refine e_cond rfl (fun hc645 => ?_) (fun hc645 => ?_)
          · replace ho413 := (if_pos hc645).symm.trans ho413
            refine e_seq fun K646 hK646 => ?_
            refine e_region_text rfl ?_
            refine q_assign rfl rfl ?_
            refine eseq_nil ?_
            refine hK646 _ _ ?_
            refine e_ret ?_
            obtain rfl := Option.some.inj ho413
            obtain rfl := Option.some.inj ht413
            obtain rfl := Option.some.inj h
            exact ⟨_, res1 rfl rfl, _, rfl, (hS.pickB [] 1 rfl rfl)⟩
          · replace ho413 := (if_neg (not_true hc645)).symm.trans ho413
            refine e_skip ?_
            refine hK635 _ _ ?_
            refine e_region_text rfl ?_
            refine q_addW rfl rfl rfl ?_
            refine q_move rfl rfl ?_
            refine eseq_nil ?_
            obtain rfl := Option.some.inj ho413
            exact ⟨m413, _, Nat.lt_succ_self _, ⟨(w64 (x448 + 1)), _, ht413, hS, f444, f445, f446, f447, rfl⟩, Sub.cons rfl (Sub.cons rfl (Sub.cons rfl (Sub.cons rfl (Sub.nil _))))⟩
        · replace ho413 := (if_neg (not_true hc634)).symm.trans ho413
          refine e_exit ?_
          obtain rfl := Option.some.inj ho413
          obtain rfl := Option.some.inj ht413
          exact hX413_2  _ _ _ h hS f444 f445 f446 (Sub.cons rfl (Sub.nil _))
      refine e_loop (fun m_ E_ w379 => ∃ (x384 : Int), ∃ (R378 : Nat → Prop), iter (fun s => pattern_Check_B3 fuel a0 s) m_ x384 = some tl350 ∧ Sep F R R378 w w379 [HP.blk bl334 [v1, v2, v3] 31] ∧ IsSlice Ty.int w379 R378 v1 a0.lens ∧ IsSlice (Ty.slice Ty.int) w379 R378 v2 a0.ckpts ∧ IsSlice arcTy w379 R378 v3 a0.arcs ∧ IsSlice Ty.int w379 R378 v1 a0.lens ∧ E_ = [(1, .pointer (some ⟨bl334, 0, none⟩)), (28, v1), (29, .int .i64 (a0.lens.length : Int)), (30, .int .i64 x384)]) _ ⟨_, ⟨0, _, ht350, hS, f1, f2, f3, f1, rfl⟩, Sub.cons rfl (Sub.cons rfl (Sub.cons rfl (Sub.cons rfl (Sub.nil _))))⟩ ?_
      clear ht350 hS
      rintro m350 _ w379 ⟨x384, R378, ht350, hS, f380, f381, f382, f383, rfl⟩
      obtain ⟨m350, rfl, o350, ho350, ht350⟩ := iter_some ht350
      replace ho350 : pattern_Check_B3 fuel a0 x384 = some o350 := ho350
      unfold pattern_Check_B3 at ho350
      refine e_seq fun K647 hK647 => ?_
      refine e_region_text rfl ?_
      refine q_lss rfl rfl rfl ?_
      refine eseq_nil ?_
      refine hK647 _ _ ?_
      refine e_seq fun K648 hK648 => ?_
      refine e_cond rfl (fun hc649 => ?_) (fun hc649 => ?_)
      · replace ho350 := (if_pos hc649).symm.trans ho350
        refine e_skip ?_
        refine hK648 _ _ ?_
        refine e_seq fun K650 hK650 => ?_
        refine e_block ?_
        refine e_seq fun K651 hK651 => ?_
        refine e_region_text rfl ?_
        obtain ⟨x652, hx652, ho350⟩ := Option.of_bind ho350
        refine q_atS (by infer_instance) rfl f383 rfl hx652 rfl fun b653 o653 hm653 f653 => ?_
        refine q_load rfl (Elt.intCell f653) rfl ?_
        refine q_assign rfl rfl ?_
        refine eseq_nil ?_
        refine hK651 _ _ ?_
        refine e_seq fun K654 hK654 => ?_
        refine e_region_text rfl ?_
        refine q_move rfl rfl ?_
        refine q_lss rfl rfl rfl ?_
        refine q_move rfl rfl ?_
        obtain ⟨x658, hx657, ho350⟩ := Option.of_bind ho350
        refine g_orM 2 hx657 rfl trivial rfl rfl ?_ ?_ ?_
        · intro hg657
          refine g_skip rfl rfl rfl ?_
          refine g_skip rfl rfl rfl ?_
          exact eseq_nil ⟨rfl, Sub.set rfl (Sub.set rfl (Sub.bool true rfl hg657))⟩
        · intro hg657 hx657
          clear ho350
          have hT657 := Below.refl (World.heap w379).size w379
          refine g_run rfl ?_; refine q_move rfl rfl ?_
          refine g_run rfl ?_; refine q_gtr rfl rfl rfl ?_
          cases hx657
          exact eseq_nil ⟨hT657, Sub.set rfl (Sub.set rfl (Sub.bool false rfl hg657)), rfl⟩
        intro wm657 hBm657; clear hx657
        replace hS := hS.below hBm657
        replace f380 := f380.ext hBm657
        replace f381 := f381.ext hBm657
        replace f382 := f382.ext hBm657
        replace f383 := f383.ext hBm657
        refine eseq_nil ?_
        refine hK654 _ _ ?_
        refine e_cond rfl (fun hc659 => ?_) (fun hc659 => ?_)
        · replace ho350 := (if_pos hc659).symm.trans ho350
          refine e_seq fun K660 hK660 => ?_
          refine e_region_text rfl ?_
          refine q_assign rfl rfl ?_
          refine eseq_nil ?_
          refine hK660 _ _ ?_
          refine e_ret ?_
          obtain rfl := Option.some.inj ho350
          obtain rfl := Option.some.inj ht350
          obtain rfl := Option.some.inj h
          exact ⟨_, res1 rfl rfl, _, rfl, (hS.pickB [] 1 rfl rfl)⟩
        · replace ho350 := (if_neg (not_true hc659)).symm.trans ho350
          refine e_skip ?_
          refine hK650 _ _ ?_
          refine e_region_text rfl ?_
          refine q_addW rfl rfl rfl ?_
          refine q_move rfl rfl ?_
          refine eseq_nil ?_
          obtain rfl := Option.some.inj ho350
          exact ⟨m350, _, Nat.lt_succ_self _, ⟨(w64 (x384 + 1)), _, ht350, hS, f380, f381, f382, f383, rfl⟩, Sub.cons rfl (Sub.cons rfl (Sub.cons rfl (Sub.cons rfl (Sub.nil _))))⟩
      · replace ho350 := (if_neg (not_true hc649)).symm.trans ho350
        refine e_exit ?_
        obtain rfl := Option.some.inj ho350
        obtain rfl := Option.some.inj ht350
        exact hX350_0  _ _ _ h hS f380 f381 f382 (Sub.cons rfl (Sub.nil _))
end Go.Proofs.Ytbmjcbhappjnaaa
