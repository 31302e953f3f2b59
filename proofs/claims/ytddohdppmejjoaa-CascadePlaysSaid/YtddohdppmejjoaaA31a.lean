/- Printed walks: A31a. -/
import Derived.Test.YtddohdppmejjoaaAmk
import Derived.Test.YtddohdppmejjoaaA31u
set_option linter.unusedVariables false
set_option linter.unusedSimpArgs false
namespace Go.Mine
open Go.RowKit
def ref31_Same_K1 (fuel : Nat) : Option (Bool) :=
  some true
def ref31_Same_B1 (fuel : Nat) (a0 : (List EndI)) (a1 : (List EndI)) (x107 : Int) : Option ((Int) ⊕ (Unit ⊕ (Bool))) :=
  (if (decide (x107 < (a0.length : Int))) = true then (ati a0 x107).bind fun x134 => (ati a1 x107).bind fun x137 => (if (!((x134.proc == x137.proc) && ((x134.inc == x137.inc) && ((x134.index == x137.index) && true)))) = true then some (Sum.inr (Sum.inr false)) else some (Sum.inl (w64 (x107 + 1)))) else some (Sum.inr (Sum.inl ())))
def ref31_Same (fuel : Nat) (a0 : (List EndI)) (a1 : (List EndI)) : Option (Bool) :=
  (if ((a0.length : Int) != (a1.length : Int)) = true then some false else (iter (fun s => ref31_Same_B1 fuel a0 a1 s) fuel 0).bind (fun t => Sum.elim (fun t => ref31_Same_K1 fuel) (fun t => some t) t))
def ref31_implied (fuel : Nat) (a0 : EndI) (a1 : EndI) : Option (Bool) :=
  (andM (a1.proc == a0.proc) (some (decide (a0.inc ≤ a1.inc)))).bind fun x24 => (andM x24 (some (decide (a1.index ≤ a0.index)))).bind fun x28 => some x28
end Go.Mine
namespace Go.Proofs.Ytddohdppmejjoaa
open Go.RowKit Go.Mine
attribute [local irreducible] eseq ewp iter
theorem ref31_Same_w {F R : Nat → Prop} {w : World} {fuel : Nat} {a0 : (List EndI)} {a1 : (List EndI)} {v1 : Value} {v2 : Value} {r : (Bool)} (hS : Sep F R R w w []) (f1 : IsSlice endITy w R v1 a0) (f2 : IsSlice endITy w R v2 a1) (h : ref31_Same fuel a0 a1 = some r) :
    Gives Try.prog 36 [v1, v2] w fun u w1 => ∃ (R1 : Nat → Prop), u = .bool r ∧ Sep F R R1 w w1 [] := by
  refine fn_of Try.func36 rfl Try.ntmps36 (Nat.le_of_ble_eq_true rfl) ?_
  unfold ref31_Same at h
  refine e_seq fun K73 hK73 => ?_
  refine e_region_text rfl ?_
  refine q_assign rfl rfl ?_
  refine eseq_nil ?_
  refine hK73 _ _ ?_
  refine e_seq fun K74 hK74 => ?_
  refine e_seq fun K75 hK75 => ?_
  refine e_region_text rfl ?_
  refine q_move rfl rfl ?_
  refine q_lenS rfl f1 rfl ?_
  refine q_move rfl rfl ?_
  refine q_lenS rfl f2 rfl ?_
  refine q_neq rfl rfl rfl ?_
  refine eseq_nil ?_
  refine hK75 _ _ ?_
  refine e_cond rfl (fun hc76 => ?_) (fun hc76 => ?_)
  · replace h := (if_pos hc76).symm.trans h
    refine e_seq fun K77 hK77 => ?_
    refine e_region_text rfl ?_
    refine q_assign rfl rfl ?_
    refine eseq_nil ?_
    refine hK77 _ _ ?_
    refine e_ret ?_
    obtain rfl := Option.some.inj h
    exact ⟨_, res1 rfl rfl, _, rfl, hS⟩
  · replace h := (if_neg (not_true hc76)).symm.trans h
    refine e_skip ?_
    refine hK74 _ _ ?_
    refine e_seq fun K78 hK78 => ?_
    refine e_seq fun K79 hK79 => ?_
    refine e_region_text rfl ?_
    refine q_assign rfl rfl ?_
    refine eseq_nil ?_
    refine hK79 _ _ ?_
    refine e_block ?_
    obtain ⟨tl80, ht80, h⟩ := Option.of_bind h
    have hX80_0 : ∀ (R126 : Nat → Prop) (w127 : World) (E_ : Env), ref31_Same_K1 fuel = some r → Sep F R R126 w w127 [] → Sub [] E_ → K78 E_ w127 := by
      intro R126 w127 E_ h hS  hsub
      refine hK78 _ _ (e_sub hsub ?_); clear hsub
      unfold ref31_Same_K1 at h
      refine e_seq fun K128 hK128 => ?_
      refine e_region_text rfl ?_
      refine q_assign rfl rfl ?_
      refine eseq_nil ?_
      refine hK128 _ _ ?_
      refine e_ret ?_
      obtain rfl := Option.some.inj h
      exact ⟨_, res1 rfl rfl, _, rfl, hS⟩
    refine e_loop (fun m_ E_ w104 => ∃ (x107 : Int), ∃ (R103 : Nat → Prop), iter (fun s => ref31_Same_B1 fuel a0 a1 s) m_ x107 = some tl80 ∧ Sep F R R103 w w104 [] ∧ IsSlice endITy w104 R103 v1 a0 ∧ IsSlice endITy w104 R103 v2 a1 ∧ E_ = [(0, v1), (1, v2), (5, .int .i64 x107)]) _ ⟨_, ⟨0, _, ht80, hS, f1, f2, rfl⟩, Sub.cons rfl (Sub.cons rfl (Sub.cons rfl (Sub.nil _)))⟩ ?_
    clear ht80 hS
    rintro m80 _ w104 ⟨x107, R103, ht80, hS, f105, f106, rfl⟩
    obtain ⟨m80, rfl, o80, ho80, ht80⟩ := iter_some ht80
    replace ho80 : ref31_Same_B1 fuel a0 a1 x107 = some o80 := ho80
    unfold ref31_Same_B1 at ho80
    refine e_seq fun K129 hK129 => ?_
    refine e_seq fun K130 hK130 => ?_
    refine e_region_text rfl ?_
    refine q_move rfl rfl ?_
    refine q_move rfl rfl ?_
    refine q_lenS rfl f105 rfl ?_
    refine q_lss rfl rfl rfl ?_
    refine eseq_nil ?_
    refine hK130 _ _ ?_
    refine e_cond rfl (fun hc131 => ?_) (fun hc131 => ?_)
    · replace ho80 := (if_pos hc131).symm.trans ho80
      refine e_skip ?_
      refine hK129 _ _ ?_
      refine e_seq fun K132 hK132 => ?_
      refine e_block ?_
      refine e_seq fun K133 hK133 => ?_
      refine e_region_draw mixed (fun _ => False) [0, 0, 3, 7, 0, 0, 48, 112, 255] [] [0, 1, 2, 3, 4, 5, 6, 7, 8] (by kernel_rfl) ?_
      refine q_move rfl rfl ?_
      refine q_move rfl rfl ?_
      obtain ⟨x134, hx134, ho80⟩ := Option.of_bind ho80
      refine q_atS (by infer_instance) rfl f105 rfl hx134 rfl fun b135 o135 hm135 f135 => ?_
      have hc136 := EndI_open f135
      refine q_loadAgg rfl hc136 rfl rfl ?_
      refine q_move rfl rfl ?_
      refine q_move rfl rfl ?_
      obtain ⟨x137, hx137, ho80⟩ := Option.of_bind ho80
      refine q_atS (by infer_instance) rfl f106 rfl hx137 rfl fun b138 o138 hm138 f138 => ?_
      have hc139 := EndI_open f138
      refine q_loadAgg rfl hc139 rfl rfl ?_
      refine q_neqA eqT41 (by kernel_rfl) rfl rfl rfl ?_
      refine eseq_nil ?_
      refine hK133 _ _ ?_
      refine e_cond rfl (fun hc140 => ?_) (fun hc140 => ?_)
      · replace ho80 := (if_pos hc140).symm.trans ho80
        refine e_seq fun K141 hK141 => ?_
        refine e_region_text rfl ?_
        refine q_assign rfl rfl ?_
        refine eseq_nil ?_
        refine hK141 _ _ ?_
        refine e_ret ?_
        obtain rfl := Option.some.inj ho80
        obtain rfl := Option.some.inj ht80
        obtain rfl := Option.some.inj h
        exact ⟨_, res1 rfl rfl, _, rfl, hS⟩
      · replace ho80 := (if_neg (not_true hc140)).symm.trans ho80
        refine e_skip ?_
        refine hK132 _ _ ?_
        refine e_region_text rfl ?_
        refine q_move rfl rfl ?_
        refine q_addW rfl rfl rfl ?_
        refine q_assign rfl rfl ?_
        refine eseq_nil ?_
        obtain rfl := Option.some.inj ho80
        exact ⟨m80, _, Nat.lt_succ_self _, ⟨(w64 (x107 + 1)), _, ht80, hS, f105, f106, rfl⟩, Sub.cons rfl (Sub.cons rfl (Sub.cons rfl (Sub.nil _)))⟩
    · replace ho80 := (if_neg (not_true hc131)).symm.trans ho80
      refine e_exit ?_
      obtain rfl := Option.some.inj ho80
      obtain rfl := Option.some.inj ht80
      exact hX80_0  _ _ _ h hS  (Sub.nil _)
theorem ref31_implied_w {F R : Nat → Prop} {w : World} {fuel : Nat} {a0 : EndI} {a1 : EndI} {r : (Bool)} (hS : Sep F R R w w []) (h : ref31_implied fuel a0 a1 = some r) :
    Gives Try.prog 70 [.agg #[.int .i64 a0.proc, .int .i64 a0.inc, .int .i64 a0.index], .agg #[.int .i64 a1.proc, .int .i64 a1.inc, .int .i64 a1.index]] w fun u w1 => ∃ (R1 : Nat → Prop), u = .bool r ∧ Sep F R R1 w w1 [] := by
  refine fn_of Try.func70 rfl Try.ntmps70 (Nat.le_of_ble_eq_true rfl) ?_
  unfold ref31_implied at h
  refine e_seq fun K15 hK15 => ?_
  refine e_region_text rfl ?_
  refine q_boxB rfl rfl rfl fun w16 bl16 hg16 hb16 hB16 => ?_
  replace hS := hS.newBlk hB16 hg16 hb16
  refine q_boxB rfl rfl rfl fun w18 bl18 hg18 hb18 hB18 => ?_
  replace hS := hS.newBlk hB18 hg18 hb18
  refine q_assign rfl rfl ?_
  refine eseq_nil ?_
  refine hK15 _ _ ?_
  refine e_seq fun K20 hK20 => ?_
  refine e_region_text rfl ?_
  refine q_field rfl rfl ?_
  refine q_load rfl (Blk.cell (hS.blk 0 rfl) rfl) rfl ?_
  refine q_field rfl rfl ?_
  refine q_load rfl (Blk.cell (hS.blk 1 rfl) rfl) rfl ?_
  refine q_eql rfl rfl rfl ?_
  refine q_move rfl rfl ?_
  obtain ⟨x24, hx23, h⟩ := Option.of_bind h
  refine g_andM 5 hx23 rfl trivial rfl rfl ?_ ?_ ?_
  · intro hg23 hx23
    clear h
    have hT23 := Below.refl (World.heap w18).size w18
    refine g_run rfl ?_; refine q_field rfl rfl ?_
    refine g_run rfl ?_; refine q_load rfl (Blk.cell (hS.blk 0 rfl) rfl) rfl ?_
    refine g_run rfl ?_; refine q_field rfl rfl ?_
    refine g_run rfl ?_; refine q_load rfl (Blk.cell (hS.blk 1 rfl) rfl) rfl ?_
    refine g_run rfl ?_; refine q_geq rfl rfl rfl ?_
    cases hx23
    exact eseq_nil ⟨hT23, Sub.set rfl (Sub.set rfl (Sub.set rfl (Sub.set rfl (Sub.set rfl (Sub.bool true rfl hg23))))), rfl⟩
  · intro hg23
    refine g_skip rfl rfl rfl ?_
    refine g_skip rfl rfl rfl ?_
    refine g_skip rfl rfl rfl ?_
    refine g_skip rfl rfl rfl ?_
    refine g_skip rfl rfl rfl ?_
    exact eseq_nil ⟨rfl, Sub.set rfl (Sub.set rfl (Sub.set rfl (Sub.set rfl (Sub.set rfl (Sub.bool false rfl hg23)))))⟩
  intro wm23 hBm23; clear hx23
  replace hS := hS.below hBm23
  refine q_move rfl rfl ?_
  obtain ⟨x28, hx27, h⟩ := Option.of_bind h
  refine g_andM 5 hx27 rfl trivial rfl rfl ?_ ?_ ?_
  · intro hg27 hx27
    clear h
    have hT27 := Below.refl (World.heap wm23).size wm23
    refine g_run rfl ?_; refine q_field rfl rfl ?_
    refine g_run rfl ?_; refine q_load rfl (Blk.cell (hS.blk 0 rfl) rfl) rfl ?_
    refine g_run rfl ?_; refine q_field rfl rfl ?_
    refine g_run rfl ?_; refine q_load rfl (Blk.cell (hS.blk 1 rfl) rfl) rfl ?_
    refine g_run rfl ?_; refine q_leq rfl rfl rfl ?_
    cases hx27
    exact eseq_nil ⟨hT27, Sub.set rfl (Sub.set rfl (Sub.set rfl (Sub.set rfl (Sub.set rfl (Sub.bool true rfl hg27))))), rfl⟩
  · intro hg27
    refine g_skip rfl rfl rfl ?_
    refine g_skip rfl rfl rfl ?_
    refine g_skip rfl rfl rfl ?_
    refine g_skip rfl rfl rfl ?_
    refine g_skip rfl rfl rfl ?_
    exact eseq_nil ⟨rfl, Sub.set rfl (Sub.set rfl (Sub.set rfl (Sub.set rfl (Sub.set rfl (Sub.bool false rfl hg27)))))⟩
  intro wm27 hBm27; clear hx27
  replace hS := hS.below hBm27
  refine q_assign rfl rfl ?_
  refine eseq_nil ?_
  refine hK20 _ _ ?_
  refine e_ret ?_
  obtain rfl := Option.some.inj h
  exact ⟨_, res1 rfl rfl, _, rfl, (hS.pickB [] 2 rfl rfl)⟩
end Go.Proofs.Ytddohdppmejjoaa
