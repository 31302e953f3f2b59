/- Printed walks: A18r. -/
import Derived.Test.YtlceljfigccllaaAmk
set_option linter.unusedVariables false
set_option linter.unusedSimpArgs false
namespace Go.Mine
open Go.RowKit
def ref18_orphan (fuel : Nat) (a0 : Arc) (a1 : (List Int)) : Option (Bool) :=
  (andM (decide (0 < a0.rcv)) ((ati a1 a0.to).bind fun x32 => some (decide (a0.rcv ≤ x32)))).bind fun x31 => (andM x31 ((ati a1 a0.fr).bind fun x40 => some (decide (x40 < a0.ix)))).bind fun x39 => some x39
def ref18_Orphans_K1 (fuel : Nat) (x211 : (List Int)) : Option ((List Int)) :=
  some x211
def ref18_Orphans_B1 (fuel : Nat) (a0 : Pat) (a1 : (List Int)) (x172 : (List Int)) (x173 : Int) : Option (((List Int) × Int) ⊕ ((List Int))) :=
  (if (decide (x173 < (a0.arcs.length : Int))) = true then (ati a0.arcs x173).bind fun x219 => (ref18_orphan fuel x219 a1).bind fun r223 => (if r223 = true then (snoc x172 x173).bind fun x228 => some (Sum.inl (x228, (w64 (x173 + 1)))) else some (Sum.inl (x172, (w64 (x173 + 1))))) else some (Sum.inr x172))
def ref18_Orphans (fuel : Nat) (a0 : Pat) (a1 : (List Int)) : Option ((List Int)) :=
  (iter (fun s => ref18_Orphans_B1 fuel a0 a1 s.1 s.2) fuel (([] : List Int), 0)).bind (fun t => ref18_Orphans_K1 fuel t)
def ref18_Consistent (fuel : Nat) (a0 : Pat) (a1 : (List Int)) : Option (Bool) :=
  (ref18_Orphans fuel (⟨a0.lens, a0.ckpts, a0.arcs⟩ : Pat) a1).bind fun r17 => some ((r17.length : Int) == 0)
def ref18_Most_K1 (fuel : Nat) : Option (Bool) :=
  some true
def ref18_Most_B1 (fuel : Nat) (a0 : (List Int)) (a1 : (List Int)) (x99 : Int) : Option ((Int) ⊕ (Unit ⊕ (Bool))) :=
  (if (decide (x99 < (a0.length : Int))) = true then (ati a0 x99).bind fun x124 => (ati a1 x99).bind fun x126 => (if (decide (x126 < x124)) = true then some (Sum.inr (Sum.inr false)) else some (Sum.inl (w64 (x99 + 1)))) else some (Sum.inr (Sum.inl ())))
def ref18_Most (fuel : Nat) (a0 : (List Int)) (a1 : (List Int)) : Option (Bool) :=
  (if ((a0.length : Int) != (a1.length : Int)) = true then some false else (iter (fun s => ref18_Most_B1 fuel a0 a1 s) fuel 0).bind (fun t => Sum.elim (fun t => ref18_Most_K1 fuel) (fun t => some t) t))
end Go.Mine
namespace Go.Proofs.Ytlceljfigccllaa
open Go.RowKit Go.Mine
attribute [local irreducible] eseq ewp iter
theorem ref18_orphan_w {F R : Nat → Prop} {w : World} {fuel : Nat} {a0 : Arc} {a1 : (List Int)} {v1 : Value} {r : (Bool)} (hS : Sep F R R w w []) (f1 : IsSlice Ty.int w R v1 a1) (h : ref18_orphan fuel a0 a1 = some r) :
    Gives Try.prog 106 [.agg #[.int .i64 a0.fr, .int .i64 a0.ix, .int .i64 a0.to, .int .i64 a0.rcv], v1] w fun u w1 => ∃ (R1 : Nat → Prop), u = .bool r ∧ Sep F R R1 w w1 [] := by
  refine fn_of Try.func106 rfl Try.ntmps106 (Nat.le_of_ble_eq_true rfl) ?_
  unfold ref18_orphan at h
  refine e_seq fun K22 hK22 => ?_
  refine e_region_text rfl ?_
  refine q_boxB rfl rfl rfl fun w23 bl23 hg23 hb23 hB23 => ?_
  replace f1 := f1.ext hB23
  replace hS := hS.newBlk hB23 hg23 hb23
  refine q_assign rfl rfl ?_
  refine eseq_nil ?_
  refine hK22 _ _ ?_
  refine e_seq fun K25 hK25 => ?_
  refine e_region_draw mixed (fun _ => False) [0, 1, 3, 7, 15, 31, 15, 15, 143, 463, 975, 2047, 4095, 8191, 16383, 32767, 16383, 16383, 147455, 475135, 999423, 2097151, 4194303, 8388607] [] [0, 1, 2, 3, 4, 5, 6, 7, 8, 9, 10, 11, 12, 13, 14, 15, 16, 17, 18, 19, 20, 21, 22, 23] (by kernel_rfl) ?_
  refine q_field rfl rfl ?_
  refine q_load rfl (Blk.cell (hS.blk 0 rfl) rfl) rfl ?_
  refine q_gtr rfl rfl rfl ?_
  refine q_move rfl rfl ?_
  obtain ⟨x31, hx30, h⟩ := Option.of_bind h
  refine g_andM 8 hx30 rfl trivial rfl rfl ?_ ?_ ?_
  · intro hg30 hx30
    clear h
    have hT30 := Below.refl (World.heap w23).size w23
    refine g_run rfl ?_; refine q_field rfl rfl ?_
    refine g_run rfl ?_; refine q_load rfl (Blk.cell (hS.blk 0 rfl) rfl) rfl ?_
    refine g_run rfl ?_; refine q_move rfl rfl ?_
    refine g_run rfl ?_; refine q_field rfl rfl ?_
    refine g_run rfl ?_; refine q_load rfl (Blk.cell (hS.blk 0 rfl) rfl) rfl ?_
    obtain ⟨x32, hx32, hx30⟩ := Option.of_bind hx30
    refine g_run rfl ?_; refine q_atS (by infer_instance) rfl f1 rfl hx32 rfl fun b33 o33 hm33 f33 => ?_
    refine g_run rfl ?_; refine q_load rfl (Elt.intCell f33) rfl ?_
    refine g_run rfl ?_; refine q_leq rfl rfl rfl ?_
    cases hx30
    exact eseq_nil ⟨hT30, Sub.set rfl (Sub.set rfl (Sub.set rfl (Sub.set rfl (Sub.set rfl (Sub.set rfl (Sub.set rfl (Sub.set rfl (Sub.bool true rfl hg30)))))))), rfl⟩
  · intro hg30
    refine g_skip rfl rfl rfl ?_
    refine g_skip rfl rfl rfl ?_
    refine g_skip rfl rfl rfl ?_
    refine g_skip rfl rfl rfl ?_
    refine g_skip rfl rfl rfl ?_
    refine g_skip rfl rfl rfl ?_
    refine g_skip rfl rfl rfl ?_
    refine g_skip rfl rfl rfl ?_
    exact eseq_nil ⟨rfl, Sub.set rfl (Sub.set rfl (Sub.set rfl (Sub.set rfl (Sub.set rfl (Sub.set rfl (Sub.set rfl (Sub.set rfl (Sub.bool false rfl hg30))))))))⟩
  intro wm30 hBm30; clear hx30
  replace hS := hS.below hBm30
  replace f1 := f1.ext hBm30
  refine q_move rfl rfl ?_
  obtain ⟨x39, hx38, h⟩ := Option.of_bind h
  refine g_andM 8 hx38 rfl trivial rfl rfl ?_ ?_ ?_
  · intro hg38 hx38
    clear h
    have hT38 := Below.refl (World.heap wm30).size wm30
    refine g_run rfl ?_; refine q_field rfl rfl ?_
    refine g_run rfl ?_; refine q_load rfl (Blk.cell (hS.blk 0 rfl) rfl) rfl ?_
    refine g_run rfl ?_; refine q_move rfl rfl ?_
    refine g_run rfl ?_; refine q_field rfl rfl ?_
    refine g_run rfl ?_; refine q_load rfl (Blk.cell (hS.blk 0 rfl) rfl) rfl ?_
    obtain ⟨x40, hx40, hx38⟩ := Option.of_bind hx38
    refine g_run rfl ?_; refine q_atS (by infer_instance) rfl f1 rfl hx40 rfl fun b41 o41 hm41 f41 => ?_
    refine g_run rfl ?_; refine q_load rfl (Elt.intCell f41) rfl ?_
    refine g_run rfl ?_; refine q_gtr rfl rfl rfl ?_
    cases hx38
    exact eseq_nil ⟨hT38, Sub.set rfl (Sub.set rfl (Sub.set rfl (Sub.set rfl (Sub.set rfl (Sub.set rfl (Sub.set rfl (Sub.set rfl (Sub.bool true rfl hg38)))))))), rfl⟩
  · intro hg38
    refine g_skip rfl rfl rfl ?_
    refine g_skip rfl rfl rfl ?_
    refine g_skip rfl rfl rfl ?_
    refine g_skip rfl rfl rfl ?_
    refine g_skip rfl rfl rfl ?_
    refine g_skip rfl rfl rfl ?_
    refine g_skip rfl rfl rfl ?_
    refine g_skip rfl rfl rfl ?_
    exact eseq_nil ⟨rfl, Sub.set rfl (Sub.set rfl (Sub.set rfl (Sub.set rfl (Sub.set rfl (Sub.set rfl (Sub.set rfl (Sub.set rfl (Sub.bool false rfl hg38))))))))⟩
  intro wm38 hBm38; clear hx38
  replace hS := hS.below hBm38
  refine q_assign rfl rfl ?_
  refine eseq_nil ?_
  refine hK25 _ _ ?_
  refine e_ret ?_
  obtain rfl := Option.some.inj h
  exact ⟨_, res1 rfl rfl, _, rfl, (hS.pickB [] 1 rfl rfl)⟩
theorem ref18_Orphans_w {F R : Nat → Prop} {w : World} {fuel : Nat} {a0 : Pat} {a1 : (List Int)} {v1 : Value} {v2 : Value} {v3 : Value} {v4 : Value} {r : ((List Int))} (hS : Sep F R R w w []) (f1 : IsSlice Ty.int w R v1 a0.lens) (f2 : IsSlice (Ty.slice Ty.int) w R v2 a0.ckpts) (f3 : IsSlice arcTy w R v3 a0.arcs) (f4 : IsSlice Ty.int w R v4 a1) (h : ref18_Orphans fuel a0 a1 = some r) :
    Gives Try.prog 71 [.agg #[v1, v2, v3], v4] w fun u w1 => ∃ (v117 : Value), ∃ (R1 : Nat → Prop), u = v117 ∧ Sep F R R1 w w1 [HP.own Ty.int (fun _ => False) 3 v117 r] := by
  refine fn_of Try.func71 rfl Try.ntmps71 (Nat.le_of_ble_eq_true rfl) ?_
  unfold ref18_Orphans at h
  refine e_seq fun K118 hK118 => ?_
  refine e_region_text rfl ?_
  refine q_boxB rfl rfl rfl fun w119 bl119 hg119 hb119 hB119 => ?_
  replace f1 := f1.ext hB119
  replace f2 := f2.ext hB119
  replace f3 := f3.ext hB119
  replace f4 := f4.ext hB119
  replace hS := hS.newBlk hB119 hg119 hb119
  refine q_assign rfl rfl ?_
  refine eseq_nil ?_
  refine hK118 _ _ ?_
  refine e_seq fun K121 hK121 => ?_
  refine e_region_text rfl ?_
  refine q_assign rfl rfl ?_
  refine eseq_nil ?_
  refine hK121 _ _ ?_
  refine e_seq fun K122 hK122 => ?_
  refine e_seq fun K123 hK123 => ?_
  refine e_region_text rfl ?_
  refine q_assign rfl rfl ?_
  refine eseq_nil ?_
  refine hK123 _ _ ?_
  refine e_block ?_
  obtain ⟨tl124, ht124, h⟩ := Option.of_bind h
  have hX124_0 : ∀ (x211 : (List Int)) (v210 : Value) (R207 : Nat → Prop) (w208 : World) (E_ : Env), ref18_Orphans_K1 fuel x211 = some r → Sep F R R207 w w208 [HP.own Ty.int (fun _ => False) 3 v210 x211] → Sub [(5, v210)] E_ → K122 E_ w208 := by
    intro x211 v210 R207 w208 E_ h hS  hsub
    refine hK122 _ _ (e_sub hsub ?_); clear hsub
    unfold ref18_Orphans_K1 at h
    refine e_seq fun K212 hK212 => ?_
    refine e_region_text rfl ?_
    refine q_move rfl rfl ?_
    refine q_assign rfl rfl ?_
    refine eseq_nil ?_
    refine hK212 _ _ ?_
    refine e_ret ?_
    obtain rfl := Option.some.inj h
    exact ⟨_, res1 rfl rfl, v210, _, rfl, hS⟩
  replace hS := hS.nilOwn0 Ty.int 3
  refine e_loop (fun m_ E_ w165 => ∃ (x172 : (List Int)), ∃ (x173 : Int), ∃ (v171 : Value), ∃ (R164 : Nat → Prop), iter (fun s => ref18_Orphans_B1 fuel a0 a1 s.1 s.2) m_ (x172, x173) = some tl124 ∧ Sep F R R164 w w165 [HP.blk bl119 [v1, v2, v3] 28, HP.own Ty.int (fun _ => False) 3 v171 x172] ∧ IsSlice Ty.int w165 R164 v4 a1 ∧ IsSlice Ty.int w165 R164 v1 a0.lens ∧ IsSlice (Ty.slice Ty.int) w165 R164 v2 a0.ckpts ∧ IsSlice arcTy w165 R164 v3 a0.arcs ∧ E_ = [(1, v4), (2, .pointer (some ⟨bl119, 0, none⟩)), (5, v171), (6, .int .i64 x173)]) _ ⟨_, ⟨([] : List Int), 0, (.slice none 0 0), _, ht124, (hS.pickB [1, 0] 2 rfl rfl), f4, f1, f2, f3, rfl⟩, Sub.cons rfl (Sub.cons rfl (Sub.cons rfl (Sub.cons rfl (Sub.nil _))))⟩ ?_
  clear ht124 hS
  rintro m124 _ w165 ⟨x172, x173, v171, R164, ht124, hS, f166, f167, f168, f169, rfl⟩
  obtain ⟨m124, rfl, o124, ho124, ht124⟩ := iter_some ht124
  replace ho124 : ref18_Orphans_B1 fuel a0 a1 x172 x173 = some o124 := ho124
  unfold ref18_Orphans_B1 at ho124
  refine e_seq fun K214 hK214 => ?_
  refine e_seq fun K215 hK215 => ?_
  refine e_region_text rfl ?_
  refine q_move rfl rfl ?_
  refine q_field rfl rfl ?_
  refine q_load rfl (Blk.cell (hS.blk 0 rfl) rfl) rfl ?_
  refine q_lenS rfl f169 rfl ?_
  refine q_lss rfl rfl rfl ?_
  refine eseq_nil ?_
  refine hK215 _ _ ?_
  refine e_cond rfl (fun hc216 => ?_) (fun hc216 => ?_)
  · replace ho124 := (if_pos hc216).symm.trans ho124
    refine e_skip ?_
    refine hK214 _ _ ?_
    refine e_seq fun K217 hK217 => ?_
    refine e_block ?_
    refine e_seq fun K218 hK218 => ?_
    refine e_region_text rfl ?_
    refine q_field rfl rfl ?_
    refine q_load rfl (Blk.cell (hS.blk 0 rfl) rfl) rfl ?_
    refine q_move rfl rfl ?_
    obtain ⟨x219, hx219, ho124⟩ := Option.of_bind ho124
    refine q_atS (by infer_instance) rfl f169 rfl hx219 rfl fun b220 o220 hm220 f220 => ?_
    have hc221 := Arc_open f220
    refine q_loadAgg rfl hc221 rfl rfl ?_
    refine q_move rfl rfl ?_
    obtain ⟨r223, hr223, ho124⟩ := Option.of_bind ho124
    refine q_call rfl (ref18_orphan_w (a0 := x219) (Sep.enter (As := []) hS) f166 hr223) rfl ?_
    rintro _ w222 ⟨R222, rfl, hC222⟩
    have hB222 : Below (World.heap w165).size w165 w222 := hC222.stepB0
    refine ⟨fun _ => .of_below hB222, ?_⟩
    replace f166 := (f166.ext hB222).mono fun k hk _ => hC222.ro0 k hk
    replace f167 := (f167.ext hB222).mono fun k hk _ => hC222.ro0 k hk
    replace f168 := (f168.ext hB222).mono fun k hk _ => hC222.ro0 k hk
    replace f169 := (f169.ext hB222).mono fun k hk _ => hC222.ro0 k hk
    replace hS := Sep.leave (As := []) hS hC222; simp only [List.cons_append, List.nil_append] at hS
    refine eseq_nil ?_
    refine hK218 _ _ ?_
    refine e_cond rfl (fun hc224 => ?_) (fun hc224 => ?_)
    · replace ho124 := (if_pos hc224).symm.trans ho124
      refine e_region_text rfl ?_
      refine q_move rfl rfl ?_
      refine q_move rfl rfl ?_
      refine q_litO (T := Ty.int) (S := (fun _ => False)) (cells := [[.int .i64 x173]]) (ys := [x173]) ((Parts.cons rfl rfl Parts.nil)) rfl rfl rfl rfl rfl rfl rfl (fun w1 hB => ⟨rfl, trivial⟩) (fun _ h => h.elim) rfl fun w225 v225 ho225 hv225 hB225 => ?_
      replace f166 := f166.ext hB225
      replace f167 := f167.ext hB225
      replace f168 := f168.ext hB225
      replace f169 := f169.ext hB225
      replace hS := hS.newOwnS hB225 ho225 hv225 (fun _ h => h.elim)
      obtain ⟨x228, hx228, ho124⟩ := Option.of_bind ho124
      refine q_catOwn (T := Ty.int) rfl rfl rfl rfl (hS.own 2 rfl) rfl (hS.own 0 rfl) (fun _ h _ => h.elim) (snoc_cat hx228) (Nat.zero_le _) rfl (fun h => by cases h) fun v227 w227 hw227 hgr227 hnw227 => ?_
      have hk227 := hS.keptOwn 2 rfl hgr227
      replace f166 := f166.kept hk227
      replace f167 := f167.kept hk227
      replace f168 := f168.kept hk227
      replace f169 := f169.kept hk227
      replace hS := hS.setOwn 2 rfl hw227 hgr227 hnw227; simp only [List.set] at hS
      refine q_assign rfl rfl ?_
      refine eseq_nil ?_
      refine hK217 _ _ ?_
      refine e_region_text rfl ?_
      refine q_move rfl rfl ?_
      refine q_addW rfl rfl rfl ?_
      refine q_assign rfl rfl ?_
      refine eseq_nil ?_
      obtain rfl := Option.some.inj ho124
      exact ⟨m124, _, Nat.lt_succ_self _, ⟨x228, (w64 (x173 + 1)), v227, _, ht124, (hS.pickB [1, 2] 3 rfl rfl), f166, f167, f168, f169, rfl⟩, Sub.cons rfl (Sub.cons rfl (Sub.cons rfl (Sub.cons rfl (Sub.nil _))))⟩
    · replace ho124 := (if_neg (not_true hc224)).symm.trans ho124
      refine e_skip ?_
      refine hK217 _ _ ?_
      refine e_region_text rfl ?_
      refine q_move rfl rfl ?_
      refine q_addW rfl rfl rfl ?_
      refine q_assign rfl rfl ?_
      refine eseq_nil ?_
      obtain rfl := Option.some.inj ho124
      exact ⟨m124, _, Nat.lt_succ_self _, ⟨x172, (w64 (x173 + 1)), v171, _, ht124, hS, f166, f167, f168, f169, rfl⟩, Sub.cons rfl (Sub.cons rfl (Sub.cons rfl (Sub.cons rfl (Sub.nil _))))⟩
  · replace ho124 := (if_neg (not_true hc216)).symm.trans ho124
    refine e_exit ?_
    obtain rfl := Option.some.inj ho124
    obtain rfl := Option.some.inj ht124
    exact hX124_0 x172 v171 _ _ _ h (hS.pickB [1] 2 rfl rfl)  (Sub.cons rfl (Sub.nil _))
theorem ref18_Consistent_w {F R : Nat → Prop} {w : World} {fuel : Nat} {a0 : Pat} {a1 : (List Int)} {v1 : Value} {v2 : Value} {v3 : Value} {v4 : Value} {r : (Bool)} (hS : Sep F R R w w []) (f1 : IsSlice Ty.int w R v1 a0.lens) (f2 : IsSlice (Ty.slice Ty.int) w R v2 a0.ckpts) (f3 : IsSlice arcTy w R v3 a0.arcs) (f4 : IsSlice Ty.int w R v4 a1) (h : ref18_Consistent fuel a0 a1 = some r) :
    Gives Try.prog 31 [.agg #[v1, v2, v3], v4] w fun u w1 => ∃ (R1 : Nat → Prop), u = .bool r ∧ Sep F R R1 w w1 [] := by
  refine fn_of Try.func31 rfl Try.ntmps31 (Nat.le_of_ble_eq_true rfl) ?_
  unfold ref18_Consistent at h
  refine e_seq fun K12 hK12 => ?_
  refine e_region_text rfl ?_
  refine q_boxB rfl rfl rfl fun w13 bl13 hg13 hb13 hB13 => ?_
  replace f1 := f1.ext hB13
  replace f2 := f2.ext hB13
  replace f3 := f3.ext hB13
  replace f4 := f4.ext hB13
  replace hS := hS.newBlk hB13 hg13 hb13
  refine q_assign rfl rfl ?_
  refine eseq_nil ?_
  refine hK12 _ _ ?_
  refine e_seq fun K15 hK15 => ?_
  refine e_region_text rfl ?_
  refine q_loadAgg rfl (Blk.cellsAt (hS.blk 0 rfl) 0 3 rfl) rfl rfl ?_
  refine q_move rfl rfl ?_
  obtain ⟨r17, hr17, h⟩ := Option.of_bind h
  refine q_call rfl (ref18_Orphans_w (a0 := (⟨a0.lens, a0.ckpts, a0.arcs⟩ : Pat)) (Sep.enter (As := []) hS) f1 f2 f3 f4 hr17) rfl ?_
  rintro v18 w16 ⟨_, R16, rfl, hC16⟩
  have hB16 : Below (World.heap w13).size w13 w16 := hC16.stepB0
  refine ⟨fun _ => .of_below hB16, ?_⟩
  replace f1 := (f1.ext hB16).mono fun k hk _ => hC16.ro0 k hk
  replace f2 := (f2.ext hB16).mono fun k hk _ => hC16.ro0 k hk
  replace f3 := (f3.ext hB16).mono fun k hk _ => hC16.ro0 k hk
  replace f4 := (f4.ext hB16).mono fun k hk _ => hC16.ro0 k hk
  replace hS := Sep.leave (As := []) hS hC16; simp only [List.cons_append, List.nil_append] at hS
  refine q_lenS rfl (hS.isl 0 rfl) rfl ?_
  refine q_eql rfl rfl rfl ?_
  refine q_assign rfl rfl ?_
  refine eseq_nil ?_
  refine hK15 _ _ ?_
  refine e_ret ?_
  obtain rfl := Option.some.inj h
  exact ⟨_, res1 rfl rfl, _, rfl, (hS.pickB [] 2 rfl rfl)⟩
theorem ref18_Most_w {F R : Nat → Prop} {w : World} {fuel : Nat} {a0 : (List Int)} {a1 : (List Int)} {v1 : Value} {v2 : Value} {r : (Bool)} (hS : Sep F R R w w []) (f1 : IsSlice Ty.int w R v1 a0) (f2 : IsSlice Ty.int w R v2 a1) (h : ref18_Most fuel a0 a1 = some r) :
    Gives Try.prog 33 [v1, v2] w fun u w1 => ∃ (R1 : Nat → Prop), u = .bool r ∧ Sep F R R1 w w1 [] := by
  refine fn_of Try.func33 rfl Try.ntmps33 (Nat.le_of_ble_eq_true rfl) ?_
  unfold ref18_Most at h
  refine e_seq fun K67 hK67 => ?_
  refine e_region_text rfl ?_
  refine q_assign rfl rfl ?_
  refine eseq_nil ?_
  refine hK67 _ _ ?_
  refine e_seq fun K68 hK68 => ?_
  refine e_seq fun K69 hK69 => ?_
  refine e_region_text rfl ?_
  refine q_move rfl rfl ?_
  refine q_lenS rfl f1 rfl ?_
  refine q_move rfl rfl ?_
  refine q_lenS rfl f2 rfl ?_
  refine q_neq rfl rfl rfl ?_
  refine eseq_nil ?_
  refine hK69 _ _ ?_
  refine e_cond rfl (fun hc70 => ?_) (fun hc70 => ?_)
  · replace h := (if_pos hc70).symm.trans h
    refine e_seq fun K71 hK71 => ?_
    refine e_region_text rfl ?_
    refine q_assign rfl rfl ?_
    refine eseq_nil ?_
    refine hK71 _ _ ?_
    refine e_ret ?_
    obtain rfl := Option.some.inj h
    exact ⟨_, res1 rfl rfl, _, rfl, hS⟩
  · replace h := (if_neg (not_true hc70)).symm.trans h
    refine e_skip ?_
    refine hK68 _ _ ?_
    refine e_seq fun K72 hK72 => ?_
    refine e_seq fun K73 hK73 => ?_
    refine e_region_text rfl ?_
    refine q_assign rfl rfl ?_
    refine eseq_nil ?_
    refine hK73 _ _ ?_
    refine e_block ?_
    obtain ⟨tl74, ht74, h⟩ := Option.of_bind h
    have hX74_0 : ∀ (R116 : Nat → Prop) (w117 : World) (E_ : Env), ref18_Most_K1 fuel = some r → Sep F R R116 w w117 [] → Sub [] E_ → K72 E_ w117 := by
      intro R116 w117 E_ h hS  hsub
      refine hK72 _ _ (e_sub hsub ?_); clear hsub
      unfold ref18_Most_K1 at h
      refine e_seq fun K118 hK118 => ?_
      refine e_region_text rfl ?_
      refine q_assign rfl rfl ?_
      refine eseq_nil ?_
      refine hK118 _ _ ?_
      refine e_ret ?_
      obtain rfl := Option.some.inj h
      exact ⟨_, res1 rfl rfl, _, rfl, hS⟩
    refine e_loop (fun m_ E_ w96 => ∃ (x99 : Int), ∃ (R95 : Nat → Prop), iter (fun s => ref18_Most_B1 fuel a0 a1 s) m_ x99 = some tl74 ∧ Sep F R R95 w w96 [] ∧ IsSlice Ty.int w96 R95 v1 a0 ∧ IsSlice Ty.int w96 R95 v2 a1 ∧ E_ = [(0, v1), (1, v2), (5, .int .i64 x99)]) _ ⟨_, ⟨0, _, ht74, hS, f1, f2, rfl⟩, Sub.cons rfl (Sub.cons rfl (Sub.cons rfl (Sub.nil _)))⟩ ?_
    clear ht74 hS
    rintro m74 _ w96 ⟨x99, R95, ht74, hS, f97, f98, rfl⟩
    obtain ⟨m74, rfl, o74, ho74, ht74⟩ := iter_some ht74
    replace ho74 : ref18_Most_B1 fuel a0 a1 x99 = some o74 := ho74
    unfold ref18_Most_B1 at ho74
    refine e_seq fun K119 hK119 => ?_
    refine e_seq fun K120 hK120 => ?_
    refine e_region_text rfl ?_
    refine q_move rfl rfl ?_
    refine q_move rfl rfl ?_
    refine q_lenS rfl f97 rfl ?_
    refine q_lss rfl rfl rfl ?_
    refine eseq_nil ?_
    refine hK120 _ _ ?_
    refine e_cond rfl (fun hc121 => ?_) (fun hc121 => ?_)
    · replace ho74 := (if_pos hc121).symm.trans ho74
      refine e_skip ?_
      refine hK119 _ _ ?_
      refine e_seq fun K122 hK122 => ?_
      refine e_block ?_
      refine e_seq fun K123 hK123 => ?_
      refine e_region_draw mixed (fun _ => False) [0, 0, 3, 7, 0, 0, 48, 112, 255] [] [0, 1, 2, 3, 4, 5, 6, 7, 8] (by kernel_rfl) ?_
      refine q_move rfl rfl ?_
      refine q_move rfl rfl ?_
      obtain ⟨x124, hx124, ho74⟩ := Option.of_bind ho74
      refine q_atS (by infer_instance) rfl f97 rfl hx124 rfl fun b125 o125 hm125 f125 => ?_
      refine q_load rfl (Elt.intCell f125) rfl ?_
      refine q_move rfl rfl ?_
      refine q_move rfl rfl ?_
      obtain ⟨x126, hx126, ho74⟩ := Option.of_bind ho74
      refine q_atS (by infer_instance) rfl f98 rfl hx126 rfl fun b127 o127 hm127 f127 => ?_
      refine q_load rfl (Elt.intCell f127) rfl ?_
      refine q_gtr rfl rfl rfl ?_
      refine eseq_nil ?_
      refine hK123 _ _ ?_
      refine e_cond rfl (fun hc128 => ?_) (fun hc128 => ?_)
      · replace ho74 := (if_pos hc128).symm.trans ho74
        refine e_seq fun K129 hK129 => ?_
        refine e_region_text rfl ?_
        refine q_assign rfl rfl ?_
        refine eseq_nil ?_
        refine hK129 _ _ ?_
        refine e_ret ?_
        obtain rfl := Option.some.inj ho74
        obtain rfl := Option.some.inj ht74
        obtain rfl := Option.some.inj h
        exact ⟨_, res1 rfl rfl, _, rfl, hS⟩
      · replace ho74 := (if_neg (not_true hc128)).symm.trans ho74
        refine e_skip ?_
        refine hK122 _ _ ?_
        refine e_region_text rfl ?_
        refine q_move rfl rfl ?_
        refine q_addW rfl rfl rfl ?_
        refine q_assign rfl rfl ?_
        refine eseq_nil ?_
        obtain rfl := Option.some.inj ho74
        exact ⟨m74, _, Nat.lt_succ_self _, ⟨(w64 (x99 + 1)), _, ht74, hS, f97, f98, rfl⟩, Sub.cons rfl (Sub.cons rfl (Sub.cons rfl (Sub.nil _)))⟩
    · replace ho74 := (if_neg (not_true hc121)).symm.trans ho74
      refine e_exit ?_
      obtain rfl := Option.some.inj ho74
      obtain rfl := Option.some.inj ht74
      exact hX74_0  _ _ _ h hS  (Sub.nil _)
end Go.Proofs.Ytlceljfigccllaa
