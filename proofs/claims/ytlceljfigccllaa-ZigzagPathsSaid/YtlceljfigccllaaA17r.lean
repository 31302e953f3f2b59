/- Printed walks: A17r. -/
import Derived.Test.YtlceljfigccllaaA20x
import Derived.Test.YtlceljfigccllaaA16r
set_option linter.unusedVariables false
set_option linter.unusedSimpArgs false
namespace Go.Mine
open Go.RowKit
def ref16_Can (fuel : Nat) (a0 : Pat) (a1 : (List Int)) (a2 : Int) : Option (Bool) :=
  (ati a1 a2).bind fun x47 => (ati a0.lens a2).bind fun x49 => (if (decide (x49 ≤ x47)) = true then some false else (ati a1 a2).bind fun x54 => (ref16_Received fuel (⟨a0.lens, a0.ckpts, a0.arcs⟩ : Pat) a2 (w64 (x54 + 1))).bind fun r57 => (orM (decide (r57 < 0)) ((ati a0.arcs r57).bind fun x72 => (ati a0.arcs r57).bind fun x75 => (ati a1 x75.fr).bind fun x78 => some (decide (x72.ix ≤ x78)))).bind fun x71 => some x71)
def ref17_top_K1 (fuel : Nat) (x136 : (List Int)) : Option ((List Int)) :=
  some x136
def ref17_top_B1 (fuel : Nat) (a1 : (List Int)) (x112 : (List Int)) (x113 : Int) : Option (((List Int) × Int) ⊕ ((List Int))) :=
  (if (decide (x113 < (x112.length : Int))) = true then (ati x112 x113).bind fun x142 => (ati a1 x113).bind fun x144 => (ati x112 x113).bind fun x146 => (seti x112 x113 (max x142 x144)).bind fun x148 => some (Sum.inl (x148, (w64 (x113 + 1)))) else some (Sum.inr x112))
def ref17_top (fuel : Nat) (a0 : (List Int)) (a1 : (List Int)) : Option ((List Int)) :=
  (catL ([] : List Int) a0).bind fun x81 => (iter (fun s => ref17_top_B1 fuel a1 s.1 s.2) fuel (x81, 0)).bind (fun t => ref17_top_K1 fuel t)
def ref17_Order_K1 (fuel : Nat) (x447 : (List Int)) (x444 : (List Pt)) (x614 : Int) : Option (((List Pt) × (List Int)) ⊕ ((List Pt))) :=
  (if (x614 == (x447.length : Int)) = true then some (Sum.inr x444) else (ati x447 x614).bind fun x620 => (ati x447 x614).bind fun x622 => (seti x447 x614 (w64 (x620 + 1))).bind fun x624 => (ati x624 x614).bind fun x625 => (snoc x444 (⟨x614, x625⟩ : Pt)).bind fun x630 => some (Sum.inl (x630, x624)))
def ref17_Order_B2 (fuel : Nat) (x447 : (List Int)) (a0 : Pat) (x587 : Int) : Option ((Int) ⊕ (Int)) :=
  (andM (decide (x587 < (x447.length : Int))) ((ref16_Can fuel (⟨a0.lens, a0.ckpts, a0.arcs⟩ : Pat) x447 x587).bind fun r640 => some (!r640))).bind fun x638 => (if x638 = true then some (Sum.inl (w64 (x587 + 1))) else some (Sum.inr x587))
def ref17_Order_B1 (fuel : Nat) (a0 : Pat) (x444 : (List Pt)) (x447 : (List Int)) : Option (((List Pt) × (List Int)) ⊕ ((List Pt))) :=
  (iter (fun s => ref17_Order_B2 fuel x447 a0 s) fuel 0).bind (fun t => ref17_Order_K1 fuel x447 x444 t)
def ref17_Order (fuel : Nat) (a0 : Pat) : Option ((List Pt)) :=
  (mkL (a0.lens.length : Int) (0 : Int)).bind fun x329 => (iter (fun s => ref17_Order_B1 fuel a0 s.1 s.2) fuel (([] : List Pt), x329)).bind (fun t => some t)
def ref17_Clocks_K2 (fuel : Nat) (x734 : (List (List (List Int)))) : Option ((List (List (List Int)))) :=
  some x734
def ref17_Clocks_J1 (fuel : Nat) (x743 : Pt) (x746 : Pt) (x631 : (List (List (List Int)))) (x635 : Int) (x786 : (List Int)) : Option (((List (List (List Int))) × Int) ⊕ ((List (List (List Int))))) :=
  (ati x786 x743.proc).bind fun x788 => (seti x786 x743.proc x746.index).bind fun x790 => (ati x631 x743.proc).bind fun x791 => (catL x791 ([x790])).bind fun x798 => (seti x631 x743.proc x798).bind fun x799 => (ati x799 x743.proc).bind fun x800 => some (Sum.inl (x799, (w64 (x635 + 1))))
def ref17_Clocks_B1 (fuel : Nat) (r517 : ((List Pt))) (a0 : Pat) (x631 : (List (List (List Int)))) (x635 : Int) : Option (((List (List (List Int))) × Int) ⊕ ((List (List (List Int))))) :=
  (if (decide (x635 < (r517.length : Int))) = true then (ati r517 x635).bind fun x743 => (ati r517 x635).bind fun x746 => (ati x631 x743.proc).bind fun x750 => (ati x750 (w64 (x746.index - 1))).bind fun x751 => (catL ([] : List Int) x751).bind fun x756 => (ref16_Received fuel (⟨a0.lens, a0.ckpts, a0.arcs⟩ : Pat) x743.proc x746.index).bind fun r804 => (if (decide (0 ≤ r804)) = true then (ati a0.arcs r804).bind fun x807 => (ati x631 x807.fr).bind fun x810 => (ati a0.arcs r804).bind fun x811 => (ati x810 x811.ix).bind fun x814 => (ref17_top fuel x756 x814).bind fun r818 => ref17_Clocks_J1 fuel x743 x746 x631 x635 r818 else ref17_Clocks_J1 fuel x743 x746 x631 x635 x756) else some (Sum.inr x631))
def ref17_Clocks_K1 (fuel : Nat) (a0 : Pat) (x512 : (List (List (List Int)))) : Option ((List (List (List Int)))) :=
  (ref17_Order fuel (⟨a0.lens, a0.ckpts, a0.arcs⟩ : Pat)).bind fun r517 => (iter (fun s => ref17_Clocks_B1 fuel r517 a0 s.1 s.2) fuel (x512, 0)).bind (fun t => ref17_Clocks_K2 fuel t)
def ref17_Clocks_B2 (fuel : Nat) (a0 : Pat) (x473 : (List (List (List Int)))) (x476 : Int) : Option (((List (List (List Int))) × Int) ⊕ ((List (List (List Int))))) :=
  (if (decide (x476 < (a0.lens.length : Int))) = true then (mkL (a0.lens.length : Int) (0 : Int)).bind fun x826 => (snoc x473 ([x826])).bind fun x838 => some (Sum.inl (x838, (w64 (x476 + 1)))) else some (Sum.inr x473))
def ref17_Clocks (fuel : Nat) (a0 : Pat) : Option ((List (List (List Int)))) :=
  (iter (fun s => ref17_Clocks_B2 fuel a0 s.1 s.2) fuel (([] : List (List (List Int))), 0)).bind (fun t => ref17_Clocks_K1 fuel a0 t)
def ref17_Clock (fuel : Nat) (a0 : Pat) (a1 : Int) (a2 : Int) : Option ((List Int)) :=
  (ref17_Clocks fuel (⟨a0.lens, a0.ckpts, a0.arcs⟩ : Pat)).bind fun r22 => (ati r22 a1).bind fun x25 => (ati x25 a2).bind fun x26 => some x26
def ref19_Intervals_K1 (fuel : Nat) (x166 : (List Int)) : Option ((List Int)) :=
  some x166
def ref19_Intervals_B1 (fuel : Nat) (a1 : (List Int)) (a0 : Pat) (x138 : (List Int)) (x139 : Int) : Option (((List Int) × Int) ⊕ ((List Int))) :=
  (if (decide (x139 < (a1.length : Int))) = true then (ati a1 x139).bind fun x173 => (ref16_Interval fuel (⟨a0.lens, a0.ckpts, a0.arcs⟩ : Pat) x139 x173).bind fun r176 => (snoc x138 r176).bind fun x180 => some (Sum.inl (x180, (w64 (x139 + 1)))) else some (Sum.inr x138))
def ref19_Intervals (fuel : Nat) (a0 : Pat) (a1 : (List Int)) : Option ((List Int)) :=
  (iter (fun s => ref19_Intervals_B1 fuel a1 a0 s.1 s.2) fuel (([] : List Int), 0)).bind (fun t => ref19_Intervals_K1 fuel t)
def ref19_Vector (fuel : Nat) (a0 : Pat) (a1 : Int) (a2 : Int) : Option ((List Int)) :=
  (ref17_Clock fuel (⟨a0.lens, a0.ckpts, a0.arcs⟩ : Pat) a1 a2).bind fun r32 => (ref19_Intervals fuel (⟨a0.lens, a0.ckpts, a0.arcs⟩ : Pat) r32).bind fun r35 => some r35
def ref19_Ckpt (fuel : Nat) (a0 : Pat) (a1 : Int) (a2 : Int) : Option ((List Int)) :=
  (ref19_Index fuel (⟨a0.lens, a0.ckpts, a0.arcs⟩ : Pat) a1 a2).bind fun r29 => (ref19_Vector fuel (⟨a0.lens, a0.ckpts, a0.arcs⟩ : Pat) a1 r29).bind fun r31 => some r31
def ref19_Depends (fuel : Nat) (a0 : Pat) (a1 : Pt) (a2 : Pt) : Option (Bool) :=
  (ref19_Ckpt fuel (⟨a0.lens, a0.ckpts, a0.arcs⟩ : Pat) a1.proc a1.index).bind fun r36 => (ati r36 a2.proc).bind fun x38 => some (decide (a2.index < x38))
end Go.Mine
namespace Go.Proofs.Ytlceljfigccllaa
open Go.RowKit Go.Mine
attribute [local irreducible] eseq ewp iter
theorem ref16_Can_w {F R : Nat → Prop} {w : World} {fuel : Nat} {a0 : Pat} {a1 : (List Int)} {a2 : Int} {v1 : Value} {v2 : Value} {v3 : Value} {v4 : Value} {r : (Bool)} (hS : Sep F R R w w []) (f1 : IsSlice Ty.int w R v1 a0.lens) (f2 : IsSlice (Ty.slice Ty.int) w R v2 a0.ckpts) (f3 : IsSlice arcTy w R v3 a0.arcs) (f4 : IsSlice Ty.int w R v4 a1) (h : ref16_Can fuel a0 a1 a2 = some r) :
    Gives Try.prog 149 [.agg #[v1, v2, v3], v4, .int .i64 a2] w fun u w1 => ∃ (R1 : Nat → Prop), u = .bool r ∧ Sep F R R1 w w1 [] := by
  refine fn_of Try.func149 rfl Try.ntmps149 (Nat.le_of_ble_eq_true rfl) ?_
  unfold ref16_Can at h
  refine e_seq fun K42 hK42 => ?_
  refine e_region_text rfl ?_
  refine q_boxB rfl rfl rfl fun w43 bl43 hg43 hb43 hB43 => ?_
  replace f1 := f1.ext hB43
  replace f2 := f2.ext hB43
  replace f3 := f3.ext hB43
  replace f4 := f4.ext hB43
  replace hS := hS.newBlk hB43 hg43 hb43
  refine q_assign rfl rfl ?_
  refine eseq_nil ?_
  refine hK42 _ _ ?_
  refine e_seq fun K45 hK45 => ?_
  refine e_seq fun K46 hK46 => ?_
  refine e_region_draw mixed (fun _ => False) [0, 0, 3, 7, 0, 16, 0, 112, 240, 511] [] [0, 1, 2, 3, 4, 5, 6, 7, 8, 9] (by kernel_rfl) ?_
  refine q_move rfl rfl ?_
  refine q_move rfl rfl ?_
  obtain ⟨x47, hx47, h⟩ := Option.of_bind h
  refine q_atS (by infer_instance) rfl f4 rfl hx47 rfl fun b48 o48 hm48 f48 => ?_
  refine q_load rfl (Elt.intCell f48) rfl ?_
  refine q_field rfl rfl ?_
  refine q_load rfl (Blk.cell (hS.blk 0 rfl) rfl) rfl ?_
  refine q_move rfl rfl ?_
  obtain ⟨x49, hx49, h⟩ := Option.of_bind h
  refine q_atS (by infer_instance) rfl f1 rfl hx49 rfl fun b50 o50 hm50 f50 => ?_
  refine q_load rfl (Elt.intCell f50) rfl ?_
  refine q_geq rfl rfl rfl ?_
  refine eseq_nil ?_
  refine hK46 _ _ ?_
  refine e_cond rfl (fun hc51 => ?_) (fun hc51 => ?_)
  · replace h := (if_pos hc51).symm.trans h
    refine e_seq fun K52 hK52 => ?_
    refine e_region_text rfl ?_
    refine q_assign rfl rfl ?_
    refine eseq_nil ?_
    refine hK52 _ _ ?_
    refine e_ret ?_
    obtain rfl := Option.some.inj h
    exact ⟨_, res1 rfl rfl, _, rfl, (hS.pickB [] 1 rfl rfl)⟩
  · replace h := (if_neg (not_true hc51)).symm.trans h
    refine e_skip ?_
    refine hK45 _ _ ?_
    refine e_seq fun K53 hK53 => ?_
    refine e_region_draw mixed (fun _ => False) [0, 0, 0, 0, 12, 28, 60, 127, 255] [] [0, 1, 2, 3, 4, 5, 6, 7, 8] (by kernel_rfl) ?_
    refine q_loadAgg rfl (Blk.cellsAt (hS.blk 0 rfl) 0 3 rfl) rfl rfl ?_
    refine q_move rfl rfl ?_
    refine q_move rfl rfl ?_
    refine q_move rfl rfl ?_
    obtain ⟨x54, hx54, h⟩ := Option.of_bind h
    refine q_atS (by infer_instance) rfl f4 rfl hx54 rfl fun b55 o55 hm55 f55 => ?_
    refine q_load rfl (Elt.intCell f55) rfl ?_
    refine q_addW rfl rfl rfl ?_
    obtain ⟨r57, hr57, h⟩ := Option.of_bind h
    refine q_call rfl (ref16_Received_w (a0 := (⟨a0.lens, a0.ckpts, a0.arcs⟩ : Pat)) (Sep.enter (As := []) hS) f1 f2 f3 hr57) rfl ?_
    rintro _ w56 ⟨R56, rfl, hC56⟩
    have hB56 : Below (World.heap w43).size w43 w56 := hC56.stepB0
    refine ⟨fun _ => .of_below hB56, ?_⟩
    replace f4 := (f4.ext hB56).mono fun k hk _ => hC56.ro0 k hk
    replace f1 := (f1.ext hB56).mono fun k hk _ => hC56.ro0 k hk
    replace f2 := (f2.ext hB56).mono fun k hk _ => hC56.ro0 k hk
    replace f3 := (f3.ext hB56).mono fun k hk _ => hC56.ro0 k hk
    replace hS := Sep.leave (As := []) hS hC56; simp only [List.cons_append, List.nil_append] at hS
    refine q_assign rfl rfl ?_
    refine eseq_nil ?_
    refine hK53 _ _ ?_
    refine e_seq fun K58 hK58 => ?_
    refine e_region_draw mixed (fun _ => False) [0, 1, 3, 7, 15, 7, 63, 127, 255, 7, 7, 1031, 7, 7175, 15367, 31751, 65031, 130567, 262143, 524287, 1048575] [] [0, 1, 2, 3, 4, 5, 6, 7, 8, 9, 10, 11, 12, 13, 14, 15, 16, 17, 18, 19, 20] (by kernel_rfl) ?_
    refine q_move rfl rfl ?_
    refine q_lss rfl rfl rfl ?_
    refine q_move rfl rfl ?_
    obtain ⟨x71, hx70, h⟩ := Option.of_bind h
    refine g_orM 16 hx70 rfl trivial rfl rfl ?_ ?_ ?_
    · intro hg70
      refine g_skip rfl rfl rfl ?_
      refine g_skip rfl rfl rfl ?_
      refine g_skip rfl rfl rfl ?_
      refine g_skip rfl rfl rfl ?_
      refine g_skip rfl rfl rfl ?_
      refine g_skip rfl rfl rfl ?_
      refine g_skip rfl rfl rfl ?_
      refine g_skip rfl rfl rfl ?_
      refine g_skip rfl rfl rfl ?_
      refine g_skip rfl rfl rfl ?_
      refine g_skip rfl rfl rfl ?_
      refine g_skip rfl rfl rfl ?_
      refine g_skip rfl rfl rfl ?_
      refine g_skip rfl rfl rfl ?_
      refine g_skip rfl rfl rfl ?_
      refine g_skip rfl rfl rfl ?_
      exact eseq_nil ⟨rfl, Sub.set rfl (Sub.set rfl (Sub.set rfl (Sub.set rfl (Sub.set rfl (Sub.set rfl (Sub.set rfl (Sub.set rfl (Sub.set rfl (Sub.set rfl (Sub.set rfl (Sub.set rfl (Sub.set rfl (Sub.set rfl (Sub.set rfl (Sub.set rfl (Sub.bool true rfl hg70))))))))))))))))⟩
    · intro hg70 hx70
      clear h
      have hT70 := Below.refl (World.heap w56).size w56
      refine g_run rfl ?_; refine q_field rfl rfl ?_
      refine g_run rfl ?_; refine q_load rfl (Blk.cell (hS.blk 0 rfl) rfl) rfl ?_
      refine g_run rfl ?_; refine q_move rfl rfl ?_
      obtain ⟨x72, hx72, hx70⟩ := Option.of_bind hx70
      refine g_run rfl ?_; refine q_atS (by infer_instance) rfl f3 rfl hx72 rfl fun b73 o73 hm73 f73 => ?_
      refine g_run rfl ?_; refine q_field rfl rfl ?_
      have f74 := Arc_F1 f73
      refine g_run rfl ?_; refine q_load rfl (Elt.intCell f74) rfl ?_
      refine g_run rfl ?_; refine q_move rfl rfl ?_
      refine g_run rfl ?_; refine q_field rfl rfl ?_
      refine g_run rfl ?_; refine q_load rfl (Blk.cell (hS.blk 0 rfl) rfl) rfl ?_
      refine g_run rfl ?_; refine q_move rfl rfl ?_
      obtain ⟨x75, hx75, hx70⟩ := Option.of_bind hx70
      refine g_run rfl ?_; refine q_atS (by infer_instance) rfl f3 rfl hx75 rfl fun b76 o76 hm76 f76 => ?_
      refine g_run rfl ?_; refine q_field rfl rfl ?_
      have f77 := Arc_F0 f76
      refine g_run rfl ?_; refine q_load rfl (Elt.intCell f77) rfl ?_
      obtain ⟨x78, hx78, hx70⟩ := Option.of_bind hx70
      refine g_run rfl ?_; refine q_atS (by infer_instance) rfl f4 rfl hx78 rfl fun b79 o79 hm79 f79 => ?_
      refine g_run rfl ?_; refine q_load rfl (Elt.intCell f79) rfl ?_
      refine g_run rfl ?_; refine q_leq rfl rfl rfl ?_
      cases hx70
      exact eseq_nil ⟨hT70, Sub.set rfl (Sub.set rfl (Sub.set rfl (Sub.set rfl (Sub.set rfl (Sub.set rfl (Sub.set rfl (Sub.set rfl (Sub.set rfl (Sub.set rfl (Sub.set rfl (Sub.set rfl (Sub.set rfl (Sub.set rfl (Sub.set rfl (Sub.set rfl (Sub.bool false rfl hg70)))))))))))))))), rfl⟩
    intro wm70 hBm70; clear hx70
    replace hS := hS.below hBm70
    refine q_assign rfl rfl ?_
    refine eseq_nil ?_
    refine hK58 _ _ ?_
    refine e_ret ?_
    obtain rfl := Option.some.inj h
    exact ⟨_, res1 rfl rfl, _, rfl, (hS.pickB [] 1 rfl rfl)⟩
theorem ref17_top_w {F R : Nat → Prop} {w : World} {fuel : Nat} {a0 : (List Int)} {a1 : (List Int)} {v1 : Value} {v2 : Value} {r : ((List Int))} (hS : Sep F R R w w []) (f1 : IsSlice Ty.int w R v1 a0) (f2 : IsSlice Ty.int w R v2 a1) (h : ref17_top fuel a0 a1 = some r) :
    Gives Try.prog 175 [v1, v2] w fun u w1 => ∃ (v76 : Value), ∃ (R1 : Nat → Prop), u = v76 ∧ Sep F R R1 w w1 [HP.own Ty.int (fun _ => False) 3 v76 r] := by
  refine fn_of Try.func175 rfl Try.ntmps175 (Nat.le_of_ble_eq_true rfl) ?_
  unfold ref17_top at h
  refine e_seq fun K77 hK77 => ?_
  refine e_region_text rfl ?_
  refine q_assign rfl rfl ?_
  refine eseq_nil ?_
  refine hK77 _ _ ?_
  refine e_seq fun K78 hK78 => ?_
  refine e_region_text rfl ?_
  refine q_move rfl rfl ?_
  replace hS := hS.nilOwn0 Ty.int 3
  obtain ⟨x81, hx81, h⟩ := Option.of_bind h
  refine q_catE (T := Ty.int) rfl rfl rfl rfl (hS.own 0 rfl) rfl f1 hx81 (Nat.zero_le _) rfl (fun h => by cases h) fun v80 w80 hw80 hgr80 hnw80 => ?_
  have hk80 := hS.keptOwn 0 rfl hgr80
  replace f2 := f2.kept hk80
  replace f1 := f1.kept hk80
  replace hS := hS.setOwn 0 rfl hw80 hgr80 hnw80; simp only [List.set] at hS
  refine q_assign rfl rfl ?_
  refine eseq_nil ?_
  refine hK78 _ _ ?_
  refine e_seq fun K82 hK82 => ?_
  refine e_seq fun K83 hK83 => ?_
  refine e_region_text rfl ?_
  refine q_assign rfl rfl ?_
  refine eseq_nil ?_
  refine hK83 _ _ ?_
  refine e_block ?_
  obtain ⟨tl84, ht84, h⟩ := Option.of_bind h
  have hX84_0 : ∀ (x136 : (List Int)) (v135 : Value) (R132 : Nat → Prop) (w133 : World) (E_ : Env), ref17_top_K1 fuel x136 = some r → Sep F R R132 w w133 [HP.own Ty.int (fun _ => False) 3 v135 x136] → Sub [(5, v135)] E_ → K82 E_ w133 := by
    intro x136 v135 R132 w133 E_ h hS  hsub
    refine hK82 _ _ (e_sub hsub ?_); clear hsub
    unfold ref17_top_K1 at h
    refine e_seq fun K137 hK137 => ?_
    refine e_region_text rfl ?_
    refine q_move rfl rfl ?_
    refine q_assign rfl rfl ?_
    refine eseq_nil ?_
    refine hK137 _ _ ?_
    refine e_ret ?_
    obtain rfl := Option.some.inj h
    exact ⟨_, res1 rfl rfl, v135, _, rfl, hS⟩
  refine e_loop (fun m_ E_ w108 => ∃ (x112 : (List Int)), ∃ (x113 : Int), ∃ (v111 : Value), ∃ (R107 : Nat → Prop), iter (fun s => ref17_top_B1 fuel a1 s.1 s.2) m_ (x112, x113) = some tl84 ∧ Sep F R R107 w w108 [HP.own Ty.int (fun _ => False) 3 v111 x112] ∧ IsSlice Ty.int w108 R107 v2 a1 ∧ E_ = [(1, v2), (5, v111), (6, .int .i64 x113)]) _ ⟨_, ⟨x81, 0, v80, _, ht84, hS, f2, rfl⟩, Sub.cons rfl (Sub.cons rfl (Sub.cons rfl (Sub.nil _)))⟩ ?_
  clear ht84 hS
  rintro m84 _ w108 ⟨x112, x113, v111, R107, ht84, hS, f109, rfl⟩
  obtain ⟨m84, rfl, o84, ho84, ht84⟩ := iter_some ht84
  replace ho84 : ref17_top_B1 fuel a1 x112 x113 = some o84 := ho84
  unfold ref17_top_B1 at ho84
  refine e_seq fun K138 hK138 => ?_
  refine e_seq fun K139 hK139 => ?_
  refine e_region_text rfl ?_
  refine q_move rfl rfl ?_
  refine q_move rfl rfl ?_
  refine q_lenS rfl (hS.isl 0 rfl) rfl ?_
  refine q_lss rfl rfl rfl ?_
  refine eseq_nil ?_
  refine hK139 _ _ ?_
  refine e_cond rfl (fun hc140 => ?_) (fun hc140 => ?_)
  · replace ho84 := (if_pos hc140).symm.trans ho84
    refine e_skip ?_
    refine hK138 _ _ ?_
    refine e_seq fun K141 hK141 => ?_
    refine e_block ?_
    refine e_region_draw mixed (fun _ => False) [0, 0, 0, 0, 12, 28, 0, 0, 192, 448, 1020, 2047, 4095] [] [0, 1, 2, 3, 4, 5, 6, 7, 8, 9, 10, 11, 12] (by kernel_rfl) ?_
    refine q_move rfl rfl ?_
    refine q_move rfl rfl ?_
    refine q_move rfl rfl ?_
    refine q_move rfl rfl ?_
    obtain ⟨x142, hx142, ho84⟩ := Option.of_bind ho84
    refine q_indexO (by infer_instance) rfl (hS.own 0 rfl) rfl hx142 rfl ?_
    have f143 := (hS.ownR 0 rfl).elt hx142
    refine q_load rfl (Elt.intCell f143) rfl ?_
    refine q_move rfl rfl ?_
    refine q_move rfl rfl ?_
    obtain ⟨x144, hx144, ho84⟩ := Option.of_bind ho84
    refine q_atS (by infer_instance) rfl f109 rfl hx144 rfl fun b145 o145 hm145 f145 => ?_
    refine q_load rfl (Elt.intCell f145) rfl ?_
    refine q_max rfl rfl rfl ?_
    obtain ⟨x146, hx146, ho84⟩ := Option.of_bind ho84
    refine q_indexO (by infer_instance) rfl (hS.own 0 rfl) rfl hx146 rfl ?_
    obtain ⟨x148, hx148, ho84⟩ := Option.of_bind ho84
    refine q_storeO (T := Ty.int) (j := 0) rfl rfl (hS.own 0 rfl) hx146 hx148 rfl rfl rfl (Enc.setL rfl) fun w147 ho147 hO147 => ?_
    have hk147 := hS.keptO 0 rfl hx146 hO147
    replace f109 := f109.kept hk147
    replace hS := hS.putO 0 rfl hx146 ho147 hO147; simp only [List.set] at hS
    refine eseq_nil ?_
    refine hK141 _ _ ?_
    refine e_region_text rfl ?_
    refine q_move rfl rfl ?_
    refine q_addW rfl rfl rfl ?_
    refine q_assign rfl rfl ?_
    refine eseq_nil ?_
    obtain rfl := Option.some.inj ho84
    exact ⟨m84, _, Nat.lt_succ_self _, ⟨x148, (w64 (x113 + 1)), v111, _, ht84, hS, f109, rfl⟩, Sub.cons rfl (Sub.cons rfl (Sub.cons rfl (Sub.nil _)))⟩
  · replace ho84 := (if_neg (not_true hc140)).symm.trans ho84
    refine e_exit ?_
    obtain rfl := Option.some.inj ho84
    obtain rfl := Option.some.inj ht84
    exact hX84_0 x112 v111 _ _ _ h hS  (Sub.cons rfl (Sub.nil _))
theorem ref17_Order_w {F R : Nat → Prop} {w : World} {fuel : Nat} {a0 : Pat} {v1 : Value} {v2 : Value} {v3 : Value} {r : ((List Pt))} (hS : Sep F R R w w []) (f1 : IsSlice Ty.int w R v1 a0.lens) (f2 : IsSlice (Ty.slice Ty.int) w R v2 a0.ckpts) (f3 : IsSlice arcTy w R v3 a0.arcs) (h : ref17_Order fuel a0 = some r) :
    Gives Try.prog 174 [.agg #[v1, v2, v3]] w fun u w1 => ∃ (v323 : Value), ∃ (R1 : Nat → Prop), u = v323 ∧ Sep F R R1 w w1 [HP.own ptTy (fun _ => False) 36 v323 r] := by
  refine fn_of Try.func174 rfl Try.ntmps174 (Nat.le_of_ble_eq_true rfl) ?_
  unfold ref17_Order at h
  refine e_seq fun K324 hK324 => ?_
  refine e_region_text rfl ?_
  refine q_boxB rfl rfl rfl fun w325 bl325 hg325 hb325 hB325 => ?_
  replace f1 := f1.ext hB325
  replace f2 := f2.ext hB325
  replace f3 := f3.ext hB325
  replace hS := hS.newBlk hB325 hg325 hb325
  refine q_assign rfl rfl ?_
  refine eseq_nil ?_
  refine hK324 _ _ ?_
  refine e_seq fun K327 hK327 => ?_
  refine e_region_text rfl ?_
  refine q_assign rfl rfl ?_
  refine eseq_nil ?_
  refine hK327 _ _ ?_
  refine e_seq fun K328 hK328 => ?_
  refine e_region_text rfl ?_
  refine q_field rfl rfl ?_
  refine q_load rfl (Blk.cell (hS.blk 0 rfl) rfl) rfl ?_
  refine q_lenS rfl f1 rfl ?_
  obtain ⟨x329, hx329, h⟩ := Option.of_bind h
  refine q_makeO (T := Ty.int) (S := (fun _ => False)) rfl rfl rfl hx329 (fun _ h => h.elim) rfl fun w330 v330 ho330 hv330 hB330 => ?_
  replace f1 := f1.ext hB330
  replace f2 := f2.ext hB330
  replace f3 := f3.ext hB330
  replace hS := hS.newOwnS hB330 ho330 hv330 (fun _ h => h.elim)
  refine q_assign rfl rfl ?_
  refine eseq_nil ?_
  refine hK328 _ _ ?_
  refine e_block ?_
  obtain ⟨tl332, ht332, h⟩ := Option.of_bind h
  replace hS := hS.nilOwn0 ptTy 36
  refine e_loop (fun m_ E_ w438 => ∃ (x444 : (List Pt)), ∃ (x447 : (List Int)), ∃ (v443 : Value), ∃ (v446 : Value), ∃ (R437 : Nat → Prop), iter (fun s => ref17_Order_B1 fuel a0 s.1 s.2) m_ (x444, x447) = some tl332 ∧ Sep F R R437 w w438 [HP.blk bl325 [v1, v2, v3] 28, HP.own ptTy (fun _ => False) 36 v443 x444, HP.own Ty.int (fun _ => False) 3 v446 x447] ∧ IsSlice Ty.int w438 R437 v1 a0.lens ∧ IsSlice (Ty.slice Ty.int) w438 R437 v2 a0.ckpts ∧ IsSlice arcTy w438 R437 v3 a0.arcs ∧ E_ = [(1, .pointer (some ⟨bl325, 0, none⟩)), (3, v443), (4, v446)]) _ ⟨_, ⟨([] : List Pt), x329, (.slice none 0 0), v330, _, ht332, (hS.pickB [2, 0, 1] 3 rfl rfl), f1, f2, f3, rfl⟩, Sub.cons rfl (Sub.cons rfl (Sub.cons rfl (Sub.nil _)))⟩ ?_
  clear ht332 hS
  rintro m332 _ w438 ⟨x444, x447, v443, v446, R437, ht332, hS, f439, f440, f441, rfl⟩
  obtain ⟨m332, rfl, o332, ho332, ht332⟩ := iter_some ht332
  replace ho332 : ref17_Order_B1 fuel a0 x444 x447 = some o332 := ho332
  unfold ref17_Order_B1 at ho332
  refine e_block ?_
  refine e_seq fun K551 hK551 => ?_
  refine e_region_text rfl ?_
  refine q_assign rfl rfl ?_
  refine eseq_nil ?_
  refine hK551 _ _ ?_
  refine e_seq fun K552 hK552 => ?_
  refine e_block ?_
  obtain ⟨tl553, ht553, ho332⟩ := Option.of_bind ho332
  have hX553_2 : ∀ (x614 : Int) (R607 : Nat → Prop) (w608 : World) (E_ : Env), ref17_Order_K1 fuel x447 x444 x614 = some o332 → Sep F R R607 w w608 [HP.blk bl325 [v1, v2, v3] 28, HP.own ptTy (fun _ => False) 36 v443 x444, HP.own Ty.int (fun _ => False) 3 v446 x447] → IsSlice Ty.int w608 R607 v1 a0.lens → IsSlice (Ty.slice Ty.int) w608 R607 v2 a0.ckpts → IsSlice arcTy w608 R607 v3 a0.arcs → Sub [(1, .pointer (some ⟨bl325, 0, none⟩)), (3, v443), (4, v446), (5, .int .i64 x614)] E_ → K552 E_ w608 := by
    intro x614 R607 w608 E_ ho332 hS f609 f610 f611 hsub
    refine hK552 _ _ (e_sub hsub ?_); clear hsub
    unfold ref17_Order_K1 at ho332
    refine e_seq fun K615 hK615 => ?_
    refine e_seq fun K616 hK616 => ?_
    refine e_region_text rfl ?_
    refine q_move rfl rfl ?_
    refine q_move rfl rfl ?_
    refine q_lenS rfl (hS.isl 2 rfl) rfl ?_
    refine q_eql rfl rfl rfl ?_
    refine eseq_nil ?_
    refine hK616 _ _ ?_
    refine e_cond rfl (fun hc617 => ?_) (fun hc617 => ?_)
    · replace ho332 := (if_pos hc617).symm.trans ho332
      refine e_seq fun K618 hK618 => ?_
      refine e_region_text rfl ?_
      refine q_move rfl rfl ?_
      refine q_assign rfl rfl ?_
      refine eseq_nil ?_
      refine hK618 _ _ ?_
      refine e_ret ?_
      obtain rfl := Option.some.inj ho332
      obtain rfl := Option.some.inj ht332
      obtain rfl := Option.some.inj h
      exact ⟨_, res1 rfl rfl, v443, _, rfl, (hS.pickB [1] 3 rfl rfl)⟩
    · replace ho332 := (if_neg (not_true hc617)).symm.trans ho332
      refine e_skip ?_
      refine hK615 _ _ ?_
      refine e_seq fun K619 hK619 => ?_
      refine e_region_text rfl ?_
      refine q_move rfl rfl ?_
      refine q_move rfl rfl ?_
      obtain ⟨x620, hx620, ho332⟩ := Option.of_bind ho332
      refine q_indexO (by infer_instance) rfl (hS.own 2 rfl) rfl hx620 rfl ?_
      have f621 := (hS.ownR 2 rfl).elt hx620
      refine q_load rfl (Elt.intCell f621) rfl ?_
      refine q_addW rfl rfl rfl ?_
      obtain ⟨x622, hx622, ho332⟩ := Option.of_bind ho332
      refine q_indexO (by infer_instance) rfl (hS.own 2 rfl) rfl hx622 rfl ?_
      obtain ⟨x624, hx624, ho332⟩ := Option.of_bind ho332
      refine q_storeO (T := Ty.int) (j := 0) rfl rfl (hS.own 2 rfl) hx622 hx624 rfl rfl rfl (Enc.setL rfl) fun w623 ho623 hO623 => ?_
      have hk623 := hS.keptO 2 rfl hx622 hO623
      replace f609 := f609.kept hk623
      replace f610 := f610.kept hk623
      replace f611 := f611.kept hk623
      replace hS := hS.putO 2 rfl hx622 ho623 hO623; simp only [List.set] at hS
      refine eseq_nil ?_
      refine hK619 _ _ ?_
      refine e_region_text rfl ?_
      refine q_move rfl rfl ?_
      refine q_move rfl rfl ?_
      refine q_move rfl rfl ?_
      refine q_move rfl rfl ?_
      obtain ⟨x625, hx625, ho332⟩ := Option.of_bind ho332
      refine q_indexO (by infer_instance) rfl (hS.own 2 rfl) rfl hx625 rfl ?_
      have f626 := (hS.ownR 2 rfl).elt hx625
      refine q_load rfl (Elt.intCell f626) rfl ?_
      refine q_build (Parts.cons rfl rfl (Parts.cons rfl rfl Parts.nil)) rfl rfl ?_
      refine q_litO (T := ptTy) (S := (fun _ => False)) (cells := [[.int .i64 x614, .int .i64 x625]]) (ys := [(⟨x614, x625⟩ : Pt)]) ((Parts.cons rfl rfl Parts.nil)) rfl rfl rfl rfl rfl rfl rfl (fun w1 hB => ⟨⟨[_], _, rfl, rfl, rfl⟩, trivial⟩) (fun _ h => h.elim) rfl fun w627 v627 ho627 hv627 hB627 => ?_
      replace f609 := f609.ext hB627
      replace f610 := f610.ext hB627
      replace f611 := f611.ext hB627
      replace hS := hS.newOwnS hB627 ho627 hv627 (fun _ h => h.elim)
      obtain ⟨x630, hx630, ho332⟩ := Option.of_bind ho332
      refine q_catOwn (T := ptTy) rfl rfl rfl rfl (hS.own 2 rfl) rfl (hS.own 0 rfl) (fun _ h _ => h.elim) (snoc_cat hx630) (Nat.zero_le _) rfl (fun h => by cases h) fun v629 w629 hw629 hgr629 hnw629 => ?_
      have hk629 := hS.keptOwn 2 rfl hgr629
      replace f609 := f609.kept hk629
      replace f610 := f610.kept hk629
      replace f611 := f611.kept hk629
      replace hS := hS.setOwn 2 rfl hw629 hgr629 hnw629; simp only [List.set] at hS
      refine q_assign rfl rfl ?_
      refine eseq_nil ?_
      obtain rfl := Option.some.inj ho332
      exact ⟨m332, _, Nat.lt_succ_self _, ⟨x630, x624, v629, v446, _, ht332, (hS.pickB [1, 2, 3] 4 rfl rfl), f609, f610, f611, rfl⟩, Sub.cons rfl (Sub.cons rfl (Sub.cons rfl (Sub.nil _)))⟩
  refine e_loop (fun m_ E_ w581 => ∃ (x587 : Int), ∃ (R580 : Nat → Prop), iter (fun s => ref17_Order_B2 fuel x447 a0 s) m_ x587 = some tl553 ∧ Sep F R R580 w w581 [HP.blk bl325 [v1, v2, v3] 28, HP.own ptTy (fun _ => False) 36 v443 x444, HP.own Ty.int (fun _ => False) 3 v446 x447] ∧ IsSlice Ty.int w581 R580 v1 a0.lens ∧ IsSlice (Ty.slice Ty.int) w581 R580 v2 a0.ckpts ∧ IsSlice arcTy w581 R580 v3 a0.arcs ∧ E_ = [(1, .pointer (some ⟨bl325, 0, none⟩)), (3, v443), (4, v446), (5, .int .i64 x587)]) _ ⟨_, ⟨0, _, ht553, hS, f439, f440, f441, rfl⟩, Sub.cons rfl (Sub.cons rfl (Sub.cons rfl (Sub.cons rfl (Sub.nil _))))⟩ ?_
  clear ht553 hS
  rintro m553 _ w581 ⟨x587, R580, ht553, hS, f582, f583, f584, rfl⟩
  obtain ⟨m553, rfl, o553, ho553, ht553⟩ := iter_some ht553
  replace ho553 : ref17_Order_B2 fuel x447 a0 x587 = some o553 := ho553
  unfold ref17_Order_B2 at ho553
  refine e_seq fun K631 hK631 => ?_
  refine e_seq fun K632 hK632 => ?_
  refine e_region_text rfl ?_
  refine q_move rfl rfl ?_
  refine q_move rfl rfl ?_
  refine q_lenS rfl (hS.isl 2 rfl) rfl ?_
  refine q_lss rfl rfl rfl ?_
  refine q_move rfl rfl ?_
  obtain ⟨x638, hx637, ho553⟩ := Option.of_bind ho553
  refine g_andM 5 hx637 rfl trivial rfl rfl ?_ ?_ ?_
  · intro hg637 hx637
    clear ho553
    have hT637 := Below.refl (World.heap w581).size w581
    refine g_run rfl ?_; refine q_loadAgg rfl (Blk.cellsAt (hS.blk 0 rfl) 0 3 rfl) rfl rfl ?_
    refine g_run rfl ?_; refine q_move rfl rfl ?_
    refine g_run rfl ?_; refine q_move rfl rfl ?_
    obtain ⟨r640, hr640, hx637⟩ := Option.of_bind hx637
    refine g_run rfl ?_; refine q_call rfl (ref16_Can_w (a0 := (⟨a0.lens, a0.ckpts, a0.arcs⟩ : Pat)) (Sep.all w581) (f582).old (f583).old (f584).old ((hS.isl 2 rfl)).old hr640) rfl ?_
    rintro _ w639 ⟨R639, rfl, hC639⟩
    have hB639 : Below (World.heap w581).size w581 w639 := hC639.stepBF
    refine ⟨fun _ => .of_below hB639, ?_⟩
    replace f582 := f582.ext hB639
    replace f583 := f583.ext hB639
    replace f584 := f584.ext hB639
    replace hT637 := hT637.trans (Below.mono hB639 hT637.size)
    replace hS := hS.below hB639
    refine g_run rfl ?_; refine q_not rfl rfl ?_
    cases hx637
    exact eseq_nil ⟨hT637, Sub.set rfl (Sub.set rfl (Sub.set rfl (Sub.set rfl (Sub.set rfl (Sub.bool true rfl hg637))))), rfl⟩
  · intro hg637
    refine g_skip rfl rfl rfl ?_
    refine g_skip rfl rfl rfl ?_
    refine g_skip rfl rfl rfl ?_
    refine g_skip rfl rfl rfl ?_
    refine g_skip rfl rfl rfl ?_
    exact eseq_nil ⟨rfl, Sub.set rfl (Sub.set rfl (Sub.set rfl (Sub.set rfl (Sub.set rfl (Sub.bool false rfl hg637)))))⟩
  intro wm637 hBm637; clear hx637
  replace hS := hS.below hBm637
  replace f582 := f582.ext hBm637
  replace f583 := f583.ext hBm637
  replace f584 := f584.ext hBm637
  refine eseq_nil ?_
  refine hK632 _ _ ?_
  refine e_cond rfl (fun hc641 => ?_) (fun hc641 => ?_)
  · replace ho553 := (if_pos hc641).symm.trans ho553
    refine e_skip ?_
    refine hK631 _ _ ?_
    refine e_block ?_
    refine e_region_text rfl ?_
    refine q_move rfl rfl ?_
    refine q_addW rfl rfl rfl ?_
    refine q_assign rfl rfl ?_
    refine eseq_nil ?_
    obtain rfl := Option.some.inj ho553
    exact ⟨m553, _, Nat.lt_succ_self _, ⟨(w64 (x587 + 1)), _, ht553, hS, f582, f583, f584, rfl⟩, Sub.cons rfl (Sub.cons rfl (Sub.cons rfl (Sub.cons rfl (Sub.nil _))))⟩
  · replace ho553 := (if_neg (not_true hc641)).symm.trans ho553
    refine e_exit ?_
    obtain rfl := Option.some.inj ho553
    obtain rfl := Option.some.inj ht553
    exact hX553_2 x587 _ _ _ ho332 hS f582 f583 f584 (Sub.cons rfl (Sub.cons rfl (Sub.cons rfl (Sub.cons rfl (Sub.nil _)))))
theorem ref17_Clocks_w {F R : Nat → Prop} {w : World} {fuel : Nat} {a0 : Pat} {v1 : Value} {v2 : Value} {v3 : Value} {r : ((List (List (List Int))))} (hS : Sep F R R w w []) (f1 : IsSlice Ty.int w R v1 a0.lens) (f2 : IsSlice (Ty.slice Ty.int) w R v2 a0.ckpts) (f3 : IsSlice arcTy w R v3 a0.arcs) (h : ref17_Clocks fuel a0 = some r) :
    Gives Try.prog 168 [.agg #[v1, v2, v3]] w fun u w1 => ∃ (v421 : Value), ∃ (v422 : List Value), ∃ (R1 : Nat → Prop), u = v421 ∧ Sep F R R1 w w1 [HP.own Ty.raw (fun _ => False) 25 v421 v422, HP.famS (Ty.slice Ty.int) R1 24 v422 r] := by
  refine fn_of Try.func168 rfl Try.ntmps168 (Nat.le_of_ble_eq_true rfl) ?_
  unfold ref17_Clocks at h
  refine e_seq fun K423 hK423 => ?_
  refine e_region_text rfl ?_
  refine q_boxB rfl rfl rfl fun w424 bl424 hg424 hb424 hB424 => ?_
  replace f1 := f1.ext hB424
  replace f2 := f2.ext hB424
  replace f3 := f3.ext hB424
  replace hS := hS.newBlk hB424 hg424 hb424
  refine q_assign rfl rfl ?_
  refine eseq_nil ?_
  refine hK423 _ _ ?_
  refine e_seq fun K426 hK426 => ?_
  refine e_region_text rfl ?_
  refine q_field rfl rfl ?_
  refine q_load rfl (Blk.cell (hS.blk 0 rfl) rfl) rfl ?_
  refine q_lenS rfl f1 rfl ?_
  refine q_assign rfl rfl ?_
  refine eseq_nil ?_
  refine hK426 _ _ ?_
  refine e_seq fun K427 hK427 => ?_
  refine e_region_text rfl ?_
  refine q_assign rfl rfl ?_
  refine eseq_nil ?_
  refine hK427 _ _ ?_
  refine e_seq fun K428 hK428 => ?_
  refine e_seq fun K429 hK429 => ?_
  refine e_region_text rfl ?_
  refine q_assign rfl rfl ?_
  refine eseq_nil ?_
  refine hK429 _ _ ?_
  refine e_block ?_
  obtain ⟨tl430, ht430, h⟩ := Option.of_bind h
  have hX430_0 : ∀ (x512 : (List (List (List Int)))) (v510 : Value) (v511 : List Value) (R505 : Nat → Prop) (w506 : World) (E_ : Env), ref17_Clocks_K1 fuel a0 x512 = some r → Sep F R R505 w w506 [HP.blk bl424 [v1, v2, v3] 28, HP.own Ty.raw (fun _ => False) 25 v510 v511, HP.famS (Ty.slice Ty.int) R505 24 v511 x512] → IsSlice Ty.int w506 R505 v1 a0.lens → IsSlice (Ty.slice Ty.int) w506 R505 v2 a0.ckpts → IsSlice arcTy w506 R505 v3 a0.arcs → Sub [(1, .pointer (some ⟨bl424, 0, none⟩)), (4, v510)] E_ → K428 E_ w506 := by
    intro x512 v510 v511 R505 w506 E_ h hS f507 f508 f509 hsub
    refine hK428 _ _ (e_sub hsub ?_); clear hsub
    unfold ref17_Clocks_K1 at h
    refine e_seq fun K515 hK515 => ?_
    refine e_region_text rfl ?_
    refine q_loadAgg rfl (Blk.cellsAt (hS.blk 0 rfl) 0 3 rfl) rfl rfl ?_
    obtain ⟨r517, hr517, h⟩ := Option.of_bind h
    refine q_call rfl (ref17_Order_w (a0 := (⟨a0.lens, a0.ckpts, a0.arcs⟩ : Pat)) (Sep.enter (As := []) hS) f507 f508 f509 hr517) rfl ?_
    rintro v518 w516 ⟨_, R516, rfl, hC516⟩
    have hB516 : Below (World.heap w506).size w506 w516 := hC516.stepB0
    refine ⟨fun _ => .of_below hB516, ?_⟩
    replace f507 := (f507.ext hB516).mono fun k hk _ => hC516.ro0 k hk
    replace f508 := (f508.ext hB516).mono fun k hk _ => hC516.ro0 k hk
    replace f509 := (f509.ext hB516).mono fun k hk _ => hC516.ro0 k hk
    replace hS := Sep.leave (As := []) hS hC516; simp only [List.cons_append, List.nil_append] at hS
    refine q_assign rfl rfl ?_
    refine eseq_nil ?_
    refine hK515 _ _ ?_
    refine e_seq fun K519 hK519 => ?_
    refine e_seq fun K520 hK520 => ?_
    refine e_region_text rfl ?_
    refine q_assign rfl rfl ?_
    refine eseq_nil ?_
    refine hK520 _ _ ?_
    refine e_block ?_
    obtain ⟨tl521, ht521, h⟩ := Option.of_bind h
    have hX521_2 : ∀ (x734 : (List (List (List Int)))) (v732 : Value) (v733 : List Value) (R730 : Nat → Prop) (w731 : World) (E_ : Env), ref17_Clocks_K2 fuel x734 = some r → Sep F R R730 w w731 [HP.own Ty.raw (fun _ => False) 25 v732 v733, HP.famS (Ty.slice Ty.int) R730 24 v733 x734] → Sub [(4, v732)] E_ → K519 E_ w731 := by
      intro x734 v732 v733 R730 w731 E_ h hS  hsub
      refine hK519 _ _ (e_sub hsub ?_); clear hsub
      unfold ref17_Clocks_K2 at h
      refine e_seq fun K737 hK737 => ?_
      refine e_region_text rfl ?_
      refine q_move rfl rfl ?_
      refine q_assign rfl rfl ?_
      refine eseq_nil ?_
      refine hK737 _ _ ?_
      refine e_ret ?_
      obtain rfl := Option.some.inj h
      exact ⟨_, res1 rfl rfl, v732, v733, _, rfl, hS⟩
    replace hS := hS.famMono 3 rfl; simp only [List.set] at hS
    refine e_loop (fun m_ E_ w625 => ∃ (x631 : (List (List (List Int)))), ∃ (x635 : Int), ∃ (v629 : Value), ∃ (v630 : List Value), ∃ (R624 : Nat → Prop), iter (fun s => ref17_Clocks_B1 fuel r517 a0 s.1 s.2) m_ (x631, x635) = some tl521 ∧ Sep F R R624 w w625 [HP.blk bl424 [v1, v2, v3] 28, HP.own Ty.raw (fun _ => False) 25 v629 v630, HP.famS (Ty.slice Ty.int) R624 24 v630 x631, HP.own ptTy (fun _ => False) 36 v518 r517] ∧ IsSlice Ty.int w625 R624 v1 a0.lens ∧ IsSlice (Ty.slice Ty.int) w625 R624 v2 a0.ckpts ∧ IsSlice arcTy w625 R624 v3 a0.arcs ∧ E_ = [(1, .pointer (some ⟨bl424, 0, none⟩)), (4, v629), (6, v518), (7, .int .i64 x635)]) _ ⟨_, ⟨x512, 0, v510, v511, _, ht521, (hS.pickB [1, 2, 3, 0] 4 rfl rfl), f507, f508, f509, rfl⟩, Sub.cons rfl (Sub.cons rfl (Sub.cons rfl (Sub.cons rfl (Sub.nil _))))⟩ ?_
    clear ht521 hS
    rintro m521 _ w625 ⟨x631, x635, v629, v630, R624, ht521, hS, f626, f627, f628, rfl⟩
    obtain ⟨m521, rfl, o521, ho521, ht521⟩ := iter_some ht521
    replace ho521 : ref17_Clocks_B1 fuel r517 a0 x631 x635 = some o521 := ho521
    unfold ref17_Clocks_B1 at ho521
    refine e_seq fun K738 hK738 => ?_
    refine e_seq fun K739 hK739 => ?_
    refine e_region_text rfl ?_
    refine q_move rfl rfl ?_
    refine q_move rfl rfl ?_
    refine q_lenS rfl (hS.isl 3 rfl) rfl ?_
    refine q_lss rfl rfl rfl ?_
    refine eseq_nil ?_
    refine hK739 _ _ ?_
    refine e_cond rfl (fun hc740 => ?_) (fun hc740 => ?_)
    · replace ho521 := (if_pos hc740).symm.trans ho521
      refine e_skip ?_
      refine hK738 _ _ ?_
      refine e_seq fun K741 hK741 => ?_
      refine e_block ?_
      refine e_seq fun K742 hK742 => ?_
      refine e_region_draw mixed (fun _ => False) [0, 0, 3, 7, 15, 0, 0, 96, 224, 480, 31, 2047] [] [0, 1, 2, 3, 4, 5, 6, 7, 8, 9, 10, 11] (by kernel_rfl) ?_
      refine q_move rfl rfl ?_
      refine q_move rfl rfl ?_
      obtain ⟨x743, hx743, ho521⟩ := Option.of_bind ho521
      refine q_indexO (by infer_instance) rfl (hS.own 3 rfl) rfl hx743 rfl ?_
      refine q_field rfl rfl ?_
      have f744 := (hS.ownR 3 rfl).elt hx743
      have f745 := Pt_F0 f744
      refine q_load rfl (Elt.intCell f745) rfl ?_
      refine q_move rfl rfl ?_
      refine q_move rfl rfl ?_
      obtain ⟨x746, hx746, ho521⟩ := Option.of_bind ho521
      refine q_indexO (by infer_instance) rfl (hS.own 3 rfl) rfl hx746 rfl ?_
      refine q_field rfl rfl ?_
      have f747 := (hS.ownR 3 rfl).elt hx746
      have f748 := Pt_F1 f747
      refine q_load rfl (Elt.intCell f748) rfl ?_
      refine q_assign rfl rfl ?_
      refine q_assign rfl rfl ?_
      refine eseq_nil ?_
      refine hK742 _ _ ?_
      refine e_seq fun K749 hK749 => ?_
      refine e_region_text rfl ?_
      refine q_move rfl rfl ?_
      refine q_move rfl rfl ?_
      obtain ⟨x750, hx750, ho521⟩ := Option.of_bind ho521
      have hax750 := ati_nth (hS.famLen 2 rfl) hx750
      refine q_indexO (T := Ty.raw) (by infer_instance) rfl (hS.own 1 rfl) rfl hax750 rfl ?_
      refine q_load rfl (Elt.rawCell ((hS.own 1 rfl).elt hax750)) rfl ?_
      refine q_move rfl rfl ?_
      refine q_subW rfl rfl rfl ?_
      obtain ⟨x751, hx751, ho521⟩ := Option.of_bind ho521
      refine q_indexO (by infer_instance) rfl (hS.famO 2 rfl hx750) rfl hx751 rfl ?_
      have f752 := (hS.famOR 2 rfl hx750).elt hx751
      refine q_loadE rfl f752 rfl (fun v753 f753 => ?_)
      replace hS := hS.nilOwn0 Ty.int 3
      obtain ⟨x756, hx756, ho521⟩ := Option.of_bind ho521
      refine q_catE (T := Ty.int) rfl rfl rfl rfl (hS.own 0 rfl) rfl f753 hx756 (Nat.zero_le _) rfl (fun h => by cases h) fun v755 w755 hw755 hgr755 hnw755 => ?_
      have hk755 := hS.keptOwn 0 rfl hgr755
      replace f626 := f626.kept hk755
      replace f627 := f627.kept hk755
      replace f628 := f628.kept hk755
      replace f753 := f753.kept hk755
      replace hS := hS.setOwn 0 rfl hw755 hgr755 hnw755; simp only [List.set] at hS
      refine q_assign rfl rfl ?_
      refine eseq_nil ?_
      refine hK749 _ _ ?_
      refine e_seq fun K757 hK757 => ?_
      have hJ757 : ∀ (x786 : (List Int)) (v785 : Value) (R776 : Nat → Prop) (w777 : World) (E_ : Env), ref17_Clocks_J1 fuel x743 x746 x631 x635 x786 = some o521 → Sep F R R776 w w777 [HP.blk bl424 [v1, v2, v3] 28, HP.own Ty.raw (fun _ => False) 25 v629 v630, HP.famS (Ty.slice Ty.int) R776 24 v630 x631, HP.own ptTy (fun _ => False) 36 v518 r517, HP.own Ty.int (fun _ => False) 3 v785 x786] → IsSlice Ty.int w777 R776 v1 a0.lens → IsSlice (Ty.slice Ty.int) w777 R776 v2 a0.ckpts → IsSlice arcTy w777 R776 v3 a0.arcs → Sub [(1, .pointer (some ⟨bl424, 0, none⟩)), (4, v629), (6, v518), (7, .int .i64 x635), (8, .int .i64 x743.proc), (9, .int .i64 x746.index), (10, v785)] E_ → K757 E_ w777 := by
        intro x786 v785 R776 w777 E_ ho521 hS f778 f779 f780 hsub
        refine hK757 _ _ (e_sub hsub ?_); clear hsub
        unfold ref17_Clocks_J1 at ho521
        refine e_seq fun K787 hK787 => ?_
        refine e_region_text rfl ?_
        refine q_move rfl rfl ?_
        refine q_move rfl rfl ?_
        refine q_move rfl rfl ?_
        obtain ⟨x788, hx788, ho521⟩ := Option.of_bind ho521
        refine q_indexO (by infer_instance) rfl (hS.own 4 rfl) rfl hx788 rfl ?_
        obtain ⟨x790, hx790, ho521⟩ := Option.of_bind ho521
        refine q_storeO (T := Ty.int) (j := 0) rfl rfl (hS.own 4 rfl) hx788 hx790 rfl rfl rfl (Enc.setL rfl) fun w789 ho789 hO789 => ?_
        have hk789 := hS.keptO 4 rfl hx788 hO789
        replace f778 := f778.kept hk789
        replace f779 := f779.kept hk789
        replace f780 := f780.kept hk789
        replace hS := hS.putO 4 rfl hx788 ho789 hO789; simp only [List.set] at hS
        refine eseq_nil ?_
        refine hK787 _ _ ?_
        refine e_region_text rfl ?_
        refine q_move rfl rfl ?_
        refine q_move rfl rfl ?_
        refine q_move rfl rfl ?_
        refine q_move rfl rfl ?_
        obtain ⟨x791, hx791, ho521⟩ := Option.of_bind ho521
        have hax791 := ati_nth (hS.famLen 2 rfl) hx791
        refine q_indexO (T := Ty.raw) (by infer_instance) rfl (hS.own 1 rfl) rfl hax791 rfl ?_
        refine q_load rfl (Elt.rawCell ((hS.own 1 rfl).elt hax791)) rfl ?_
        refine q_move rfl rfl ?_
        refine q_litO (T := Ty.raw) (S := (fun _ => False)) (cells := [[v785]]) (ys := [v785]) ((Parts.cons rfl (cells_one (hS.own 4 rfl).one) Parts.nil)) rfl rfl rfl rfl rfl rfl rfl (fun w1 hB => ⟨⟨rfl, (hS.own 4 rfl).one⟩, trivial⟩) (fun _ h => h.elim) rfl fun w792 v792 ho792 hv792 hB792 => ?_
        replace f778 := f778.ext hB792
        replace f779 := f779.ext hB792
        replace f780 := f780.ext hB792
        replace hS := hS.newOwnS hB792 ho792 hv792 (fun _ h => h.elim)
        replace hS := hS.pickB [5, 0, 1, 2, 3, 4] 6 rfl rfl; simp only [List.map_cons, List.map_nil, List.getD_cons_zero, List.getD_cons_succ] at hS
        replace hS := hS.famOne
        replace hS := hS.pickB [1, 0, 2, 3, 4, 5] 6 rfl rfl; simp only [List.map_cons, List.map_nil, List.getD_cons_zero, List.getD_cons_succ] at hS
        obtain ⟨R796, hS, hm796⟩ := hS.rowsFreeze
        replace f778 := f778.mono fun k hk _ => hm796 k hk
        replace f779 := f779.mono fun k hk _ => hm796 k hk
        replace f780 := f780.mono fun k hk _ => hm796 k hk
        replace hS := hS.famMono 3 rfl; simp only [List.set] at hS
        obtain ⟨x798, hx798, ho521⟩ := Option.of_bind ho521
        obtain ⟨x799, hx799, ho521⟩ := Option.of_bind ho521
        refine q_catOwn (T := (Ty.slice Ty.int)) rfl rfl rfl rfl (hS.famO 3 rfl hx791) rfl (hS.own 0 rfl) (hS.famOff 3 rfl hx791) hx798 (Nat.zero_le _) rfl (fun h => by cases h) fun v795 w795 hw795 hgr795 hnw795 => ?_
        have hk795 := hS.famKeptM 3 rfl hx791 hgr795
        replace f778 := f778.kept hk795
        replace f779 := f779.kept hk795
        replace f780 := f780.kept hk795
        replace hS := hS.famSetM 3 rfl hx791 hx799 hw795 hgr795 hnw795; simp only [List.set] at hS
        obtain ⟨x800, hx800, ho521⟩ := Option.of_bind ho521
        have hax800 := ati_nth (show v630.length = _ by simpa using hS.famLen 3 rfl) hx800
        refine q_indexO (T := Ty.raw) (by infer_instance) rfl (hS.own 2 rfl) rfl hax800 rfl ?_
        refine q_storeO (T := Ty.raw) (j := 0) rfl rfl (hS.own 2 rfl) hax800 (seti_ok hax800) rfl hw795.one rfl (rawSet hw795.one) fun w801 ho801 hO801 => ?_
        have hk801 := hS.keptO 2 rfl hax800 hO801
        replace f778 := f778.kept hk801
        replace f779 := f779.kept hk801
        replace f780 := f780.kept hk801
        replace hS := hS.putO 2 rfl hax800 ho801 hO801; simp only [List.set] at hS
        refine eseq_nil ?_
        refine hK741 _ _ ?_
        refine e_region_text rfl ?_
        refine q_move rfl rfl ?_
        refine q_addW rfl rfl rfl ?_
        refine q_assign rfl rfl ?_
        refine eseq_nil ?_
        obtain rfl := Option.some.inj ho521
        exact ⟨m521, _, Nat.lt_succ_self _, ⟨x799, (w64 (x635 + 1)), v629, (v630.set (x743.proc).toNat v795), _, ht521, (hS.pickB [1, 2, 3, 4] 5 rfl rfl), f778, f779, f780, rfl⟩, Sub.cons rfl (Sub.cons rfl (Sub.cons rfl (Sub.cons rfl (Sub.nil _))))⟩
      refine e_seq fun K802 hK802 => ?_
      refine e_region_text rfl ?_
      refine q_loadAgg rfl (Blk.cellsAt (hS.blk 1 rfl) 0 3 rfl) rfl rfl ?_
      refine q_move rfl rfl ?_
      refine q_move rfl rfl ?_
      obtain ⟨r804, hr804, ho521⟩ := Option.of_bind ho521
      refine q_call rfl (ref16_Received_w (a0 := (⟨a0.lens, a0.ckpts, a0.arcs⟩ : Pat)) (Sep.enter (As := []) hS) f626 f627 f628 hr804) rfl ?_
      rintro _ w803 ⟨R803, rfl, hC803⟩
      have hB803 : Below (World.heap w755).size w755 w803 := hC803.stepB0
      refine ⟨fun _ => .of_below hB803, ?_⟩
      replace f626 := (f626.ext hB803).mono fun k hk _ => hC803.ro0 k hk
      replace f627 := (f627.ext hB803).mono fun k hk _ => hC803.ro0 k hk
      replace f628 := (f628.ext hB803).mono fun k hk _ => hC803.ro0 k hk
      replace hS := Sep.leave (As := []) hS hC803; simp only [List.cons_append, List.nil_append] at hS
      refine q_assign rfl rfl ?_
      refine eseq_nil ?_
      refine hK802 _ _ ?_
      refine e_seq fun K805 hK805 => ?_
      refine e_region_text rfl ?_
      refine q_move rfl rfl ?_
      refine q_geq rfl rfl rfl ?_
      refine eseq_nil ?_
      refine hK805 _ _ ?_
      refine e_cond rfl (fun hc806 => ?_) (fun hc806 => ?_)
      · replace ho521 := (if_pos hc806).symm.trans ho521
        refine e_region_draw mixed (fun _ => False) [0, 0, 0, 4, 0, 28, 60, 124, 254, 510, 0, 1024, 0, 7168, 15360, 31744, 65534, 131070, 262143, 524287] [] [0, 1, 2, 3, 4, 5, 6, 7, 8, 9, 10, 11, 12, 13, 14, 15, 16, 17, 18, 19] (by kernel_rfl) ?_
        refine q_move rfl rfl ?_
        refine q_move rfl rfl ?_
        refine q_field rfl rfl ?_
        refine q_load rfl (Blk.cell (hS.blk 1 rfl) rfl) rfl ?_
        refine q_move rfl rfl ?_
        obtain ⟨x807, hx807, ho521⟩ := Option.of_bind ho521
        refine q_atS (by infer_instance) rfl f628 rfl hx807 rfl fun b808 o808 hm808 f808 => ?_
        refine q_field rfl rfl ?_
        have f809 := Arc_F0 f808
        refine q_load rfl (Elt.intCell f809) rfl ?_
        obtain ⟨x810, hx810, ho521⟩ := Option.of_bind ho521
        have hax810 := ati_nth (hS.famLen 3 rfl) hx810
        refine q_indexO (T := Ty.raw) (by infer_instance) rfl (hS.own 2 rfl) rfl hax810 rfl ?_
        refine q_load rfl (Elt.rawCell ((hS.own 2 rfl).elt hax810)) rfl ?_
        refine q_field rfl rfl ?_
        refine q_load rfl (Blk.cell (hS.blk 1 rfl) rfl) rfl ?_
        refine q_move rfl rfl ?_
        obtain ⟨x811, hx811, ho521⟩ := Option.of_bind ho521
        refine q_atS (by infer_instance) rfl f628 rfl hx811 rfl fun b812 o812 hm812 f812 => ?_
        refine q_field rfl rfl ?_
        have f813 := Arc_F1 f812
        refine q_load rfl (Elt.intCell f813) rfl ?_
        obtain ⟨x814, hx814, ho521⟩ := Option.of_bind ho521
        refine q_indexO (by infer_instance) rfl (hS.famO 3 rfl hx810) rfl hx814 rfl ?_
        have f815 := (hS.famOR 3 rfl hx810).elt hx814
        refine q_loadE rfl f815 rfl (fun v816 f816 => ?_)
        obtain ⟨r818, hr818, ho521⟩ := Option.of_bind ho521
        refine q_call rfl (ref17_top_w (Sep.all w803) ((hS.isl 0 rfl)).old (f816).old hr818) rfl ?_
        rintro v819 w817 ⟨_, R817, rfl, hC817⟩
        have hB817 : Below (World.heap w803).size w803 w817 := hC817.stepBF
        refine ⟨fun _ => .of_below hB817, ?_⟩
        replace f626 := f626.ext hB817
        replace f627 := f627.ext hB817
        replace f628 := f628.ext hB817
        replace f816 := f816.ext hB817
        replace hS := hS.newOwnS hB817 (hC817.own 0 rfl) (hC817.fresh 0 rfl) (fun _ h => h.elim)
        refine q_assign rfl rfl ?_
        refine eseq_nil ?_
        replace hS := hS.famMono 4 rfl; simp only [List.set] at hS
        exact hJ757 r818 v819 _ _ _ ho521 (hS.pickB [2, 3, 4, 5, 0] 6 rfl rfl) f626 f627 f628 (Sub.cons rfl (Sub.cons rfl (Sub.cons rfl (Sub.cons rfl (Sub.cons rfl (Sub.cons rfl (Sub.cons rfl (Sub.nil _))))))))
      · replace ho521 := (if_neg (not_true hc806)).symm.trans ho521
        refine e_skip ?_
        replace hS := hS.famMono 3 rfl; simp only [List.set] at hS
        exact hJ757 x756 v755 _ _ _ ho521 (hS.pickB [1, 2, 3, 4, 0] 5 rfl rfl) f626 f627 f628 (Sub.cons rfl (Sub.cons rfl (Sub.cons rfl (Sub.cons rfl (Sub.cons rfl (Sub.cons rfl (Sub.cons rfl (Sub.nil _))))))))
    · replace ho521 := (if_neg (not_true hc740)).symm.trans ho521
      refine e_exit ?_
      obtain rfl := Option.some.inj ho521
      obtain rfl := Option.some.inj ht521
      exact hX521_2 x631 v629 v630 _ _ _ h (hS.pickB [1, 2] 4 rfl rfl)  (Sub.cons rfl (Sub.nil _))
  replace hS := hS.nilRows (Ty.slice Ty.int) 24 25
  refine e_loop (fun m_ E_ w467 => ∃ (x473 : (List (List (List Int)))), ∃ (x476 : Int), ∃ (v471 : Value), ∃ (v472 : List Value), ∃ (R466 : Nat → Prop), iter (fun s => ref17_Clocks_B2 fuel a0 s.1 s.2) m_ (x473, x476) = some tl430 ∧ Sep F R R466 w w467 [HP.blk bl424 [v1, v2, v3] 28, HP.own Ty.raw (fun _ => False) 25 v471 v472, HP.famS (Ty.slice Ty.int) R466 24 v472 x473] ∧ IsSlice Ty.int w467 R466 v1 a0.lens ∧ IsSlice (Ty.slice Ty.int) w467 R466 v2 a0.ckpts ∧ IsSlice arcTy w467 R466 v3 a0.arcs ∧ E_ = [(1, .pointer (some ⟨bl424, 0, none⟩)), (3, .int .i64 (a0.lens.length : Int)), (4, v471), (5, .int .i64 x476)]) _ ⟨_, ⟨([] : List (List (List Int))), 0, (.slice none 0 0), ([] : List Value), _, ht430, (hS.pickB [2, 0, 1] 3 rfl rfl), f1, f2, f3, rfl⟩, Sub.cons rfl (Sub.cons rfl (Sub.cons rfl (Sub.cons rfl (Sub.nil _))))⟩ ?_
  clear ht430 hS
  rintro m430 _ w467 ⟨x473, x476, v471, v472, R466, ht430, hS, f468, f469, f470, rfl⟩
  obtain ⟨m430, rfl, o430, ho430, ht430⟩ := iter_some ht430
  replace ho430 : ref17_Clocks_B2 fuel a0 x473 x476 = some o430 := ho430
  unfold ref17_Clocks_B2 at ho430
  refine e_seq fun K822 hK822 => ?_
  refine e_seq fun K823 hK823 => ?_
  refine e_region_text rfl ?_
  refine q_move rfl rfl ?_
  refine q_move rfl rfl ?_
  refine q_lss rfl rfl rfl ?_
  refine eseq_nil ?_
  refine hK823 _ _ ?_
  refine e_cond rfl (fun hc824 => ?_) (fun hc824 => ?_)
  · replace ho430 := (if_pos hc824).symm.trans ho430
    refine e_skip ?_
    refine hK822 _ _ ?_
    refine e_seq fun K825 hK825 => ?_
    refine e_block ?_
    refine e_region_text rfl ?_
    refine q_move rfl rfl ?_
    refine q_move rfl rfl ?_
    obtain ⟨x826, hx826, ho430⟩ := Option.of_bind ho430
    refine q_makeO (T := Ty.int) (S := (fun _ => False)) rfl rfl rfl hx826 (fun _ h => h.elim) rfl fun w827 v827 ho827 hv827 hB827 => ?_
    replace f468 := f468.ext hB827
    replace f469 := f469.ext hB827
    replace f470 := f470.ext hB827
    replace hS := hS.newOwnS hB827 ho827 hv827 (fun _ h => h.elim)
    refine q_litO (T := Ty.raw) (S := (fun _ => False)) (cells := [[v827]]) (ys := [v827]) ((Parts.cons rfl (cells_one (hS.own 0 rfl).one) Parts.nil)) rfl rfl rfl rfl rfl rfl rfl (fun w1 hB => ⟨⟨rfl, (hS.own 0 rfl).one⟩, trivial⟩) (fun _ h => h.elim) rfl fun w829 v829 ho829 hv829 hB829 => ?_
    replace f468 := f468.ext hB829
    replace f469 := f469.ext hB829
    replace f470 := f470.ext hB829
    replace hS := hS.newOwnS hB829 ho829 hv829 (fun _ h => h.elim)
    replace hS := hS.pickB [1, 0, 2, 3, 4] 5 rfl rfl; simp only [List.map_cons, List.map_nil, List.getD_cons_zero, List.getD_cons_succ] at hS
    replace hS := hS.famOne
    replace hS := hS.pickB [1, 0, 2, 3, 4] 5 rfl rfl; simp only [List.map_cons, List.map_nil, List.getD_cons_zero, List.getD_cons_succ] at hS
    obtain ⟨R833, hS, hm833⟩ := hS.rowsFreeze
    replace f468 := f468.mono fun k hk _ => hm833 k hk
    replace f469 := f469.mono fun k hk _ => hm833 k hk
    replace f470 := f470.mono fun k hk _ => hm833 k hk
    refine q_litO (T := Ty.raw) (S := (fun _ => False)) (cells := [[v829]]) (ys := [v829]) ((Parts.cons rfl (cells_one (hS.own 0 rfl).one) Parts.nil)) rfl rfl rfl rfl rfl rfl rfl (fun w1 hB => ⟨⟨rfl, (hS.own 0 rfl).one⟩, trivial⟩) (fun _ h => h.elim) rfl fun w832 v832 ho832 hv832 hB832 => ?_
    replace f468 := f468.ext hB832
    replace f469 := f469.ext hB832
    replace f470 := f470.ext hB832
    replace hS := hS.newOwnS hB832 ho832 hv832 (fun _ h => h.elim)
    replace hS := hS.pickB [1, 0, 2, 3, 4] 5 rfl rfl; simp only [List.map_cons, List.map_nil, List.getD_cons_zero, List.getD_cons_succ] at hS
    replace hS := hS.famOne
    replace hS := hS.famMono 4 rfl; simp only [List.set] at hS
    obtain ⟨x838, hx838, ho430⟩ := Option.of_bind ho430
    obtain ⟨hcr837, hce837⟩ := catL_raw (hS.famLen 4 rfl) (hS.famLen 0 rfl) (snoc_cat hx838)
    refine q_catOwn (T := Ty.raw) rfl rfl rfl rfl (hS.own 3 rfl) rfl (hS.own 1 rfl) (fun _ h _ => h.elim) hcr837 (Nat.zero_le _) rfl (fun h => by cases h) fun v837 w837 hw837 hgr837 hnw837 => ?_
    have hk837 := hS.keptOwn 3 rfl hgr837
    replace f468 := f468.kept hk837
    replace f469 := f469.kept hk837
    replace f470 := f470.kept hk837
    replace hS := hS.setOwn 3 rfl hw837 hgr837 hnw837; simp only [List.set] at hS
    replace hS := hS.pickB [4, 0, 1, 2, 3] 5 rfl rfl; simp only [List.map_cons, List.map_nil, List.getD_cons_zero, List.getD_cons_succ] at hS
    replace hS := hS.famCat; rw [hce837] at hS
    refine q_assign rfl rfl ?_
    refine eseq_nil ?_
    refine hK825 _ _ ?_
    refine e_region_text rfl ?_
    refine q_move rfl rfl ?_
    refine q_addW rfl rfl rfl ?_
    refine q_assign rfl rfl ?_
    refine eseq_nil ?_
    obtain rfl := Option.some.inj ho430
    exact ⟨m430, _, Nat.lt_succ_self _, ⟨x838, (w64 (x476 + 1)), v837, (v472 ++ ([v829])), _, ht430, (hS.pickB [2, 3, 0] 4 rfl rfl), f468, f469, f470, rfl⟩, Sub.cons rfl (Sub.cons rfl (Sub.cons rfl (Sub.cons rfl (Sub.nil _))))⟩
  · replace ho430 := (if_neg (not_true hc824)).symm.trans ho430
    refine e_exit ?_
    obtain rfl := Option.some.inj ho430
    obtain rfl := Option.some.inj ht430
    exact hX430_0 x473 v471 v472 _ _ _ h hS f468 f469 f470 (Sub.cons rfl (Sub.cons rfl (Sub.nil _)))
theorem ref17_Clock_w {F R : Nat → Prop} {w : World} {fuel : Nat} {a0 : Pat} {a1 : Int} {a2 : Int} {v1 : Value} {v2 : Value} {v3 : Value} {r : ((List Int))} (hS : Sep F R R w w []) (f1 : IsSlice Ty.int w R v1 a0.lens) (f2 : IsSlice (Ty.slice Ty.int) w R v2 a0.ckpts) (f3 : IsSlice arcTy w R v3 a0.arcs) (h : ref17_Clock fuel a0 a1 a2 = some r) :
    Gives Try.prog 155 [.agg #[v1, v2, v3], .int .i64 a1, .int .i64 a2] w fun u w1 => ∃ (v16 : Value), ∃ (R1 : Nat → Prop), u = v16 ∧ Sep F R R1 w w1 [] ∧ IsSlice Ty.int w1 R1 v16 r := by
  refine fn_of Try.func155 rfl Try.ntmps155 (Nat.le_of_ble_eq_true rfl) ?_
  unfold ref17_Clock at h
  refine e_seq fun K17 hK17 => ?_
  refine e_region_text rfl ?_
  refine q_boxB rfl rfl rfl fun w18 bl18 hg18 hb18 hB18 => ?_
  replace f1 := f1.ext hB18
  replace f2 := f2.ext hB18
  replace f3 := f3.ext hB18
  replace hS := hS.newBlk hB18 hg18 hb18
  refine q_assign rfl rfl ?_
  refine eseq_nil ?_
  refine hK17 _ _ ?_
  refine e_seq fun K20 hK20 => ?_
  refine e_region_text rfl ?_
  refine q_loadAgg rfl (Blk.cellsAt (hS.blk 0 rfl) 0 3 rfl) rfl rfl ?_
  obtain ⟨r22, hr22, h⟩ := Option.of_bind h
  refine q_call rfl (ref17_Clocks_w (a0 := (⟨a0.lens, a0.ckpts, a0.arcs⟩ : Pat)) (Sep.enter (As := []) hS) f1 f2 f3 hr22) rfl ?_
  rintro v23 w21 ⟨_, v24, R21, rfl, hC21⟩
  have hB21 : Below (World.heap w18).size w18 w21 := hC21.stepB0
  refine ⟨fun _ => .of_below hB21, ?_⟩
  replace f1 := (f1.ext hB21).mono fun k hk _ => hC21.ro0 k hk
  replace f2 := (f2.ext hB21).mono fun k hk _ => hC21.ro0 k hk
  replace f3 := (f3.ext hB21).mono fun k hk _ => hC21.ro0 k hk
  replace hS := Sep.leave (As := []) hS hC21; simp only [List.cons_append, List.nil_append] at hS
  refine q_move rfl rfl ?_
  obtain ⟨x25, hx25, h⟩ := Option.of_bind h
  have hax25 := ati_nth (hS.famLen 1 rfl) hx25
  refine q_indexO (T := Ty.raw) (by infer_instance) rfl (hS.own 0 rfl) rfl hax25 rfl ?_
  refine q_load rfl (Elt.rawCell ((hS.own 0 rfl).elt hax25)) rfl ?_
  refine q_move rfl rfl ?_
  obtain ⟨x26, hx26, h⟩ := Option.of_bind h
  refine q_indexO (by infer_instance) rfl (hS.famO 1 rfl hx25) rfl hx26 rfl ?_
  have f27 := (hS.famOR 1 rfl hx25).elt hx26
  refine q_loadE rfl f27 rfl (fun v28 f28 => ?_)
  refine q_assign rfl rfl ?_
  refine eseq_nil ?_
  refine hK20 _ _ ?_
  refine e_ret ?_
  obtain rfl := Option.some.inj h
  exact ⟨_, res1 rfl rfl, v28, _, rfl, (hS.pickB [] 3 rfl rfl), f28⟩
theorem ref19_Intervals_w {F R : Nat → Prop} {w : World} {fuel : Nat} {a0 : Pat} {a1 : (List Int)} {v1 : Value} {v2 : Value} {v3 : Value} {v4 : Value} {r : ((List Int))} (hS : Sep F R R w w []) (f1 : IsSlice Ty.int w R v1 a0.lens) (f2 : IsSlice (Ty.slice Ty.int) w R v2 a0.ckpts) (f3 : IsSlice arcTy w R v3 a0.arcs) (f4 : IsSlice Ty.int w R v4 a1) (h : ref19_Intervals fuel a0 a1 = some r) :
    Gives Try.prog 154 [.agg #[v1, v2, v3], v4] w fun u w1 => ∃ (v93 : Value), ∃ (R1 : Nat → Prop), u = v93 ∧ Sep F R R1 w w1 [HP.own Ty.int (fun _ => False) 3 v93 r] := by
  refine fn_of Try.func154 rfl Try.ntmps154 (Nat.le_of_ble_eq_true rfl) ?_
  unfold ref19_Intervals at h
  refine e_seq fun K94 hK94 => ?_
  refine e_region_text rfl ?_
  refine q_boxB rfl rfl rfl fun w95 bl95 hg95 hb95 hB95 => ?_
  replace f1 := f1.ext hB95
  replace f2 := f2.ext hB95
  replace f3 := f3.ext hB95
  replace f4 := f4.ext hB95
  replace hS := hS.newBlk hB95 hg95 hb95
  refine q_assign rfl rfl ?_
  refine eseq_nil ?_
  refine hK94 _ _ ?_
  refine e_seq fun K97 hK97 => ?_
  refine e_region_text rfl ?_
  refine q_assign rfl rfl ?_
  refine eseq_nil ?_
  refine hK97 _ _ ?_
  refine e_seq fun K98 hK98 => ?_
  refine e_seq fun K99 hK99 => ?_
  refine e_region_text rfl ?_
  refine q_assign rfl rfl ?_
  refine eseq_nil ?_
  refine hK99 _ _ ?_
  refine e_block ?_
  obtain ⟨tl100, ht100, h⟩ := Option.of_bind h
  have hX100_0 : ∀ (x166 : (List Int)) (v165 : Value) (R162 : Nat → Prop) (w163 : World) (E_ : Env), ref19_Intervals_K1 fuel x166 = some r → Sep F R R162 w w163 [HP.own Ty.int (fun _ => False) 3 v165 x166] → Sub [(5, v165)] E_ → K98 E_ w163 := by
    intro x166 v165 R162 w163 E_ h hS  hsub
    refine hK98 _ _ (e_sub hsub ?_); clear hsub
    unfold ref19_Intervals_K1 at h
    refine e_seq fun K167 hK167 => ?_
    refine e_region_text rfl ?_
    refine q_move rfl rfl ?_
    refine q_assign rfl rfl ?_
    refine eseq_nil ?_
    refine hK167 _ _ ?_
    refine e_ret ?_
    obtain rfl := Option.some.inj h
    exact ⟨_, res1 rfl rfl, v165, _, rfl, hS⟩
  replace hS := hS.nilOwn0 Ty.int 3
  refine e_loop (fun m_ E_ w131 => ∃ (x138 : (List Int)), ∃ (x139 : Int), ∃ (v137 : Value), ∃ (R130 : Nat → Prop), iter (fun s => ref19_Intervals_B1 fuel a1 a0 s.1 s.2) m_ (x138, x139) = some tl100 ∧ Sep F R R130 w w131 [HP.blk bl95 [v1, v2, v3] 28, HP.own Ty.int (fun _ => False) 3 v137 x138] ∧ IsSlice Ty.int w131 R130 v4 a1 ∧ IsSlice Ty.int w131 R130 v1 a0.lens ∧ IsSlice (Ty.slice Ty.int) w131 R130 v2 a0.ckpts ∧ IsSlice arcTy w131 R130 v3 a0.arcs ∧ E_ = [(1, v4), (2, .pointer (some ⟨bl95, 0, none⟩)), (5, v137), (6, .int .i64 x139)]) _ ⟨_, ⟨([] : List Int), 0, (.slice none 0 0), _, ht100, (hS.pickB [1, 0] 2 rfl rfl), f4, f1, f2, f3, rfl⟩, Sub.cons rfl (Sub.cons rfl (Sub.cons rfl (Sub.cons rfl (Sub.nil _))))⟩ ?_
  clear ht100 hS
  rintro m100 _ w131 ⟨x138, x139, v137, R130, ht100, hS, f132, f133, f134, f135, rfl⟩
  obtain ⟨m100, rfl, o100, ho100, ht100⟩ := iter_some ht100
  replace ho100 : ref19_Intervals_B1 fuel a1 a0 x138 x139 = some o100 := ho100
  unfold ref19_Intervals_B1 at ho100
  refine e_seq fun K169 hK169 => ?_
  refine e_seq fun K170 hK170 => ?_
  refine e_region_text rfl ?_
  refine q_move rfl rfl ?_
  refine q_move rfl rfl ?_
  refine q_lenS rfl f132 rfl ?_
  refine q_lss rfl rfl rfl ?_
  refine eseq_nil ?_
  refine hK170 _ _ ?_
  refine e_cond rfl (fun hc171 => ?_) (fun hc171 => ?_)
  · replace ho100 := (if_pos hc171).symm.trans ho100
    refine e_skip ?_
    refine hK169 _ _ ?_
    refine e_seq fun K172 hK172 => ?_
    refine e_block ?_
    refine e_region_draw mixed (fun _ => False) [0, 0, 0, 0, 0, 24, 56, 126, 254, 511, 1023] [] [0, 1, 2, 3, 4, 5, 6, 7, 8, 9, 10] (by kernel_rfl) ?_
    refine q_move rfl rfl ?_
    refine q_loadAgg rfl (Blk.cellsAt (hS.blk 0 rfl) 0 3 rfl) rfl rfl ?_
    refine q_move rfl rfl ?_
    refine q_move rfl rfl ?_
    refine q_move rfl rfl ?_
    obtain ⟨x173, hx173, ho100⟩ := Option.of_bind ho100
    refine q_atS (by infer_instance) rfl f132 rfl hx173 rfl fun b174 o174 hm174 f174 => ?_
    refine q_load rfl (Elt.intCell f174) rfl ?_
    obtain ⟨r176, hr176, ho100⟩ := Option.of_bind ho100
    refine q_call rfl (ref16_Interval_w (a0 := (⟨a0.lens, a0.ckpts, a0.arcs⟩ : Pat)) (Sep.enter (As := []) hS) f133 f134 f135 hr176) rfl ?_
    rintro _ w175 ⟨R175, rfl, hC175⟩
    have hB175 : Below (World.heap w131).size w131 w175 := hC175.stepB0
    refine ⟨fun _ => .of_below hB175, ?_⟩
    replace f132 := (f132.ext hB175).mono fun k hk _ => hC175.ro0 k hk
    replace f133 := (f133.ext hB175).mono fun k hk _ => hC175.ro0 k hk
    replace f134 := (f134.ext hB175).mono fun k hk _ => hC175.ro0 k hk
    replace f135 := (f135.ext hB175).mono fun k hk _ => hC175.ro0 k hk
    replace hS := Sep.leave (As := []) hS hC175; simp only [List.cons_append, List.nil_append] at hS
    refine q_litO (T := Ty.int) (S := (fun _ => False)) (cells := [[.int .i64 r176]]) (ys := [r176]) ((Parts.cons rfl rfl Parts.nil)) rfl rfl rfl rfl rfl rfl rfl (fun w1 hB => ⟨rfl, trivial⟩) (fun _ h => h.elim) rfl fun w177 v177 ho177 hv177 hB177 => ?_
    replace f132 := f132.ext hB177
    replace f133 := f133.ext hB177
    replace f134 := f134.ext hB177
    replace f135 := f135.ext hB177
    replace hS := hS.newOwnS hB177 ho177 hv177 (fun _ h => h.elim)
    obtain ⟨x180, hx180, ho100⟩ := Option.of_bind ho100
    refine q_catOwn (T := Ty.int) rfl rfl rfl rfl (hS.own 2 rfl) rfl (hS.own 0 rfl) (fun _ h _ => h.elim) (snoc_cat hx180) (Nat.zero_le _) rfl (fun h => by cases h) fun v179 w179 hw179 hgr179 hnw179 => ?_
    have hk179 := hS.keptOwn 2 rfl hgr179
    replace f132 := f132.kept hk179
    replace f133 := f133.kept hk179
    replace f134 := f134.kept hk179
    replace f135 := f135.kept hk179
    replace hS := hS.setOwn 2 rfl hw179 hgr179 hnw179; simp only [List.set] at hS
    refine q_assign rfl rfl ?_
    refine eseq_nil ?_
    refine hK172 _ _ ?_
    refine e_region_text rfl ?_
    refine q_move rfl rfl ?_
    refine q_addW rfl rfl rfl ?_
    refine q_assign rfl rfl ?_
    refine eseq_nil ?_
    obtain rfl := Option.some.inj ho100
    exact ⟨m100, _, Nat.lt_succ_self _, ⟨x180, (w64 (x139 + 1)), v179, _, ht100, (hS.pickB [1, 2] 3 rfl rfl), f132, f133, f134, f135, rfl⟩, Sub.cons rfl (Sub.cons rfl (Sub.cons rfl (Sub.cons rfl (Sub.nil _))))⟩
  · replace ho100 := (if_neg (not_true hc171)).symm.trans ho100
    refine e_exit ?_
    obtain rfl := Option.some.inj ho100
    obtain rfl := Option.some.inj ht100
    exact hX100_0 x138 v137 _ _ _ h (hS.pickB [1] 2 rfl rfl)  (Sub.cons rfl (Sub.nil _))
theorem ref19_Vector_w {F R : Nat → Prop} {w : World} {fuel : Nat} {a0 : Pat} {a1 : Int} {a2 : Int} {v1 : Value} {v2 : Value} {v3 : Value} {r : ((List Int))} (hS : Sep F R R w w []) (f1 : IsSlice Ty.int w R v1 a0.lens) (f2 : IsSlice (Ty.slice Ty.int) w R v2 a0.ckpts) (f3 : IsSlice arcTy w R v3 a0.arcs) (h : ref19_Vector fuel a0 a1 a2 = some r) :
    Gives Try.prog 138 [.agg #[v1, v2, v3], .int .i64 a1, .int .i64 a2] w fun u w1 => ∃ (v20 : Value), ∃ (R1 : Nat → Prop), u = v20 ∧ Sep F R R1 w w1 [HP.own Ty.int (fun _ => False) 3 v20 r] := by
  refine fn_of Try.func138 rfl Try.ntmps138 (Nat.le_of_ble_eq_true rfl) ?_
  unfold ref19_Vector at h
  refine e_seq fun K21 hK21 => ?_
  refine e_region_text rfl ?_
  refine q_boxB rfl rfl rfl fun w22 bl22 hg22 hb22 hB22 => ?_
  replace f1 := f1.ext hB22
  replace f2 := f2.ext hB22
  replace f3 := f3.ext hB22
  replace hS := hS.newBlk hB22 hg22 hb22
  refine q_assign rfl rfl ?_
  refine eseq_nil ?_
  refine hK21 _ _ ?_
  refine e_seq fun K24 hK24 => ?_
  refine e_region_draw mixed (fun _ => False) [0, 0, 0, 0, 14, 31, 63] [4] [0, 1, 2, 3, 4, 5, 6] (by kernel_rfl) ?_
  refine q_loadAgg rfl (Blk.cellsAt (hS.blk 0 rfl) 0 3 rfl) rfl rfl ?_
  refine q_loadAgg rfl (Blk.cellsAt (hS.blk 0 rfl) 0 3 rfl) rfl rfl ?_
  refine q_move rfl rfl ?_
  refine q_move rfl rfl ?_
  obtain ⟨r32, hr32, h⟩ := Option.of_bind h
  refine q_call rfl (ref17_Clock_w (a0 := (⟨a0.lens, a0.ckpts, a0.arcs⟩ : Pat)) (Sep.enter (As := []) hS) f1 f2 f3 hr32) rfl ?_
  rintro v33 w31 ⟨_, R31, rfl, hC31, f33⟩
  have hB31 : Below (World.heap w22).size w22 w31 := hC31.stepB0
  refine ⟨fun _ => .of_below hB31, ?_⟩
  replace f1 := (f1.ext hB31).mono fun k hk _ => hC31.ro0 k hk
  replace f2 := (f2.ext hB31).mono fun k hk _ => hC31.ro0 k hk
  replace f3 := (f3.ext hB31).mono fun k hk _ => hC31.ro0 k hk
  replace hS := Sep.leave (As := []) hS hC31; simp only [List.cons_append, List.nil_append] at hS
  obtain ⟨r35, hr35, h⟩ := Option.of_bind h
  refine q_call rfl (ref19_Intervals_w (a0 := (⟨a0.lens, a0.ckpts, a0.arcs⟩ : Pat)) (Sep.enter (As := []) hS) f1 f2 f3 f33 hr35) rfl ?_
  rintro v36 w34 ⟨_, R34, rfl, hC34⟩
  have hB34 : Below (World.heap w31).size w31 w34 := hC34.stepB0
  refine ⟨fun _ => .of_below hB34, ?_⟩
  replace f1 := (f1.ext hB34).mono fun k hk _ => hC34.ro0 k hk
  replace f2 := (f2.ext hB34).mono fun k hk _ => hC34.ro0 k hk
  replace f3 := (f3.ext hB34).mono fun k hk _ => hC34.ro0 k hk
  replace f33 := (f33.ext hB34).mono fun k hk _ => hC34.ro0 k hk
  replace hS := Sep.leave (As := []) hS hC34; simp only [List.cons_append, List.nil_append] at hS
  refine q_assign rfl rfl ?_
  refine eseq_nil ?_
  refine hK24 _ _ ?_
  refine e_ret ?_
  obtain rfl := Option.some.inj h
  exact ⟨_, res1 rfl rfl, v36, _, rfl, (hS.pickB [0] 2 rfl rfl)⟩
theorem ref19_Ckpt_w {F R : Nat → Prop} {w : World} {fuel : Nat} {a0 : Pat} {a1 : Int} {a2 : Int} {v1 : Value} {v2 : Value} {v3 : Value} {r : ((List Int))} (hS : Sep F R R w w []) (f1 : IsSlice Ty.int w R v1 a0.lens) (f2 : IsSlice (Ty.slice Ty.int) w R v2 a0.ckpts) (f3 : IsSlice arcTy w R v3 a0.arcs) (h : ref19_Ckpt fuel a0 a1 a2 = some r) :
    Gives Try.prog 104 [.agg #[v1, v2, v3], .int .i64 a1, .int .i64 a2] w fun u w1 => ∃ (v18 : Value), ∃ (R1 : Nat → Prop), u = v18 ∧ Sep F R R1 w w1 [HP.own Ty.int (fun _ => False) 3 v18 r] := by
  refine fn_of Try.func104 rfl Try.ntmps104 (Nat.le_of_ble_eq_true rfl) ?_
  unfold ref19_Ckpt at h
  refine e_seq fun K19 hK19 => ?_
  refine e_region_text rfl ?_
  refine q_boxB rfl rfl rfl fun w20 bl20 hg20 hb20 hB20 => ?_
  replace f1 := f1.ext hB20
  replace f2 := f2.ext hB20
  replace f3 := f3.ext hB20
  replace hS := hS.newBlk hB20 hg20 hb20
  refine q_assign rfl rfl ?_
  refine eseq_nil ?_
  refine hK19 _ _ ?_
  refine e_seq fun K22 hK22 => ?_
  refine e_region_draw mixed (fun _ => False) [0, 0, 0, 0, 0, 28, 63, 127] [5] [0, 1, 2, 3, 4, 5, 6, 7] (by kernel_rfl) ?_
  refine q_loadAgg rfl (Blk.cellsAt (hS.blk 0 rfl) 0 3 rfl) rfl rfl ?_
  refine q_move rfl rfl ?_
  refine q_loadAgg rfl (Blk.cellsAt (hS.blk 0 rfl) 0 3 rfl) rfl rfl ?_
  refine q_move rfl rfl ?_
  refine q_move rfl rfl ?_
  obtain ⟨r29, hr29, h⟩ := Option.of_bind h
  refine q_call rfl (ref19_Index_w (a0 := (⟨a0.lens, a0.ckpts, a0.arcs⟩ : Pat)) (Sep.enter (As := []) hS) f1 f2 f3 hr29) rfl ?_
  rintro _ w28 ⟨R28, rfl, hC28⟩
  have hB28 : Below (World.heap w20).size w20 w28 := hC28.stepB0
  refine ⟨fun _ => .of_below hB28, ?_⟩
  replace f1 := (f1.ext hB28).mono fun k hk _ => hC28.ro0 k hk
  replace f2 := (f2.ext hB28).mono fun k hk _ => hC28.ro0 k hk
  replace f3 := (f3.ext hB28).mono fun k hk _ => hC28.ro0 k hk
  replace hS := Sep.leave (As := []) hS hC28; simp only [List.cons_append, List.nil_append] at hS
  obtain ⟨r31, hr31, h⟩ := Option.of_bind h
  refine q_call rfl (ref19_Vector_w (a0 := (⟨a0.lens, a0.ckpts, a0.arcs⟩ : Pat)) (Sep.enter (As := []) hS) f1 f2 f3 hr31) rfl ?_
  rintro v32 w30 ⟨_, R30, rfl, hC30⟩
  have hB30 : Below (World.heap w28).size w28 w30 := hC30.stepB0
  refine ⟨fun _ => .of_below hB30, ?_⟩
  replace f1 := (f1.ext hB30).mono fun k hk _ => hC30.ro0 k hk
  replace f2 := (f2.ext hB30).mono fun k hk _ => hC30.ro0 k hk
  replace f3 := (f3.ext hB30).mono fun k hk _ => hC30.ro0 k hk
  replace hS := Sep.leave (As := []) hS hC30; simp only [List.cons_append, List.nil_append] at hS
  refine q_assign rfl rfl ?_
  refine eseq_nil ?_
  refine hK22 _ _ ?_
  refine e_ret ?_
  obtain rfl := Option.some.inj h
  exact ⟨_, res1 rfl rfl, v32, _, rfl, (hS.pickB [0] 2 rfl rfl)⟩
theorem ref19_Depends_w {F R : Nat → Prop} {w : World} {fuel : Nat} {a0 : Pat} {a1 : Pt} {a2 : Pt} {v1 : Value} {v2 : Value} {v3 : Value} {r : (Bool)} (hS : Sep F R R w w []) (f1 : IsSlice Ty.int w R v1 a0.lens) (f2 : IsSlice (Ty.slice Ty.int) w R v2 a0.ckpts) (f3 : IsSlice arcTy w R v3 a0.arcs) (h : ref19_Depends fuel a0 a1 a2 = some r) :
    Gives Try.prog 66 [.agg #[v1, v2, v3], .agg #[.int .i64 a1.proc, .int .i64 a1.index], .agg #[.int .i64 a2.proc, .int .i64 a2.index]] w fun u w1 => ∃ (R1 : Nat → Prop), u = .bool r ∧ Sep F R R1 w w1 [] := by
  refine fn_of Try.func66 rfl Try.ntmps66 (Nat.le_of_ble_eq_true rfl) ?_
  unfold ref19_Depends at h
  refine e_seq fun K22 hK22 => ?_
  refine e_region_text rfl ?_
  refine q_boxB rfl rfl rfl fun w23 bl23 hg23 hb23 hB23 => ?_
  replace f1 := f1.ext hB23
  replace f2 := f2.ext hB23
  replace f3 := f3.ext hB23
  replace hS := hS.newBlk hB23 hg23 hb23
  refine q_boxB rfl rfl rfl fun w25 bl25 hg25 hb25 hB25 => ?_
  replace f1 := f1.ext hB25
  replace f2 := f2.ext hB25
  replace f3 := f3.ext hB25
  replace hS := hS.newBlk hB25 hg25 hb25
  refine q_boxB rfl rfl rfl fun w27 bl27 hg27 hb27 hB27 => ?_
  replace f1 := f1.ext hB27
  replace f2 := f2.ext hB27
  replace f3 := f3.ext hB27
  replace hS := hS.newBlk hB27 hg27 hb27
  refine q_assign rfl rfl ?_
  refine eseq_nil ?_
  refine hK22 _ _ ?_
  refine e_seq fun K29 hK29 => ?_
  refine e_region_draw mixed (fun _ => False) [0, 0, 2, 0, 8, 31, 0, 64, 255, 511, 0, 1024, 4095, 8191] [5] [0, 1, 2, 3, 4, 6, 7, 10, 11, 5, 8, 9, 12, 13] (by kernel_rfl) ?_
  refine q_loadAgg rfl (Blk.cellsAt (hS.blk 2 rfl) 0 3 rfl) rfl rfl ?_
  refine q_field rfl rfl ?_
  refine q_load rfl (Blk.cell (hS.blk 1 rfl) rfl) rfl ?_
  refine q_field rfl rfl ?_
  refine q_load rfl (Blk.cell (hS.blk 1 rfl) rfl) rfl ?_
  refine q_field rfl rfl ?_
  refine q_load rfl (Blk.cell (hS.blk 0 rfl) rfl) rfl ?_
  refine q_field rfl rfl ?_
  refine q_load rfl (Blk.cell (hS.blk 0 rfl) rfl) rfl ?_
  obtain ⟨r36, hr36, h⟩ := Option.of_bind h
  refine q_call rfl (ref19_Ckpt_w (a0 := (⟨a0.lens, a0.ckpts, a0.arcs⟩ : Pat)) (Sep.enter (As := []) hS) f1 f2 f3 hr36) rfl ?_
  rintro v37 w35 ⟨_, R35, rfl, hC35⟩
  have hB35 : Below (World.heap w27).size w27 w35 := hC35.stepB0
  refine ⟨fun _ => .of_below hB35, ?_⟩
  replace f1 := (f1.ext hB35).mono fun k hk _ => hC35.ro0 k hk
  replace f2 := (f2.ext hB35).mono fun k hk _ => hC35.ro0 k hk
  replace f3 := (f3.ext hB35).mono fun k hk _ => hC35.ro0 k hk
  replace hS := Sep.leave (As := []) hS hC35; simp only [List.cons_append, List.nil_append] at hS
  obtain ⟨x38, hx38, h⟩ := Option.of_bind h
  refine q_indexO (by infer_instance) rfl (hS.own 0 rfl) rfl hx38 rfl ?_
  have f39 := (hS.ownR 0 rfl).elt hx38
  refine q_load rfl (Elt.intCell f39) rfl ?_
  refine q_gtr rfl rfl rfl ?_
  refine q_assign rfl rfl ?_
  refine eseq_nil ?_
  refine hK29 _ _ ?_
  refine e_ret ?_
  obtain rfl := Option.some.inj h
  exact ⟨_, res1 rfl rfl, _, rfl, (hS.pickB [] 4 rfl rfl)⟩
end Go.Proofs.Ytlceljfigccllaa
