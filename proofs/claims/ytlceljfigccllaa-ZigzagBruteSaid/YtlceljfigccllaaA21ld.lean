/- Printed walks: A21ld. -/
import Derived.Test.YtlceljfigccllaaA21k
import Derived.Test.YtlceljfigccllaaA18r
import Derived.Test.YtlceljfigccllaaA19r
set_option linter.unusedVariables false
set_option linter.unusedSimpArgs false
namespace Go.Mine
open Go.RowKit
def law21_ZigzagBrute_K2 (fuel : Nat) (x1687 : (List Int)) (x1688 : Int) : Option (((List Int)) ⊕ (Bool)) :=
  (if (x1688 == (x1687.length : Int)) = true then some (Sum.inr true) else (ati x1687 x1688).bind fun x1693 => (ati x1687 x1688).bind fun x1695 => (seti x1687 x1688 (w64 (x1693 + 1))).bind fun x1697 => some (Sum.inl x1697))
def law21_ZigzagBrute_B2 (fuel : Nat) (r884 : (Pat × Int)) (x1644 : (List Int)) (x1645 : Int) : Option (((List Int) × Int) ⊕ ((List Int) × Int)) :=
  (andM (decide (x1645 < (x1644.length : Int))) ((ati x1644 x1645).bind fun x1709 => (ati r884.1.ckpts x1645).bind fun x1711 => some (x1709 == (x1711.length : Int)))).bind fun x1708 => (if x1708 = true then (ati x1644 x1645).bind fun x1716 => (seti x1644 x1645 0).bind fun x1718 => some (Sum.inl (x1718, (w64 (x1645 + 1)))) else some (Sum.inr (x1644, x1645)))
def law21_ZigzagBrute_K1 (fuel : Nat) (r910 : ((List Int) × Bool)) (x1205 : (List Int)) (r884 : (Pat × Int)) (x1575 : Bool) : Option (((List Int)) ⊕ (Bool)) :=
  (andM x1575 ((orM (!r910.2) ((ref18_Most fuel x1205 r910.1).bind fun r1589 => some (!r1589))).bind fun x1587 => some x1587)).bind fun x1585 => (if x1585 = true then some (Sum.inr false) else (iter (fun s => law21_ZigzagBrute_B2 fuel r884 s.1 s.2) fuel (x1205, 0)).bind (fun t => law21_ZigzagBrute_K2 fuel t.1 t.2))
def law21_ZigzagBrute_B3 (fuel : Nat) (r906 : ((List Pt) × Int)) (x1205 : (List Int)) (x1536 : Bool) (x1537 : Int) : Option ((Bool × Int) ⊕ (Bool)) :=
  (if (decide (x1537 < (r906.1.length : Int))) = true then (ati r906.1 x1537).bind fun x1724 => (andM x1536 ((ati x1205 x1724.proc).bind fun x1736 => some (x1736 == x1724.index))).bind fun x1735 => some (Sum.inl (x1735, (w64 (x1537 + 1)))) else some (Sum.inr x1536))
def law21_ZigzagBrute_B1 (fuel : Nat) (r884 : (Pat × Int)) (r906 : ((List Pt) × Int)) (r910 : ((List Int) × Bool)) (x1205 : (List Int)) : Option (((List Int)) ⊕ (Bool)) :=
  (ref19_Cut fuel (⟨r884.1.lens, r884.1.ckpts, r884.1.arcs⟩ : Pat) x1205).bind fun r1484 => (ref18_Consistent fuel (⟨r884.1.lens, r884.1.ckpts, r884.1.arcs⟩ : Pat) r1484).bind fun r1487 => (iter (fun s => law21_ZigzagBrute_B3 fuel r906 x1205 s.1 s.2) fuel (r1487, 0)).bind (fun t => law21_ZigzagBrute_K1 fuel r910 x1205 r884 t)
def law21_ZigzagBrute (fuel : Nat) (a0 : (List Int)) (a1 : (List Int)) : Option (Bool) :=
  (law21_awake fuel).bind fun r875 => (if (!r875) = true then some false else (make_New fuel a0 160).bind fun r880 => (make_Codes_Pattern fuel 9 r880.1 r880.2).bind fun r884 => (make_New fuel a1 20).bind fun r901 => (make_Codes_Ckpts fuel (⟨r884.1.lens, r884.1.ckpts, r884.1.arcs⟩ : Pat) r901.1 r901.2).bind fun r906 => (zigzag_Extension fuel (⟨r884.1.lens, r884.1.ckpts, r884.1.arcs⟩ : Pat) r906.1).bind fun r910 => (mkL (r884.1.lens.length : Int) (0 : Int)).bind fun x913 => (iter (fun s => law21_ZigzagBrute_B1 fuel r884 r906 r910 s) fuel x913).bind (fun t => some t))
end Go.Mine
namespace Go.Proofs.Ytlceljfigccllaa
open Go.RowKit Go.Mine
attribute [local irreducible] eseq ewp iter
theorem law21_ZigzagBrute_w {F R : Nat → Prop} {w : World} {fuel : Nat} {a0 : (List Int)} {a1 : (List Int)} {v1 : Value} {v2 : Value} {r : (Bool)} (hS : Sep F R R w w []) (f1 : IsSlice Ty.u8 w R v1 a0) (f2 : IsSlice Ty.u8 w R v2 a1) (h : law21_ZigzagBrute fuel a0 a1 = some r) :
    Gives Try.prog 5 [v1, v2] w fun u w1 => ∃ (R1 : Nat → Prop), u = .bool r ∧ Sep F R R1 w w1 [] := by
  refine fn_of Try.func5 rfl Try.ntmps5 (Nat.le_of_ble_eq_true rfl) ?_
  unfold law21_ZigzagBrute at h
  refine e_seq fun K871 hK871 => ?_
  refine e_region_text rfl ?_
  refine q_assign rfl rfl ?_
  refine eseq_nil ?_
  refine hK871 _ _ ?_
  refine e_seq fun K872 hK872 => ?_
  refine e_seq fun K873 hK873 => ?_
  refine e_region_text rfl ?_
  obtain ⟨r875, hr875, h⟩ := Option.of_bind h
  refine q_call rfl (law21_awake_w (Sep.enter (As := []) hS)  hr875) rfl ?_
  rintro _ w874 ⟨R874, rfl, hC874⟩
  have hB874 : Below (World.heap w).size w w874 := hC874.stepB0
  refine ⟨fun _ => .of_below hB874, ?_⟩
  replace f1 := (f1.ext hB874).mono fun k hk _ => hC874.ro0 k hk
  replace f2 := (f2.ext hB874).mono fun k hk _ => hC874.ro0 k hk
  replace hS := Sep.leave (As := []) hS hC874; simp only [List.cons_append, List.nil_append] at hS
  refine q_not rfl rfl ?_
  refine eseq_nil ?_
  refine hK873 _ _ ?_
  refine e_cond rfl (fun hc876 => ?_) (fun hc876 => ?_)
  · replace h := (if_pos hc876).symm.trans h
    refine e_seq fun K877 hK877 => ?_
    refine e_region_text rfl ?_
    refine q_assign rfl rfl ?_
    refine eseq_nil ?_
    refine hK877 _ _ ?_
    refine e_ret ?_
    obtain rfl := Option.some.inj h
    exact ⟨_, res1 rfl rfl, _, rfl, hS⟩
  · replace h := (if_neg (not_true hc876)).symm.trans h
    refine e_skip ?_
    refine hK872 _ _ ?_
    refine e_seq fun K878 hK878 => ?_
    refine e_region_text rfl ?_
    refine q_move rfl rfl ?_
    obtain ⟨r880, hr880, h⟩ := Option.of_bind h
    refine q_call rfl (make_New_w (Sep.enter (As := []) hS) f1 hr880) rfl ?_
    rintro _ w879 ⟨B881, v882, R879, rfl, hC879, f882⟩
    have hB879 : Below (World.heap w874).size w874 w879 := hC879.stepB0
    refine ⟨fun _ => .of_below hB879, ?_⟩
    replace f2 := (f2.ext hB879).mono fun k hk _ => hC879.ro0 k hk
    replace f1 := (f1.ext hB879).mono fun k hk _ => hC879.ro0 k hk
    replace hS := Sep.leave (As := []) hS hC879; simp only [List.cons_append, List.nil_append] at hS
    obtain ⟨r884, hr884, h⟩ := Option.of_bind h
    refine q_call rfl (make_Codes_Pattern_w (Sep.enter (As := [_]) hS) f882 hr884) rfl ?_
    rintro _ w883 ⟨v885, v886, v887, R883, rfl, hC883, f885, f886⟩
    refine ⟨(fun h => by cases h), ?_⟩
    have hk883 := hC883.keptR (Sep.offFeet (As := [_]) hS)
    replace f2 := (f2.kept hk883).mono fun k hk _ => hC883.ro0 k hk
    replace f882 := (f882.kept hk883).mono fun k hk _ => hC883.ro0 k hk
    replace hS := Sep.leave (As := [_]) hS hC883; simp only [List.cons_append, List.nil_append] at hS
    refine q_allocB rfl fun w888 bl888 hg888 hb888 hB888 => ?_
    replace f2 := f2.ext hB888
    replace f885 := f885.ext hB888
    replace f886 := f886.ext hB888
    replace hS := hS.newBlk hB888 hg888 hb888
    refine q_storeAgg rfl rfl (hS.blk 0 rfl) rfl (Nat.le_of_ble_eq_true rfl) (all_cons f885.one (all_cons f886.one (all_cons (hS.own 2 rfl).one (all_nil)))) rfl rfl fun w890 hb890 hO890 => ?_
    simp only [setN, List.set, List.take, List.drop] at hb890
    have hk890 := hS.keptBlk 0 rfl hO890
    replace f2 := f2.kept hk890
    replace f885 := f885.kept hk890
    replace f886 := f886.kept hk890
    replace hS := hS.setBlk 0 rfl hb890 hO890; simp only [List.set] at hS
    refine eseq_nil ?_
    refine hK878 _ _ ?_
    refine e_seq fun K891 hK891 => ?_
    refine e_region_draw mixed (fun _ => False) [0, 1, 0, 7, 15] [1] [0, 2, 1, 3, 4] (by kernel_rfl) ?_
    refine q_move rfl rfl ?_
    refine q_loadAgg rfl (Blk.cellsAt (hS.blk 0 rfl) 0 3 rfl) rfl rfl ?_
    obtain ⟨r901, hr901, h⟩ := Option.of_bind h
    refine q_call rfl (make_New_w (Sep.enter (As := []) hS) f2 hr901) rfl ?_
    rintro _ w900 ⟨B902, v903, R900, rfl, hC900, f903⟩
    have hB900 : Below (World.heap w890).size w890 w900 := hC900.stepB0
    refine ⟨fun _ => .of_below hB900, ?_⟩
    replace f885 := (f885.ext hB900).mono fun k hk _ => hC900.ro0 k hk
    replace f886 := (f886.ext hB900).mono fun k hk _ => hC900.ro0 k hk
    replace f2 := (f2.ext hB900).mono fun k hk _ => hC900.ro0 k hk
    replace hS := Sep.leave (As := []) hS hC900; simp only [List.cons_append, List.nil_append] at hS
    obtain ⟨R905, hS, hm905, f905⟩ := hS.freezeOwn 3 rfl; simp only [List.eraseIdx] at hS
    replace f885 := f885.mono fun k hk _ => hm905 k hk
    replace f886 := f886.mono fun k hk _ => hm905 k hk
    replace f903 := f903.mono fun k hk _ => hm905 k hk
    obtain ⟨r906, hr906, h⟩ := Option.of_bind h
    refine q_call rfl (make_Codes_Ckpts_w (a1 := (⟨r884.1.lens, r884.1.ckpts, r884.1.arcs⟩ : Pat)) (Sep.enter (As := [_]) hS) f885 f886 f905 f903 hr906) rfl ?_
    rintro v907 w904 ⟨_, R904, rfl, hC904⟩
    refine ⟨(fun h => by cases h), ?_⟩
    have hk904 := hC904.keptR (Sep.offFeet (As := [_]) hS)
    replace f885 := (f885.kept hk904).mono fun k hk _ => hC904.ro0 k hk
    replace f886 := (f886.kept hk904).mono fun k hk _ => hC904.ro0 k hk
    replace f905 := (f905.kept hk904).mono fun k hk _ => hC904.ro0 k hk
    replace f903 := (f903.kept hk904).mono fun k hk _ => hC904.ro0 k hk
    replace hS := Sep.leave (As := [_]) hS hC904; simp only [List.cons_append, List.nil_append] at hS
    refine q_assign rfl rfl ?_
    refine eseq_nil ?_
    refine hK891 _ _ ?_
    refine e_seq fun K908 hK908 => ?_
    refine e_region_text rfl ?_
    refine q_loadAgg rfl (Blk.cellsAt (hS.blk 2 rfl) 0 3 rfl) rfl rfl ?_
    refine q_move rfl rfl ?_
    obtain ⟨r910, hr910, h⟩ := Option.of_bind h
    refine q_call rfl (zigzag_Extension_w (a0 := (⟨r884.1.lens, r884.1.ckpts, r884.1.arcs⟩ : Pat)) (Sep.all w904) (f885).old (f886).old (f905).old ((hS.isl 1 rfl)).old hr910) rfl ?_
    rintro _ w909 ⟨v911, R909, rfl, hC909⟩
    have hB909 : Below (World.heap w904).size w904 w909 := hC909.stepBF
    refine ⟨fun _ => .of_below hB909, ?_⟩
    replace f885 := f885.ext hB909
    replace f886 := f886.ext hB909
    replace f905 := f905.ext hB909
    replace hS := hS.newOwnS hB909 (hC909.own 0 rfl) (hC909.fresh 0 rfl) (fun _ h => h.elim)
    refine q_move rfl rfl ?_
    refine q_extract rfl rfl rfl ?_
    refine q_extract rfl rfl rfl ?_
    refine q_assign rfl rfl ?_
    refine q_assign rfl rfl ?_
    refine eseq_nil ?_
    refine hK908 _ _ ?_
    refine e_seq fun K912 hK912 => ?_
    refine e_region_text rfl ?_
    refine q_field rfl rfl ?_
    refine q_load rfl (Blk.cell (hS.blk 3 rfl) rfl) rfl ?_
    refine q_lenS rfl f885 rfl ?_
    obtain ⟨x913, hx913, h⟩ := Option.of_bind h
    refine q_makeO (T := Ty.int) (S := (fun _ => False)) rfl rfl rfl hx913 (fun _ h => h.elim) rfl fun w914 v914 ho914 hv914 hB914 => ?_
    replace f885 := f885.ext hB914
    replace f886 := f886.ext hB914
    replace f905 := f905.ext hB914
    replace hS := hS.newOwnS hB914 ho914 hv914 (fun _ h => h.elim)
    refine q_assign rfl rfl ?_
    refine eseq_nil ?_
    refine hK912 _ _ ?_
    refine e_block ?_
    obtain ⟨tl916, ht916, h⟩ := Option.of_bind h
    refine e_loop (fun m_ E_ w1197 => ∃ (x1205 : (List Int)), ∃ (v1204 : Value), ∃ (R1196 : Nat → Prop), iter (fun s => law21_ZigzagBrute_B1 fuel r884 r906 r910 s) m_ x1205 = some tl916 ∧ Sep F R R1196 w w1197 [HP.blk bl888 [v885, v886, v887] 28, HP.own ptTy (fun _ => False) 36 v907 r906.1, HP.own Ty.int (fun _ => False) 3 v911 r910.1, HP.own Ty.int (fun _ => False) 3 v1204 x1205] ∧ IsSlice Ty.int w1197 R1196 v885 r884.1.lens ∧ IsSlice (Ty.slice Ty.int) w1197 R1196 v886 r884.1.ckpts ∧ IsSlice arcTy w1197 R1196 v887 r884.1.arcs ∧ E_ = [(5, .pointer (some ⟨bl888, 0, none⟩)), (6, v907), (7, v911), (8, .bool r910.2), (9, v1204)]) _ ⟨_, ⟨x913, v914, _, ht916, (hS.pickB [4, 3, 1, 0] 6 rfl rfl), f885, f886, f905, rfl⟩, Sub.cons rfl (Sub.cons rfl (Sub.cons rfl (Sub.cons rfl (Sub.cons rfl (Sub.nil _)))))⟩ ?_
    clear ht916 hS
    rintro m916 _ w1197 ⟨x1205, v1204, R1196, ht916, hS, f1198, f1199, f1200, rfl⟩
    obtain ⟨m916, rfl, o916, ho916, ht916⟩ := iter_some ht916
    replace ho916 : law21_ZigzagBrute_B1 fuel r884 r906 r910 x1205 = some o916 := ho916
    unfold law21_ZigzagBrute_B1 at ho916
    refine e_block ?_
    refine e_seq fun K1477 hK1477 => ?_
    refine e_region_draw mixed (fun _ => False) [0, 0, 0, 6, 15, 31] [3] [0, 1, 2, 3, 4, 5] (by kernel_rfl) ?_
    refine q_loadAgg rfl (Blk.cellsAt (hS.blk 0 rfl) 0 3 rfl) rfl rfl ?_
    refine q_loadAgg rfl (Blk.cellsAt (hS.blk 0 rfl) 0 3 rfl) rfl rfl ?_
    refine q_move rfl rfl ?_
    obtain ⟨r1484, hr1484, ho916⟩ := Option.of_bind ho916
    refine q_call rfl (ref19_Cut_w (a0 := (⟨r884.1.lens, r884.1.ckpts, r884.1.arcs⟩ : Pat)) (Sep.all w1197) (f1198).old (f1199).old (f1200).old ((hS.isl 3 rfl)).old hr1484) rfl ?_
    rintro v1485 w1483 ⟨_, R1483, rfl, hC1483⟩
    have hB1483 : Below (World.heap w1197).size w1197 w1483 := hC1483.stepBF
    refine ⟨fun _ => .of_below hB1483, ?_⟩
    replace f1198 := f1198.ext hB1483
    replace f1199 := f1199.ext hB1483
    replace f1200 := f1200.ext hB1483
    replace hS := hS.newOwnS hB1483 (hC1483.own 0 rfl) (hC1483.fresh 0 rfl) (fun _ h => h.elim)
    obtain ⟨r1487, hr1487, ho916⟩ := Option.of_bind ho916
    refine q_call rfl (ref18_Consistent_w (a0 := (⟨r884.1.lens, r884.1.ckpts, r884.1.arcs⟩ : Pat)) (Sep.all w1483) (f1198).old (f1199).old (f1200).old ((hS.isl 0 rfl)).old hr1487) rfl ?_
    rintro _ w1486 ⟨R1486, rfl, hC1486⟩
    have hB1486 : Below (World.heap w1483).size w1483 w1486 := hC1486.stepBF
    refine ⟨fun _ => .of_below hB1486, ?_⟩
    replace f1198 := f1198.ext hB1486
    replace f1199 := f1199.ext hB1486
    replace f1200 := f1200.ext hB1486
    replace hS := hS.below hB1486
    refine q_assign rfl rfl ?_
    refine eseq_nil ?_
    refine hK1477 _ _ ?_
    refine e_seq fun K1488 hK1488 => ?_
    refine e_seq fun K1489 hK1489 => ?_
    refine e_region_text rfl ?_
    refine q_move rfl rfl ?_
    refine q_lenS rfl (hS.isl 2 rfl) rfl ?_
    refine q_move rfl rfl ?_
    refine eseq_nil ?_
    refine hK1489 _ _ ?_
    refine e_block ?_
    obtain ⟨tl1490, ht1490, ho916⟩ := Option.of_bind ho916
    have hX1490_2 : ∀ (x1575 : Bool) (R1567 : Nat → Prop) (w1568 : World) (E_ : Env), law21_ZigzagBrute_K1 fuel r910 x1205 r884 x1575 = some o916 → Sep F R R1567 w w1568 [HP.blk bl888 [v885, v886, v887] 28, HP.own ptTy (fun _ => False) 36 v907 r906.1, HP.own Ty.int (fun _ => False) 3 v911 r910.1, HP.own Ty.int (fun _ => False) 3 v1204 x1205] → IsSlice Ty.int w1568 R1567 v885 r884.1.lens → IsSlice (Ty.slice Ty.int) w1568 R1567 v886 r884.1.ckpts → IsSlice arcTy w1568 R1567 v887 r884.1.arcs → Sub [(5, .pointer (some ⟨bl888, 0, none⟩)), (6, v907), (7, v911), (8, .bool r910.2), (9, v1204), (10, .bool x1575)] E_ → K1488 E_ w1568 := by
      intro x1575 R1567 w1568 E_ ho916 hS f1569 f1570 f1571 hsub
      refine hK1488 _ _ (e_sub hsub ?_); clear hsub
      unfold law21_ZigzagBrute_K1 at ho916
      refine e_seq fun K1576 hK1576 => ?_
      refine e_seq fun K1577 hK1577 => ?_
      refine e_region_text rfl ?_
      refine q_move rfl rfl ?_
      refine q_move rfl rfl ?_
      obtain ⟨x1585, hx1584, ho916⟩ := Option.of_bind ho916
      refine g_andM 8 hx1584 rfl trivial rfl rfl ?_ ?_ ?_
      · intro hg1584 hx1584
        clear ho916
        have hT1584 := Below.refl (World.heap w1568).size w1568
        refine g_run rfl ?_; refine q_move rfl rfl ?_
        refine g_run rfl ?_; refine q_not rfl rfl ?_
        refine g_run rfl ?_; refine q_move rfl rfl ?_
        obtain ⟨x1587, hx1586, hx1584⟩ := Option.of_bind hx1584
        refine g_orM 4 hx1586 rfl rfl rfl rfl ?_ ?_ ?_
        · intro hg1586
          refine g_skip rfl rfl rfl ?_
          refine g_skip rfl rfl rfl ?_
          refine g_skip rfl rfl rfl ?_
          refine g_skip rfl rfl rfl ?_
          exact eseq_nil ⟨rfl, Sub.set rfl (Sub.set rfl (Sub.set rfl (Sub.set rfl (Sub.bool true rfl hg1586))))⟩
        · intro hg1586 hx1586
          clear hx1584
          have hT1586 := Below.refl (World.heap w1568).size w1568
          refine g_run rfl ?_; refine q_move rfl rfl ?_
          refine g_run rfl ?_; refine q_move rfl rfl ?_
          obtain ⟨r1589, hr1589, hx1586⟩ := Option.of_bind hx1586
          refine g_run rfl ?_; refine q_call rfl (ref18_Most_w (Sep.all w1568) ((hS.isl 3 rfl)).old ((hS.isl 2 rfl)).old hr1589) rfl ?_
          rintro _ w1588 ⟨R1588, rfl, hC1588⟩
          have hB1588 : Below (World.heap w1568).size w1568 w1588 := hC1588.stepBF
          refine ⟨fun _ => .of_below hB1588, ?_⟩
          replace f1569 := f1569.ext hB1588
          replace f1570 := f1570.ext hB1588
          replace f1571 := f1571.ext hB1588
          replace hT1584 := hT1584.trans (Below.mono hB1588 hT1584.size)
          replace hT1586 := hT1586.trans (Below.mono hB1588 hT1586.size)
          replace hS := hS.below hB1588
          refine g_run rfl ?_; refine q_not rfl rfl ?_
          cases hx1586
          exact eseq_nil ⟨hT1586, Sub.set rfl (Sub.set rfl (Sub.set rfl (Sub.set rfl (Sub.bool false rfl hg1586)))), rfl⟩
        intro wm1586 hBm1586; clear hx1586
        replace hS := hS.below hBm1586
        replace f1569 := f1569.ext hBm1586
        replace f1570 := f1570.ext hBm1586
        replace f1571 := f1571.ext hBm1586
        replace hT1584 := hT1584.trans (Below.mono hBm1586 hT1584.size)
        cases hx1584
        exact eseq_nil ⟨hT1584, Sub.set rfl (Sub.set rfl (Sub.set rfl (Sub.set rfl (Sub.bool true rfl hg1584)))), rfl⟩
      · intro hg1584
        refine g_skip rfl rfl rfl ?_
        refine g_skip rfl rfl rfl ?_
        refine g_skip rfl rfl rfl ?_
        refine g_skipU rfl rfl ?_
        refine g_skipU rfl rfl ?_
        refine g_skipU rfl rfl ?_
        refine g_skipU rfl rfl ?_
        refine g_skip rfl rfl rfl ?_
        exact eseq_nil ⟨rfl, Sub.set rfl (Sub.set rfl (Sub.set rfl (Sub.set rfl (Sub.set rfl (Sub.set rfl (Sub.set rfl (Sub.set rfl (Sub.bool false rfl hg1584))))))))⟩
      intro wm1584 hBm1584; clear hx1584
      replace hS := hS.below hBm1584
      replace f1569 := f1569.ext hBm1584
      replace f1570 := f1570.ext hBm1584
      replace f1571 := f1571.ext hBm1584
      refine eseq_nil ?_
      refine hK1577 _ _ ?_
      refine e_cond rfl (fun hc1590 => ?_) (fun hc1590 => ?_)
      · replace ho916 := (if_pos hc1590).symm.trans ho916
        refine e_seq fun K1591 hK1591 => ?_
        refine e_region_text rfl ?_
        refine q_assign rfl rfl ?_
        refine eseq_nil ?_
        refine hK1591 _ _ ?_
        refine e_ret ?_
        obtain rfl := Option.some.inj ho916
        obtain rfl := Option.some.inj ht916
        obtain rfl := Option.some.inj h
        exact ⟨_, res1 rfl rfl, _, rfl, (hS.pickB [] 4 rfl rfl)⟩
      · replace ho916 := (if_neg (not_true hc1590)).symm.trans ho916
        refine e_skip ?_
        refine hK1576 _ _ ?_
        refine e_seq fun K1592 hK1592 => ?_
        refine e_region_text rfl ?_
        refine q_assign rfl rfl ?_
        refine eseq_nil ?_
        refine hK1592 _ _ ?_
        refine e_seq fun K1593 hK1593 => ?_
        refine e_block ?_
        obtain ⟨tl1594, ht1594, ho916⟩ := Option.of_bind ho916
        have hX1594_4 : ∀ (x1687 : (List Int)) (x1688 : Int) (v1686 : Value) (R1678 : Nat → Prop) (w1679 : World) (E_ : Env), law21_ZigzagBrute_K2 fuel x1687 x1688 = some o916 → Sep F R R1678 w w1679 [HP.blk bl888 [v885, v886, v887] 28, HP.own ptTy (fun _ => False) 36 v907 r906.1, HP.own Ty.int (fun _ => False) 3 v911 r910.1, HP.own Ty.int (fun _ => False) 3 v1686 x1687] → IsSlice Ty.int w1679 R1678 v885 r884.1.lens → IsSlice (Ty.slice Ty.int) w1679 R1678 v886 r884.1.ckpts → IsSlice arcTy w1679 R1678 v887 r884.1.arcs → Sub [(5, .pointer (some ⟨bl888, 0, none⟩)), (6, v907), (7, v911), (8, .bool r910.2), (9, v1686), (13, .int .i64 x1688)] E_ → K1593 E_ w1679 := by
          intro x1687 x1688 v1686 R1678 w1679 E_ ho916 hS f1680 f1681 f1682 hsub
          refine hK1593 _ _ (e_sub hsub ?_); clear hsub
          unfold law21_ZigzagBrute_K2 at ho916
          refine e_seq fun K1689 hK1689 => ?_
          refine e_seq fun K1690 hK1690 => ?_
          refine e_region_text rfl ?_
          refine q_move rfl rfl ?_
          refine q_move rfl rfl ?_
          refine q_lenS rfl (hS.isl 3 rfl) rfl ?_
          refine q_eql rfl rfl rfl ?_
          refine eseq_nil ?_
          refine hK1690 _ _ ?_
          refine e_cond rfl (fun hc1691 => ?_) (fun hc1691 => ?_)
          · replace ho916 := (if_pos hc1691).symm.trans ho916
            refine e_seq fun K1692 hK1692 => ?_
            refine e_region_text rfl ?_
            refine q_assign rfl rfl ?_
            refine eseq_nil ?_
            refine hK1692 _ _ ?_
            refine e_ret ?_
            obtain rfl := Option.some.inj ho916
            obtain rfl := Option.some.inj ht916
            obtain rfl := Option.some.inj h
            exact ⟨_, res1 rfl rfl, _, rfl, (hS.pickB [] 4 rfl rfl)⟩
          · replace ho916 := (if_neg (not_true hc1691)).symm.trans ho916
            refine e_skip ?_
            refine hK1689 _ _ ?_
            refine e_region_text rfl ?_
            refine q_move rfl rfl ?_
            refine q_move rfl rfl ?_
            obtain ⟨x1693, hx1693, ho916⟩ := Option.of_bind ho916
            refine q_indexO (by infer_instance) rfl (hS.own 3 rfl) rfl hx1693 rfl ?_
            have f1694 := (hS.ownR 3 rfl).elt hx1693
            refine q_load rfl (Elt.intCell f1694) rfl ?_
            refine q_addW rfl rfl rfl ?_
            obtain ⟨x1695, hx1695, ho916⟩ := Option.of_bind ho916
            refine q_indexO (by infer_instance) rfl (hS.own 3 rfl) rfl hx1695 rfl ?_
            obtain ⟨x1697, hx1697, ho916⟩ := Option.of_bind ho916
            refine q_storeO (T := Ty.int) (j := 0) rfl rfl (hS.own 3 rfl) hx1695 hx1697 rfl rfl rfl (Enc.setL rfl) fun w1696 ho1696 hO1696 => ?_
            have hk1696 := hS.keptO 3 rfl hx1695 hO1696
            replace f1680 := f1680.kept hk1696
            replace f1681 := f1681.kept hk1696
            replace f1682 := f1682.kept hk1696
            replace hS := hS.putO 3 rfl hx1695 ho1696 hO1696; simp only [List.set] at hS
            refine eseq_nil ?_
            obtain rfl := Option.some.inj ho916
            exact ⟨m916, _, Nat.lt_succ_self _, ⟨x1697, v1686, _, ht916, hS, f1680, f1681, f1682, rfl⟩, Sub.cons rfl (Sub.cons rfl (Sub.cons rfl (Sub.cons rfl (Sub.cons rfl (Sub.nil _)))))⟩
        refine e_loop (fun m_ E_ w1636 => ∃ (x1644 : (List Int)), ∃ (x1645 : Int), ∃ (v1643 : Value), ∃ (R1635 : Nat → Prop), iter (fun s => law21_ZigzagBrute_B2 fuel r884 s.1 s.2) m_ (x1644, x1645) = some tl1594 ∧ Sep F R R1635 w w1636 [HP.blk bl888 [v885, v886, v887] 28, HP.own ptTy (fun _ => False) 36 v907 r906.1, HP.own Ty.int (fun _ => False) 3 v911 r910.1, HP.own Ty.int (fun _ => False) 3 v1643 x1644] ∧ IsSlice Ty.int w1636 R1635 v885 r884.1.lens ∧ IsSlice (Ty.slice Ty.int) w1636 R1635 v886 r884.1.ckpts ∧ IsSlice arcTy w1636 R1635 v887 r884.1.arcs ∧ E_ = [(5, .pointer (some ⟨bl888, 0, none⟩)), (6, v907), (7, v911), (8, .bool r910.2), (9, v1643), (13, .int .i64 x1645)]) _ ⟨_, ⟨x1205, 0, v1204, _, ht1594, hS, f1569, f1570, f1571, rfl⟩, Sub.cons rfl (Sub.cons rfl (Sub.cons rfl (Sub.cons rfl (Sub.cons rfl (Sub.cons rfl (Sub.nil _))))))⟩ ?_
        clear ht1594 hS
        rintro m1594 _ w1636 ⟨x1644, x1645, v1643, R1635, ht1594, hS, f1637, f1638, f1639, rfl⟩
        obtain ⟨m1594, rfl, o1594, ho1594, ht1594⟩ := iter_some ht1594
        replace ho1594 : law21_ZigzagBrute_B2 fuel r884 x1644 x1645 = some o1594 := ho1594
        unfold law21_ZigzagBrute_B2 at ho1594
        refine e_seq fun K1698 hK1698 => ?_
        refine e_seq fun K1699 hK1699 => ?_
        refine e_region_draw mixed (fun _ => False) [0, 0, 2, 7, 15, 31, 31, 127, 255, 31, 543, 31, 3615, 7711, 15903, 32767, 65535] [] [0, 1, 2, 3, 4, 5, 6, 7, 8, 9, 10, 11, 12, 13, 14, 15, 16] (by kernel_rfl) ?_
        refine q_move rfl rfl ?_
        refine q_move rfl rfl ?_
        refine q_lenS rfl (hS.isl 3 rfl) rfl ?_
        refine q_lss rfl rfl rfl ?_
        refine q_move rfl rfl ?_
        obtain ⟨x1708, hx1707, ho1594⟩ := Option.of_bind ho1594
        refine g_andM 11 hx1707 rfl trivial rfl rfl ?_ ?_ ?_
        · intro hg1707 hx1707
          clear ho1594
          have hT1707 := Below.refl (World.heap w1636).size w1636
          refine g_run rfl ?_; refine q_move rfl rfl ?_
          refine g_run rfl ?_; refine q_move rfl rfl ?_
          obtain ⟨x1709, hx1709, hx1707⟩ := Option.of_bind hx1707
          refine g_run rfl ?_; refine q_indexO (by infer_instance) rfl (hS.own 3 rfl) rfl hx1709 rfl ?_
          have f1710 := (hS.ownR 3 rfl).elt hx1709
          refine g_run rfl ?_; refine q_load rfl (Elt.intCell f1710) rfl ?_
          refine g_run rfl ?_; refine q_field rfl rfl ?_
          refine g_run rfl ?_; refine q_load rfl (Blk.cell (hS.blk 0 rfl) rfl) rfl ?_
          refine g_run rfl ?_; refine q_move rfl rfl ?_
          obtain ⟨x1711, hx1711, hx1707⟩ := Option.of_bind hx1707
          refine g_run rfl ?_; refine q_atS (by infer_instance) rfl f1638 rfl hx1711 rfl fun b1712 o1712 hm1712 f1712 => ?_
          refine g_run rfl ?_; refine q_loadE rfl f1712 rfl (fun v1713 f1713 => ?_)
          refine g_run rfl ?_; refine q_lenS rfl f1713 rfl ?_
          refine g_run rfl ?_; refine q_eql rfl rfl rfl ?_
          cases hx1707
          exact eseq_nil ⟨hT1707, Sub.set rfl (Sub.set rfl (Sub.set rfl (Sub.set rfl (Sub.set rfl (Sub.set rfl (Sub.set rfl (Sub.set rfl (Sub.set rfl (Sub.set rfl (Sub.set rfl (Sub.bool true rfl hg1707))))))))))), rfl⟩
        · intro hg1707
          refine g_skip rfl rfl rfl ?_
          refine g_skip rfl rfl rfl ?_
          refine g_skip rfl rfl rfl ?_
          refine g_skip rfl rfl rfl ?_
          refine g_skip rfl rfl rfl ?_
          refine g_skip rfl rfl rfl ?_
          refine g_skip rfl rfl rfl ?_
          refine g_skip rfl rfl rfl ?_
          refine g_skip rfl rfl rfl ?_
          refine g_skip rfl rfl rfl ?_
          refine g_skip rfl rfl rfl ?_
          exact eseq_nil ⟨rfl, Sub.set rfl (Sub.set rfl (Sub.set rfl (Sub.set rfl (Sub.set rfl (Sub.set rfl (Sub.set rfl (Sub.set rfl (Sub.set rfl (Sub.set rfl (Sub.set rfl (Sub.bool false rfl hg1707)))))))))))⟩
        intro wm1707 hBm1707; clear hx1707
        replace hS := hS.below hBm1707
        replace f1637 := f1637.ext hBm1707
        replace f1638 := f1638.ext hBm1707
        replace f1639 := f1639.ext hBm1707
        refine eseq_nil ?_
        refine hK1699 _ _ ?_
        refine e_cond rfl (fun hc1714 => ?_) (fun hc1714 => ?_)
        · replace ho1594 := (if_pos hc1714).symm.trans ho1594
          refine e_skip ?_
          refine hK1698 _ _ ?_
          refine e_block ?_
          refine e_seq fun K1715 hK1715 => ?_
          refine e_region_text rfl ?_
          refine q_move rfl rfl ?_
          refine q_move rfl rfl ?_
          obtain ⟨x1716, hx1716, ho1594⟩ := Option.of_bind ho1594
          refine q_indexO (by infer_instance) rfl (hS.own 3 rfl) rfl hx1716 rfl ?_
          obtain ⟨x1718, hx1718, ho1594⟩ := Option.of_bind ho1594
          refine q_storeO (T := Ty.int) (j := 0) rfl rfl (hS.own 3 rfl) hx1716 hx1718 rfl rfl rfl (Enc.setL rfl) fun w1717 ho1717 hO1717 => ?_
          have hk1717 := hS.keptO 3 rfl hx1716 hO1717
          replace f1637 := f1637.kept hk1717
          replace f1638 := f1638.kept hk1717
          replace f1639 := f1639.kept hk1717
          replace hS := hS.putO 3 rfl hx1716 ho1717 hO1717; simp only [List.set] at hS
          refine eseq_nil ?_
          refine hK1715 _ _ ?_
          refine e_region_text rfl ?_
          refine q_move rfl rfl ?_
          refine q_addW rfl rfl rfl ?_
          refine q_assign rfl rfl ?_
          refine eseq_nil ?_
          obtain rfl := Option.some.inj ho1594
          exact ⟨m1594, _, Nat.lt_succ_self _, ⟨x1718, (w64 (x1645 + 1)), v1643, _, ht1594, hS, f1637, f1638, f1639, rfl⟩, Sub.cons rfl (Sub.cons rfl (Sub.cons rfl (Sub.cons rfl (Sub.cons rfl (Sub.cons rfl (Sub.nil _))))))⟩
        · replace ho1594 := (if_neg (not_true hc1714)).symm.trans ho1594
          refine e_exit ?_
          obtain rfl := Option.some.inj ho1594
          obtain rfl := Option.some.inj ht1594
          exact hX1594_4 x1644 x1645 v1643 _ _ _ ho916 hS f1637 f1638 f1639 (Sub.cons rfl (Sub.cons rfl (Sub.cons rfl (Sub.cons rfl (Sub.cons rfl (Sub.cons rfl (Sub.nil _)))))))
    refine e_loop (fun m_ E_ w1529 => ∃ (x1536 : Bool), ∃ (x1537 : Int), ∃ (R1528 : Nat → Prop), iter (fun s => law21_ZigzagBrute_B3 fuel r906 x1205 s.1 s.2) m_ (x1536, x1537) = some tl1490 ∧ Sep F R R1528 w w1529 [HP.blk bl888 [v885, v886, v887] 28, HP.own ptTy (fun _ => False) 36 v907 r906.1, HP.own Ty.int (fun _ => False) 3 v911 r910.1, HP.own Ty.int (fun _ => False) 3 v1204 x1205] ∧ IsSlice Ty.int w1529 R1528 v885 r884.1.lens ∧ IsSlice (Ty.slice Ty.int) w1529 R1528 v886 r884.1.ckpts ∧ IsSlice arcTy w1529 R1528 v887 r884.1.arcs ∧ E_ = [(5, .pointer (some ⟨bl888, 0, none⟩)), (6, v907), (7, v911), (8, .bool r910.2), (9, v1204), (10, .bool x1536), (38, v907), (39, .int .i64 (r906.1.length : Int)), (40, .int .i64 x1537)]) _ ⟨_, ⟨r1487, 0, _, ht1490, (hS.pickB [1, 2, 3, 4] 5 rfl rfl), f1198, f1199, f1200, rfl⟩, Sub.cons rfl (Sub.cons rfl (Sub.cons rfl (Sub.cons rfl (Sub.cons rfl (Sub.cons rfl (Sub.cons rfl (Sub.cons rfl (Sub.cons rfl (Sub.nil _)))))))))⟩ ?_
    clear ht1490 hS
    rintro m1490 _ w1529 ⟨x1536, x1537, R1528, ht1490, hS, f1530, f1531, f1532, rfl⟩
    obtain ⟨m1490, rfl, o1490, ho1490, ht1490⟩ := iter_some ht1490
    replace ho1490 : law21_ZigzagBrute_B3 fuel r906 x1205 x1536 x1537 = some o1490 := ho1490
    unfold law21_ZigzagBrute_B3 at ho1490
    refine e_seq fun K1719 hK1719 => ?_
    refine e_region_text rfl ?_
    refine q_lss rfl rfl rfl ?_
    refine eseq_nil ?_
    refine hK1719 _ _ ?_
    refine e_seq fun K1720 hK1720 => ?_
    refine e_cond rfl (fun hc1721 => ?_) (fun hc1721 => ?_)
    · replace ho1490 := (if_pos hc1721).symm.trans ho1490
      refine e_skip ?_
      refine hK1720 _ _ ?_
      refine e_seq fun K1722 hK1722 => ?_
      refine e_block ?_
      refine e_seq fun K1723 hK1723 => ?_
      refine e_region_text rfl ?_
      obtain ⟨x1724, hx1724, ho1490⟩ := Option.of_bind ho1490
      refine q_indexO (by infer_instance) rfl (hS.own 1 rfl) rfl hx1724 rfl ?_
      have f1725 := (hS.ownR 1 rfl).elt hx1724
      have hc1726 := Pt_open f1725
      refine q_loadAgg rfl hc1726 rfl rfl ?_
      refine q_allocB rfl fun w1727 bl1727 hg1727 hb1727 hB1727 => ?_
      replace f1530 := f1530.ext hB1727
      replace f1531 := f1531.ext hB1727
      replace f1532 := f1532.ext hB1727
      replace hS := hS.newBlk hB1727 hg1727 hb1727
      refine q_storeAgg rfl rfl (hS.blk 0 rfl) rfl (Nat.le_of_ble_eq_true rfl) (all_cons rfl (all_cons rfl (all_nil))) rfl rfl fun w1729 hb1729 hO1729 => ?_
      simp only [setN, List.set, List.take, List.drop] at hb1729
      have hk1729 := hS.keptBlk 0 rfl hO1729
      replace f1530 := f1530.kept hk1729
      replace f1531 := f1531.kept hk1729
      replace f1532 := f1532.kept hk1729
      replace hS := hS.setBlk 0 rfl hb1729 hO1729; simp only [List.set] at hS
      refine eseq_nil ?_
      refine hK1723 _ _ ?_
      refine e_region_draw mixed (fun _ => False) [0, 1, 3, 3, 11, 31, 63, 3, 131, 511, 1023, 2047] [] [0, 1, 2, 3, 4, 5, 6, 7, 8, 9, 10, 11] (by kernel_rfl) ?_
      refine q_move rfl rfl ?_
      refine q_move rfl rfl ?_
      obtain ⟨x1735, hx1734, ho1490⟩ := Option.of_bind ho1490
      refine g_andM 8 hx1734 rfl trivial rfl rfl ?_ ?_ ?_
      · intro hg1734 hx1734
        clear ho1490
        have hT1734 := Below.refl (World.heap w1729).size w1729
        refine g_run rfl ?_; refine q_move rfl rfl ?_
        refine g_run rfl ?_; refine q_field rfl rfl ?_
        refine g_run rfl ?_; refine q_load rfl (Blk.cell (hS.blk 0 rfl) rfl) rfl ?_
        obtain ⟨x1736, hx1736, hx1734⟩ := Option.of_bind hx1734
        refine g_run rfl ?_; refine q_indexO (by infer_instance) rfl (hS.own 4 rfl) rfl hx1736 rfl ?_
        have f1737 := (hS.ownR 4 rfl).elt hx1736
        refine g_run rfl ?_; refine q_load rfl (Elt.intCell f1737) rfl ?_
        refine g_run rfl ?_; refine q_field rfl rfl ?_
        refine g_run rfl ?_; refine q_load rfl (Blk.cell (hS.blk 0 rfl) rfl) rfl ?_
        refine g_run rfl ?_; refine q_eql rfl rfl rfl ?_
        cases hx1734
        exact eseq_nil ⟨hT1734, Sub.set rfl (Sub.set rfl (Sub.set rfl (Sub.set rfl (Sub.set rfl (Sub.set rfl (Sub.set rfl (Sub.set rfl (Sub.bool true rfl hg1734)))))))), rfl⟩
      · intro hg1734
        refine g_skip rfl rfl rfl ?_
        refine g_skip rfl rfl rfl ?_
        refine g_skip rfl rfl rfl ?_
        refine g_skip rfl rfl rfl ?_
        refine g_skip rfl rfl rfl ?_
        refine g_skip rfl rfl rfl ?_
        refine g_skip rfl rfl rfl ?_
        refine g_skip rfl rfl rfl ?_
        exact eseq_nil ⟨rfl, Sub.set rfl (Sub.set rfl (Sub.set rfl (Sub.set rfl (Sub.set rfl (Sub.set rfl (Sub.set rfl (Sub.set rfl (Sub.bool false rfl hg1734))))))))⟩
      intro wm1734 hBm1734; clear hx1734
      replace hS := hS.below hBm1734
      replace f1530 := f1530.ext hBm1734
      replace f1531 := f1531.ext hBm1734
      replace f1532 := f1532.ext hBm1734
      refine q_assign rfl rfl ?_
      refine eseq_nil ?_
      refine hK1722 _ _ ?_
      refine e_region_text rfl ?_
      refine q_addW rfl rfl rfl ?_
      refine q_move rfl rfl ?_
      refine eseq_nil ?_
      obtain rfl := Option.some.inj ho1490
      exact ⟨m1490, _, Nat.lt_succ_self _, ⟨x1735, (w64 (x1537 + 1)), _, ht1490, (hS.pickB [1, 2, 3, 4] 5 rfl rfl), f1530, f1531, f1532, rfl⟩, Sub.cons rfl (Sub.cons rfl (Sub.cons rfl (Sub.cons rfl (Sub.cons rfl (Sub.cons rfl (Sub.cons rfl (Sub.cons rfl (Sub.cons rfl (Sub.nil _)))))))))⟩
    · replace ho1490 := (if_neg (not_true hc1721)).symm.trans ho1490
      refine e_exit ?_
      obtain rfl := Option.some.inj ho1490
      obtain rfl := Option.some.inj ht1490
      exact hX1490_2 x1536 _ _ _ ho916 hS f1530 f1531 f1532 (Sub.cons rfl (Sub.cons rfl (Sub.cons rfl (Sub.cons rfl (Sub.cons rfl (Sub.cons rfl (Sub.nil _)))))))
end Go.Proofs.Ytlceljfigccllaa
