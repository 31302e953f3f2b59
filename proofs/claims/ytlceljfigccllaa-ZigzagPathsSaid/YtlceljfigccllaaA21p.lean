/- Printed walks: A21p. -/
import Derived.Test.YtlceljfigccllaaA20x
import Derived.Test.YtlceljfigccllaaA19r
set_option linter.unusedVariables false
set_option linter.unusedSimpArgs false
namespace Go.Mine
open Go.RowKit
def ref21_Path_K2 (fuel : Nat) : Option (Bool) :=
  some false
def ref21_Path_B1 (fuel : Nat) (a0 : Pat) (a2 : Pt) (a1 : Pt) (r619 : ((List (List Bool)))) (x713 : Int) : Option ((Int) ⊕ (Unit ⊕ (Bool))) :=
  (if (decide (x713 < (a0.arcs.length : Int))) = true then (ati a0.arcs x713).bind fun x796 => (orM (x796.rcv == 0) (some (x796.to != a2.proc))).bind fun x819 => (orM x819 ((ref16_Interval fuel (⟨a0.lens, a0.ckpts, a0.arcs⟩ : Pat) x796.to x796.rcv).bind fun r827 => some (decide (a2.index < r827)))).bind fun x825 => (if x825 = true then some (Sum.inl (w64 (x713 + 1))) else (ref16_Interval fuel (⟨a0.lens, a0.ckpts, a0.arcs⟩ : Pat) x796.fr x796.ix).bind fun r831 => (andM (x796.fr == a1.proc) (some (decide (a1.index < r831)))).bind fun x836 => (orM x836 ((ati r619 x796.fr).bind fun x844 => (ati x844 r831).bind fun x845 => some x845)).bind fun x843 => (if x843 = true then some (Sum.inr (Sum.inr true)) else some (Sum.inl (w64 (x713 + 1))))) else some (Sum.inr (Sum.inl ())))
def ref21_Path_K1 (fuel : Nat) (a0 : Pat) (a2 : Pt) (a1 : Pt) (x615 : (List Pt)) : Option (Bool) :=
  (ref20_Reach fuel (⟨a0.lens, a0.ckpts, a0.arcs⟩ : Pat) x615).bind fun r619 => (iter (fun s => ref21_Path_B1 fuel a0 a2 a1 r619 s) fuel 0).bind (fun t => Sum.elim (fun t => ref21_Path_K2 fuel) (fun t => some t) t)
def ref21_Path_B2 (fuel : Nat) (a0 : Pat) (a1 : Pt) (x541 : (List Pt)) (x542 : Int) : Option (((List Pt) × Int) ⊕ ((List Pt))) :=
  (if (decide (x542 < (a0.arcs.length : Int))) = true then (ati a0.arcs x542).bind fun x855 => (andM (decide (0 < x855.rcv)) (some (x855.fr == a1.proc))).bind fun x877 => (andM x877 ((ref16_Interval fuel (⟨a0.lens, a0.ckpts, a0.arcs⟩ : Pat) x855.fr x855.ix).bind fun r885 => some (decide (a1.index < r885)))).bind fun x883 => (if x883 = true then (ref16_Interval fuel (⟨a0.lens, a0.ckpts, a0.arcs⟩ : Pat) x855.to x855.rcv).bind fun r894 => (snoc x541 (⟨x855.to, r894⟩ : Pt)).bind fun x898 => some (Sum.inl (x898, (w64 (x542 + 1)))) else some (Sum.inl (x541, (w64 (x542 + 1))))) else some (Sum.inr x541))
def ref21_Path (fuel : Nat) (a0 : Pat) (a1 : Pt) (a2 : Pt) : Option (Bool) :=
  (iter (fun s => ref21_Path_B2 fuel a0 a1 s.1 s.2) fuel (([] : List Pt), 0)).bind (fun t => ref21_Path_K1 fuel a0 a2 a1 t)
end Go.Mine
namespace Go.Proofs.Ytlceljfigccllaa
open Go.RowKit Go.Mine
attribute [local irreducible] eseq ewp iter
theorem ref21_Path_w {F R : Nat → Prop} {w : World} {fuel : Nat} {a0 : Pat} {a1 : Pt} {a2 : Pt} {v1 : Value} {v2 : Value} {v3 : Value} {r : (Bool)} (hS : Sep F R R w w []) (f1 : IsSlice Ty.int w R v1 a0.lens) (f2 : IsSlice (Ty.slice Ty.int) w R v2 a0.ckpts) (f3 : IsSlice arcTy w R v3 a0.arcs) (h : ref21_Path fuel a0 a1 a2 = some r) :
    Gives Try.prog 22 [.agg #[v1, v2, v3], .agg #[.int .i64 a1.proc, .int .i64 a1.index], .agg #[.int .i64 a2.proc, .int .i64 a2.index]] w fun u w1 => ∃ (R1 : Nat → Prop), u = .bool r ∧ Sep F R R1 w w1 [] := by
  refine fn_of Try.func22 rfl Try.ntmps22 (Nat.le_of_ble_eq_true rfl) ?_
  unfold ref21_Path at h
  refine e_seq fun K452 hK452 => ?_
  refine e_region_text rfl ?_
  refine q_boxB rfl rfl rfl fun w453 bl453 hg453 hb453 hB453 => ?_
  replace f1 := f1.ext hB453
  replace f2 := f2.ext hB453
  replace f3 := f3.ext hB453
  replace hS := hS.newBlk hB453 hg453 hb453
  refine q_boxB rfl rfl rfl fun w455 bl455 hg455 hb455 hB455 => ?_
  replace f1 := f1.ext hB455
  replace f2 := f2.ext hB455
  replace f3 := f3.ext hB455
  replace hS := hS.newBlk hB455 hg455 hb455
  refine q_boxB rfl rfl rfl fun w457 bl457 hg457 hb457 hB457 => ?_
  replace f1 := f1.ext hB457
  replace f2 := f2.ext hB457
  replace f3 := f3.ext hB457
  replace hS := hS.newBlk hB457 hg457 hb457
  refine q_assign rfl rfl ?_
  refine eseq_nil ?_
  refine hK452 _ _ ?_
  refine e_seq fun K459 hK459 => ?_
  refine e_region_text rfl ?_
  refine q_assign rfl rfl ?_
  refine eseq_nil ?_
  refine hK459 _ _ ?_
  refine e_seq fun K460 hK460 => ?_
  refine e_seq fun K461 hK461 => ?_
  refine e_region_text rfl ?_
  refine q_assign rfl rfl ?_
  refine eseq_nil ?_
  refine hK461 _ _ ?_
  refine e_block ?_
  obtain ⟨tl462, ht462, h⟩ := Option.of_bind h
  have hX462_0 : ∀ (x615 : (List Pt)) (v614 : Value) (R608 : Nat → Prop) (w609 : World) (E_ : Env), ref21_Path_K1 fuel a0 a2 a1 x615 = some r → Sep F R R608 w w609 [HP.blk bl453 [v1, v2, v3] 28, HP.blk bl455 [.int .i64 a1.proc, .int .i64 a1.index] 36, HP.blk bl457 [.int .i64 a2.proc, .int .i64 a2.index] 36, HP.own ptTy (fun _ => False) 36 v614 x615] → IsSlice Ty.int w609 R608 v1 a0.lens → IsSlice (Ty.slice Ty.int) w609 R608 v2 a0.ckpts → IsSlice arcTy w609 R608 v3 a0.arcs → Sub [(3, .pointer (some ⟨bl453, 0, none⟩)), (4, .pointer (some ⟨bl455, 0, none⟩)), (5, .pointer (some ⟨bl457, 0, none⟩)), (7, v614)] E_ → K460 E_ w609 := by
    intro x615 v614 R608 w609 E_ h hS f610 f611 f612 hsub
    refine hK460 _ _ (e_sub hsub ?_); clear hsub
    unfold ref21_Path_K1 at h
    refine e_seq fun K616 hK616 => ?_
    refine e_region_text rfl ?_
    refine q_loadAgg rfl (Blk.cellsAt (hS.blk 0 rfl) 0 3 rfl) rfl rfl ?_
    refine q_move rfl rfl ?_
    obtain ⟨R618, hS, hm618, f618⟩ := hS.freezeOwn 3 rfl; simp only [List.eraseIdx] at hS
    replace f610 := f610.mono fun k hk _ => hm618 k hk
    replace f611 := f611.mono fun k hk _ => hm618 k hk
    replace f612 := f612.mono fun k hk _ => hm618 k hk
    obtain ⟨r619, hr619, h⟩ := Option.of_bind h
    refine q_call rfl (ref20_Reach_w (a0 := (⟨a0.lens, a0.ckpts, a0.arcs⟩ : Pat)) (Sep.enter (As := []) hS) f610 f611 f612 f618 hr619) rfl ?_
    rintro v620 w617 ⟨_, v621, R617, rfl, hC617⟩
    have hB617 : Below (World.heap w609).size w609 w617 := hC617.stepB0
    refine ⟨fun _ => .of_below hB617, ?_⟩
    replace f610 := (f610.ext hB617).mono fun k hk _ => hC617.ro0 k hk
    replace f611 := (f611.ext hB617).mono fun k hk _ => hC617.ro0 k hk
    replace f612 := (f612.ext hB617).mono fun k hk _ => hC617.ro0 k hk
    replace f618 := (f618.ext hB617).mono fun k hk _ => hC617.ro0 k hk
    replace hS := Sep.leave (As := []) hS hC617; simp only [List.cons_append, List.nil_append] at hS
    refine q_assign rfl rfl ?_
    refine eseq_nil ?_
    refine hK616 _ _ ?_
    refine e_seq fun K622 hK622 => ?_
    refine e_seq fun K623 hK623 => ?_
    refine e_region_text rfl ?_
    refine q_assign rfl rfl ?_
    refine eseq_nil ?_
    refine hK623 _ _ ?_
    refine e_block ?_
    obtain ⟨tl624, ht624, h⟩ := Option.of_bind h
    have hX624_2 : ∀ (R788 : Nat → Prop) (w789 : World) (E_ : Env), ref21_Path_K2 fuel = some r → Sep F R R788 w w789 [] → Sub [] E_ → K622 E_ w789 := by
      intro R788 w789 E_ h hS  hsub
      refine hK622 _ _ (e_sub hsub ?_); clear hsub
      unfold ref21_Path_K2 at h
      refine e_seq fun K790 hK790 => ?_
      refine e_region_text rfl ?_
      refine q_assign rfl rfl ?_
      refine eseq_nil ?_
      refine hK790 _ _ ?_
      refine e_ret ?_
      obtain rfl := Option.some.inj h
      exact ⟨_, res1 rfl rfl, _, rfl, hS⟩
    refine e_loop (fun m_ E_ w707 => ∃ (x713 : Int), ∃ (R706 : Nat → Prop), iter (fun s => ref21_Path_B1 fuel a0 a2 a1 r619 s) m_ x713 = some tl624 ∧ Sep F R R706 w w707 [HP.blk bl453 [v1, v2, v3] 28, HP.blk bl455 [.int .i64 a1.proc, .int .i64 a1.index] 36, HP.blk bl457 [.int .i64 a2.proc, .int .i64 a2.index] 36, HP.own Ty.raw (fun _ => False) 92 v620 v621, HP.famS Ty.bool (fun _ => False) 4 v621 r619] ∧ IsSlice Ty.int w707 R706 v1 a0.lens ∧ IsSlice (Ty.slice Ty.int) w707 R706 v2 a0.ckpts ∧ IsSlice arcTy w707 R706 v3 a0.arcs ∧ E_ = [(3, .pointer (some ⟨bl453, 0, none⟩)), (4, .pointer (some ⟨bl455, 0, none⟩)), (5, .pointer (some ⟨bl457, 0, none⟩)), (10, v620), (11, .int .i64 x713)]) _ ⟨_, ⟨0, _, ht624, (hS.pickB [2, 3, 4, 0, 1] 5 rfl rfl), f610, f611, f612, rfl⟩, Sub.cons rfl (Sub.cons rfl (Sub.cons rfl (Sub.cons rfl (Sub.cons rfl (Sub.nil _)))))⟩ ?_
    clear ht624 hS
    rintro m624 _ w707 ⟨x713, R706, ht624, hS, f708, f709, f710, rfl⟩
    obtain ⟨m624, rfl, o624, ho624, ht624⟩ := iter_some ht624
    replace ho624 : ref21_Path_B1 fuel a0 a2 a1 r619 x713 = some o624 := ho624
    unfold ref21_Path_B1 at ho624
    refine e_seq fun K791 hK791 => ?_
    refine e_seq fun K792 hK792 => ?_
    refine e_region_text rfl ?_
    refine q_move rfl rfl ?_
    refine q_field rfl rfl ?_
    refine q_load rfl (Blk.cell (hS.blk 0 rfl) rfl) rfl ?_
    refine q_lenS rfl f710 rfl ?_
    refine q_lss rfl rfl rfl ?_
    refine eseq_nil ?_
    refine hK792 _ _ ?_
    refine e_cond rfl (fun hc793 => ?_) (fun hc793 => ?_)
    · replace ho624 := (if_pos hc793).symm.trans ho624
      refine e_skip ?_
      refine hK791 _ _ ?_
      refine e_seq fun K794 hK794 => ?_
      refine e_block ?_
      refine e_seq fun K795 hK795 => ?_
      refine e_region_text rfl ?_
      refine q_field rfl rfl ?_
      refine q_load rfl (Blk.cell (hS.blk 0 rfl) rfl) rfl ?_
      refine q_move rfl rfl ?_
      obtain ⟨x796, hx796, ho624⟩ := Option.of_bind ho624
      refine q_atS (by infer_instance) rfl f710 rfl hx796 rfl fun b797 o797 hm797 f797 => ?_
      have hc798 := Arc_open f797
      refine q_loadAgg rfl hc798 rfl rfl ?_
      refine q_allocB rfl fun w799 bl799 hg799 hb799 hB799 => ?_
      replace f708 := f708.ext hB799
      replace f709 := f709.ext hB799
      replace f710 := f710.ext hB799
      replace hS := hS.newBlk hB799 hg799 hb799
      refine q_storeAgg rfl rfl (hS.blk 0 rfl) rfl (Nat.le_of_ble_eq_true rfl) (all_cons rfl (all_cons rfl (all_cons rfl (all_cons rfl (all_nil))))) rfl rfl fun w801 hb801 hO801 => ?_
      simp only [setN, List.set, List.take, List.drop] at hb801
      have hk801 := hS.keptBlk 0 rfl hO801
      replace f708 := f708.kept hk801
      replace f709 := f709.kept hk801
      replace f710 := f710.kept hk801
      replace hS := hS.setBlk 0 rfl hb801 hO801; simp only [List.set] at hS
      refine eseq_nil ?_
      refine hK795 _ _ ?_
      refine e_seq fun K802 hK802 => ?_
      refine e_seq fun K803 hK803 => ?_
      refine e_region_draw mixed (fun _ => False) [0, 1, 3, 7, 15, 31, 15, 79, 255, 511, 1023, 2047, 2047, 6143, 2047, 18431, 65535, 2047, 133119, 524287, 1048575] [16] [0, 1, 2, 3, 4, 5, 6, 7, 8, 9, 10, 11, 12, 13, 14, 15, 17, 18, 16, 19, 20] (by kernel_rfl) ?_
      refine q_field rfl rfl ?_
      refine q_load rfl (Blk.cell (hS.blk 0 rfl) rfl) rfl ?_
      refine q_eql rfl rfl rfl ?_
      refine q_move rfl rfl ?_
      obtain ⟨x819, hx818, ho624⟩ := Option.of_bind ho624
      refine g_orM 5 hx818 rfl trivial rfl rfl ?_ ?_ ?_
      · intro hg818
        refine g_skip rfl rfl rfl ?_
        refine g_skip rfl rfl rfl ?_
        refine g_skip rfl rfl rfl ?_
        refine g_skip rfl rfl rfl ?_
        refine g_skip rfl rfl rfl ?_
        exact eseq_nil ⟨rfl, Sub.set rfl (Sub.set rfl (Sub.set rfl (Sub.set rfl (Sub.set rfl (Sub.bool true rfl hg818)))))⟩
      · intro hg818 hx818
        clear ho624
        have hT818 := Below.refl (World.heap w801).size w801
        refine g_run rfl ?_; refine q_field rfl rfl ?_
        refine g_run rfl ?_; refine q_load rfl (Blk.cell (hS.blk 0 rfl) rfl) rfl ?_
        refine g_run rfl ?_; refine q_field rfl rfl ?_
        refine g_run rfl ?_; refine q_load rfl (Blk.cell (hS.blk 3 rfl) rfl) rfl ?_
        refine g_run rfl ?_; refine q_neq rfl rfl rfl ?_
        cases hx818
        exact eseq_nil ⟨hT818, Sub.set rfl (Sub.set rfl (Sub.set rfl (Sub.set rfl (Sub.set rfl (Sub.bool false rfl hg818))))), rfl⟩
      intro wm818 hBm818; clear hx818
      replace hS := hS.below hBm818
      replace f708 := f708.ext hBm818
      replace f709 := f709.ext hBm818
      replace f710 := f710.ext hBm818
      refine q_move rfl rfl ?_
      obtain ⟨x825, hx824, ho624⟩ := Option.of_bind ho624
      refine g_orM 9 hx824 rfl trivial rfl rfl ?_ ?_ ?_
      · intro hg824
        refine g_skip rfl rfl rfl ?_
        refine g_skip rfl rfl rfl ?_
        refine g_skip rfl rfl rfl ?_
        refine g_skip rfl rfl rfl ?_
        refine g_skip rfl rfl rfl ?_
        refine g_skip rfl rfl rfl ?_
        refine g_skip rfl rfl rfl ?_
        refine g_skip rfl rfl rfl ?_
        refine g_skip rfl rfl rfl ?_
        exact eseq_nil ⟨rfl, Sub.set rfl (Sub.set rfl (Sub.set rfl (Sub.set rfl (Sub.set rfl (Sub.set rfl (Sub.set rfl (Sub.set rfl (Sub.set rfl (Sub.bool true rfl hg824)))))))))⟩
      · intro hg824 hx824
        clear ho624
        have hT824 := Below.refl (World.heap wm818).size wm818
        refine g_run rfl ?_; refine q_loadAgg rfl (Blk.cellsAt (hS.blk 1 rfl) 0 3 rfl) rfl rfl ?_
        refine g_run rfl ?_; refine q_field rfl rfl ?_
        refine g_run rfl ?_; refine q_load rfl (Blk.cell (hS.blk 0 rfl) rfl) rfl ?_
        refine g_run rfl ?_; refine q_field rfl rfl ?_
        refine g_run rfl ?_; refine q_load rfl (Blk.cell (hS.blk 0 rfl) rfl) rfl ?_
        refine g_run rfl ?_; refine q_field rfl rfl ?_
        refine g_run rfl ?_; refine q_load rfl (Blk.cell (hS.blk 3 rfl) rfl) rfl ?_
        obtain ⟨r827, hr827, hx824⟩ := Option.of_bind hx824
        refine g_run rfl ?_; refine q_call rfl (ref16_Interval_w (a0 := (⟨a0.lens, a0.ckpts, a0.arcs⟩ : Pat)) (Sep.enter (As := []) hS) f708 f709 f710 hr827) rfl ?_
        rintro _ w826 ⟨R826, rfl, hC826⟩
        have hB826 : Below (World.heap wm818).size wm818 w826 := hC826.stepB0
        refine ⟨fun _ => .of_below hB826, ?_⟩
        replace f708 := (f708.ext hB826).mono fun k hk _ => hC826.ro0 k hk
        replace f709 := (f709.ext hB826).mono fun k hk _ => hC826.ro0 k hk
        replace f710 := (f710.ext hB826).mono fun k hk _ => hC826.ro0 k hk
        replace hT824 := hT824.trans (Below.mono hB826 hT824.size)
        replace hS := Sep.leave (As := []) hS hC826; simp only [List.cons_append, List.nil_append] at hS
        refine g_run rfl ?_; refine q_gtr rfl rfl rfl ?_
        cases hx824
        exact eseq_nil ⟨hT824, Sub.set rfl (Sub.set rfl (Sub.set rfl (Sub.set rfl (Sub.set rfl (Sub.set rfl (Sub.set rfl (Sub.set rfl (Sub.set rfl (Sub.bool false rfl hg824))))))))), rfl⟩
      intro wm824 hBm824; clear hx824
      replace hS := hS.below hBm824
      replace f708 := f708.ext hBm824
      replace f709 := f709.ext hBm824
      replace f710 := f710.ext hBm824
      refine eseq_nil ?_
      refine hK803 _ _ ?_
      refine e_cond rfl (fun hc828 => ?_) (fun hc828 => ?_)
      · replace ho624 := (if_pos hc828).symm.trans ho624
        refine e_exit ?_
        refine hK794 _ _ ?_
        refine e_region_text rfl ?_
        refine q_move rfl rfl ?_
        refine q_addW rfl rfl rfl ?_
        refine q_assign rfl rfl ?_
        refine eseq_nil ?_
        obtain rfl := Option.some.inj ho624
        exact ⟨m624, _, Nat.lt_succ_self _, ⟨(w64 (x713 + 1)), _, ht624, (hS.pickB [1, 2, 3, 4, 5] 6 rfl rfl), f708, f709, f710, rfl⟩, Sub.cons rfl (Sub.cons rfl (Sub.cons rfl (Sub.cons rfl (Sub.cons rfl (Sub.nil _)))))⟩
      · replace ho624 := (if_neg (not_true hc828)).symm.trans ho624
        refine e_skip ?_
        refine hK802 _ _ ?_
        refine e_seq fun K829 hK829 => ?_
        refine e_region_text rfl ?_
        refine q_loadAgg rfl (Blk.cellsAt (hS.blk 1 rfl) 0 3 rfl) rfl rfl ?_
        refine q_field rfl rfl ?_
        refine q_load rfl (Blk.cell (hS.blk 0 rfl) rfl) rfl ?_
        refine q_field rfl rfl ?_
        refine q_load rfl (Blk.cell (hS.blk 0 rfl) rfl) rfl ?_
        obtain ⟨r831, hr831, ho624⟩ := Option.of_bind ho624
        refine q_call rfl (ref16_Interval_w (a0 := (⟨a0.lens, a0.ckpts, a0.arcs⟩ : Pat)) (Sep.enter (As := []) hS) f708 f709 f710 hr831) rfl ?_
        rintro _ w830 ⟨R830, rfl, hC830⟩
        have hB830 : Below (World.heap wm824).size wm824 w830 := hC830.stepB0
        refine ⟨fun _ => .of_below hB830, ?_⟩
        replace f708 := (f708.ext hB830).mono fun k hk _ => hC830.ro0 k hk
        replace f709 := (f709.ext hB830).mono fun k hk _ => hC830.ro0 k hk
        replace f710 := (f710.ext hB830).mono fun k hk _ => hC830.ro0 k hk
        replace hS := Sep.leave (As := []) hS hC830; simp only [List.cons_append, List.nil_append] at hS
        refine q_assign rfl rfl ?_
        refine eseq_nil ?_
        refine hK829 _ _ ?_
        refine e_seq fun K832 hK832 => ?_
        refine e_region_text rfl ?_
        refine q_field rfl rfl ?_
        refine q_load rfl (Blk.cell (hS.blk 0 rfl) rfl) rfl ?_
        refine q_field rfl rfl ?_
        refine q_load rfl (Blk.cell (hS.blk 2 rfl) rfl) rfl ?_
        refine q_eql rfl rfl rfl ?_
        refine q_move rfl rfl ?_
        obtain ⟨x836, hx835, ho624⟩ := Option.of_bind ho624
        refine g_andM 4 hx835 rfl trivial rfl rfl ?_ ?_ ?_
        · intro hg835 hx835
          clear ho624
          have hT835 := Below.refl (World.heap w830).size w830
          refine g_run rfl ?_; refine q_move rfl rfl ?_
          refine g_run rfl ?_; refine q_field rfl rfl ?_
          refine g_run rfl ?_; refine q_load rfl (Blk.cell (hS.blk 2 rfl) rfl) rfl ?_
          refine g_run rfl ?_; refine q_gtr rfl rfl rfl ?_
          cases hx835
          exact eseq_nil ⟨hT835, Sub.set rfl (Sub.set rfl (Sub.set rfl (Sub.set rfl (Sub.bool true rfl hg835)))), rfl⟩
        · intro hg835
          refine g_skip rfl rfl rfl ?_
          refine g_skip rfl rfl rfl ?_
          refine g_skip rfl rfl rfl ?_
          refine g_skip rfl rfl rfl ?_
          exact eseq_nil ⟨rfl, Sub.set rfl (Sub.set rfl (Sub.set rfl (Sub.set rfl (Sub.bool false rfl hg835))))⟩
        intro wm835 hBm835; clear hx835
        replace hS := hS.below hBm835
        replace f708 := f708.ext hBm835
        replace f709 := f709.ext hBm835
        replace f710 := f710.ext hBm835
        refine q_move rfl rfl ?_
        obtain ⟨x843, hx842, ho624⟩ := Option.of_bind ho624
        refine g_orM 8 hx842 rfl trivial rfl rfl ?_ ?_ ?_
        · intro hg842
          refine g_skip rfl rfl rfl ?_
          refine g_skip rfl rfl rfl ?_
          refine g_skip rfl rfl rfl ?_
          refine g_skip rfl rfl rfl ?_
          refine g_skip rfl rfl rfl ?_
          refine g_skip rfl rfl rfl ?_
          refine g_skip rfl rfl rfl ?_
          refine g_skip rfl rfl rfl ?_
          exact eseq_nil ⟨rfl, Sub.set rfl (Sub.set rfl (Sub.set rfl (Sub.set rfl (Sub.set rfl (Sub.set rfl (Sub.set rfl (Sub.set rfl (Sub.bool true rfl hg842))))))))⟩
        · intro hg842 hx842
          clear ho624
          have hT842 := Below.refl (World.heap wm835).size wm835
          refine g_run rfl ?_; refine q_move rfl rfl ?_
          refine g_run rfl ?_; refine q_field rfl rfl ?_
          refine g_run rfl ?_; refine q_load rfl (Blk.cell (hS.blk 0 rfl) rfl) rfl ?_
          obtain ⟨x844, hx844, hx842⟩ := Option.of_bind hx842
          have hax844 := ati_nth (hS.famLen 5 rfl) hx844
          refine g_run rfl ?_; refine q_indexO (T := Ty.raw) (by infer_instance) rfl (hS.own 4 rfl) rfl hax844 rfl ?_
          refine g_run rfl ?_; refine q_load rfl (Elt.rawCell ((hS.own 4 rfl).elt hax844)) rfl ?_
          refine g_run rfl ?_; refine q_move rfl rfl ?_
          obtain ⟨x845, hx845, hx842⟩ := Option.of_bind hx842
          refine g_run rfl ?_; refine q_indexO (by infer_instance) rfl (hS.famO 5 rfl hx844) rfl hx845 rfl ?_
          have f846 := (hS.famOR 5 rfl hx844).elt hx845
          refine g_run rfl ?_; refine q_load rfl (Elt.boolCell f846) rfl ?_
          cases hx842
          exact eseq_nil ⟨hT842, Sub.set rfl (Sub.set rfl (Sub.set rfl (Sub.set rfl (Sub.set rfl (Sub.set rfl (Sub.set rfl (Sub.set rfl (Sub.bool false rfl hg842)))))))), rfl⟩
        intro wm842 hBm842; clear hx842
        replace hS := hS.below hBm842
        replace f708 := f708.ext hBm842
        replace f709 := f709.ext hBm842
        replace f710 := f710.ext hBm842
        refine eseq_nil ?_
        refine hK832 _ _ ?_
        refine e_cond rfl (fun hc847 => ?_) (fun hc847 => ?_)
        · replace ho624 := (if_pos hc847).symm.trans ho624
          refine e_seq fun K848 hK848 => ?_
          refine e_region_text rfl ?_
          refine q_assign rfl rfl ?_
          refine eseq_nil ?_
          refine hK848 _ _ ?_
          refine e_ret ?_
          obtain rfl := Option.some.inj ho624
          obtain rfl := Option.some.inj ht624
          obtain rfl := Option.some.inj h
          exact ⟨_, res1 rfl rfl, _, rfl, (hS.pickB [] 6 rfl rfl)⟩
        · replace ho624 := (if_neg (not_true hc847)).symm.trans ho624
          refine e_skip ?_
          refine hK794 _ _ ?_
          refine e_region_text rfl ?_
          refine q_move rfl rfl ?_
          refine q_addW rfl rfl rfl ?_
          refine q_assign rfl rfl ?_
          refine eseq_nil ?_
          obtain rfl := Option.some.inj ho624
          exact ⟨m624, _, Nat.lt_succ_self _, ⟨(w64 (x713 + 1)), _, ht624, (hS.pickB [1, 2, 3, 4, 5] 6 rfl rfl), f708, f709, f710, rfl⟩, Sub.cons rfl (Sub.cons rfl (Sub.cons rfl (Sub.cons rfl (Sub.cons rfl (Sub.nil _)))))⟩
    · replace ho624 := (if_neg (not_true hc793)).symm.trans ho624
      refine e_exit ?_
      obtain rfl := Option.some.inj ho624
      obtain rfl := Option.some.inj ht624
      exact hX624_2  _ _ _ h (hS.pickB [] 5 rfl rfl)  (Sub.nil _)
  replace hS := hS.nilOwn0 ptTy 36
  refine e_loop (fun m_ E_ w535 => ∃ (x541 : (List Pt)), ∃ (x542 : Int), ∃ (v540 : Value), ∃ (R534 : Nat → Prop), iter (fun s => ref21_Path_B2 fuel a0 a1 s.1 s.2) m_ (x541, x542) = some tl462 ∧ Sep F R R534 w w535 [HP.blk bl453 [v1, v2, v3] 28, HP.blk bl455 [.int .i64 a1.proc, .int .i64 a1.index] 36, HP.blk bl457 [.int .i64 a2.proc, .int .i64 a2.index] 36, HP.own ptTy (fun _ => False) 36 v540 x541] ∧ IsSlice Ty.int w535 R534 v1 a0.lens ∧ IsSlice (Ty.slice Ty.int) w535 R534 v2 a0.ckpts ∧ IsSlice arcTy w535 R534 v3 a0.arcs ∧ E_ = [(3, .pointer (some ⟨bl453, 0, none⟩)), (4, .pointer (some ⟨bl455, 0, none⟩)), (5, .pointer (some ⟨bl457, 0, none⟩)), (7, v540), (8, .int .i64 x542)]) _ ⟨_, ⟨([] : List Pt), 0, (.slice none 0 0), _, ht462, (hS.pickB [3, 2, 1, 0] 4 rfl rfl), f1, f2, f3, rfl⟩, Sub.cons rfl (Sub.cons rfl (Sub.cons rfl (Sub.cons rfl (Sub.cons rfl (Sub.nil _)))))⟩ ?_
  clear ht462 hS
  rintro m462 _ w535 ⟨x541, x542, v540, R534, ht462, hS, f536, f537, f538, rfl⟩
  obtain ⟨m462, rfl, o462, ho462, ht462⟩ := iter_some ht462
  replace ho462 : ref21_Path_B2 fuel a0 a1 x541 x542 = some o462 := ho462
  unfold ref21_Path_B2 at ho462
  refine e_seq fun K850 hK850 => ?_
  refine e_seq fun K851 hK851 => ?_
  refine e_region_text rfl ?_
  refine q_move rfl rfl ?_
  refine q_field rfl rfl ?_
  refine q_load rfl (Blk.cell (hS.blk 0 rfl) rfl) rfl ?_
  refine q_lenS rfl f538 rfl ?_
  refine q_lss rfl rfl rfl ?_
  refine eseq_nil ?_
  refine hK851 _ _ ?_
  refine e_cond rfl (fun hc852 => ?_) (fun hc852 => ?_)
  · replace ho462 := (if_pos hc852).symm.trans ho462
    refine e_skip ?_
    refine hK850 _ _ ?_
    refine e_seq fun K853 hK853 => ?_
    refine e_block ?_
    refine e_seq fun K854 hK854 => ?_
    refine e_region_text rfl ?_
    refine q_field rfl rfl ?_
    refine q_load rfl (Blk.cell (hS.blk 0 rfl) rfl) rfl ?_
    refine q_move rfl rfl ?_
    obtain ⟨x855, hx855, ho462⟩ := Option.of_bind ho462
    refine q_atS (by infer_instance) rfl f538 rfl hx855 rfl fun b856 o856 hm856 f856 => ?_
    have hc857 := Arc_open f856
    refine q_loadAgg rfl hc857 rfl rfl ?_
    refine q_allocB rfl fun w858 bl858 hg858 hb858 hB858 => ?_
    replace f536 := f536.ext hB858
    replace f537 := f537.ext hB858
    replace f538 := f538.ext hB858
    replace hS := hS.newBlk hB858 hg858 hb858
    refine q_storeAgg rfl rfl (hS.blk 0 rfl) rfl (Nat.le_of_ble_eq_true rfl) (all_cons rfl (all_cons rfl (all_cons rfl (all_cons rfl (all_nil))))) rfl rfl fun w860 hb860 hO860 => ?_
    simp only [setN, List.set, List.take, List.drop] at hb860
    have hk860 := hS.keptBlk 0 rfl hO860
    replace f536 := f536.kept hk860
    replace f537 := f537.kept hk860
    replace f538 := f538.kept hk860
    replace hS := hS.setBlk 0 rfl hb860 hO860; simp only [List.set] at hS
    refine eseq_nil ?_
    refine hK854 _ _ ?_
    refine e_seq fun K861 hK861 => ?_
    refine e_region_draw mixed (fun _ => False) [0, 1, 3, 7, 15, 31, 15, 79, 255, 511, 1023, 2047, 2047, 6143, 2047, 18431, 65535, 2047, 133119, 524287, 1048575] [16] [0, 1, 2, 3, 4, 5, 6, 7, 8, 9, 10, 11, 12, 13, 14, 15, 17, 18, 16, 19, 20] (by kernel_rfl) ?_
    refine q_field rfl rfl ?_
    refine q_load rfl (Blk.cell (hS.blk 0 rfl) rfl) rfl ?_
    refine q_gtr rfl rfl rfl ?_
    refine q_move rfl rfl ?_
    obtain ⟨x877, hx876, ho462⟩ := Option.of_bind ho462
    refine g_andM 5 hx876 rfl trivial rfl rfl ?_ ?_ ?_
    · intro hg876 hx876
      clear ho462
      have hT876 := Below.refl (World.heap w860).size w860
      refine g_run rfl ?_; refine q_field rfl rfl ?_
      refine g_run rfl ?_; refine q_load rfl (Blk.cell (hS.blk 0 rfl) rfl) rfl ?_
      refine g_run rfl ?_; refine q_field rfl rfl ?_
      refine g_run rfl ?_; refine q_load rfl (Blk.cell (hS.blk 2 rfl) rfl) rfl ?_
      refine g_run rfl ?_; refine q_eql rfl rfl rfl ?_
      cases hx876
      exact eseq_nil ⟨hT876, Sub.set rfl (Sub.set rfl (Sub.set rfl (Sub.set rfl (Sub.set rfl (Sub.bool true rfl hg876))))), rfl⟩
    · intro hg876
      refine g_skip rfl rfl rfl ?_
      refine g_skip rfl rfl rfl ?_
      refine g_skip rfl rfl rfl ?_
      refine g_skip rfl rfl rfl ?_
      refine g_skip rfl rfl rfl ?_
      exact eseq_nil ⟨rfl, Sub.set rfl (Sub.set rfl (Sub.set rfl (Sub.set rfl (Sub.set rfl (Sub.bool false rfl hg876)))))⟩
    intro wm876 hBm876; clear hx876
    replace hS := hS.below hBm876
    replace f536 := f536.ext hBm876
    replace f537 := f537.ext hBm876
    replace f538 := f538.ext hBm876
    refine q_move rfl rfl ?_
    obtain ⟨x883, hx882, ho462⟩ := Option.of_bind ho462
    refine g_andM 9 hx882 rfl trivial rfl rfl ?_ ?_ ?_
    · intro hg882 hx882
      clear ho462
      have hT882 := Below.refl (World.heap wm876).size wm876
      refine g_run rfl ?_; refine q_loadAgg rfl (Blk.cellsAt (hS.blk 1 rfl) 0 3 rfl) rfl rfl ?_
      refine g_run rfl ?_; refine q_field rfl rfl ?_
      refine g_run rfl ?_; refine q_load rfl (Blk.cell (hS.blk 0 rfl) rfl) rfl ?_
      refine g_run rfl ?_; refine q_field rfl rfl ?_
      refine g_run rfl ?_; refine q_load rfl (Blk.cell (hS.blk 0 rfl) rfl) rfl ?_
      refine g_run rfl ?_; refine q_field rfl rfl ?_
      refine g_run rfl ?_; refine q_load rfl (Blk.cell (hS.blk 2 rfl) rfl) rfl ?_
      obtain ⟨r885, hr885, hx882⟩ := Option.of_bind hx882
      refine g_run rfl ?_; refine q_call rfl (ref16_Interval_w (a0 := (⟨a0.lens, a0.ckpts, a0.arcs⟩ : Pat)) (Sep.enter (As := []) hS) f536 f537 f538 hr885) rfl ?_
      rintro _ w884 ⟨R884, rfl, hC884⟩
      have hB884 : Below (World.heap wm876).size wm876 w884 := hC884.stepB0
      refine ⟨fun _ => .of_below hB884, ?_⟩
      replace f536 := (f536.ext hB884).mono fun k hk _ => hC884.ro0 k hk
      replace f537 := (f537.ext hB884).mono fun k hk _ => hC884.ro0 k hk
      replace f538 := (f538.ext hB884).mono fun k hk _ => hC884.ro0 k hk
      replace hT882 := hT882.trans (Below.mono hB884 hT882.size)
      replace hS := Sep.leave (As := []) hS hC884; simp only [List.cons_append, List.nil_append] at hS
      refine g_run rfl ?_; refine q_gtr rfl rfl rfl ?_
      cases hx882
      exact eseq_nil ⟨hT882, Sub.set rfl (Sub.set rfl (Sub.set rfl (Sub.set rfl (Sub.set rfl (Sub.set rfl (Sub.set rfl (Sub.set rfl (Sub.set rfl (Sub.bool true rfl hg882))))))))), rfl⟩
    · intro hg882
      refine g_skip rfl rfl rfl ?_
      refine g_skip rfl rfl rfl ?_
      refine g_skip rfl rfl rfl ?_
      refine g_skip rfl rfl rfl ?_
      refine g_skip rfl rfl rfl ?_
      refine g_skip rfl rfl rfl ?_
      refine g_skip rfl rfl rfl ?_
      refine g_skip rfl rfl rfl ?_
      refine g_skip rfl rfl rfl ?_
      exact eseq_nil ⟨rfl, Sub.set rfl (Sub.set rfl (Sub.set rfl (Sub.set rfl (Sub.set rfl (Sub.set rfl (Sub.set rfl (Sub.set rfl (Sub.set rfl (Sub.bool false rfl hg882)))))))))⟩
    intro wm882 hBm882; clear hx882
    replace hS := hS.below hBm882
    replace f536 := f536.ext hBm882
    replace f537 := f537.ext hBm882
    replace f538 := f538.ext hBm882
    refine eseq_nil ?_
    refine hK861 _ _ ?_
    refine e_cond rfl (fun hc886 => ?_) (fun hc886 => ?_)
    · replace ho462 := (if_pos hc886).symm.trans ho462
      refine e_region_draw mixed (fun _ => False) [0, 0, 2, 0, 0, 16, 0, 64, 248, 510, 1022, 2047, 4095] [8] [0, 1, 2, 3, 4, 5, 6, 7, 8, 9, 10, 11, 12] (by kernel_rfl) ?_
      refine q_move rfl rfl ?_
      refine q_field rfl rfl ?_
      refine q_load rfl (Blk.cell (hS.blk 0 rfl) rfl) rfl ?_
      refine q_loadAgg rfl (Blk.cellsAt (hS.blk 1 rfl) 0 3 rfl) rfl rfl ?_
      refine q_field rfl rfl ?_
      refine q_load rfl (Blk.cell (hS.blk 0 rfl) rfl) rfl ?_
      refine q_field rfl rfl ?_
      refine q_load rfl (Blk.cell (hS.blk 0 rfl) rfl) rfl ?_
      obtain ⟨r894, hr894, ho462⟩ := Option.of_bind ho462
      refine q_call rfl (ref16_Interval_w (a0 := (⟨a0.lens, a0.ckpts, a0.arcs⟩ : Pat)) (Sep.enter (As := []) hS) f536 f537 f538 hr894) rfl ?_
      rintro _ w893 ⟨R893, rfl, hC893⟩
      have hB893 : Below (World.heap wm882).size wm882 w893 := hC893.stepB0
      refine ⟨fun _ => .of_below hB893, ?_⟩
      replace f536 := (f536.ext hB893).mono fun k hk _ => hC893.ro0 k hk
      replace f537 := (f537.ext hB893).mono fun k hk _ => hC893.ro0 k hk
      replace f538 := (f538.ext hB893).mono fun k hk _ => hC893.ro0 k hk
      replace hS := Sep.leave (As := []) hS hC893; simp only [List.cons_append, List.nil_append] at hS
      refine q_build (Parts.cons rfl rfl (Parts.cons rfl rfl Parts.nil)) rfl rfl ?_
      refine q_litO (T := ptTy) (S := (fun _ => False)) (cells := [[.int .i64 x855.to, .int .i64 r894]]) (ys := [(⟨x855.to, r894⟩ : Pt)]) ((Parts.cons rfl rfl Parts.nil)) rfl rfl rfl rfl rfl rfl rfl (fun w1 hB => ⟨⟨[_], _, rfl, rfl, rfl⟩, trivial⟩) (fun _ h => h.elim) rfl fun w895 v895 ho895 hv895 hB895 => ?_
      replace f536 := f536.ext hB895
      replace f537 := f537.ext hB895
      replace f538 := f538.ext hB895
      replace hS := hS.newOwnS hB895 ho895 hv895 (fun _ h => h.elim)
      obtain ⟨x898, hx898, ho462⟩ := Option.of_bind ho462
      refine q_catOwn (T := ptTy) rfl rfl rfl rfl (hS.own 5 rfl) rfl (hS.own 0 rfl) (fun _ h _ => h.elim) (snoc_cat hx898) (Nat.zero_le _) rfl (fun h => by cases h) fun v897 w897 hw897 hgr897 hnw897 => ?_
      have hk897 := hS.keptOwn 5 rfl hgr897
      replace f536 := f536.kept hk897
      replace f537 := f537.kept hk897
      replace f538 := f538.kept hk897
      replace hS := hS.setOwn 5 rfl hw897 hgr897 hnw897; simp only [List.set] at hS
      refine q_assign rfl rfl ?_
      refine eseq_nil ?_
      refine hK853 _ _ ?_
      refine e_region_text rfl ?_
      refine q_move rfl rfl ?_
      refine q_addW rfl rfl rfl ?_
      refine q_assign rfl rfl ?_
      refine eseq_nil ?_
      obtain rfl := Option.some.inj ho462
      exact ⟨m462, _, Nat.lt_succ_self _, ⟨x898, (w64 (x542 + 1)), v897, _, ht462, (hS.pickB [2, 3, 4, 5] 6 rfl rfl), f536, f537, f538, rfl⟩, Sub.cons rfl (Sub.cons rfl (Sub.cons rfl (Sub.cons rfl (Sub.cons rfl (Sub.nil _)))))⟩
    · replace ho462 := (if_neg (not_true hc886)).symm.trans ho462
      refine e_skip ?_
      refine hK853 _ _ ?_
      refine e_region_text rfl ?_
      refine q_move rfl rfl ?_
      refine q_addW rfl rfl rfl ?_
      refine q_assign rfl rfl ?_
      refine eseq_nil ?_
      obtain rfl := Option.some.inj ho462
      exact ⟨m462, _, Nat.lt_succ_self _, ⟨x541, (w64 (x542 + 1)), v540, _, ht462, (hS.pickB [1, 2, 3, 4] 5 rfl rfl), f536, f537, f538, rfl⟩, Sub.cons rfl (Sub.cons rfl (Sub.cons rfl (Sub.cons rfl (Sub.cons rfl (Sub.nil _)))))⟩
  · replace ho462 := (if_neg (not_true hc852)).symm.trans ho462
    refine e_exit ?_
    obtain rfl := Option.some.inj ho462
    obtain rfl := Option.some.inj ht462
    exact hX462_0 x541 v540 _ _ _ h hS f536 f537 f538 (Sub.cons rfl (Sub.cons rfl (Sub.cons rfl (Sub.cons rfl (Sub.nil _)))))
end Go.Proofs.Ytlceljfigccllaa
