/- Printed walks: A32r. -/
import Derived.Test.YtghjjkdfjmnfeaaA32m
set_option linter.unusedVariables false
set_option linter.unusedSimpArgs false
namespace Go.Mine
open Go.RowKit
def ref32_Labelled (fuel : Nat) (a0 : (List Evt)) (a1 : Lab) : Option (Bool) :=
  (if (a1.index == 0) = true then some (a1.inc == 0) else (andM (decide (0 < a1.index)) (some (decide (a1.index ≤ (a0.length : Int))))).bind fun x35 => (andM x35 ((ati a0 (w64 (a1.index - 1))).bind fun x43 => some (x43.inc == a1.inc))).bind fun x42 => some x42)
def ref32_sound (fuel : Nat) (a0 : (List (List Evt))) (a1 : Int) (a2 : Evt) : Option (Bool) :=
  (orM (a2.kind != 1) ((andM (decide (0 ≤ a2.frm)) (some (decide (a2.frm < (a0.length : Int))))).bind fun x52 => (andM x52 (some (a2.frm != a1))).bind fun x54 => (andM x54 ((ati a0 a2.frm).bind fun x57 => (ref32_Labelled fuel x57 (⟨a2.sent.inc, a2.sent.index⟩ : Lab)).bind fun r61 => some r61)).bind fun x56 => some x56)).bind fun x50 => some x50
def ref32_Consistent_K2 (fuel : Nat) : Option (Bool) :=
  some true
def ref32_Consistent_K3 (fuel : Nat) (x734 : Int) : Option ((Int) ⊕ (Unit ⊕ (Bool))) :=
  some (Sum.inl (w64 (x734 + 1)))
def ref32_Consistent_B2 (fuel : Nat) (a1 : (List Int)) (x734 : Int) (a0 : (List (List Evt))) (x923 : Int) : Option ((Int) ⊕ (Unit ⊕ (Bool))) :=
  (ati a1 x734).bind fun x968 => (if (decide (x923 < x968)) = true then (ati a0 x734).bind fun x973 => (ati x973 x923).bind fun x976 => (ref32_sound fuel a0 x734 (⟨x976.kind, x976.inc, x976.frm, (⟨x976.sent.inc, x976.sent.index⟩ : Lab), x976.ord, x976.value⟩ : Evt)).bind fun r984 => (orM (!r984) ((andM (x976.kind == 1) ((ati a1 x976.frm).bind fun x995 => some (decide (x995 < x976.sent.index)))).bind fun x994 => some x994)).bind fun x992 => (if x992 = true then some (Sum.inr (Sum.inr false)) else some (Sum.inl (w64 (x923 + 1)))) else some (Sum.inr (Sum.inl ())))
def ref32_Consistent_B1 (fuel : Nat) (a0 : (List (List Evt))) (a1 : (List Int)) (x734 : Int) : Option ((Int) ⊕ (Unit ⊕ (Bool))) :=
  (if (decide (x734 < (a0.length : Int))) = true then (iter (fun s => ref32_Consistent_B2 fuel a1 x734 a0 s) fuel 0).bind (fun t => Sum.elim (fun t => ref32_Consistent_K3 fuel x734) (fun t => some (Sum.inr (Sum.inr t))) t) else some (Sum.inr (Sum.inl ())))
def ref32_Consistent_K1 (fuel : Nat) (a0 : (List (List Evt))) (a1 : (List Int)) : Option (Bool) :=
  (iter (fun s => ref32_Consistent_B1 fuel a0 a1 s) fuel 0).bind (fun t => Sum.elim (fun t => ref32_Consistent_K2 fuel) (fun t => some t) t)
def ref32_Consistent_B3 (fuel : Nat) (a0 : (List (List Evt))) (a1 : (List Int)) (x557 : Int) : Option ((Int) ⊕ (Unit ⊕ (Bool))) :=
  (if (decide (x557 < (a0.length : Int))) = true then (ati a1 x557).bind fun x1004 => (orM (decide (x1004 < 0)) ((ati a1 x557).bind fun x1015 => (ati a0 x557).bind fun x1017 => some (decide ((x1017.length : Int) < x1015)))).bind fun x1014 => (if x1014 = true then some (Sum.inr (Sum.inr false)) else some (Sum.inl (w64 (x557 + 1)))) else some (Sum.inr (Sum.inl ())))
def ref32_Consistent (fuel : Nat) (a0 : (List (List Evt))) (a1 : (List Int)) : Option (Bool) :=
  (if ((a1.length : Int) != (a0.length : Int)) = true then some false else (iter (fun s => ref32_Consistent_B3 fuel a0 a1 s) fuel 0).bind (fun t => Sum.elim (fun t => ref32_Consistent_K1 fuel a0 a1) (fun t => some t) t))
def ref32_Lower_K2 (fuel : Nat) (x2873 : (List Int)) : Option ((List Int)) :=
  some x2873
def ref32_Lower_K3 (fuel : Nat) (x3226 : (List Int)) (x3227 : Bool) : Option (((List Int) × Bool) ⊕ ((List Int))) :=
  some (Sum.inl (x3226, x3227))
def ref32_Lower_K4 (fuel : Nat) (x3056 : Int) (x3347 : (List Int)) (x3348 : Bool) : Option (((List Int) × Bool × Int) ⊕ ((List Int) × Bool)) :=
  some (Sum.inl (x3347, x3348, (w64 (x3056 + 1))))
def ref32_Lower_B3 (fuel : Nat) (x3056 : Int) (a0 : (List (List Evt))) (x3291 : (List Int)) (x3292 : Bool) (x3293 : Int) : Option (((List Int) × Bool × Int) ⊕ ((List Int) × Bool)) :=
  (ati x3291 x3056).bind fun x3351 => (if (decide (x3293 < x3351)) = true then (ati a0 x3056).bind fun x3356 => (ati x3356 x3293).bind fun x3359 => (ref32_sound fuel a0 x3056 (⟨x3359.kind, x3359.inc, x3359.frm, (⟨x3359.sent.inc, x3359.sent.index⟩ : Lab), x3359.ord, x3359.value⟩ : Evt)).bind fun r3367 => (orM (!r3367) ((andM (x3359.kind == 1) ((ati x3291 x3359.frm).bind fun x3378 => some (decide (x3378 < x3359.sent.index)))).bind fun x3377 => some x3377)).bind fun x3375 => (if x3375 = true then (ati x3291 x3056).bind fun x3381 => (seti x3291 x3056 x3293).bind fun x3383 => some (Sum.inl (x3383, true, (w64 (x3293 + 1)))) else some (Sum.inl (x3291, x3292, (w64 (x3293 + 1))))) else some (Sum.inr (x3291, x3292)))
def ref32_Lower_B2 (fuel : Nat) (a0 : (List (List Evt))) (x3054 : (List Int)) (x3055 : Bool) (x3056 : Int) : Option (((List Int) × Bool × Int) ⊕ ((List Int) × Bool)) :=
  (if (decide (x3056 < (a0.length : Int))) = true then (iter (fun s => ref32_Lower_B3 fuel x3056 a0 s.1 s.2.1 s.2.2) fuel (x3054, x3055, 0)).bind (fun t => ref32_Lower_K4 fuel x3056 t.1 t.2) else some (Sum.inr (x3054, x3055)))
def ref32_Lower_B1 (fuel : Nat) (a0 : (List (List Evt))) (x2344 : (List Int)) (x2345 : Bool) : Option (((List Int) × Bool) ⊕ ((List Int))) :=
  (if x2345 = true then (iter (fun s => ref32_Lower_B2 fuel a0 s.1 s.2.1 s.2.2) fuel (x2344, false, 0)).bind (fun t => ref32_Lower_K3 fuel t.1 t.2) else some (Sum.inr x2344))
def ref32_Lower_K1 (fuel : Nat) (a0 : (List (List Evt))) (x1808 : (List Int)) : Option ((List Int)) :=
  (iter (fun s => ref32_Lower_B1 fuel a0 s.1 s.2) fuel (x1808, true)).bind (fun t => ref32_Lower_K2 fuel t)
def ref32_Lower_J1 (fuel : Nat) (x1763 : (List Int)) (x1764 : Int) (x3403 : Int) : Option (((List Int) × Int) ⊕ ((List Int))) :=
  (snoc x1763 x3403).bind fun x3407 => some (Sum.inl (x3407, (w64 (x1764 + 1))))
def ref32_Lower_B4 (fuel : Nat) (a0 : (List (List Evt))) (a1 : (List Int)) (x1763 : (List Int)) (x1764 : Int) : Option (((List Int) × Int) ⊕ ((List Int))) :=
  (if (decide (x1764 < (a0.length : Int))) = true then (if (decide (x1764 < (a1.length : Int))) = true then (ati a1 x1764).bind fun x3410 => (ati a0 x1764).bind fun x3412 => ref32_Lower_J1 fuel x1763 x1764 (max 0 (min x3410 (x3412.length : Int))) else ref32_Lower_J1 fuel x1763 x1764 0) else some (Sum.inr x1763))
def ref32_Lower (fuel : Nat) (a0 : (List (List Evt))) (a1 : (List Int)) : Option ((List Int)) :=
  (iter (fun s => ref32_Lower_B4 fuel a0 a1 s.1 s.2) fuel (([] : List Int), 0)).bind (fun t => ref32_Lower_K1 fuel a0 t)
def law32_size_K1 (fuel : Nat) (x110 : Int) : Option (Int) :=
  some x110
def law32_size_B1 (fuel : Nat) (a0 : (List (List Evt))) (x90 : Int) (x91 : Int) : Option ((Int × Int) ⊕ (Int)) :=
  (andM (decide (x91 < (a0.length : Int))) (some (decide (x90 ≤ 100)))).bind fun x117 => (if x117 = true then (ati a0 x91).bind fun x120 => some (Sum.inl ((w64 (x90 + (x120.length : Int))), (w64 (x91 + 1)))) else some (Sum.inr x90))
def law32_size (fuel : Nat) (a0 : (List (List Evt))) : Option (Int) :=
  (iter (fun s => law32_size_B1 fuel a0 s.1 s.2) fuel ((a0.length : Int), 0)).bind (fun t => law32_size_K1 fuel t)
def law32_OrphanCuts (fuel : Nat) (a0 : (List (List Evt))) (a1 : (List Int)) (a2 : (List Int)) : Option (Bool) :=
  (law32_awake fuel).bind fun r97 => (orM (!r97) ((law32_size fuel a0).bind fun r105 => some (decide (100 < r105)))).bind fun x103 => (orM x103 (some (decide (60 < (a1.length : Int))))).bind fun x109 => (if x109 = true then (law32_size fuel a0).bind fun r113 => (orM (decide (100 < r113)) (some (decide (60 < (a1.length : Int))))).bind fun x117 => some x117 else (law32_scene fuel a2).bind fun r120 => (orphan_Consistent fuel a0 a1).bind fun r126 => (ref32_Consistent fuel a0 a1).bind fun r128 => (andM (r126 == r128) ((orphan_Consistent fuel r120.1 r120.2).bind fun r138 => (ref32_Consistent fuel r120.1 r120.2).bind fun r140 => some (r138 == r140))).bind fun x136 => (andM x136 ((orphan_Lower fuel a0 a1).bind fun r154 => (ref32_Lower fuel a0 a1).bind fun r157 => (ref23_SameInts fuel r154 r157).bind fun r160 => some r160)).bind fun x152 => (andM x152 ((orphan_Lower fuel r120.1 r120.2).bind fun r174 => (ref32_Lower fuel r120.1 r120.2).bind fun r177 => (ref23_SameInts fuel r174 r177).bind fun r180 => some r180)).bind fun x172 => some x172)
def law32_OrphanGreatest_K1 (fuel : Nat) (x1775 : (List Int)) (x1776 : Int) : Option (((List Int)) ⊕ (Bool)) :=
  (if (x1776 == (x1775.length : Int)) = true then some (Sum.inr true) else (ati x1775 x1776).bind fun x1781 => (ati x1775 x1776).bind fun x1783 => (seti x1775 x1776 (w64 (x1781 + 1))).bind fun x1785 => some (Sum.inl x1785))
def law32_OrphanGreatest_B2 (fuel : Nat) (r973 : ((List Int) × Int)) (x1736 : (List Int)) (x1737 : Int) : Option (((List Int) × Int) ⊕ ((List Int) × Int)) :=
  (andM (decide (x1737 < (x1736.length : Int))) ((ati x1736 x1737).bind fun x1796 => (ati r973.1 x1737).bind fun x1798 => some (x1796 == x1798))).bind fun x1795 => (if x1795 = true then (ati x1736 x1737).bind fun x1802 => (seti x1736 x1737 0).bind fun x1804 => some (Sum.inl (x1804, (w64 (x1737 + 1)))) else some (Sum.inr (x1736, x1737)))
def law32_OrphanGreatest_J2 (fuel : Nat) (r973 : ((List Int) × Int)) (x1316 : (List Int)) : Option (((List Int)) ⊕ (Bool)) :=
  (iter (fun s => law32_OrphanGreatest_B2 fuel r973 s.1 s.2) fuel (x1316, 0)).bind (fun t => law32_OrphanGreatest_K1 fuel t.1 t.2)
def law32_OrphanGreatest_K2 (fuel : Nat) (r973 : ((List Int) × Int)) (x1316 : (List Int)) : Option (((List Int)) ⊕ (Bool)) :=
  law32_OrphanGreatest_J2 fuel r973 x1316
def law32_OrphanGreatest_B3 (fuel : Nat) (x1316 : (List Int)) (r995 : ((List Int))) (x1844 : Int) : Option ((Int) ⊕ (Unit ⊕ (Bool))) :=
  (if (decide (x1844 < (x1316.length : Int))) = true then (ati x1316 x1844).bind fun x1876 => (ati r995 x1844).bind fun x1878 => (if (decide (x1878 < x1876)) = true then some (Sum.inr (Sum.inr false)) else some (Sum.inl (w64 (x1844 + 1)))) else some (Sum.inr (Sum.inl ())))
def law32_OrphanGreatest_B1 (fuel : Nat) (x989 : (List (List Evt))) (r995 : ((List Int))) (r973 : ((List Int) × Int)) (x1316 : (List Int)) : Option (((List Int)) ⊕ (Bool)) :=
  (ref32_Consistent fuel x989 x1316).bind fun r1807 => (if r1807 = true then (iter (fun s => law32_OrphanGreatest_B3 fuel x1316 r995 s) fuel 0).bind (fun t => Sum.elim (fun t => law32_OrphanGreatest_K2 fuel r973 x1316) (fun t => some (Sum.inr t)) t) else law32_OrphanGreatest_J2 fuel r973 x1316)
def law32_OrphanGreatest_J1 (fuel : Nat) (r973 : ((List Int) × Int)) (x989 : (List (List Evt))) : Option (Bool) :=
  (orphan_Lower fuel x989 r973.1).bind fun r995 => (orM ((r995.length : Int) != (r973.1.length : Int)) ((orphan_Consistent fuel x989 r995).bind fun r1006 => some (!r1006))).bind fun x1004 => (if x1004 = true then some false else (mkL (r973.1.length : Int) (0 : Int)).bind fun x1010 => (iter (fun s => law32_OrphanGreatest_B1 fuel x989 r995 r973 s) fuel x1010).bind (fun t => some t))
def law32_OrphanGreatest (fuel : Nat) (a0 : (List Int)) : Option (Bool) :=
  (law32_awake fuel).bind fun r951 => (if (!r951) = true then some false else (make_New fuel a0 60).bind fun r956 => (make_Codes_Lineages fuel 14 r956.1 r956.2).bind fun r961 => (make_Codes_Cut fuel (⟨r961.2.1.lens, r961.2.1.ckpts, r961.2.1.arcs⟩ : Pat) r956.1 r961.2.2).bind fun r973 => (make_Codes_Next fuel 3 r956.1 r973.2).bind fun r1884 => (if (r1884.1 == 2) = true then (make_Codes_SpoilLineages fuel r956.1 r1884.2 r961.1).bind fun r1887 => law32_OrphanGreatest_J1 fuel r973 r1887.2.2 else law32_OrphanGreatest_J1 fuel r973 r961.1))
end Go.Mine
namespace Go.Proofs.Ytghjjkdfjmnfeaa
open Go.RowKit Go.Mine
attribute [local irreducible] eseq ewp iter
theorem ref32_Labelled_w {F R : Nat → Prop} {w : World} {fuel : Nat} {a0 : (List Evt)} {a1 : Lab} {v1 : Value} {r : (Bool)} (hS : Sep F R R w w []) (f1 : IsSlice evtTy w R v1 a0) (h : ref32_Labelled fuel a0 a1 = some r) :
    Gives Try.prog 78 [v1, .agg #[.int .i64 a1.inc, .int .i64 a1.index]] w fun u w1 => ∃ (R1 : Nat → Prop), u = .bool r ∧ Sep F R R1 w w1 [] := by
  refine fn_of Try.func78 rfl Try.ntmps78 (Nat.le_of_ble_eq_true rfl) ?_
  unfold ref32_Labelled at h
  refine e_seq fun K24 hK24 => ?_
  refine e_region_text rfl ?_
  refine q_boxB rfl rfl rfl fun w25 bl25 hg25 hb25 hB25 => ?_
  replace f1 := f1.ext hB25
  replace hS := hS.newBlk hB25 hg25 hb25
  refine q_assign rfl rfl ?_
  refine eseq_nil ?_
  refine hK24 _ _ ?_
  refine e_seq fun K27 hK27 => ?_
  refine e_seq fun K28 hK28 => ?_
  refine e_region_text rfl ?_
  refine q_field rfl rfl ?_
  refine q_load rfl (Blk.cell (hS.blk 0 rfl) rfl) rfl ?_
  refine q_eql rfl rfl rfl ?_
  refine eseq_nil ?_
  refine hK28 _ _ ?_
  refine e_cond rfl (fun hc29 => ?_) (fun hc29 => ?_)
  · replace h := (if_pos hc29).symm.trans h
    refine e_seq fun K30 hK30 => ?_
    refine e_region_text rfl ?_
    refine q_field rfl rfl ?_
    refine q_load rfl (Blk.cell (hS.blk 0 rfl) rfl) rfl ?_
    refine q_eql rfl rfl rfl ?_
    refine q_assign rfl rfl ?_
    refine eseq_nil ?_
    refine hK30 _ _ ?_
    refine e_ret ?_
    obtain rfl := Option.some.inj h
    exact ⟨_, res1 rfl rfl, _, rfl, (hS.pickB [] 1 rfl rfl)⟩
  · replace h := (if_neg (not_true hc29)).symm.trans h
    refine e_skip ?_
    refine hK27 _ _ ?_
    refine e_seq fun K31 hK31 => ?_
    refine e_region_draw mixed (fun _ => False) [0, 1, 3, 7, 15, 31, 15, 79, 255, 511, 1023, 2047, 2047, 6143, 14335, 32767, 65535, 131071, 2047, 264191, 1048575, 2097151, 4194303] [] [0, 1, 2, 3, 4, 5, 6, 7, 8, 9, 10, 11, 12, 13, 14, 15, 16, 17, 18, 19, 20, 21, 22] (by kernel_rfl) ?_
    refine q_field rfl rfl ?_
    refine q_load rfl (Blk.cell (hS.blk 0 rfl) rfl) rfl ?_
    refine q_gtr rfl rfl rfl ?_
    refine q_move rfl rfl ?_
    obtain ⟨x35, hx34, h⟩ := Option.of_bind h
    refine g_andM 5 hx34 rfl trivial rfl rfl ?_ ?_ ?_
    · intro hg34 hx34
      clear h
      have hT34 := Below.refl (World.heap w25).size w25
      refine g_run rfl ?_; refine q_field rfl rfl ?_
      refine g_run rfl ?_; refine q_load rfl (Blk.cell (hS.blk 0 rfl) rfl) rfl ?_
      refine g_run rfl ?_; refine q_move rfl rfl ?_
      refine g_run rfl ?_; refine q_lenS rfl f1 rfl ?_
      refine g_run rfl ?_; refine q_leq rfl rfl rfl ?_
      cases hx34
      exact eseq_nil ⟨hT34, Sub.set rfl (Sub.set rfl (Sub.set rfl (Sub.set rfl (Sub.set rfl (Sub.bool true rfl hg34))))), rfl⟩
    · intro hg34
      refine g_skip rfl rfl rfl ?_
      refine g_skip rfl rfl rfl ?_
      refine g_skip rfl rfl rfl ?_
      refine g_skip rfl rfl rfl ?_
      refine g_skip rfl rfl rfl ?_
      exact eseq_nil ⟨rfl, Sub.set rfl (Sub.set rfl (Sub.set rfl (Sub.set rfl (Sub.set rfl (Sub.bool false rfl hg34)))))⟩
    intro wm34 hBm34; clear hx34
    replace hS := hS.below hBm34
    replace f1 := f1.ext hBm34
    refine q_move rfl rfl ?_
    obtain ⟨x42, hx41, h⟩ := Option.of_bind h
    refine g_andM 10 hx41 rfl trivial rfl rfl ?_ ?_ ?_
    · intro hg41 hx41
      clear h
      have hT41 := Below.refl (World.heap wm34).size wm34
      refine g_run rfl ?_; refine q_move rfl rfl ?_
      refine g_run rfl ?_; refine q_field rfl rfl ?_
      refine g_run rfl ?_; refine q_load rfl (Blk.cell (hS.blk 0 rfl) rfl) rfl ?_
      refine g_run rfl ?_; refine q_subW rfl rfl rfl ?_
      obtain ⟨x43, hx43, hx41⟩ := Option.of_bind hx41
      refine g_run rfl ?_; refine q_atS (by infer_instance) rfl f1 rfl hx43 rfl fun b44 o44 hm44 f44 => ?_
      refine g_run rfl ?_; refine q_field rfl rfl ?_
      have f45 := Evt_F1 f44
      refine g_run rfl ?_; refine q_load rfl (Elt.intCell f45) rfl ?_
      refine g_run rfl ?_; refine q_field rfl rfl ?_
      refine g_run rfl ?_; refine q_load rfl (Blk.cell (hS.blk 0 rfl) rfl) rfl ?_
      refine g_run rfl ?_; refine q_eql rfl rfl rfl ?_
      cases hx41
      exact eseq_nil ⟨hT41, Sub.set rfl (Sub.set rfl (Sub.set rfl (Sub.set rfl (Sub.set rfl (Sub.set rfl (Sub.set rfl (Sub.set rfl (Sub.set rfl (Sub.set rfl (Sub.bool true rfl hg41)))))))))), rfl⟩
    · intro hg41
      refine g_skip rfl rfl rfl ?_
      refine g_skip rfl rfl rfl ?_
      refine g_skip rfl rfl rfl ?_
      refine g_skip rfl rfl rfl ?_
      refine g_skip rfl rfl rfl ?_
      refine g_skip rfl rfl rfl ?_
      refine g_skip rfl rfl rfl ?_
      refine g_skip rfl rfl rfl ?_
      refine g_skip rfl rfl rfl ?_
      refine g_skip rfl rfl rfl ?_
      exact eseq_nil ⟨rfl, Sub.set rfl (Sub.set rfl (Sub.set rfl (Sub.set rfl (Sub.set rfl (Sub.set rfl (Sub.set rfl (Sub.set rfl (Sub.set rfl (Sub.set rfl (Sub.bool false rfl hg41))))))))))⟩
    intro wm41 hBm41; clear hx41
    replace hS := hS.below hBm41
    refine q_assign rfl rfl ?_
    refine eseq_nil ?_
    refine hK31 _ _ ?_
    refine e_ret ?_
    obtain rfl := Option.some.inj h
    exact ⟨_, res1 rfl rfl, _, rfl, (hS.pickB [] 1 rfl rfl)⟩
theorem ref32_sound_w {F R : Nat → Prop} {w : World} {fuel : Nat} {a0 : (List (List Evt))} {a1 : Int} {a2 : Evt} {v1 : Value} {r : (Bool)} (hS : Sep F R R w w []) (f1 : IsSlice (Ty.slice evtTy) w R v1 a0) (h : ref32_sound fuel a0 a1 a2 = some r) :
    Gives Try.prog 51 [v1, .int .i64 a1, .agg #[.int .i64 a2.kind, .int .i64 a2.inc, .int .i64 a2.frm, .int .i64 a2.sent.inc, .int .i64 a2.sent.index, .int .i64 a2.ord, .int .i64 a2.value]] w fun u w1 => ∃ (R1 : Nat → Prop), u = .bool r ∧ Sep F R R1 w w1 [] := by
  refine fn_of Try.func51 rfl Try.ntmps51 (Nat.le_of_ble_eq_true rfl) ?_
  unfold ref32_sound at h
  refine e_seq fun K32 hK32 => ?_
  refine e_region_text rfl ?_
  refine q_boxB rfl rfl rfl fun w33 bl33 hg33 hb33 hB33 => ?_
  replace f1 := f1.ext hB33
  replace hS := hS.newBlk hB33 hg33 hb33
  refine q_assign rfl rfl ?_
  refine eseq_nil ?_
  refine hK32 _ _ ?_
  refine e_seq fun K35 hK35 => ?_
  refine e_region_draw mixed (fun _ => False) [0, 1, 3, 7, 15, 31, 63, 127, 255, 511, 255, 1279, 4095, 8191, 16383, 32767, 65535, 32767, 262143, 524287, 1048575, 2097151, 2097151, 6291455, 16777215, 33554431, 2097151, 69206015, 268435455, 536870911, 1073741823, 2147483647] [] [0, 1, 2, 3, 4, 5, 6, 7, 8, 9, 10, 11, 12, 13, 14, 15, 16, 17, 18, 19, 20, 21, 22, 23, 24, 25, 26, 27, 28, 29, 30, 31] (by kernel_rfl) ?_
  refine q_field rfl rfl ?_
  refine q_load rfl (Blk.cell (hS.blk 0 rfl) rfl) rfl ?_
  refine q_neq rfl rfl rfl ?_
  refine q_move rfl rfl ?_
  obtain ⟨x50, hx49, h⟩ := Option.of_bind h
  refine g_orM 26 hx49 rfl trivial rfl rfl ?_ ?_ ?_
  · intro hg49
    refine g_skip rfl rfl rfl ?_
    refine g_skip rfl rfl rfl ?_
    refine g_skip rfl rfl rfl ?_
    refine g_skip rfl rfl rfl ?_
    refine g_skipU rfl rfl ?_
    refine g_skipU rfl rfl ?_
    refine g_skipU rfl rfl ?_
    refine g_skipU rfl rfl ?_
    refine g_skipU rfl rfl ?_
    refine g_skip rfl rfl rfl ?_
    refine g_skip rfl rfl rfl ?_
    refine g_skipU rfl rfl ?_
    refine g_skipU rfl rfl ?_
    refine g_skipU rfl rfl ?_
    refine g_skipU rfl rfl ?_
    refine g_skip rfl rfl rfl ?_
    refine g_skip rfl rfl rfl ?_
    refine g_skipU rfl rfl ?_
    refine g_skipU rfl rfl ?_
    refine g_skipU rfl rfl ?_
    refine g_skipU rfl rfl ?_
    refine g_skipU rfl rfl ?_
    refine g_skipU rfl rfl ?_
    refine g_skipU rfl rfl ?_
    refine g_skipU rfl rfl ?_
    refine g_skip rfl rfl rfl ?_
    exact eseq_nil ⟨rfl, Sub.set rfl (Sub.set rfl (Sub.set rfl (Sub.set rfl (Sub.set rfl (Sub.set rfl (Sub.set rfl (Sub.set rfl (Sub.set rfl (Sub.set rfl (Sub.set rfl (Sub.set rfl (Sub.set rfl (Sub.set rfl (Sub.set rfl (Sub.set rfl (Sub.set rfl (Sub.set rfl (Sub.set rfl (Sub.set rfl (Sub.set rfl (Sub.set rfl (Sub.set rfl (Sub.set rfl (Sub.set rfl (Sub.set rfl (Sub.bool true rfl hg49))))))))))))))))))))))))))⟩
  · intro hg49 hx49
    clear h
    have hT49 := Below.refl (World.heap w33).size w33
    refine g_run rfl ?_; refine q_field rfl rfl ?_
    refine g_run rfl ?_; refine q_load rfl (Blk.cell (hS.blk 0 rfl) rfl) rfl ?_
    refine g_run rfl ?_; refine q_geq rfl rfl rfl ?_
    refine g_run rfl ?_; refine q_move rfl rfl ?_
    obtain ⟨x52, hx51, hx49⟩ := Option.of_bind hx49
    refine g_andM 5 hx51 rfl rfl rfl rfl ?_ ?_ ?_
    · intro hg51 hx51
      clear hx49
      have hT51 := Below.refl (World.heap w33).size w33
      refine g_run rfl ?_; refine q_field rfl rfl ?_
      refine g_run rfl ?_; refine q_load rfl (Blk.cell (hS.blk 0 rfl) rfl) rfl ?_
      refine g_run rfl ?_; refine q_move rfl rfl ?_
      refine g_run rfl ?_; refine q_lenS rfl f1 rfl ?_
      refine g_run rfl ?_; refine q_lss rfl rfl rfl ?_
      cases hx51
      exact eseq_nil ⟨hT51, Sub.set rfl (Sub.set rfl (Sub.set rfl (Sub.set rfl (Sub.set rfl (Sub.bool true rfl hg51))))), rfl⟩
    · intro hg51
      refine g_skip rfl rfl rfl ?_
      refine g_skip rfl rfl rfl ?_
      refine g_skip rfl rfl rfl ?_
      refine g_skip rfl rfl rfl ?_
      refine g_skip rfl rfl rfl ?_
      exact eseq_nil ⟨rfl, Sub.set rfl (Sub.set rfl (Sub.set rfl (Sub.set rfl (Sub.set rfl (Sub.bool false rfl hg51)))))⟩
    intro wm51 hBm51; clear hx51
    replace hS := hS.below hBm51
    replace f1 := f1.ext hBm51
    replace hT49 := hT49.trans (Below.mono hBm51 hT49.size)
    refine g_run rfl ?_; refine q_move rfl rfl ?_
    obtain ⟨x54, hx53, hx49⟩ := Option.of_bind hx49
    refine g_andM 4 hx53 rfl rfl rfl rfl ?_ ?_ ?_
    · intro hg53 hx53
      clear hx49
      have hT53 := Below.refl (World.heap wm51).size wm51
      refine g_run rfl ?_; refine q_field rfl rfl ?_
      refine g_run rfl ?_; refine q_load rfl (Blk.cell (hS.blk 0 rfl) rfl) rfl ?_
      refine g_run rfl ?_; refine q_move rfl rfl ?_
      refine g_run rfl ?_; refine q_neq rfl rfl rfl ?_
      cases hx53
      exact eseq_nil ⟨hT53, Sub.set rfl (Sub.set rfl (Sub.set rfl (Sub.set rfl (Sub.bool true rfl hg53)))), rfl⟩
    · intro hg53
      refine g_skip rfl rfl rfl ?_
      refine g_skip rfl rfl rfl ?_
      refine g_skip rfl rfl rfl ?_
      refine g_skip rfl rfl rfl ?_
      exact eseq_nil ⟨rfl, Sub.set rfl (Sub.set rfl (Sub.set rfl (Sub.set rfl (Sub.bool false rfl hg53))))⟩
    intro wm53 hBm53; clear hx53
    replace hS := hS.below hBm53
    replace f1 := f1.ext hBm53
    replace hT49 := hT49.trans (Below.mono hBm53 hT49.size)
    refine g_run rfl ?_; refine q_move rfl rfl ?_
    obtain ⟨x56, hx55, hx49⟩ := Option.of_bind hx49
    refine g_andM 8 hx55 rfl rfl rfl rfl ?_ ?_ ?_
    · intro hg55 hx55
      clear hx49
      have hT55 := Below.refl (World.heap wm53).size wm53
      refine g_run rfl ?_; refine q_move rfl rfl ?_
      refine g_run rfl ?_; refine q_field rfl rfl ?_
      refine g_run rfl ?_; refine q_load rfl (Blk.cell (hS.blk 0 rfl) rfl) rfl ?_
      obtain ⟨x57, hx57, hx55⟩ := Option.of_bind hx55
      refine g_run rfl ?_; refine q_atS (by infer_instance) rfl f1 rfl hx57 rfl fun b58 o58 hm58 f58 => ?_
      refine g_run rfl ?_; refine q_loadE rfl f58 rfl (fun v59 f59 => ?_)
      refine g_run rfl ?_; refine q_field rfl rfl ?_
      refine g_run rfl ?_; refine q_loadAgg rfl (Blk.cellsAt (hS.blk 0 rfl) 3 2 rfl) rfl rfl ?_
      obtain ⟨r61, hr61, hx55⟩ := Option.of_bind hx55
      refine g_run rfl ?_; refine q_call rfl (ref32_Labelled_w (a1 := (⟨a2.sent.inc, a2.sent.index⟩ : Lab)) (Sep.enter (As := []) hS) f59 hr61) rfl ?_
      rintro _ w60 ⟨R60, rfl, hC60⟩
      have hB60 : Below (World.heap wm53).size wm53 w60 := hC60.stepB0
      refine ⟨fun _ => .of_below hB60, ?_⟩
      replace f59 := (f59.ext hB60).mono fun k hk _ => hC60.ro0 k hk
      replace hT49 := hT49.trans (Below.mono hB60 hT49.size)
      replace hT55 := hT55.trans (Below.mono hB60 hT55.size)
      replace hS := Sep.leave (As := []) hS hC60; simp only [List.cons_append, List.nil_append] at hS
      cases hx55
      exact eseq_nil ⟨hT55, Sub.set rfl (Sub.set rfl (Sub.set rfl (Sub.set rfl (Sub.set rfl (Sub.set rfl (Sub.set rfl (Sub.set rfl (Sub.bool true rfl hg55)))))))), rfl⟩
    · intro hg55
      refine g_skip rfl rfl rfl ?_
      refine g_skip rfl rfl rfl ?_
      refine g_skip rfl rfl rfl ?_
      refine g_skip rfl rfl rfl ?_
      refine g_skip rfl rfl rfl ?_
      refine g_skip rfl rfl rfl ?_
      refine g_skip rfl rfl rfl ?_
      refine g_skip rfl rfl rfl ?_
      exact eseq_nil ⟨rfl, Sub.set rfl (Sub.set rfl (Sub.set rfl (Sub.set rfl (Sub.set rfl (Sub.set rfl (Sub.set rfl (Sub.set rfl (Sub.bool false rfl hg55))))))))⟩
    intro wm55 hBm55; clear hx55
    replace hS := hS.below hBm55
    replace hT49 := hT49.trans (Below.mono hBm55 hT49.size)
    cases hx49
    exact eseq_nil ⟨hT49, Sub.set rfl (Sub.set rfl (Sub.set rfl (Sub.set rfl (Sub.set rfl (Sub.set rfl (Sub.set rfl (Sub.set rfl (Sub.set rfl (Sub.bool false rfl hg49))))))))), rfl⟩
  intro wm49 hBm49; clear hx49
  replace hS := hS.below hBm49
  refine q_assign rfl rfl ?_
  refine eseq_nil ?_
  refine hK35 _ _ ?_
  refine e_ret ?_
  obtain rfl := Option.some.inj h
  exact ⟨_, res1 rfl rfl, _, rfl, (hS.pickB [] 1 rfl rfl)⟩
theorem ref32_Consistent_w {F R : Nat → Prop} {w : World} {fuel : Nat} {a0 : (List (List Evt))} {a1 : (List Int)} {v1 : Value} {v2 : Value} {r : (Bool)} (hS : Sep F R R w w []) (f1 : IsSlice (Ty.slice evtTy) w R v1 a0) (f2 : IsSlice Ty.int w R v2 a1) (h : ref32_Consistent fuel a0 a1 = some r) :
    Gives Try.prog 22 [v1, v2] w fun u w1 => ∃ (R1 : Nat → Prop), u = .bool r ∧ Sep F R R1 w w1 [] := by
  refine fn_of Try.func22 rfl Try.ntmps22 (Nat.le_of_ble_eq_true rfl) ?_
  unfold ref32_Consistent at h
  refine e_seq fun K513 hK513 => ?_
  refine e_region_text rfl ?_
  refine q_assign rfl rfl ?_
  refine eseq_nil ?_
  refine hK513 _ _ ?_
  refine e_seq fun K514 hK514 => ?_
  refine e_seq fun K515 hK515 => ?_
  refine e_region_text rfl ?_
  refine q_move rfl rfl ?_
  refine q_lenS rfl f2 rfl ?_
  refine q_move rfl rfl ?_
  refine q_lenS rfl f1 rfl ?_
  refine q_neq rfl rfl rfl ?_
  refine eseq_nil ?_
  refine hK515 _ _ ?_
  refine e_cond rfl (fun hc516 => ?_) (fun hc516 => ?_)
  · replace h := (if_pos hc516).symm.trans h
    refine e_seq fun K517 hK517 => ?_
    refine e_region_text rfl ?_
    refine q_assign rfl rfl ?_
    refine eseq_nil ?_
    refine hK517 _ _ ?_
    refine e_ret ?_
    obtain rfl := Option.some.inj h
    exact ⟨_, res1 rfl rfl, _, rfl, hS⟩
  · replace h := (if_neg (not_true hc516)).symm.trans h
    refine e_skip ?_
    refine hK514 _ _ ?_
    refine e_seq fun K518 hK518 => ?_
    refine e_seq fun K519 hK519 => ?_
    refine e_region_text rfl ?_
    refine q_assign rfl rfl ?_
    refine eseq_nil ?_
    refine hK519 _ _ ?_
    refine e_block ?_
    obtain ⟨tl520, ht520, h⟩ := Option.of_bind h
    have hX520_0 : ∀ (R586 : Nat → Prop) (w587 : World) (E_ : Env), ref32_Consistent_K1 fuel a0 a1 = some r → Sep F R R586 w w587 [] → IsSlice (Ty.slice evtTy) w587 R586 v1 a0 → IsSlice Ty.int w587 R586 v2 a1 → Sub [(0, v1), (1, v2)] E_ → K518 E_ w587 := by
      intro R586 w587 E_ h hS f588 f589 hsub
      refine hK518 _ _ (e_sub hsub ?_); clear hsub
      unfold ref32_Consistent_K1 at h
      refine e_seq fun K590 hK590 => ?_
      refine e_seq fun K591 hK591 => ?_
      refine e_region_text rfl ?_
      refine q_assign rfl rfl ?_
      refine eseq_nil ?_
      refine hK591 _ _ ?_
      refine e_block ?_
      obtain ⟨tl592, ht592, h⟩ := Option.of_bind h
      have hX592_2 : ∀ (R868 : Nat → Prop) (w869 : World) (E_ : Env), ref32_Consistent_K2 fuel = some r → Sep F R R868 w w869 [] → Sub [] E_ → K590 E_ w869 := by
        intro R868 w869 E_ h hS  hsub
        refine hK590 _ _ (e_sub hsub ?_); clear hsub
        unfold ref32_Consistent_K2 at h
        refine e_seq fun K870 hK870 => ?_
        refine e_region_text rfl ?_
        refine q_assign rfl rfl ?_
        refine eseq_nil ?_
        refine hK870 _ _ ?_
        refine e_ret ?_
        obtain rfl := Option.some.inj h
        exact ⟨_, res1 rfl rfl, _, rfl, hS⟩
      refine e_loop (fun m_ E_ w731 => ∃ (x734 : Int), ∃ (R730 : Nat → Prop), iter (fun s => ref32_Consistent_B1 fuel a0 a1 s) m_ x734 = some tl592 ∧ Sep F R R730 w w731 [] ∧ IsSlice (Ty.slice evtTy) w731 R730 v1 a0 ∧ IsSlice Ty.int w731 R730 v2 a1 ∧ E_ = [(0, v1), (1, v2), (6, .int .i64 x734)]) _ ⟨_, ⟨0, _, ht592, hS, f588, f589, rfl⟩, Sub.cons rfl (Sub.cons rfl (Sub.cons rfl (Sub.nil _)))⟩ ?_
      clear ht592 hS
      rintro m592 _ w731 ⟨x734, R730, ht592, hS, f732, f733, rfl⟩
      obtain ⟨m592, rfl, o592, ho592, ht592⟩ := iter_some ht592
      replace ho592 : ref32_Consistent_B1 fuel a0 a1 x734 = some o592 := ho592
      unfold ref32_Consistent_B1 at ho592
      refine e_seq fun K871 hK871 => ?_
      refine e_seq fun K872 hK872 => ?_
      refine e_region_text rfl ?_
      refine q_move rfl rfl ?_
      refine q_move rfl rfl ?_
      refine q_lenS rfl f732 rfl ?_
      refine q_lss rfl rfl rfl ?_
      refine eseq_nil ?_
      refine hK872 _ _ ?_
      refine e_cond rfl (fun hc873 => ?_) (fun hc873 => ?_)
      · replace ho592 := (if_pos hc873).symm.trans ho592
        refine e_skip ?_
        refine hK871 _ _ ?_
        refine e_seq fun K874 hK874 => ?_
        refine e_block ?_
        refine e_seq fun K875 hK875 => ?_
        refine e_region_text rfl ?_
        refine q_assign rfl rfl ?_
        refine eseq_nil ?_
        refine hK875 _ _ ?_
        refine e_block ?_
        obtain ⟨tl876, ht876, ho592⟩ := Option.of_bind ho592
        have hX876_4 : ∀ (R962 : Nat → Prop) (w963 : World) (E_ : Env), ref32_Consistent_K3 fuel x734 = some o592 → Sep F R R962 w w963 [] → IsSlice (Ty.slice evtTy) w963 R962 v1 a0 → IsSlice Ty.int w963 R962 v2 a1 → Sub [(0, v1), (1, v2), (6, .int .i64 x734)] E_ → K874 E_ w963 := by
          intro R962 w963 E_ ho592 hS f964 f965 hsub
          refine hK874 _ _ (e_sub hsub ?_); clear hsub
          unfold ref32_Consistent_K3 at ho592
          refine e_region_text rfl ?_
          refine q_move rfl rfl ?_
          refine q_addW rfl rfl rfl ?_
          refine q_assign rfl rfl ?_
          refine eseq_nil ?_
          obtain rfl := Option.some.inj ho592
          exact ⟨m592, _, Nat.lt_succ_self _, ⟨(w64 (x734 + 1)), _, ht592, hS, f964, f965, rfl⟩, Sub.cons rfl (Sub.cons rfl (Sub.cons rfl (Sub.nil _)))⟩
        refine e_loop (fun m_ E_ w920 => ∃ (x923 : Int), ∃ (R919 : Nat → Prop), iter (fun s => ref32_Consistent_B2 fuel a1 x734 a0 s) m_ x923 = some tl876 ∧ Sep F R R919 w w920 [] ∧ IsSlice (Ty.slice evtTy) w920 R919 v1 a0 ∧ IsSlice Ty.int w920 R919 v2 a1 ∧ E_ = [(0, v1), (1, v2), (6, .int .i64 x734), (7, .int .i64 x923)]) _ ⟨_, ⟨0, _, ht876, hS, f732, f733, rfl⟩, Sub.cons rfl (Sub.cons rfl (Sub.cons rfl (Sub.cons rfl (Sub.nil _))))⟩ ?_
        clear ht876 hS
        rintro m876 _ w920 ⟨x923, R919, ht876, hS, f921, f922, rfl⟩
        obtain ⟨m876, rfl, o876, ho876, ht876⟩ := iter_some ht876
        replace ho876 : ref32_Consistent_B2 fuel a1 x734 a0 x923 = some o876 := ho876
        unfold ref32_Consistent_B2 at ho876
        refine e_seq fun K966 hK966 => ?_
        refine e_seq fun K967 hK967 => ?_
        refine e_region_text rfl ?_
        refine q_move rfl rfl ?_
        refine q_move rfl rfl ?_
        refine q_move rfl rfl ?_
        obtain ⟨x968, hx968, ho876⟩ := Option.of_bind ho876
        refine q_atS (by infer_instance) rfl f922 rfl hx968 rfl fun b969 o969 hm969 f969 => ?_
        refine q_load rfl (Elt.intCell f969) rfl ?_
        refine q_lss rfl rfl rfl ?_
        refine eseq_nil ?_
        refine hK967 _ _ ?_
        refine e_cond rfl (fun hc970 => ?_) (fun hc970 => ?_)
        · replace ho876 := (if_pos hc970).symm.trans ho876
          refine e_skip ?_
          refine hK966 _ _ ?_
          refine e_seq fun K971 hK971 => ?_
          refine e_block ?_
          refine e_seq fun K972 hK972 => ?_
          refine e_region_text rfl ?_
          refine q_move rfl rfl ?_
          refine q_move rfl rfl ?_
          obtain ⟨x973, hx973, ho876⟩ := Option.of_bind ho876
          refine q_atS (by infer_instance) rfl f921 rfl hx973 rfl fun b974 o974 hm974 f974 => ?_
          refine q_loadE rfl f974 rfl (fun v975 f975 => ?_)
          refine q_move rfl rfl ?_
          obtain ⟨x976, hx976, ho876⟩ := Option.of_bind ho876
          refine q_atS (by infer_instance) rfl f975 rfl hx976 rfl fun b977 o977 hm977 f977 => ?_
          have hc978 := Evt_open f977
          refine q_loadAgg rfl hc978 rfl rfl ?_
          refine q_allocB rfl fun w979 bl979 hg979 hb979 hB979 => ?_
          replace f921 := f921.ext hB979
          replace f922 := f922.ext hB979
          replace hS := hS.newBlk hB979 hg979 hb979
          refine q_storeAgg rfl rfl (hS.blk 0 rfl) rfl (Nat.le_of_ble_eq_true rfl) (all_cons rfl (all_cons rfl (all_cons rfl (all_cons rfl (all_cons rfl (all_cons rfl (all_cons rfl (all_nil)))))))) rfl rfl fun w981 hb981 hO981 => ?_
          simp only [setN, List.set, List.take, List.drop] at hb981
          have hk981 := hS.keptBlk 0 rfl hO981
          replace f921 := f921.kept hk981
          replace f922 := f922.kept hk981
          replace hS := hS.setBlk 0 rfl hb981 hO981; simp only [List.set] at hS
          refine eseq_nil ?_
          refine hK972 _ _ ?_
          refine e_seq fun K982 hK982 => ?_
          refine e_region_draw mixed (fun _ => False) [0, 0, 0, 7, 15, 31, 63, 127, 255, 511, 1023, 2047, 4095, 1023, 1023, 17407, 58367, 123903, 262143, 524287, 1048575] [] [0, 1, 2, 3, 4, 5, 6, 7, 8, 9, 10, 11, 12, 13, 14, 15, 16, 17, 18, 19, 20] (by kernel_rfl) ?_
          refine q_move rfl rfl ?_
          refine q_move rfl rfl ?_
          refine q_loadAgg rfl (Blk.cellsAt (hS.blk 0 rfl) 0 7 rfl) rfl rfl ?_
          obtain ⟨r984, hr984, ho876⟩ := Option.of_bind ho876
          refine q_call rfl (ref32_sound_w (a2 := (⟨x976.kind, x976.inc, x976.frm, (⟨x976.sent.inc, x976.sent.index⟩ : Lab), x976.ord, x976.value⟩ : Evt)) (Sep.enter (As := []) hS) f921 hr984) rfl ?_
          rintro _ w983 ⟨R983, rfl, hC983⟩
          have hB983 : Below (World.heap w981).size w981 w983 := hC983.stepB0
          refine ⟨fun _ => .of_below hB983, ?_⟩
          replace f921 := (f921.ext hB983).mono fun k hk _ => hC983.ro0 k hk
          replace f922 := (f922.ext hB983).mono fun k hk _ => hC983.ro0 k hk
          replace hS := Sep.leave (As := []) hS hC983; simp only [List.cons_append, List.nil_append] at hS
          refine q_not rfl rfl ?_
          refine q_move rfl rfl ?_
          obtain ⟨x992, hx991, ho876⟩ := Option.of_bind ho876
          refine g_orM 14 hx991 rfl trivial rfl rfl ?_ ?_ ?_
          · intro hg991
            refine g_skip rfl rfl rfl ?_
            refine g_skip rfl rfl rfl ?_
            refine g_skip rfl rfl rfl ?_
            refine g_skip rfl rfl rfl ?_
            refine g_skipU rfl rfl ?_
            refine g_skipU rfl rfl ?_
            refine g_skipU rfl rfl ?_
            refine g_skipU rfl rfl ?_
            refine g_skipU rfl rfl ?_
            refine g_skipU rfl rfl ?_
            refine g_skipU rfl rfl ?_
            refine g_skipU rfl rfl ?_
            refine g_skipU rfl rfl ?_
            refine g_skip rfl rfl rfl ?_
            exact eseq_nil ⟨rfl, Sub.set rfl (Sub.set rfl (Sub.set rfl (Sub.set rfl (Sub.set rfl (Sub.set rfl (Sub.set rfl (Sub.set rfl (Sub.set rfl (Sub.set rfl (Sub.set rfl (Sub.set rfl (Sub.set rfl (Sub.set rfl (Sub.bool true rfl hg991))))))))))))))⟩
          · intro hg991 hx991
            clear ho876
            have hT991 := Below.refl (World.heap w983).size w983
            refine g_run rfl ?_; refine q_field rfl rfl ?_
            refine g_run rfl ?_; refine q_load rfl (Blk.cell (hS.blk 0 rfl) rfl) rfl ?_
            refine g_run rfl ?_; refine q_eql rfl rfl rfl ?_
            refine g_run rfl ?_; refine q_move rfl rfl ?_
            obtain ⟨x994, hx993, hx991⟩ := Option.of_bind hx991
            refine g_andM 9 hx993 rfl rfl rfl rfl ?_ ?_ ?_
            · intro hg993 hx993
              clear hx991
              have hT993 := Below.refl (World.heap w983).size w983
              refine g_run rfl ?_; refine q_field rfl rfl ?_
              refine g_run rfl ?_; refine q_field rfl rfl ?_
              refine g_run rfl ?_; refine q_load rfl (Blk.cell (hS.blk 0 rfl) rfl) rfl ?_
              refine g_run rfl ?_; refine q_move rfl rfl ?_
              refine g_run rfl ?_; refine q_field rfl rfl ?_
              refine g_run rfl ?_; refine q_load rfl (Blk.cell (hS.blk 0 rfl) rfl) rfl ?_
              obtain ⟨x995, hx995, hx993⟩ := Option.of_bind hx993
              refine g_run rfl ?_; refine q_atS (by infer_instance) rfl f922 rfl hx995 rfl fun b996 o996 hm996 f996 => ?_
              refine g_run rfl ?_; refine q_load rfl (Elt.intCell f996) rfl ?_
              refine g_run rfl ?_; refine q_gtr rfl rfl rfl ?_
              cases hx993
              exact eseq_nil ⟨hT993, Sub.set rfl (Sub.set rfl (Sub.set rfl (Sub.set rfl (Sub.set rfl (Sub.set rfl (Sub.set rfl (Sub.set rfl (Sub.set rfl (Sub.bool true rfl hg993))))))))), rfl⟩
            · intro hg993
              refine g_skip rfl rfl rfl ?_
              refine g_skip rfl rfl rfl ?_
              refine g_skip rfl rfl rfl ?_
              refine g_skip rfl rfl rfl ?_
              refine g_skip rfl rfl rfl ?_
              refine g_skip rfl rfl rfl ?_
              refine g_skip rfl rfl rfl ?_
              refine g_skip rfl rfl rfl ?_
              refine g_skip rfl rfl rfl ?_
              exact eseq_nil ⟨rfl, Sub.set rfl (Sub.set rfl (Sub.set rfl (Sub.set rfl (Sub.set rfl (Sub.set rfl (Sub.set rfl (Sub.set rfl (Sub.set rfl (Sub.bool false rfl hg993)))))))))⟩
            intro wm993 hBm993; clear hx993
            replace hS := hS.below hBm993
            replace f921 := f921.ext hBm993
            replace f922 := f922.ext hBm993
            replace hT991 := hT991.trans (Below.mono hBm993 hT991.size)
            cases hx991
            exact eseq_nil ⟨hT991, Sub.set rfl (Sub.set rfl (Sub.set rfl (Sub.set rfl (Sub.set rfl (Sub.bool false rfl hg991))))), rfl⟩
          intro wm991 hBm991; clear hx991
          replace hS := hS.below hBm991
          replace f921 := f921.ext hBm991
          replace f922 := f922.ext hBm991
          refine eseq_nil ?_
          refine hK982 _ _ ?_
          refine e_cond rfl (fun hc997 => ?_) (fun hc997 => ?_)
          · replace ho876 := (if_pos hc997).symm.trans ho876
            refine e_seq fun K998 hK998 => ?_
            refine e_region_text rfl ?_
            refine q_assign rfl rfl ?_
            refine eseq_nil ?_
            refine hK998 _ _ ?_
            refine e_ret ?_
            obtain rfl := Option.some.inj ho876
            obtain rfl := Option.some.inj ht876
            obtain rfl := Option.some.inj ho592
            obtain rfl := Option.some.inj ht592
            obtain rfl := Option.some.inj h
            exact ⟨_, res1 rfl rfl, _, rfl, (hS.pickB [] 1 rfl rfl)⟩
          · replace ho876 := (if_neg (not_true hc997)).symm.trans ho876
            refine e_skip ?_
            refine hK971 _ _ ?_
            refine e_region_text rfl ?_
            refine q_move rfl rfl ?_
            refine q_addW rfl rfl rfl ?_
            refine q_assign rfl rfl ?_
            refine eseq_nil ?_
            obtain rfl := Option.some.inj ho876
            exact ⟨m876, _, Nat.lt_succ_self _, ⟨(w64 (x923 + 1)), _, ht876, (hS.pickB [] 1 rfl rfl), f921, f922, rfl⟩, Sub.cons rfl (Sub.cons rfl (Sub.cons rfl (Sub.cons rfl (Sub.nil _))))⟩
        · replace ho876 := (if_neg (not_true hc970)).symm.trans ho876
          refine e_exit ?_
          obtain rfl := Option.some.inj ho876
          obtain rfl := Option.some.inj ht876
          exact hX876_4  _ _ _ ho592 hS f921 f922 (Sub.cons rfl (Sub.cons rfl (Sub.cons rfl (Sub.nil _))))
      · replace ho592 := (if_neg (not_true hc873)).symm.trans ho592
        refine e_exit ?_
        obtain rfl := Option.some.inj ho592
        obtain rfl := Option.some.inj ht592
        exact hX592_2  _ _ _ h hS  (Sub.nil _)
    refine e_loop (fun m_ E_ w554 => ∃ (x557 : Int), ∃ (R553 : Nat → Prop), iter (fun s => ref32_Consistent_B3 fuel a0 a1 s) m_ x557 = some tl520 ∧ Sep F R R553 w w554 [] ∧ IsSlice (Ty.slice evtTy) w554 R553 v1 a0 ∧ IsSlice Ty.int w554 R553 v2 a1 ∧ E_ = [(0, v1), (1, v2), (5, .int .i64 x557)]) _ ⟨_, ⟨0, _, ht520, hS, f1, f2, rfl⟩, Sub.cons rfl (Sub.cons rfl (Sub.cons rfl (Sub.nil _)))⟩ ?_
    clear ht520 hS
    rintro m520 _ w554 ⟨x557, R553, ht520, hS, f555, f556, rfl⟩
    obtain ⟨m520, rfl, o520, ho520, ht520⟩ := iter_some ht520
    replace ho520 : ref32_Consistent_B3 fuel a0 a1 x557 = some o520 := ho520
    unfold ref32_Consistent_B3 at ho520
    refine e_seq fun K999 hK999 => ?_
    refine e_seq fun K1000 hK1000 => ?_
    refine e_region_text rfl ?_
    refine q_move rfl rfl ?_
    refine q_move rfl rfl ?_
    refine q_lenS rfl f555 rfl ?_
    refine q_lss rfl rfl rfl ?_
    refine eseq_nil ?_
    refine hK1000 _ _ ?_
    refine e_cond rfl (fun hc1001 => ?_) (fun hc1001 => ?_)
    · replace ho520 := (if_pos hc1001).symm.trans ho520
      refine e_skip ?_
      refine hK999 _ _ ?_
      refine e_seq fun K1002 hK1002 => ?_
      refine e_block ?_
      refine e_seq fun K1003 hK1003 => ?_
      refine e_region_draw mixed (fun _ => False) [0, 0, 3, 7, 15, 31, 63, 63, 255, 511, 63, 63, 3135, 7231, 15423, 32767, 65535] [] [0, 1, 2, 3, 4, 5, 6, 7, 8, 9, 10, 11, 12, 13, 14, 15, 16] (by kernel_rfl) ?_
      refine q_move rfl rfl ?_
      refine q_move rfl rfl ?_
      obtain ⟨x1004, hx1004, ho520⟩ := Option.of_bind ho520
      refine q_atS (by infer_instance) rfl f556 rfl hx1004 rfl fun b1005 o1005 hm1005 f1005 => ?_
      refine q_load rfl (Elt.intCell f1005) rfl ?_
      refine q_lss rfl rfl rfl ?_
      refine q_move rfl rfl ?_
      obtain ⟨x1014, hx1013, ho520⟩ := Option.of_bind ho520
      refine g_orM 10 hx1013 rfl trivial rfl rfl ?_ ?_ ?_
      · intro hg1013
        refine g_skip rfl rfl rfl ?_
        refine g_skip rfl rfl rfl ?_
        refine g_skip rfl rfl rfl ?_
        refine g_skip rfl rfl rfl ?_
        refine g_skip rfl rfl rfl ?_
        refine g_skip rfl rfl rfl ?_
        refine g_skip rfl rfl rfl ?_
        refine g_skip rfl rfl rfl ?_
        refine g_skip rfl rfl rfl ?_
        refine g_skip rfl rfl rfl ?_
        exact eseq_nil ⟨rfl, Sub.set rfl (Sub.set rfl (Sub.set rfl (Sub.set rfl (Sub.set rfl (Sub.set rfl (Sub.set rfl (Sub.set rfl (Sub.set rfl (Sub.set rfl (Sub.bool true rfl hg1013))))))))))⟩
      · intro hg1013 hx1013
        clear ho520
        have hT1013 := Below.refl (World.heap w554).size w554
        refine g_run rfl ?_; refine q_move rfl rfl ?_
        refine g_run rfl ?_; refine q_move rfl rfl ?_
        obtain ⟨x1015, hx1015, hx1013⟩ := Option.of_bind hx1013
        refine g_run rfl ?_; refine q_atS (by infer_instance) rfl f556 rfl hx1015 rfl fun b1016 o1016 hm1016 f1016 => ?_
        refine g_run rfl ?_; refine q_load rfl (Elt.intCell f1016) rfl ?_
        refine g_run rfl ?_; refine q_move rfl rfl ?_
        refine g_run rfl ?_; refine q_move rfl rfl ?_
        obtain ⟨x1017, hx1017, hx1013⟩ := Option.of_bind hx1013
        refine g_run rfl ?_; refine q_atS (by infer_instance) rfl f555 rfl hx1017 rfl fun b1018 o1018 hm1018 f1018 => ?_
        refine g_run rfl ?_; refine q_loadE rfl f1018 rfl (fun v1019 f1019 => ?_)
        refine g_run rfl ?_; refine q_lenS rfl f1019 rfl ?_
        refine g_run rfl ?_; refine q_gtr rfl rfl rfl ?_
        cases hx1013
        exact eseq_nil ⟨hT1013, Sub.set rfl (Sub.set rfl (Sub.set rfl (Sub.set rfl (Sub.set rfl (Sub.set rfl (Sub.set rfl (Sub.set rfl (Sub.set rfl (Sub.set rfl (Sub.bool false rfl hg1013)))))))))), rfl⟩
      intro wm1013 hBm1013; clear hx1013
      replace hS := hS.below hBm1013
      replace f555 := f555.ext hBm1013
      replace f556 := f556.ext hBm1013
      refine eseq_nil ?_
      refine hK1003 _ _ ?_
      refine e_cond rfl (fun hc1020 => ?_) (fun hc1020 => ?_)
      · replace ho520 := (if_pos hc1020).symm.trans ho520
        refine e_seq fun K1021 hK1021 => ?_
        refine e_region_text rfl ?_
        refine q_assign rfl rfl ?_
        refine eseq_nil ?_
        refine hK1021 _ _ ?_
        refine e_ret ?_
        obtain rfl := Option.some.inj ho520
        obtain rfl := Option.some.inj ht520
        obtain rfl := Option.some.inj h
        exact ⟨_, res1 rfl rfl, _, rfl, hS⟩
      · replace ho520 := (if_neg (not_true hc1020)).symm.trans ho520
        refine e_skip ?_
        refine hK1002 _ _ ?_
        refine e_region_text rfl ?_
        refine q_move rfl rfl ?_
        refine q_addW rfl rfl rfl ?_
        refine q_assign rfl rfl ?_
        refine eseq_nil ?_
        obtain rfl := Option.some.inj ho520
        exact ⟨m520, _, Nat.lt_succ_self _, ⟨(w64 (x557 + 1)), _, ht520, hS, f555, f556, rfl⟩, Sub.cons rfl (Sub.cons rfl (Sub.cons rfl (Sub.nil _)))⟩
    · replace ho520 := (if_neg (not_true hc1001)).symm.trans ho520
      refine e_exit ?_
      obtain rfl := Option.some.inj ho520
      obtain rfl := Option.some.inj ht520
      exact hX520_0  _ _ _ h hS f555 f556 (Sub.cons rfl (Sub.cons rfl (Sub.nil _)))
theorem ref32_Lower_w {F R : Nat → Prop} {w : World} {fuel : Nat} {a0 : (List (List Evt))} {a1 : (List Int)} {v1 : Value} {v2 : Value} {r : ((List Int))} (hS : Sep F R R w w []) (f1 : IsSlice (Ty.slice evtTy) w R v1 a0) (f2 : IsSlice Ty.int w R v2 a1) (h : ref32_Lower fuel a0 a1 = some r) :
    Gives Try.prog 25 [v1, v2] w fun u w1 => ∃ (v1709 : Value), ∃ (R1 : Nat → Prop), u = v1709 ∧ Sep F R R1 w w1 [HP.own Ty.int (fun _ => False) 3 v1709 r] := by
  refine fn_of Try.func25 rfl Try.ntmps25 (Nat.le_of_ble_eq_true rfl) ?_
  unfold ref32_Lower at h
  refine e_seq fun K1710 hK1710 => ?_
  refine e_region_text rfl ?_
  refine q_assign rfl rfl ?_
  refine eseq_nil ?_
  refine hK1710 _ _ ?_
  refine e_seq fun K1711 hK1711 => ?_
  refine e_region_text rfl ?_
  refine q_assign rfl rfl ?_
  refine eseq_nil ?_
  refine hK1711 _ _ ?_
  refine e_seq fun K1712 hK1712 => ?_
  refine e_seq fun K1713 hK1713 => ?_
  refine e_region_text rfl ?_
  refine q_assign rfl rfl ?_
  refine eseq_nil ?_
  refine hK1713 _ _ ?_
  refine e_block ?_
  obtain ⟨tl1714, ht1714, h⟩ := Option.of_bind h
  have hX1714_0 : ∀ (x1808 : (List Int)) (v1807 : Value) (R1803 : Nat → Prop) (w1804 : World) (E_ : Env), ref32_Lower_K1 fuel a0 x1808 = some r → Sep F R R1803 w w1804 [HP.own Ty.int (fun _ => False) 3 v1807 x1808] → IsSlice (Ty.slice evtTy) w1804 R1803 v1 a0 → Sub [(0, v1), (5, v1807)] E_ → K1712 E_ w1804 := by
    intro x1808 v1807 R1803 w1804 E_ h hS f1805 hsub
    refine hK1712 _ _ (e_sub hsub ?_); clear hsub
    unfold ref32_Lower_K1 at h
    refine e_seq fun K1809 hK1809 => ?_
    refine e_seq fun K1810 hK1810 => ?_
    refine e_region_text rfl ?_
    refine q_assign rfl rfl ?_
    refine eseq_nil ?_
    refine hK1810 _ _ ?_
    refine e_block ?_
    obtain ⟨tl1811, ht1811, h⟩ := Option.of_bind h
    have hX1811_2 : ∀ (x2873 : (List Int)) (v2872 : Value) (R2869 : Nat → Prop) (w2870 : World) (E_ : Env), ref32_Lower_K2 fuel x2873 = some r → Sep F R R2869 w w2870 [HP.own Ty.int (fun _ => False) 3 v2872 x2873] → Sub [(5, v2872)] E_ → K1809 E_ w2870 := by
      intro x2873 v2872 R2869 w2870 E_ h hS  hsub
      refine hK1809 _ _ (e_sub hsub ?_); clear hsub
      unfold ref32_Lower_K2 at h
      refine e_seq fun K2874 hK2874 => ?_
      refine e_region_text rfl ?_
      refine q_move rfl rfl ?_
      refine q_assign rfl rfl ?_
      refine eseq_nil ?_
      refine hK2874 _ _ ?_
      refine e_ret ?_
      obtain rfl := Option.some.inj h
      exact ⟨_, res1 rfl rfl, v2872, _, rfl, hS⟩
    refine e_loop (fun m_ E_ w2340 => ∃ (x2344 : (List Int)), ∃ (x2345 : Bool), ∃ (v2343 : Value), ∃ (R2339 : Nat → Prop), iter (fun s => ref32_Lower_B1 fuel a0 s.1 s.2) m_ (x2344, x2345) = some tl1811 ∧ Sep F R R2339 w w2340 [HP.own Ty.int (fun _ => False) 3 v2343 x2344] ∧ IsSlice (Ty.slice evtTy) w2340 R2339 v1 a0 ∧ E_ = [(0, v1), (5, v2343), (8, .bool x2345)]) _ ⟨_, ⟨x1808, true, v1807, _, ht1811, hS, f1805, rfl⟩, Sub.cons rfl (Sub.cons rfl (Sub.cons rfl (Sub.nil _)))⟩ ?_
    clear ht1811 hS
    rintro m1811 _ w2340 ⟨x2344, x2345, v2343, R2339, ht1811, hS, f2341, rfl⟩
    obtain ⟨m1811, rfl, o1811, ho1811, ht1811⟩ := iter_some ht1811
    replace ho1811 : ref32_Lower_B1 fuel a0 x2344 x2345 = some o1811 := ho1811
    unfold ref32_Lower_B1 at ho1811
    refine e_seq fun K2875 hK2875 => ?_
    refine e_seq fun K2876 hK2876 => ?_
    refine e_region_text rfl ?_
    refine q_move rfl rfl ?_
    refine eseq_nil ?_
    refine hK2876 _ _ ?_
    refine e_cond rfl (fun hc2877 => ?_) (fun hc2877 => ?_)
    · replace ho1811 := (if_pos hc2877).symm.trans ho1811
      refine e_skip ?_
      refine hK2875 _ _ ?_
      refine e_block ?_
      refine e_seq fun K2878 hK2878 => ?_
      refine e_region_text rfl ?_
      refine q_assign rfl rfl ?_
      refine eseq_nil ?_
      refine hK2878 _ _ ?_
      refine e_seq fun K2879 hK2879 => ?_
      refine e_region_text rfl ?_
      refine q_assign rfl rfl ?_
      refine eseq_nil ?_
      refine hK2879 _ _ ?_
      refine e_block ?_
      obtain ⟨tl2880, ht2880, ho1811⟩ := Option.of_bind ho1811
      refine e_loop (fun m_ E_ w3050 => ∃ (x3054 : (List Int)), ∃ (x3055 : Bool), ∃ (x3056 : Int), ∃ (v3053 : Value), ∃ (R3049 : Nat → Prop), iter (fun s => ref32_Lower_B2 fuel a0 s.1 s.2.1 s.2.2) m_ (x3054, x3055, x3056) = some tl2880 ∧ Sep F R R3049 w w3050 [HP.own Ty.int (fun _ => False) 3 v3053 x3054] ∧ IsSlice (Ty.slice evtTy) w3050 R3049 v1 a0 ∧ E_ = [(0, v1), (5, v3053), (8, .bool x3055), (9, .int .i64 x3056)]) _ ⟨_, ⟨x2344, false, 0, v2343, _, ht2880, hS, f2341, rfl⟩, Sub.cons rfl (Sub.cons rfl (Sub.cons rfl (Sub.cons rfl (Sub.nil _))))⟩ ?_
      clear ht2880 hS
      rintro m2880 _ w3050 ⟨x3054, x3055, x3056, v3053, R3049, ht2880, hS, f3051, rfl⟩
      obtain ⟨m2880, rfl, o2880, ho2880, ht2880⟩ := iter_some ht2880
      replace ho2880 : ref32_Lower_B2 fuel a0 x3054 x3055 x3056 = some o2880 := ho2880
      unfold ref32_Lower_B2 at ho2880
      refine e_seq fun K3228 hK3228 => ?_
      refine e_seq fun K3229 hK3229 => ?_
      refine e_region_text rfl ?_
      refine q_move rfl rfl ?_
      refine q_move rfl rfl ?_
      refine q_lenS rfl f3051 rfl ?_
      refine q_lss rfl rfl rfl ?_
      refine eseq_nil ?_
      refine hK3229 _ _ ?_
      refine e_cond rfl (fun hc3230 => ?_) (fun hc3230 => ?_)
      · replace ho2880 := (if_pos hc3230).symm.trans ho2880
        refine e_skip ?_
        refine hK3228 _ _ ?_
        refine e_seq fun K3231 hK3231 => ?_
        refine e_block ?_
        refine e_seq fun K3232 hK3232 => ?_
        refine e_region_text rfl ?_
        refine q_assign rfl rfl ?_
        refine eseq_nil ?_
        refine hK3232 _ _ ?_
        refine e_block ?_
        obtain ⟨tl3233, ht3233, ho2880⟩ := Option.of_bind ho2880
        have hX3233_6 : ∀ (x3347 : (List Int)) (x3348 : Bool) (v3346 : Value) (R3342 : Nat → Prop) (w3343 : World) (E_ : Env), ref32_Lower_K4 fuel x3056 x3347 x3348 = some o2880 → Sep F R R3342 w w3343 [HP.own Ty.int (fun _ => False) 3 v3346 x3347] → IsSlice (Ty.slice evtTy) w3343 R3342 v1 a0 → Sub [(0, v1), (5, v3346), (8, .bool x3348), (9, .int .i64 x3056)] E_ → K3231 E_ w3343 := by
          intro x3347 x3348 v3346 R3342 w3343 E_ ho2880 hS f3344 hsub
          refine hK3231 _ _ (e_sub hsub ?_); clear hsub
          unfold ref32_Lower_K4 at ho2880
          refine e_region_text rfl ?_
          refine q_move rfl rfl ?_
          refine q_addW rfl rfl rfl ?_
          refine q_assign rfl rfl ?_
          refine eseq_nil ?_
          obtain rfl := Option.some.inj ho2880
          exact ⟨m2880, _, Nat.lt_succ_self _, ⟨x3347, x3348, (w64 (x3056 + 1)), v3346, _, ht2880, hS, f3344, rfl⟩, Sub.cons rfl (Sub.cons rfl (Sub.cons rfl (Sub.cons rfl (Sub.nil _))))⟩
        refine e_loop (fun m_ E_ w3287 => ∃ (x3291 : (List Int)), ∃ (x3292 : Bool), ∃ (x3293 : Int), ∃ (v3290 : Value), ∃ (R3286 : Nat → Prop), iter (fun s => ref32_Lower_B3 fuel x3056 a0 s.1 s.2.1 s.2.2) m_ (x3291, x3292, x3293) = some tl3233 ∧ Sep F R R3286 w w3287 [HP.own Ty.int (fun _ => False) 3 v3290 x3291] ∧ IsSlice (Ty.slice evtTy) w3287 R3286 v1 a0 ∧ E_ = [(0, v1), (5, v3290), (8, .bool x3292), (9, .int .i64 x3056), (10, .int .i64 x3293)]) _ ⟨_, ⟨x3054, x3055, 0, v3053, _, ht3233, hS, f3051, rfl⟩, Sub.cons rfl (Sub.cons rfl (Sub.cons rfl (Sub.cons rfl (Sub.cons rfl (Sub.nil _)))))⟩ ?_
        clear ht3233 hS
        rintro m3233 _ w3287 ⟨x3291, x3292, x3293, v3290, R3286, ht3233, hS, f3288, rfl⟩
        obtain ⟨m3233, rfl, o3233, ho3233, ht3233⟩ := iter_some ht3233
        replace ho3233 : ref32_Lower_B3 fuel x3056 a0 x3291 x3292 x3293 = some o3233 := ho3233
        unfold ref32_Lower_B3 at ho3233
        refine e_seq fun K3349 hK3349 => ?_
        refine e_seq fun K3350 hK3350 => ?_
        refine e_region_text rfl ?_
        refine q_move rfl rfl ?_
        refine q_move rfl rfl ?_
        refine q_move rfl rfl ?_
        obtain ⟨x3351, hx3351, ho3233⟩ := Option.of_bind ho3233
        refine q_indexO (by infer_instance) rfl (hS.own 0 rfl) rfl hx3351 rfl ?_
        have f3352 := (hS.ownR 0 rfl).elt hx3351
        refine q_load rfl (Elt.intCell f3352) rfl ?_
        refine q_lss rfl rfl rfl ?_
        refine eseq_nil ?_
        refine hK3350 _ _ ?_
        refine e_cond rfl (fun hc3353 => ?_) (fun hc3353 => ?_)
        · replace ho3233 := (if_pos hc3353).symm.trans ho3233
          refine e_skip ?_
          refine hK3349 _ _ ?_
          refine e_seq fun K3354 hK3354 => ?_
          refine e_block ?_
          refine e_seq fun K3355 hK3355 => ?_
          refine e_region_text rfl ?_
          refine q_move rfl rfl ?_
          refine q_move rfl rfl ?_
          obtain ⟨x3356, hx3356, ho3233⟩ := Option.of_bind ho3233
          refine q_atS (by infer_instance) rfl f3288 rfl hx3356 rfl fun b3357 o3357 hm3357 f3357 => ?_
          refine q_loadE rfl f3357 rfl (fun v3358 f3358 => ?_)
          refine q_move rfl rfl ?_
          obtain ⟨x3359, hx3359, ho3233⟩ := Option.of_bind ho3233
          refine q_atS (by infer_instance) rfl f3358 rfl hx3359 rfl fun b3360 o3360 hm3360 f3360 => ?_
          have hc3361 := Evt_open f3360
          refine q_loadAgg rfl hc3361 rfl rfl ?_
          refine q_allocB rfl fun w3362 bl3362 hg3362 hb3362 hB3362 => ?_
          replace f3288 := f3288.ext hB3362
          replace hS := hS.newBlk hB3362 hg3362 hb3362
          refine q_storeAgg rfl rfl (hS.blk 0 rfl) rfl (Nat.le_of_ble_eq_true rfl) (all_cons rfl (all_cons rfl (all_cons rfl (all_cons rfl (all_cons rfl (all_cons rfl (all_cons rfl (all_nil)))))))) rfl rfl fun w3364 hb3364 hO3364 => ?_
          simp only [setN, List.set, List.take, List.drop] at hb3364
          have hk3364 := hS.keptBlk 0 rfl hO3364
          replace f3288 := f3288.kept hk3364
          replace hS := hS.setBlk 0 rfl hb3364 hO3364; simp only [List.set] at hS
          refine eseq_nil ?_
          refine hK3355 _ _ ?_
          refine e_seq fun K3365 hK3365 => ?_
          refine e_region_draw mixed (fun _ => False) [0, 0, 0, 7, 15, 31, 63, 127, 255, 511, 1023, 2047, 4095, 1023, 1023, 17407, 58367, 123903, 262143, 524287, 1048575] [] [0, 1, 2, 3, 4, 5, 6, 7, 8, 9, 10, 11, 12, 13, 14, 15, 16, 17, 18, 19, 20] (by kernel_rfl) ?_
          refine q_move rfl rfl ?_
          refine q_move rfl rfl ?_
          refine q_loadAgg rfl (Blk.cellsAt (hS.blk 0 rfl) 0 7 rfl) rfl rfl ?_
          obtain ⟨r3367, hr3367, ho3233⟩ := Option.of_bind ho3233
          refine q_call rfl (ref32_sound_w (a2 := (⟨x3359.kind, x3359.inc, x3359.frm, (⟨x3359.sent.inc, x3359.sent.index⟩ : Lab), x3359.ord, x3359.value⟩ : Evt)) (Sep.enter (As := []) hS) f3288 hr3367) rfl ?_
          rintro _ w3366 ⟨R3366, rfl, hC3366⟩
          have hB3366 : Below (World.heap w3364).size w3364 w3366 := hC3366.stepB0
          refine ⟨fun _ => .of_below hB3366, ?_⟩
          replace f3288 := (f3288.ext hB3366).mono fun k hk _ => hC3366.ro0 k hk
          replace hS := Sep.leave (As := []) hS hC3366; simp only [List.cons_append, List.nil_append] at hS
          refine q_not rfl rfl ?_
          refine q_move rfl rfl ?_
          obtain ⟨x3375, hx3374, ho3233⟩ := Option.of_bind ho3233
          refine g_orM 14 hx3374 rfl trivial rfl rfl ?_ ?_ ?_
          · intro hg3374
            refine g_skip rfl rfl rfl ?_
            refine g_skip rfl rfl rfl ?_
            refine g_skip rfl rfl rfl ?_
            refine g_skip rfl rfl rfl ?_
            refine g_skipU rfl rfl ?_
            refine g_skipU rfl rfl ?_
            refine g_skipU rfl rfl ?_
            refine g_skipU rfl rfl ?_
            refine g_skipU rfl rfl ?_
            refine g_skipU rfl rfl ?_
            refine g_skipU rfl rfl ?_
            refine g_skipU rfl rfl ?_
            refine g_skipU rfl rfl ?_
            refine g_skip rfl rfl rfl ?_
            exact eseq_nil ⟨rfl, Sub.set rfl (Sub.set rfl (Sub.set rfl (Sub.set rfl (Sub.set rfl (Sub.set rfl (Sub.set rfl (Sub.set rfl (Sub.set rfl (Sub.set rfl (Sub.set rfl (Sub.set rfl (Sub.set rfl (Sub.set rfl (Sub.bool true rfl hg3374))))))))))))))⟩
          · intro hg3374 hx3374
            clear ho3233
            have hT3374 := Below.refl (World.heap w3366).size w3366
            refine g_run rfl ?_; refine q_field rfl rfl ?_
            refine g_run rfl ?_; refine q_load rfl (Blk.cell (hS.blk 0 rfl) rfl) rfl ?_
            refine g_run rfl ?_; refine q_eql rfl rfl rfl ?_
            refine g_run rfl ?_; refine q_move rfl rfl ?_
            obtain ⟨x3377, hx3376, hx3374⟩ := Option.of_bind hx3374
            refine g_andM 9 hx3376 rfl rfl rfl rfl ?_ ?_ ?_
            · intro hg3376 hx3376
              clear hx3374
              have hT3376 := Below.refl (World.heap w3366).size w3366
              refine g_run rfl ?_; refine q_field rfl rfl ?_
              refine g_run rfl ?_; refine q_field rfl rfl ?_
              refine g_run rfl ?_; refine q_load rfl (Blk.cell (hS.blk 0 rfl) rfl) rfl ?_
              refine g_run rfl ?_; refine q_move rfl rfl ?_
              refine g_run rfl ?_; refine q_field rfl rfl ?_
              refine g_run rfl ?_; refine q_load rfl (Blk.cell (hS.blk 0 rfl) rfl) rfl ?_
              obtain ⟨x3378, hx3378, hx3376⟩ := Option.of_bind hx3376
              refine g_run rfl ?_; refine q_indexO (by infer_instance) rfl (hS.own 1 rfl) rfl hx3378 rfl ?_
              have f3379 := (hS.ownR 1 rfl).elt hx3378
              refine g_run rfl ?_; refine q_load rfl (Elt.intCell f3379) rfl ?_
              refine g_run rfl ?_; refine q_gtr rfl rfl rfl ?_
              cases hx3376
              exact eseq_nil ⟨hT3376, Sub.set rfl (Sub.set rfl (Sub.set rfl (Sub.set rfl (Sub.set rfl (Sub.set rfl (Sub.set rfl (Sub.set rfl (Sub.set rfl (Sub.bool true rfl hg3376))))))))), rfl⟩
            · intro hg3376
              refine g_skip rfl rfl rfl ?_
              refine g_skip rfl rfl rfl ?_
              refine g_skip rfl rfl rfl ?_
              refine g_skip rfl rfl rfl ?_
              refine g_skip rfl rfl rfl ?_
              refine g_skip rfl rfl rfl ?_
              refine g_skip rfl rfl rfl ?_
              refine g_skip rfl rfl rfl ?_
              refine g_skip rfl rfl rfl ?_
              exact eseq_nil ⟨rfl, Sub.set rfl (Sub.set rfl (Sub.set rfl (Sub.set rfl (Sub.set rfl (Sub.set rfl (Sub.set rfl (Sub.set rfl (Sub.set rfl (Sub.bool false rfl hg3376)))))))))⟩
            intro wm3376 hBm3376; clear hx3376
            replace hS := hS.below hBm3376
            replace f3288 := f3288.ext hBm3376
            replace hT3374 := hT3374.trans (Below.mono hBm3376 hT3374.size)
            cases hx3374
            exact eseq_nil ⟨hT3374, Sub.set rfl (Sub.set rfl (Sub.set rfl (Sub.set rfl (Sub.set rfl (Sub.bool false rfl hg3374))))), rfl⟩
          intro wm3374 hBm3374; clear hx3374
          replace hS := hS.below hBm3374
          replace f3288 := f3288.ext hBm3374
          refine eseq_nil ?_
          refine hK3365 _ _ ?_
          refine e_cond rfl (fun hc3380 => ?_) (fun hc3380 => ?_)
          · replace ho3233 := (if_pos hc3380).symm.trans ho3233
            refine e_region_text rfl ?_
            refine q_move rfl rfl ?_
            refine q_move rfl rfl ?_
            refine q_move rfl rfl ?_
            obtain ⟨x3381, hx3381, ho3233⟩ := Option.of_bind ho3233
            refine q_indexO (by infer_instance) rfl (hS.own 1 rfl) rfl hx3381 rfl ?_
            obtain ⟨x3383, hx3383, ho3233⟩ := Option.of_bind ho3233
            refine q_storeO (T := Ty.int) (j := 0) rfl rfl (hS.own 1 rfl) hx3381 hx3383 rfl rfl rfl (Enc.setL rfl) fun w3382 ho3382 hO3382 => ?_
            have hk3382 := hS.keptO 1 rfl hx3381 hO3382
            replace f3288 := f3288.kept hk3382
            replace hS := hS.putO 1 rfl hx3381 ho3382 hO3382; simp only [List.set] at hS
            refine q_assign rfl rfl ?_
            refine eseq_nil ?_
            refine hK3354 _ _ ?_
            refine e_region_text rfl ?_
            refine q_move rfl rfl ?_
            refine q_addW rfl rfl rfl ?_
            refine q_assign rfl rfl ?_
            refine eseq_nil ?_
            obtain rfl := Option.some.inj ho3233
            exact ⟨m3233, _, Nat.lt_succ_self _, ⟨x3383, true, (w64 (x3293 + 1)), v3290, _, ht3233, (hS.pickB [1] 2 rfl rfl), f3288, rfl⟩, Sub.cons rfl (Sub.cons rfl (Sub.cons rfl (Sub.cons rfl (Sub.cons rfl (Sub.nil _)))))⟩
          · replace ho3233 := (if_neg (not_true hc3380)).symm.trans ho3233
            refine e_skip ?_
            refine hK3354 _ _ ?_
            refine e_region_text rfl ?_
            refine q_move rfl rfl ?_
            refine q_addW rfl rfl rfl ?_
            refine q_assign rfl rfl ?_
            refine eseq_nil ?_
            obtain rfl := Option.some.inj ho3233
            exact ⟨m3233, _, Nat.lt_succ_self _, ⟨x3291, x3292, (w64 (x3293 + 1)), v3290, _, ht3233, (hS.pickB [1] 2 rfl rfl), f3288, rfl⟩, Sub.cons rfl (Sub.cons rfl (Sub.cons rfl (Sub.cons rfl (Sub.cons rfl (Sub.nil _)))))⟩
        · replace ho3233 := (if_neg (not_true hc3353)).symm.trans ho3233
          refine e_exit ?_
          obtain rfl := Option.some.inj ho3233
          obtain rfl := Option.some.inj ht3233
          exact hX3233_6 x3291 x3292 v3290 _ _ _ ho2880 hS f3288 (Sub.cons rfl (Sub.cons rfl (Sub.cons rfl (Sub.cons rfl (Sub.nil _)))))
      · replace ho2880 := (if_neg (not_true hc3230)).symm.trans ho2880
        refine e_exit ?_
        obtain rfl := Option.some.inj ho2880
        obtain rfl := Option.some.inj ht2880
        replace ho1811 : ref32_Lower_K3 fuel x3054 x3055 = some o1811 := ho1811
        unfold ref32_Lower_K3 at ho1811
        obtain rfl := Option.some.inj ho1811
        exact ⟨m1811, _, Nat.lt_succ_self _, ⟨x3054, x3055, v3053, _, ht1811, hS, f3051, rfl⟩, Sub.cons rfl (Sub.cons rfl (Sub.cons rfl (Sub.nil _)))⟩
    · replace ho1811 := (if_neg (not_true hc2877)).symm.trans ho1811
      refine e_exit ?_
      obtain rfl := Option.some.inj ho1811
      obtain rfl := Option.some.inj ht1811
      exact hX1811_2 x2344 v2343 _ _ _ h hS  (Sub.cons rfl (Sub.nil _))
  replace hS := hS.nilOwn0 Ty.int 3
  refine e_loop (fun m_ E_ w1758 => ∃ (x1763 : (List Int)), ∃ (x1764 : Int), ∃ (v1762 : Value), ∃ (R1757 : Nat → Prop), iter (fun s => ref32_Lower_B4 fuel a0 a1 s.1 s.2) m_ (x1763, x1764) = some tl1714 ∧ Sep F R R1757 w w1758 [HP.own Ty.int (fun _ => False) 3 v1762 x1763] ∧ IsSlice (Ty.slice evtTy) w1758 R1757 v1 a0 ∧ IsSlice Ty.int w1758 R1757 v2 a1 ∧ E_ = [(0, v1), (1, v2), (5, v1762), (6, .int .i64 x1764)]) _ ⟨_, ⟨([] : List Int), 0, (.slice none 0 0), _, ht1714, hS, f1, f2, rfl⟩, Sub.cons rfl (Sub.cons rfl (Sub.cons rfl (Sub.cons rfl (Sub.nil _))))⟩ ?_
  clear ht1714 hS
  rintro m1714 _ w1758 ⟨x1763, x1764, v1762, R1757, ht1714, hS, f1759, f1760, rfl⟩
  obtain ⟨m1714, rfl, o1714, ho1714, ht1714⟩ := iter_some ht1714
  replace ho1714 : ref32_Lower_B4 fuel a0 a1 x1763 x1764 = some o1714 := ho1714
  unfold ref32_Lower_B4 at ho1714
  refine e_seq fun K3385 hK3385 => ?_
  refine e_seq fun K3386 hK3386 => ?_
  refine e_region_text rfl ?_
  refine q_move rfl rfl ?_
  refine q_move rfl rfl ?_
  refine q_lenS rfl f1759 rfl ?_
  refine q_lss rfl rfl rfl ?_
  refine eseq_nil ?_
  refine hK3386 _ _ ?_
  refine e_cond rfl (fun hc3387 => ?_) (fun hc3387 => ?_)
  · replace ho1714 := (if_pos hc3387).symm.trans ho1714
    refine e_skip ?_
    refine hK3385 _ _ ?_
    refine e_seq fun K3388 hK3388 => ?_
    refine e_block ?_
    refine e_seq fun K3389 hK3389 => ?_
    refine e_region_text rfl ?_
    refine q_assign rfl rfl ?_
    refine eseq_nil ?_
    refine hK3389 _ _ ?_
    refine e_seq fun K3390 hK3390 => ?_
    have hJ3390 : ∀ (x3403 : Int) (R3398 : Nat → Prop) (w3399 : World) (E_ : Env), ref32_Lower_J1 fuel x1763 x1764 x3403 = some o1714 → Sep F R R3398 w w3399 [HP.own Ty.int (fun _ => False) 3 v1762 x1763] → IsSlice (Ty.slice evtTy) w3399 R3398 v1 a0 → IsSlice Ty.int w3399 R3398 v2 a1 → Sub [(0, v1), (1, v2), (5, v1762), (6, .int .i64 x1764), (7, .int .i64 x3403)] E_ → K3390 E_ w3399 := by
      intro x3403 R3398 w3399 E_ ho1714 hS f3400 f3401 hsub
      refine hK3390 _ _ (e_sub hsub ?_); clear hsub
      unfold ref32_Lower_J1 at ho1714
      refine e_region_text rfl ?_
      refine q_move rfl rfl ?_
      refine q_move rfl rfl ?_
      refine q_litO (T := Ty.int) (S := (fun _ => False)) (cells := [[.int .i64 x3403]]) (ys := [x3403]) ((Parts.cons rfl rfl Parts.nil)) rfl rfl rfl rfl rfl rfl rfl (fun w1 hB => ⟨rfl, trivial⟩) (fun _ h => h.elim) rfl fun w3404 v3404 ho3404 hv3404 hB3404 => ?_
      replace f3400 := f3400.ext hB3404
      replace f3401 := f3401.ext hB3404
      replace hS := hS.newOwnS hB3404 ho3404 hv3404 (fun _ h => h.elim)
      obtain ⟨x3407, hx3407, ho1714⟩ := Option.of_bind ho1714
      refine q_catOwn (T := Ty.int) rfl rfl rfl rfl (hS.own 1 rfl) rfl (hS.own 0 rfl) (fun _ h _ => h.elim) (snoc_cat hx3407) (Nat.zero_le _) rfl (fun h => by cases h) fun v3406 w3406 hw3406 hgr3406 hnw3406 => ?_
      have hk3406 := hS.keptOwn 1 rfl hgr3406
      replace f3400 := f3400.kept hk3406
      replace f3401 := f3401.kept hk3406
      replace hS := hS.setOwn 1 rfl hw3406 hgr3406 hnw3406; simp only [List.set] at hS
      refine q_assign rfl rfl ?_
      refine eseq_nil ?_
      refine hK3388 _ _ ?_
      refine e_region_text rfl ?_
      refine q_move rfl rfl ?_
      refine q_addW rfl rfl rfl ?_
      refine q_assign rfl rfl ?_
      refine eseq_nil ?_
      obtain rfl := Option.some.inj ho1714
      exact ⟨m1714, _, Nat.lt_succ_self _, ⟨x3407, (w64 (x1764 + 1)), v3406, _, ht1714, (hS.pickB [1] 2 rfl rfl), f3400, f3401, rfl⟩, Sub.cons rfl (Sub.cons rfl (Sub.cons rfl (Sub.cons rfl (Sub.nil _))))⟩
    refine e_seq fun K3408 hK3408 => ?_
    refine e_region_text rfl ?_
    refine q_move rfl rfl ?_
    refine q_move rfl rfl ?_
    refine q_lenS rfl f1760 rfl ?_
    refine q_lss rfl rfl rfl ?_
    refine eseq_nil ?_
    refine hK3408 _ _ ?_
    refine e_cond rfl (fun hc3409 => ?_) (fun hc3409 => ?_)
    · replace ho1714 := (if_pos hc3409).symm.trans ho1714
      refine e_region_draw mixed (fun _ => False) [0, 0, 3, 7, 0, 0, 48, 112, 240, 511, 1023, 2047] [] [0, 1, 2, 3, 4, 5, 6, 7, 8, 9, 10, 11] (by kernel_rfl) ?_
      refine q_move rfl rfl ?_
      refine q_move rfl rfl ?_
      obtain ⟨x3410, hx3410, ho1714⟩ := Option.of_bind ho1714
      refine q_atS (by infer_instance) rfl f1760 rfl hx3410 rfl fun b3411 o3411 hm3411 f3411 => ?_
      refine q_load rfl (Elt.intCell f3411) rfl ?_
      refine q_move rfl rfl ?_
      refine q_move rfl rfl ?_
      obtain ⟨x3412, hx3412, ho1714⟩ := Option.of_bind ho1714
      refine q_atS (by infer_instance) rfl f1759 rfl hx3412 rfl fun b3413 o3413 hm3413 f3413 => ?_
      refine q_loadE rfl f3413 rfl (fun v3414 f3414 => ?_)
      refine q_lenS rfl f3414 rfl ?_
      refine q_min rfl rfl rfl ?_
      refine q_max rfl rfl rfl ?_
      refine q_assign rfl rfl ?_
      refine eseq_nil ?_
      exact hJ3390 (max 0 (min x3410 (x3412.length : Int))) _ _ _ ho1714 hS f1759 f1760 (Sub.cons rfl (Sub.cons rfl (Sub.cons rfl (Sub.cons rfl (Sub.cons rfl (Sub.nil _))))))
    · replace ho1714 := (if_neg (not_true hc3409)).symm.trans ho1714
      refine e_skip ?_
      exact hJ3390 0 _ _ _ ho1714 hS f1759 f1760 (Sub.cons rfl (Sub.cons rfl (Sub.cons rfl (Sub.cons rfl (Sub.cons rfl (Sub.nil _))))))
  · replace ho1714 := (if_neg (not_true hc3387)).symm.trans ho1714
    refine e_exit ?_
    obtain rfl := Option.some.inj ho1714
    obtain rfl := Option.some.inj ht1714
    exact hX1714_0 x1763 v1762 _ _ _ h hS f1759 (Sub.cons rfl (Sub.cons rfl (Sub.nil _)))
theorem law32_size_w {F R : Nat → Prop} {w : World} {fuel : Nat} {a0 : (List (List Evt))} {v1 : Value} {r : (Int)} (hS : Sep F R R w w []) (f1 : IsSlice (Ty.slice evtTy) w R v1 a0) (h : law32_size fuel a0 = some r) :
    Gives Try.prog 19 [v1] w fun u w1 => ∃ (R1 : Nat → Prop), u = .int .i64 r ∧ Sep F R R1 w w1 [] := by
  refine fn_of Try.func19 rfl Try.ntmps19 (Nat.le_of_ble_eq_true rfl) ?_
  unfold law32_size at h
  refine e_seq fun K62 hK62 => ?_
  refine e_region_text rfl ?_
  refine q_assign rfl rfl ?_
  refine eseq_nil ?_
  refine hK62 _ _ ?_
  refine e_seq fun K63 hK63 => ?_
  refine e_region_text rfl ?_
  refine q_move rfl rfl ?_
  refine q_lenS rfl f1 rfl ?_
  refine q_assign rfl rfl ?_
  refine eseq_nil ?_
  refine hK63 _ _ ?_
  refine e_seq fun K65 hK65 => ?_
  refine e_seq fun K66 hK66 => ?_
  refine e_region_text rfl ?_
  refine q_assign rfl rfl ?_
  refine eseq_nil ?_
  refine hK66 _ _ ?_
  refine e_block ?_
  obtain ⟨tl67, ht67, h⟩ := Option.of_bind h
  have hX67_0 : ∀ (x110 : Int) (R108 : Nat → Prop) (w109 : World) (E_ : Env), law32_size_K1 fuel x110 = some r → Sep F R R108 w w109 [] → Sub [(3, .int .i64 x110)] E_ → K65 E_ w109 := by
    intro x110 R108 w109 E_ h hS  hsub
    refine hK65 _ _ (e_sub hsub ?_); clear hsub
    unfold law32_size_K1 at h
    refine e_seq fun K111 hK111 => ?_
    refine e_region_text rfl ?_
    refine q_move rfl rfl ?_
    refine q_assign rfl rfl ?_
    refine eseq_nil ?_
    refine hK111 _ _ ?_
    refine e_ret ?_
    obtain rfl := Option.some.inj h
    exact ⟨_, res1 rfl rfl, _, rfl, hS⟩
  refine e_loop (fun m_ E_ w88 => ∃ (x90 : Int), ∃ (x91 : Int), ∃ (R87 : Nat → Prop), iter (fun s => law32_size_B1 fuel a0 s.1 s.2) m_ (x90, x91) = some tl67 ∧ Sep F R R87 w w88 [] ∧ IsSlice (Ty.slice evtTy) w88 R87 v1 a0 ∧ E_ = [(0, v1), (3, .int .i64 x90), (4, .int .i64 x91)]) _ ⟨_, ⟨(a0.length : Int), 0, _, ht67, hS, f1, rfl⟩, Sub.cons rfl (Sub.cons rfl (Sub.cons rfl (Sub.nil _)))⟩ ?_
  clear ht67 hS
  rintro m67 _ w88 ⟨x90, x91, R87, ht67, hS, f89, rfl⟩
  obtain ⟨m67, rfl, o67, ho67, ht67⟩ := iter_some ht67
  replace ho67 : law32_size_B1 fuel a0 x90 x91 = some o67 := ho67
  unfold law32_size_B1 at ho67
  refine e_seq fun K112 hK112 => ?_
  refine e_seq fun K113 hK113 => ?_
  refine e_region_text rfl ?_
  refine q_move rfl rfl ?_
  refine q_move rfl rfl ?_
  refine q_lenS rfl f89 rfl ?_
  refine q_lss rfl rfl rfl ?_
  refine q_move rfl rfl ?_
  obtain ⟨x117, hx116, ho67⟩ := Option.of_bind ho67
  refine g_andM 2 hx116 rfl trivial rfl rfl ?_ ?_ ?_
  · intro hg116 hx116
    clear ho67
    have hT116 := Below.refl (World.heap w88).size w88
    refine g_run rfl ?_; refine q_move rfl rfl ?_
    refine g_run rfl ?_; refine q_leq rfl rfl rfl ?_
    cases hx116
    exact eseq_nil ⟨hT116, Sub.set rfl (Sub.set rfl (Sub.bool true rfl hg116)), rfl⟩
  · intro hg116
    refine g_skip rfl rfl rfl ?_
    refine g_skip rfl rfl rfl ?_
    exact eseq_nil ⟨rfl, Sub.set rfl (Sub.set rfl (Sub.bool false rfl hg116))⟩
  intro wm116 hBm116; clear hx116
  replace hS := hS.below hBm116
  replace f89 := f89.ext hBm116
  refine eseq_nil ?_
  refine hK113 _ _ ?_
  refine e_cond rfl (fun hc118 => ?_) (fun hc118 => ?_)
  · replace ho67 := (if_pos hc118).symm.trans ho67
    refine e_skip ?_
    refine hK112 _ _ ?_
    refine e_seq fun K119 hK119 => ?_
    refine e_block ?_
    refine e_region_text rfl ?_
    refine q_move rfl rfl ?_
    refine q_move rfl rfl ?_
    refine q_move rfl rfl ?_
    obtain ⟨x120, hx120, ho67⟩ := Option.of_bind ho67
    refine q_atS (by infer_instance) rfl f89 rfl hx120 rfl fun b121 o121 hm121 f121 => ?_
    refine q_loadE rfl f121 rfl (fun v122 f122 => ?_)
    refine q_lenS rfl f122 rfl ?_
    refine q_addW rfl rfl rfl ?_
    refine q_assign rfl rfl ?_
    refine eseq_nil ?_
    refine hK119 _ _ ?_
    refine e_region_text rfl ?_
    refine q_move rfl rfl ?_
    refine q_addW rfl rfl rfl ?_
    refine q_assign rfl rfl ?_
    refine eseq_nil ?_
    obtain rfl := Option.some.inj ho67
    exact ⟨m67, _, Nat.lt_succ_self _, ⟨(w64 (x90 + (x120.length : Int))), (w64 (x91 + 1)), _, ht67, hS, f89, rfl⟩, Sub.cons rfl (Sub.cons rfl (Sub.cons rfl (Sub.nil _)))⟩
  · replace ho67 := (if_neg (not_true hc118)).symm.trans ho67
    refine e_exit ?_
    obtain rfl := Option.some.inj ho67
    obtain rfl := Option.some.inj ht67
    exact hX67_0 x90 _ _ _ h hS  (Sub.cons rfl (Sub.nil _))
theorem law32_OrphanCuts_w {F R : Nat → Prop} {w : World} {fuel : Nat} {a0 : (List (List Evt))} {a1 : (List Int)} {a2 : (List Int)} {v1 : Value} {v2 : Value} {v3 : Value} {r : (Bool)} (hS : Sep F R R w w []) (f1 : IsSlice (Ty.slice evtTy) w R v1 a0) (f2 : IsSlice Ty.int w R v2 a1) (f3 : IsSlice Ty.u8 w R v3 a2) (h : law32_OrphanCuts fuel a0 a1 a2 = some r) :
    Gives Try.prog 4 [v1, v2, v3] w fun u w1 => ∃ (R1 : Nat → Prop), u = .bool r ∧ Sep F R R1 w w1 [] := by
  refine fn_of Try.func4 rfl Try.ntmps4 (Nat.le_of_ble_eq_true rfl) ?_
  unfold law32_OrphanCuts at h
  refine e_seq fun K93 hK93 => ?_
  refine e_region_text rfl ?_
  refine q_assign rfl rfl ?_
  refine eseq_nil ?_
  refine hK93 _ _ ?_
  refine e_seq fun K94 hK94 => ?_
  refine e_seq fun K95 hK95 => ?_
  refine e_region_text rfl ?_
  obtain ⟨r97, hr97, h⟩ := Option.of_bind h
  refine q_call rfl (law32_awake_w (Sep.enter (As := []) hS)  hr97) rfl ?_
  rintro _ w96 ⟨R96, rfl, hC96⟩
  have hB96 : Below (World.heap w).size w w96 := hC96.stepB0
  refine ⟨fun _ => .of_below hB96, ?_⟩
  replace f1 := (f1.ext hB96).mono fun k hk _ => hC96.ro0 k hk
  replace f2 := (f2.ext hB96).mono fun k hk _ => hC96.ro0 k hk
  replace f3 := (f3.ext hB96).mono fun k hk _ => hC96.ro0 k hk
  replace hS := Sep.leave (As := []) hS hC96; simp only [List.cons_append, List.nil_append] at hS
  refine q_not rfl rfl ?_
  refine q_move rfl rfl ?_
  obtain ⟨x103, hx102, h⟩ := Option.of_bind h
  refine g_orM 3 hx102 rfl trivial rfl rfl ?_ ?_ ?_
  · intro hg102
    refine g_skip rfl rfl rfl ?_
    refine g_skip rfl rfl rfl ?_
    refine g_skip rfl rfl rfl ?_
    exact eseq_nil ⟨rfl, Sub.set rfl (Sub.set rfl (Sub.set rfl (Sub.bool true rfl hg102)))⟩
  · intro hg102 hx102
    clear h
    have hT102 := Below.refl (World.heap w96).size w96
    refine g_run rfl ?_; refine q_move rfl rfl ?_
    obtain ⟨r105, hr105, hx102⟩ := Option.of_bind hx102
    refine g_run rfl ?_; refine q_call rfl (law32_size_w (Sep.enter (As := []) hS) f1 hr105) rfl ?_
    rintro _ w104 ⟨R104, rfl, hC104⟩
    have hB104 : Below (World.heap w96).size w96 w104 := hC104.stepB0
    refine ⟨fun _ => .of_below hB104, ?_⟩
    replace f1 := (f1.ext hB104).mono fun k hk _ => hC104.ro0 k hk
    replace f2 := (f2.ext hB104).mono fun k hk _ => hC104.ro0 k hk
    replace f3 := (f3.ext hB104).mono fun k hk _ => hC104.ro0 k hk
    replace hT102 := hT102.trans (Below.mono hB104 hT102.size)
    replace hS := Sep.leave (As := []) hS hC104; simp only [List.cons_append, List.nil_append] at hS
    refine g_run rfl ?_; refine q_gtr rfl rfl rfl ?_
    cases hx102
    exact eseq_nil ⟨hT102, Sub.set rfl (Sub.set rfl (Sub.set rfl (Sub.bool false rfl hg102))), rfl⟩
  intro wm102 hBm102; clear hx102
  replace hS := hS.below hBm102
  replace f1 := f1.ext hBm102
  replace f2 := f2.ext hBm102
  replace f3 := f3.ext hBm102
  refine q_move rfl rfl ?_
  obtain ⟨x109, hx108, h⟩ := Option.of_bind h
  refine g_orM 3 hx108 rfl trivial rfl rfl ?_ ?_ ?_
  · intro hg108
    refine g_skip rfl rfl rfl ?_
    refine g_skip rfl rfl rfl ?_
    refine g_skip rfl rfl rfl ?_
    exact eseq_nil ⟨rfl, Sub.set rfl (Sub.set rfl (Sub.set rfl (Sub.bool true rfl hg108)))⟩
  · intro hg108 hx108
    clear h
    have hT108 := Below.refl (World.heap wm102).size wm102
    refine g_run rfl ?_; refine q_move rfl rfl ?_
    refine g_run rfl ?_; refine q_lenS rfl f2 rfl ?_
    refine g_run rfl ?_; refine q_gtr rfl rfl rfl ?_
    cases hx108
    exact eseq_nil ⟨hT108, Sub.set rfl (Sub.set rfl (Sub.set rfl (Sub.bool false rfl hg108))), rfl⟩
  intro wm108 hBm108; clear hx108
  replace hS := hS.below hBm108
  replace f1 := f1.ext hBm108
  replace f2 := f2.ext hBm108
  replace f3 := f3.ext hBm108
  refine eseq_nil ?_
  refine hK95 _ _ ?_
  refine e_cond rfl (fun hc110 => ?_) (fun hc110 => ?_)
  · replace h := (if_pos hc110).symm.trans h
    refine e_seq fun K111 hK111 => ?_
    refine e_region_text rfl ?_
    refine q_move rfl rfl ?_
    obtain ⟨r113, hr113, h⟩ := Option.of_bind h
    refine q_call rfl (law32_size_w (Sep.enter (As := []) hS) f1 hr113) rfl ?_
    rintro _ w112 ⟨R112, rfl, hC112⟩
    have hB112 : Below (World.heap wm108).size wm108 w112 := hC112.stepB0
    refine ⟨fun _ => .of_below hB112, ?_⟩
    replace f2 := (f2.ext hB112).mono fun k hk _ => hC112.ro0 k hk
    replace f1 := (f1.ext hB112).mono fun k hk _ => hC112.ro0 k hk
    replace hS := Sep.leave (As := []) hS hC112; simp only [List.cons_append, List.nil_append] at hS
    refine q_gtr rfl rfl rfl ?_
    refine q_move rfl rfl ?_
    obtain ⟨x117, hx116, h⟩ := Option.of_bind h
    refine g_orM 3 hx116 rfl trivial rfl rfl ?_ ?_ ?_
    · intro hg116
      refine g_skip rfl rfl rfl ?_
      refine g_skip rfl rfl rfl ?_
      refine g_skip rfl rfl rfl ?_
      exact eseq_nil ⟨rfl, Sub.set rfl (Sub.set rfl (Sub.set rfl (Sub.bool true rfl hg116)))⟩
    · intro hg116 hx116
      clear h
      have hT116 := Below.refl (World.heap w112).size w112
      refine g_run rfl ?_; refine q_move rfl rfl ?_
      refine g_run rfl ?_; refine q_lenS rfl f2 rfl ?_
      refine g_run rfl ?_; refine q_gtr rfl rfl rfl ?_
      cases hx116
      exact eseq_nil ⟨hT116, Sub.set rfl (Sub.set rfl (Sub.set rfl (Sub.bool false rfl hg116))), rfl⟩
    intro wm116 hBm116; clear hx116
    replace hS := hS.below hBm116
    refine q_assign rfl rfl ?_
    refine eseq_nil ?_
    refine hK111 _ _ ?_
    refine e_ret ?_
    obtain rfl := Option.some.inj h
    exact ⟨_, res1 rfl rfl, _, rfl, hS⟩
  · replace h := (if_neg (not_true hc110)).symm.trans h
    refine e_skip ?_
    refine hK94 _ _ ?_
    refine e_seq fun K118 hK118 => ?_
    refine e_region_text rfl ?_
    refine q_move rfl rfl ?_
    obtain ⟨r120, hr120, h⟩ := Option.of_bind h
    refine q_call rfl (law32_scene_w (Sep.enter (As := []) hS) f3 hr120) rfl ?_
    rintro _ w119 ⟨v121, v122, v123, R119, rfl, hC119, f123⟩
    have hB119 : Below (World.heap wm108).size wm108 w119 := hC119.stepB0
    refine ⟨fun _ => .of_below hB119, ?_⟩
    replace f1 := (f1.ext hB119).mono fun k hk _ => hC119.ro0 k hk
    replace f2 := (f2.ext hB119).mono fun k hk _ => hC119.ro0 k hk
    replace f3 := (f3.ext hB119).mono fun k hk _ => hC119.ro0 k hk
    replace hS := Sep.leave (As := []) hS hC119; simp only [List.cons_append, List.nil_append] at hS
    refine q_move rfl rfl ?_
    refine q_extract rfl rfl rfl ?_
    refine q_extract rfl rfl rfl ?_
    refine q_assign rfl rfl ?_
    refine q_assign rfl rfl ?_
    refine eseq_nil ?_
    refine hK118 _ _ ?_
    refine e_seq fun K124 hK124 => ?_
    refine e_region_text rfl ?_
    refine q_move rfl rfl ?_
    refine q_move rfl rfl ?_
    obtain ⟨r126, hr126, h⟩ := Option.of_bind h
    refine q_call rfl (orphan_Consistent_w (Sep.enter (As := []) hS) f1 f2 hr126) rfl ?_
    rintro _ w125 ⟨R125, rfl, hC125⟩
    have hB125 : Below (World.heap w119).size w119 w125 := hC125.stepB0
    refine ⟨fun _ => .of_below hB125, ?_⟩
    replace f1 := (f1.ext hB125).mono fun k hk _ => hC125.ro0 k hk
    replace f2 := (f2.ext hB125).mono fun k hk _ => hC125.ro0 k hk
    replace f123 := (f123.ext hB125).mono fun k hk _ => hC125.ro0 k hk
    replace hS := Sep.leave (As := []) hS hC125; simp only [List.cons_append, List.nil_append] at hS
    refine q_move rfl rfl ?_
    refine q_move rfl rfl ?_
    obtain ⟨r128, hr128, h⟩ := Option.of_bind h
    refine q_call rfl (ref32_Consistent_w (Sep.enter (As := []) hS) f1 f2 hr128) rfl ?_
    rintro _ w127 ⟨R127, rfl, hC127⟩
    have hB127 : Below (World.heap w125).size w125 w127 := hC127.stepB0
    refine ⟨fun _ => .of_below hB127, ?_⟩
    replace f1 := (f1.ext hB127).mono fun k hk _ => hC127.ro0 k hk
    replace f2 := (f2.ext hB127).mono fun k hk _ => hC127.ro0 k hk
    replace f123 := (f123.ext hB127).mono fun k hk _ => hC127.ro0 k hk
    replace hS := Sep.leave (As := []) hS hC127; simp only [List.cons_append, List.nil_append] at hS
    refine q_eqlB rfl rfl rfl ?_
    refine q_move rfl rfl ?_
    obtain ⟨x136, hx135, h⟩ := Option.of_bind h
    refine g_andM 7 hx135 rfl trivial rfl rfl ?_ ?_ ?_
    · intro hg135 hx135
      clear h
      have hT135 := Below.refl (World.heap w127).size w127
      refine g_run rfl ?_; refine q_move rfl rfl ?_
      refine g_run rfl ?_; refine q_move rfl rfl ?_
      obtain ⟨r138, hr138, hx135⟩ := Option.of_bind hx135
      refine g_run rfl ?_; refine q_call rfl (orphan_Consistent_w (Sep.all w127) ((hS.rowsI 0 1 rfl rfl (by decide))).old (f123).old hr138) rfl ?_
      rintro _ w137 ⟨R137, rfl, hC137⟩
      have hB137 : Below (World.heap w127).size w127 w137 := hC137.stepBF
      refine ⟨fun _ => .of_below hB137, ?_⟩
      replace f1 := f1.ext hB137
      replace f2 := f2.ext hB137
      replace f123 := f123.ext hB137
      replace hT135 := hT135.trans (Below.mono hB137 hT135.size)
      replace hS := hS.below hB137
      refine g_run rfl ?_; refine q_move rfl rfl ?_
      refine g_run rfl ?_; refine q_move rfl rfl ?_
      obtain ⟨r140, hr140, hx135⟩ := Option.of_bind hx135
      refine g_run rfl ?_; refine q_call rfl (ref32_Consistent_w (Sep.all w137) ((hS.rowsI 0 1 rfl rfl (by decide))).old (f123).old hr140) rfl ?_
      rintro _ w139 ⟨R139, rfl, hC139⟩
      have hB139 : Below (World.heap w137).size w137 w139 := hC139.stepBF
      refine ⟨fun _ => .of_below hB139, ?_⟩
      replace f1 := f1.ext hB139
      replace f2 := f2.ext hB139
      replace f123 := f123.ext hB139
      replace hT135 := hT135.trans (Below.mono hB139 hT135.size)
      replace hS := hS.below hB139
      refine g_run rfl ?_; refine q_eqlB rfl rfl rfl ?_
      cases hx135
      exact eseq_nil ⟨hT135, Sub.set rfl (Sub.set rfl (Sub.set rfl (Sub.set rfl (Sub.set rfl (Sub.set rfl (Sub.set rfl (Sub.bool true rfl hg135))))))), rfl⟩
    · intro hg135
      refine g_skip rfl rfl rfl ?_
      refine g_skip rfl rfl rfl ?_
      refine g_skip rfl rfl rfl ?_
      refine g_skip rfl rfl rfl ?_
      refine g_skip rfl rfl rfl ?_
      refine g_skip rfl rfl rfl ?_
      refine g_skip rfl rfl rfl ?_
      exact eseq_nil ⟨rfl, Sub.set rfl (Sub.set rfl (Sub.set rfl (Sub.set rfl (Sub.set rfl (Sub.set rfl (Sub.set rfl (Sub.bool false rfl hg135)))))))⟩
    intro wm135 hBm135; clear hx135
    replace hS := hS.below hBm135
    replace f1 := f1.ext hBm135
    replace f2 := f2.ext hBm135
    replace f123 := f123.ext hBm135
    refine q_move rfl rfl ?_
    obtain ⟨x152, hx151, h⟩ := Option.of_bind h
    refine g_andM 7 hx151 rfl trivial rfl rfl ?_ ?_ ?_
    · intro hg151 hx151
      clear h
      have hT151 := Below.refl (World.heap wm135).size wm135
      refine g_run rfl ?_; refine q_move rfl rfl ?_
      refine g_run rfl ?_; refine q_move rfl rfl ?_
      obtain ⟨r154, hr154, hx151⟩ := Option.of_bind hx151
      refine g_run rfl ?_; refine q_call rfl (orphan_Lower_w (Sep.enter (As := []) hS) f1 f2 hr154) rfl ?_
      rintro v155 w153 ⟨_, R153, rfl, hC153⟩
      have hB153 : Below (World.heap wm135).size wm135 w153 := hC153.stepB0
      refine ⟨fun _ => .of_below hB153, ?_⟩
      replace f1 := (f1.ext hB153).mono fun k hk _ => hC153.ro0 k hk
      replace f2 := (f2.ext hB153).mono fun k hk _ => hC153.ro0 k hk
      replace f123 := (f123.ext hB153).mono fun k hk _ => hC153.ro0 k hk
      replace hT151 := hT151.trans (Below.mono hB153 hT151.size)
      replace hS := Sep.leave (As := []) hS hC153; simp only [List.cons_append, List.nil_append] at hS
      refine g_run rfl ?_; refine q_move rfl rfl ?_
      refine g_run rfl ?_; refine q_move rfl rfl ?_
      obtain ⟨r157, hr157, hx151⟩ := Option.of_bind hx151
      refine g_run rfl ?_; refine q_call rfl (ref32_Lower_w (Sep.enter (As := []) hS) f1 f2 hr157) rfl ?_
      rintro v158 w156 ⟨_, R156, rfl, hC156⟩
      have hB156 : Below (World.heap w153).size w153 w156 := hC156.stepB0
      refine ⟨fun _ => .of_below hB156, ?_⟩
      replace f123 := (f123.ext hB156).mono fun k hk _ => hC156.ro0 k hk
      replace f1 := (f1.ext hB156).mono fun k hk _ => hC156.ro0 k hk
      replace f2 := (f2.ext hB156).mono fun k hk _ => hC156.ro0 k hk
      replace hT151 := hT151.trans (Below.mono hB156 hT151.size)
      replace hS := Sep.leave (As := []) hS hC156; simp only [List.cons_append, List.nil_append] at hS
      obtain ⟨r160, hr160, hx151⟩ := Option.of_bind hx151
      refine g_run rfl ?_; refine q_call rfl (ref23_SameInts_w (Sep.all w156) ((hS.isl 1 rfl)).old ((hS.isl 0 rfl)).old hr160) rfl ?_
      rintro _ w159 ⟨R159, rfl, hC159⟩
      have hB159 : Below (World.heap w156).size w156 w159 := hC159.stepBF
      refine ⟨fun _ => .of_below hB159, ?_⟩
      replace f123 := f123.ext hB159
      replace hT151 := hT151.trans (Below.mono hB159 hT151.size)
      replace hS := hS.below hB159
      cases hx151
      exact eseq_nil ⟨hT151, Sub.set rfl (Sub.set rfl (Sub.set rfl (Sub.set rfl (Sub.set rfl (Sub.set rfl (Sub.set rfl (Sub.bool true rfl hg151))))))), rfl⟩
    · intro hg151
      refine g_skip rfl rfl rfl ?_
      refine g_skip rfl rfl rfl ?_
      refine g_skip rfl rfl rfl ?_
      refine g_skip rfl rfl rfl ?_
      refine g_skip rfl rfl rfl ?_
      refine g_skip rfl rfl rfl ?_
      refine g_skip rfl rfl rfl ?_
      exact eseq_nil ⟨rfl, Sub.set rfl (Sub.set rfl (Sub.set rfl (Sub.set rfl (Sub.set rfl (Sub.set rfl (Sub.set rfl (Sub.bool false rfl hg151)))))))⟩
    intro wm151 hBm151; clear hx151
    replace hS := hS.below hBm151
    replace f123 := f123.ext hBm151
    refine q_move rfl rfl ?_
    obtain ⟨x172, hx171, h⟩ := Option.of_bind h
    refine g_andM 7 hx171 rfl trivial rfl rfl ?_ ?_ ?_
    · intro hg171 hx171
      clear h
      have hT171 := Below.refl (World.heap wm151).size wm151
      refine g_run rfl ?_; refine q_move rfl rfl ?_
      refine g_run rfl ?_; refine q_move rfl rfl ?_
      obtain ⟨r174, hr174, hx171⟩ := Option.of_bind hx171
      refine g_run rfl ?_; refine q_call rfl (orphan_Lower_w (Sep.all wm151) ((hS.rowsI 0 1 rfl rfl (by decide))).old (f123).old hr174) rfl ?_
      rintro v175 w173 ⟨_, R173, rfl, hC173⟩
      have hB173 : Below (World.heap wm151).size wm151 w173 := hC173.stepBF
      refine ⟨fun _ => .of_below hB173, ?_⟩
      replace f123 := f123.ext hB173
      replace hT171 := hT171.trans (Below.mono hB173 hT171.size)
      replace hS := hS.newOwnS hB173 (hC173.own 0 rfl) (hC173.fresh 0 rfl) (fun _ h => h.elim)
      refine g_run rfl ?_; refine q_move rfl rfl ?_
      refine g_run rfl ?_; refine q_move rfl rfl ?_
      obtain ⟨r177, hr177, hx171⟩ := Option.of_bind hx171
      refine g_run rfl ?_; refine q_call rfl (ref32_Lower_w (Sep.all w173) ((hS.rowsI 1 2 rfl rfl (by decide))).old (f123).old hr177) rfl ?_
      rintro v178 w176 ⟨_, R176, rfl, hC176⟩
      have hB176 : Below (World.heap w173).size w173 w176 := hC176.stepBF
      refine ⟨fun _ => .of_below hB176, ?_⟩
      replace f123 := f123.ext hB176
      replace hT171 := hT171.trans (Below.mono hB176 hT171.size)
      replace hS := hS.newOwnS hB176 (hC176.own 0 rfl) (hC176.fresh 0 rfl) (fun _ h => h.elim)
      obtain ⟨r180, hr180, hx171⟩ := Option.of_bind hx171
      refine g_run rfl ?_; refine q_call rfl (ref23_SameInts_w (Sep.all w176) ((hS.isl 1 rfl)).old ((hS.isl 0 rfl)).old hr180) rfl ?_
      rintro _ w179 ⟨R179, rfl, hC179⟩
      have hB179 : Below (World.heap w176).size w176 w179 := hC179.stepBF
      refine ⟨fun _ => .of_below hB179, ?_⟩
      replace hT171 := hT171.trans (Below.mono hB179 hT171.size)
      replace hS := hS.below hB179
      cases hx171
      exact eseq_nil ⟨hT171, Sub.set rfl (Sub.set rfl (Sub.set rfl (Sub.set rfl (Sub.set rfl (Sub.set rfl (Sub.set rfl (Sub.bool true rfl hg171))))))), rfl⟩
    · intro hg171
      refine g_skip rfl rfl rfl ?_
      refine g_skip rfl rfl rfl ?_
      refine g_skip rfl rfl rfl ?_
      refine g_skip rfl rfl rfl ?_
      refine g_skip rfl rfl rfl ?_
      refine g_skip rfl rfl rfl ?_
      refine g_skip rfl rfl rfl ?_
      exact eseq_nil ⟨rfl, Sub.set rfl (Sub.set rfl (Sub.set rfl (Sub.set rfl (Sub.set rfl (Sub.set rfl (Sub.set rfl (Sub.bool false rfl hg171)))))))⟩
    intro wm171 hBm171; clear hx171
    replace hS := hS.below hBm171
    refine q_assign rfl rfl ?_
    refine eseq_nil ?_
    refine hK124 _ _ ?_
    refine e_ret ?_
    obtain rfl := Option.some.inj h
    exact ⟨_, res1 rfl rfl, _, rfl, (hS.pickB [] 2 rfl rfl)⟩
theorem law32_OrphanGreatest_w {F R : Nat → Prop} {w : World} {fuel : Nat} {a0 : (List Int)} {v1 : Value} {r : (Bool)} (hS : Sep F R R w w []) (f1 : IsSlice Ty.u8 w R v1 a0) (h : law32_OrphanGreatest fuel a0 = some r) :
    Gives Try.prog 5 [v1] w fun u w1 => ∃ (R1 : Nat → Prop), u = .bool r ∧ Sep F R R1 w w1 [] := by
  refine fn_of Try.func5 rfl Try.ntmps5 (Nat.le_of_ble_eq_true rfl) ?_
  unfold law32_OrphanGreatest at h
  refine e_seq fun K947 hK947 => ?_
  refine e_region_text rfl ?_
  refine q_assign rfl rfl ?_
  refine eseq_nil ?_
  refine hK947 _ _ ?_
  refine e_seq fun K948 hK948 => ?_
  refine e_seq fun K949 hK949 => ?_
  refine e_region_text rfl ?_
  obtain ⟨r951, hr951, h⟩ := Option.of_bind h
  refine q_call rfl (law32_awake_w (Sep.enter (As := []) hS)  hr951) rfl ?_
  rintro _ w950 ⟨R950, rfl, hC950⟩
  have hB950 : Below (World.heap w).size w w950 := hC950.stepB0
  refine ⟨fun _ => .of_below hB950, ?_⟩
  replace f1 := (f1.ext hB950).mono fun k hk _ => hC950.ro0 k hk
  replace hS := Sep.leave (As := []) hS hC950; simp only [List.cons_append, List.nil_append] at hS
  refine q_not rfl rfl ?_
  refine eseq_nil ?_
  refine hK949 _ _ ?_
  refine e_cond rfl (fun hc952 => ?_) (fun hc952 => ?_)
  · replace h := (if_pos hc952).symm.trans h
    refine e_seq fun K953 hK953 => ?_
    refine e_region_text rfl ?_
    refine q_assign rfl rfl ?_
    refine eseq_nil ?_
    refine hK953 _ _ ?_
    refine e_ret ?_
    obtain rfl := Option.some.inj h
    exact ⟨_, res1 rfl rfl, _, rfl, hS⟩
  · replace h := (if_neg (not_true hc952)).symm.trans h
    refine e_skip ?_
    refine hK948 _ _ ?_
    refine e_seq fun K954 hK954 => ?_
    refine e_region_text rfl ?_
    refine q_move rfl rfl ?_
    obtain ⟨r956, hr956, h⟩ := Option.of_bind h
    refine q_call rfl (make_New_w (Sep.enter (As := []) hS) f1 hr956) rfl ?_
    rintro _ w955 ⟨B957, v958, R955, rfl, hC955, f958⟩
    have hB955 : Below (World.heap w950).size w950 w955 := hC955.stepB0
    refine ⟨fun _ => .of_below hB955, ?_⟩
    replace f1 := (f1.ext hB955).mono fun k hk _ => hC955.ro0 k hk
    replace hS := Sep.leave (As := []) hS hC955; simp only [List.cons_append, List.nil_append] at hS
    refine q_assign rfl rfl ?_
    refine eseq_nil ?_
    refine hK954 _ _ ?_
    refine e_seq fun K959 hK959 => ?_
    refine e_region_text rfl ?_
    refine q_move rfl rfl ?_
    obtain ⟨r961, hr961, h⟩ := Option.of_bind h
    refine q_call rfl (make_Codes_Lineages_w (Sep.enter (As := [_]) hS) f958 hr961) rfl ?_
    rintro _ w960 ⟨v962, v963, v964, v965, v966, R960, rfl, hC960, f964, f965⟩
    refine ⟨(fun h => by cases h), ?_⟩
    have hk960 := hC960.keptR (Sep.offFeet (As := [_]) hS)
    replace f958 := (f958.kept hk960).mono fun k hk _ => hC960.ro0 k hk
    replace hS := Sep.leave (As := [_]) hS hC960; simp only [List.cons_append, List.nil_append] at hS
    refine q_move rfl rfl ?_
    refine q_extract rfl rfl rfl ?_
    refine q_extract rfl rfl rfl ?_
    refine q_allocB rfl fun w967 bl967 hg967 hb967 hB967 => ?_
    replace f958 := f958.ext hB967
    replace f964 := f964.ext hB967
    replace f965 := f965.ext hB967
    replace hS := hS.newBlk hB967 hg967 hb967
    refine q_assign rfl rfl ?_
    refine q_storeAgg rfl rfl (hS.blk 0 rfl) rfl (Nat.le_of_ble_eq_true rfl) (all_cons f964.one (all_cons f965.one (all_cons (hS.own 4 rfl).one (all_nil)))) rfl rfl fun w969 hb969 hO969 => ?_
    simp only [setN, List.set, List.take, List.drop] at hb969
    have hk969 := hS.keptBlk 0 rfl hO969
    replace f958 := f958.kept hk969
    replace f964 := f964.kept hk969
    replace f965 := f965.kept hk969
    replace hS := hS.setBlk 0 rfl hb969 hO969; simp only [List.set] at hS
    refine eseq_nil ?_
    refine hK959 _ _ ?_
    refine e_seq fun K970 hK970 => ?_
    refine e_region_text rfl ?_
    refine q_move rfl rfl ?_
    refine q_loadAgg rfl (Blk.cellsAt (hS.blk 0 rfl) 0 3 rfl) rfl rfl ?_
    obtain ⟨R972, hS, hm972, f972⟩ := hS.freezeOwn 4 rfl; simp only [List.eraseIdx] at hS
    replace f958 := f958.mono fun k hk _ => hm972 k hk
    replace f964 := f964.mono fun k hk _ => hm972 k hk
    replace f965 := f965.mono fun k hk _ => hm972 k hk
    obtain ⟨r973, hr973, h⟩ := Option.of_bind h
    replace hS := hS.pickB [1, 0, 2, 3] 4 rfl rfl; simp only [List.map_cons, List.map_nil, List.getD_cons_zero, List.getD_cons_succ] at hS
    refine q_call rfl (make_Codes_Cut_w (a1 := (⟨r961.2.1.lens, r961.2.1.ckpts, r961.2.1.arcs⟩ : Pat)) (Sep.enter (As := [_]) hS) f964 f965 f972 f958 hr973) rfl ?_
    rintro v974 w971 ⟨_, R971, rfl, hC971⟩
    refine ⟨(fun h => by cases h), ?_⟩
    have hk971 := hC971.keptR (Sep.offFeet (As := [_]) hS)
    replace f958 := (f958.kept hk971).mono fun k hk _ => hC971.ro0 k hk
    replace f964 := (f964.kept hk971).mono fun k hk _ => hC971.ro0 k hk
    replace f965 := (f965.kept hk971).mono fun k hk _ => hC971.ro0 k hk
    replace f972 := (f972.kept hk971).mono fun k hk _ => hC971.ro0 k hk
    replace hS := Sep.leave (As := [_]) hS hC971; simp only [List.cons_append, List.nil_append] at hS
    refine q_assign rfl rfl ?_
    refine eseq_nil ?_
    refine hK970 _ _ ?_
    refine e_seq fun K975 hK975 => ?_
    have hJ975 : ∀ (x989 : (List (List Evt))) (v987 : Value) (v988 : List Value) (R985 : Nat → Prop) (w986 : World) (E_ : Env), law32_OrphanGreatest_J1 fuel r973 x989 = some r → Sep F R R985 w w986 [HP.own Ty.raw (fun _ => False) 64 v987 v988, HP.famS evtTy (fun _ => False) 66 v988 x989, HP.own Ty.int (fun _ => False) 3 v974 r973.1] → Sub [(4, v987), (6, v974)] E_ → K975 E_ w986 := by
      intro x989 v987 v988 R985 w986 E_ h hS  hsub
      refine hK975 _ _ (e_sub hsub ?_); clear hsub
      unfold law32_OrphanGreatest_J1 at h
      refine e_seq fun K993 hK993 => ?_
      refine e_region_text rfl ?_
      refine q_move rfl rfl ?_
      refine q_move rfl rfl ?_
      obtain ⟨r995, hr995, h⟩ := Option.of_bind h
      refine q_call rfl (orphan_Lower_w (Sep.all w986) ((hS.rowsI 0 1 rfl rfl (by decide))).old ((hS.isl 2 rfl)).old hr995) rfl ?_
      rintro v996 w994 ⟨_, R994, rfl, hC994⟩
      have hB994 : Below (World.heap w986).size w986 w994 := hC994.stepBF
      refine ⟨fun _ => .of_below hB994, ?_⟩
      replace hS := hS.newOwnS hB994 (hC994.own 0 rfl) (hC994.fresh 0 rfl) (fun _ h => h.elim)
      refine q_assign rfl rfl ?_
      refine eseq_nil ?_
      refine hK993 _ _ ?_
      refine e_seq fun K997 hK997 => ?_
      refine e_seq fun K998 hK998 => ?_
      refine e_region_text rfl ?_
      refine q_move rfl rfl ?_
      refine q_lenS rfl (hS.isl 0 rfl) rfl ?_
      refine q_move rfl rfl ?_
      refine q_lenS rfl (hS.isl 3 rfl) rfl ?_
      refine q_neq rfl rfl rfl ?_
      refine q_move rfl rfl ?_
      obtain ⟨x1004, hx1003, h⟩ := Option.of_bind h
      refine g_orM 4 hx1003 rfl trivial rfl rfl ?_ ?_ ?_
      · intro hg1003
        refine g_skip rfl rfl rfl ?_
        refine g_skip rfl rfl rfl ?_
        refine g_skip rfl rfl rfl ?_
        refine g_skip rfl rfl rfl ?_
        exact eseq_nil ⟨rfl, Sub.set rfl (Sub.set rfl (Sub.set rfl (Sub.set rfl (Sub.bool true rfl hg1003))))⟩
      · intro hg1003 hx1003
        clear h
        have hT1003 := Below.refl (World.heap w994).size w994
        refine g_run rfl ?_; refine q_move rfl rfl ?_
        refine g_run rfl ?_; refine q_move rfl rfl ?_
        obtain ⟨r1006, hr1006, hx1003⟩ := Option.of_bind hx1003
        refine g_run rfl ?_; refine q_call rfl (orphan_Consistent_w (Sep.all w994) ((hS.rowsI 1 2 rfl rfl (by decide))).old ((hS.isl 0 rfl)).old hr1006) rfl ?_
        rintro _ w1005 ⟨R1005, rfl, hC1005⟩
        have hB1005 : Below (World.heap w994).size w994 w1005 := hC1005.stepBF
        refine ⟨fun _ => .of_below hB1005, ?_⟩
        replace hT1003 := hT1003.trans (Below.mono hB1005 hT1003.size)
        replace hS := hS.below hB1005
        refine g_run rfl ?_; refine q_not rfl rfl ?_
        cases hx1003
        exact eseq_nil ⟨hT1003, Sub.set rfl (Sub.set rfl (Sub.set rfl (Sub.set rfl (Sub.bool false rfl hg1003)))), rfl⟩
      intro wm1003 hBm1003; clear hx1003
      replace hS := hS.below hBm1003
      refine eseq_nil ?_
      refine hK998 _ _ ?_
      refine e_cond rfl (fun hc1007 => ?_) (fun hc1007 => ?_)
      · replace h := (if_pos hc1007).symm.trans h
        refine e_seq fun K1008 hK1008 => ?_
        refine e_region_text rfl ?_
        refine q_assign rfl rfl ?_
        refine eseq_nil ?_
        refine hK1008 _ _ ?_
        refine e_ret ?_
        obtain rfl := Option.some.inj h
        exact ⟨_, res1 rfl rfl, _, rfl, (hS.pickB [] 4 rfl rfl)⟩
      · replace h := (if_neg (not_true hc1007)).symm.trans h
        refine e_skip ?_
        refine hK997 _ _ ?_
        refine e_seq fun K1009 hK1009 => ?_
        refine e_region_text rfl ?_
        refine q_move rfl rfl ?_
        refine q_lenS rfl (hS.isl 3 rfl) rfl ?_
        obtain ⟨x1010, hx1010, h⟩ := Option.of_bind h
        refine q_makeO (T := Ty.int) (S := (fun _ => False)) rfl rfl rfl hx1010 (fun _ h => h.elim) rfl fun w1011 v1011 ho1011 hv1011 hB1011 => ?_
        replace hS := hS.newOwnS hB1011 ho1011 hv1011 (fun _ h => h.elim)
        refine q_assign rfl rfl ?_
        refine eseq_nil ?_
        refine hK1009 _ _ ?_
        refine e_block ?_
        obtain ⟨tl1013, ht1013, h⟩ := Option.of_bind h
        refine e_loop (fun m_ E_ w1309 => ∃ (x1316 : (List Int)), ∃ (v1315 : Value), ∃ (R1308 : Nat → Prop), iter (fun s => law32_OrphanGreatest_B1 fuel x989 r995 r973 s) m_ x1316 = some tl1013 ∧ Sep F R R1308 w w1309 [HP.own Ty.raw (fun _ => False) 64 v987 v988, HP.famS evtTy (fun _ => False) 66 v988 x989, HP.own Ty.int (fun _ => False) 3 v974 r973.1, HP.own Ty.int (fun _ => False) 3 v996 r995, HP.own Ty.int (fun _ => False) 3 v1315 x1316] ∧ E_ = [(4, v987), (6, v974), (7, v996), (8, v1315)]) _ ⟨_, ⟨x1010, v1011, _, ht1013, (hS.pickB [2, 3, 4, 1, 0] 5 rfl rfl), rfl⟩, Sub.cons rfl (Sub.cons rfl (Sub.cons rfl (Sub.cons rfl (Sub.nil _))))⟩ ?_
        clear ht1013 hS
        rintro m1013 _ w1309 ⟨x1316, v1315, R1308, ht1013, hS, rfl⟩
        obtain ⟨m1013, rfl, o1013, ho1013, ht1013⟩ := iter_some ht1013
        replace ho1013 : law32_OrphanGreatest_B1 fuel x989 r995 r973 x1316 = some o1013 := ho1013
        unfold law32_OrphanGreatest_B1 at ho1013
        refine e_block ?_
        refine e_seq fun K1604 hK1604 => ?_
        have hJ1604 : ∀ (R1682 : Nat → Prop) (w1683 : World) (E_ : Env), law32_OrphanGreatest_J2 fuel r973 x1316 = some o1013 → Sep F R R1682 w w1683 [HP.own Ty.raw (fun _ => False) 64 v987 v988, HP.famS evtTy (fun _ => False) 66 v988 x989, HP.own Ty.int (fun _ => False) 3 v974 r973.1, HP.own Ty.int (fun _ => False) 3 v996 r995, HP.own Ty.int (fun _ => False) 3 v1315 x1316] → Sub [(4, v987), (6, v974), (7, v996), (8, v1315)] E_ → K1604 E_ w1683 := by
          intro R1682 w1683 E_ ho1013 hS  hsub
          refine hK1604 _ _ (e_sub hsub ?_); clear hsub
          unfold law32_OrphanGreatest_J2 at ho1013
          refine e_seq fun K1689 hK1689 => ?_
          refine e_region_text rfl ?_
          refine q_assign rfl rfl ?_
          refine eseq_nil ?_
          refine hK1689 _ _ ?_
          refine e_seq fun K1690 hK1690 => ?_
          refine e_block ?_
          obtain ⟨tl1691, ht1691, ho1013⟩ := Option.of_bind ho1013
          have hX1691_4 : ∀ (x1775 : (List Int)) (x1776 : Int) (v1774 : Value) (R1767 : Nat → Prop) (w1768 : World) (E_ : Env), law32_OrphanGreatest_K1 fuel x1775 x1776 = some o1013 → Sep F R R1767 w w1768 [HP.own Ty.raw (fun _ => False) 64 v987 v988, HP.famS evtTy (fun _ => False) 66 v988 x989, HP.own Ty.int (fun _ => False) 3 v974 r973.1, HP.own Ty.int (fun _ => False) 3 v996 r995, HP.own Ty.int (fun _ => False) 3 v1774 x1775] → Sub [(4, v987), (6, v974), (7, v996), (8, v1774), (10, .int .i64 x1776)] E_ → K1690 E_ w1768 := by
            intro x1775 x1776 v1774 R1767 w1768 E_ ho1013 hS  hsub
            refine hK1690 _ _ (e_sub hsub ?_); clear hsub
            unfold law32_OrphanGreatest_K1 at ho1013
            refine e_seq fun K1777 hK1777 => ?_
            refine e_seq fun K1778 hK1778 => ?_
            refine e_region_text rfl ?_
            refine q_move rfl rfl ?_
            refine q_move rfl rfl ?_
            refine q_lenS rfl (hS.isl 4 rfl) rfl ?_
            refine q_eql rfl rfl rfl ?_
            refine eseq_nil ?_
            refine hK1778 _ _ ?_
            refine e_cond rfl (fun hc1779 => ?_) (fun hc1779 => ?_)
            · replace ho1013 := (if_pos hc1779).symm.trans ho1013
              refine e_seq fun K1780 hK1780 => ?_
              refine e_region_text rfl ?_
              refine q_assign rfl rfl ?_
              refine eseq_nil ?_
              refine hK1780 _ _ ?_
              refine e_ret ?_
              obtain rfl := Option.some.inj ho1013
              obtain rfl := Option.some.inj ht1013
              obtain rfl := Option.some.inj h
              exact ⟨_, res1 rfl rfl, _, rfl, (hS.pickB [] 5 rfl rfl)⟩
            · replace ho1013 := (if_neg (not_true hc1779)).symm.trans ho1013
              refine e_skip ?_
              refine hK1777 _ _ ?_
              refine e_region_text rfl ?_
              refine q_move rfl rfl ?_
              refine q_move rfl rfl ?_
              obtain ⟨x1781, hx1781, ho1013⟩ := Option.of_bind ho1013
              refine q_indexO (by infer_instance) rfl (hS.own 4 rfl) rfl hx1781 rfl ?_
              have f1782 := (hS.ownR 4 rfl).elt hx1781
              refine q_load rfl (Elt.intCell f1782) rfl ?_
              refine q_addW rfl rfl rfl ?_
              obtain ⟨x1783, hx1783, ho1013⟩ := Option.of_bind ho1013
              refine q_indexO (by infer_instance) rfl (hS.own 4 rfl) rfl hx1783 rfl ?_
              obtain ⟨x1785, hx1785, ho1013⟩ := Option.of_bind ho1013
              refine q_storeO (T := Ty.int) (j := 0) rfl rfl (hS.own 4 rfl) hx1783 hx1785 rfl rfl rfl (Enc.setL rfl) fun w1784 ho1784 hO1784 => ?_
              have hk1784 := hS.keptO 4 rfl hx1783 hO1784
              replace hS := hS.putO 4 rfl hx1783 ho1784 hO1784; simp only [List.set] at hS
              refine eseq_nil ?_
              obtain rfl := Option.some.inj ho1013
              exact ⟨m1013, _, Nat.lt_succ_self _, ⟨x1785, v1774, _, ht1013, hS, rfl⟩, Sub.cons rfl (Sub.cons rfl (Sub.cons rfl (Sub.cons rfl (Sub.nil _))))⟩
          refine e_loop (fun m_ E_ w1729 => ∃ (x1736 : (List Int)), ∃ (x1737 : Int), ∃ (v1735 : Value), ∃ (R1728 : Nat → Prop), iter (fun s => law32_OrphanGreatest_B2 fuel r973 s.1 s.2) m_ (x1736, x1737) = some tl1691 ∧ Sep F R R1728 w w1729 [HP.own Ty.raw (fun _ => False) 64 v987 v988, HP.famS evtTy (fun _ => False) 66 v988 x989, HP.own Ty.int (fun _ => False) 3 v974 r973.1, HP.own Ty.int (fun _ => False) 3 v996 r995, HP.own Ty.int (fun _ => False) 3 v1735 x1736] ∧ E_ = [(4, v987), (6, v974), (7, v996), (8, v1735), (10, .int .i64 x1737)]) _ ⟨_, ⟨x1316, 0, v1315, _, ht1691, hS, rfl⟩, Sub.cons rfl (Sub.cons rfl (Sub.cons rfl (Sub.cons rfl (Sub.cons rfl (Sub.nil _)))))⟩ ?_
          clear ht1691 hS
          rintro m1691 _ w1729 ⟨x1736, x1737, v1735, R1728, ht1691, hS, rfl⟩
          obtain ⟨m1691, rfl, o1691, ho1691, ht1691⟩ := iter_some ht1691
          replace ho1691 : law32_OrphanGreatest_B2 fuel r973 x1736 x1737 = some o1691 := ho1691
          unfold law32_OrphanGreatest_B2 at ho1691
          refine e_seq fun K1786 hK1786 => ?_
          refine e_seq fun K1787 hK1787 => ?_
          refine e_region_draw mixed (fun _ => False) [0, 0, 2, 7, 15, 31, 31, 127, 255, 31, 31, 1567, 3615, 8191, 16383] [] [0, 1, 2, 3, 4, 5, 6, 7, 8, 9, 10, 11, 12, 13, 14] (by kernel_rfl) ?_
          refine q_move rfl rfl ?_
          refine q_move rfl rfl ?_
          refine q_lenS rfl (hS.isl 4 rfl) rfl ?_
          refine q_lss rfl rfl rfl ?_
          refine q_move rfl rfl ?_
          obtain ⟨x1795, hx1794, ho1691⟩ := Option.of_bind ho1691
          refine g_andM 9 hx1794 rfl trivial rfl rfl ?_ ?_ ?_
          · intro hg1794 hx1794
            clear ho1691
            have hT1794 := Below.refl (World.heap w1729).size w1729
            refine g_run rfl ?_; refine q_move rfl rfl ?_
            refine g_run rfl ?_; refine q_move rfl rfl ?_
            obtain ⟨x1796, hx1796, hx1794⟩ := Option.of_bind hx1794
            refine g_run rfl ?_; refine q_indexO (by infer_instance) rfl (hS.own 4 rfl) rfl hx1796 rfl ?_
            have f1797 := (hS.ownR 4 rfl).elt hx1796
            refine g_run rfl ?_; refine q_load rfl (Elt.intCell f1797) rfl ?_
            refine g_run rfl ?_; refine q_move rfl rfl ?_
            refine g_run rfl ?_; refine q_move rfl rfl ?_
            obtain ⟨x1798, hx1798, hx1794⟩ := Option.of_bind hx1794
            refine g_run rfl ?_; refine q_indexO (by infer_instance) rfl (hS.own 2 rfl) rfl hx1798 rfl ?_
            have f1799 := (hS.ownR 2 rfl).elt hx1798
            refine g_run rfl ?_; refine q_load rfl (Elt.intCell f1799) rfl ?_
            refine g_run rfl ?_; refine q_eql rfl rfl rfl ?_
            cases hx1794
            exact eseq_nil ⟨hT1794, Sub.set rfl (Sub.set rfl (Sub.set rfl (Sub.set rfl (Sub.set rfl (Sub.set rfl (Sub.set rfl (Sub.set rfl (Sub.set rfl (Sub.bool true rfl hg1794))))))))), rfl⟩
          · intro hg1794
            refine g_skip rfl rfl rfl ?_
            refine g_skip rfl rfl rfl ?_
            refine g_skip rfl rfl rfl ?_
            refine g_skip rfl rfl rfl ?_
            refine g_skip rfl rfl rfl ?_
            refine g_skip rfl rfl rfl ?_
            refine g_skip rfl rfl rfl ?_
            refine g_skip rfl rfl rfl ?_
            refine g_skip rfl rfl rfl ?_
            exact eseq_nil ⟨rfl, Sub.set rfl (Sub.set rfl (Sub.set rfl (Sub.set rfl (Sub.set rfl (Sub.set rfl (Sub.set rfl (Sub.set rfl (Sub.set rfl (Sub.bool false rfl hg1794)))))))))⟩
          intro wm1794 hBm1794; clear hx1794
          replace hS := hS.below hBm1794
          refine eseq_nil ?_
          refine hK1787 _ _ ?_
          refine e_cond rfl (fun hc1800 => ?_) (fun hc1800 => ?_)
          · replace ho1691 := (if_pos hc1800).symm.trans ho1691
            refine e_skip ?_
            refine hK1786 _ _ ?_
            refine e_block ?_
            refine e_seq fun K1801 hK1801 => ?_
            refine e_region_text rfl ?_
            refine q_move rfl rfl ?_
            refine q_move rfl rfl ?_
            obtain ⟨x1802, hx1802, ho1691⟩ := Option.of_bind ho1691
            refine q_indexO (by infer_instance) rfl (hS.own 4 rfl) rfl hx1802 rfl ?_
            obtain ⟨x1804, hx1804, ho1691⟩ := Option.of_bind ho1691
            refine q_storeO (T := Ty.int) (j := 0) rfl rfl (hS.own 4 rfl) hx1802 hx1804 rfl rfl rfl (Enc.setL rfl) fun w1803 ho1803 hO1803 => ?_
            have hk1803 := hS.keptO 4 rfl hx1802 hO1803
            replace hS := hS.putO 4 rfl hx1802 ho1803 hO1803; simp only [List.set] at hS
            refine eseq_nil ?_
            refine hK1801 _ _ ?_
            refine e_region_text rfl ?_
            refine q_move rfl rfl ?_
            refine q_addW rfl rfl rfl ?_
            refine q_assign rfl rfl ?_
            refine eseq_nil ?_
            obtain rfl := Option.some.inj ho1691
            exact ⟨m1691, _, Nat.lt_succ_self _, ⟨x1804, (w64 (x1737 + 1)), v1735, _, ht1691, hS, rfl⟩, Sub.cons rfl (Sub.cons rfl (Sub.cons rfl (Sub.cons rfl (Sub.cons rfl (Sub.nil _)))))⟩
          · replace ho1691 := (if_neg (not_true hc1800)).symm.trans ho1691
            refine e_exit ?_
            obtain rfl := Option.some.inj ho1691
            obtain rfl := Option.some.inj ht1691
            exact hX1691_4 x1736 x1737 v1735 _ _ _ ho1013 hS  (Sub.cons rfl (Sub.cons rfl (Sub.cons rfl (Sub.cons rfl (Sub.cons rfl (Sub.nil _))))))
        refine e_seq fun K1805 hK1805 => ?_
        refine e_region_text rfl ?_
        refine q_move rfl rfl ?_
        refine q_move rfl rfl ?_
        obtain ⟨r1807, hr1807, ho1013⟩ := Option.of_bind ho1013
        refine q_call rfl (ref32_Consistent_w (Sep.all w1309) ((hS.rowsI 0 1 rfl rfl (by decide))).old ((hS.isl 4 rfl)).old hr1807) rfl ?_
        rintro _ w1806 ⟨R1806, rfl, hC1806⟩
        have hB1806 : Below (World.heap w1309).size w1309 w1806 := hC1806.stepBF
        refine ⟨fun _ => .of_below hB1806, ?_⟩
        replace hS := hS.below hB1806
        refine eseq_nil ?_
        refine hK1805 _ _ ?_
        refine e_cond rfl (fun hc1808 => ?_) (fun hc1808 => ?_)
        · replace ho1013 := (if_pos hc1808).symm.trans ho1013
          refine e_seq fun K1809 hK1809 => ?_
          refine e_region_text rfl ?_
          refine q_assign rfl rfl ?_
          refine eseq_nil ?_
          refine hK1809 _ _ ?_
          refine e_block ?_
          obtain ⟨tl1810, ht1810, ho1013⟩ := Option.of_bind ho1013
          refine e_loop (fun m_ E_ w1838 => ∃ (x1844 : Int), ∃ (R1837 : Nat → Prop), iter (fun s => law32_OrphanGreatest_B3 fuel x1316 r995 s) m_ x1844 = some tl1810 ∧ Sep F R R1837 w w1838 [HP.own Ty.raw (fun _ => False) 64 v987 v988, HP.famS evtTy (fun _ => False) 66 v988 x989, HP.own Ty.int (fun _ => False) 3 v974 r973.1, HP.own Ty.int (fun _ => False) 3 v996 r995, HP.own Ty.int (fun _ => False) 3 v1315 x1316] ∧ E_ = [(4, v987), (6, v974), (7, v996), (8, v1315), (9, .int .i64 x1844)]) _ ⟨_, ⟨0, _, ht1810, hS, rfl⟩, Sub.cons rfl (Sub.cons rfl (Sub.cons rfl (Sub.cons rfl (Sub.cons rfl (Sub.nil _)))))⟩ ?_
          clear ht1810 hS
          rintro m1810 _ w1838 ⟨x1844, R1837, ht1810, hS, rfl⟩
          obtain ⟨m1810, rfl, o1810, ho1810, ht1810⟩ := iter_some ht1810
          replace ho1810 : law32_OrphanGreatest_B3 fuel x1316 r995 x1844 = some o1810 := ho1810
          unfold law32_OrphanGreatest_B3 at ho1810
          refine e_seq fun K1871 hK1871 => ?_
          refine e_seq fun K1872 hK1872 => ?_
          refine e_region_text rfl ?_
          refine q_move rfl rfl ?_
          refine q_move rfl rfl ?_
          refine q_lenS rfl (hS.isl 4 rfl) rfl ?_
          refine q_lss rfl rfl rfl ?_
          refine eseq_nil ?_
          refine hK1872 _ _ ?_
          refine e_cond rfl (fun hc1873 => ?_) (fun hc1873 => ?_)
          · replace ho1810 := (if_pos hc1873).symm.trans ho1810
            refine e_skip ?_
            refine hK1871 _ _ ?_
            refine e_seq fun K1874 hK1874 => ?_
            refine e_block ?_
            refine e_seq fun K1875 hK1875 => ?_
            refine e_region_draw mixed (fun _ => False) [0, 0, 3, 7, 0, 0, 48, 112, 255] [] [0, 1, 2, 3, 4, 5, 6, 7, 8] (by kernel_rfl) ?_
            refine q_move rfl rfl ?_
            refine q_move rfl rfl ?_
            obtain ⟨x1876, hx1876, ho1810⟩ := Option.of_bind ho1810
            refine q_indexO (by infer_instance) rfl (hS.own 4 rfl) rfl hx1876 rfl ?_
            have f1877 := (hS.ownR 4 rfl).elt hx1876
            refine q_load rfl (Elt.intCell f1877) rfl ?_
            refine q_move rfl rfl ?_
            refine q_move rfl rfl ?_
            obtain ⟨x1878, hx1878, ho1810⟩ := Option.of_bind ho1810
            refine q_indexO (by infer_instance) rfl (hS.own 3 rfl) rfl hx1878 rfl ?_
            have f1879 := (hS.ownR 3 rfl).elt hx1878
            refine q_load rfl (Elt.intCell f1879) rfl ?_
            refine q_gtr rfl rfl rfl ?_
            refine eseq_nil ?_
            refine hK1875 _ _ ?_
            refine e_cond rfl (fun hc1880 => ?_) (fun hc1880 => ?_)
            · replace ho1810 := (if_pos hc1880).symm.trans ho1810
              refine e_seq fun K1881 hK1881 => ?_
              refine e_region_text rfl ?_
              refine q_assign rfl rfl ?_
              refine eseq_nil ?_
              refine hK1881 _ _ ?_
              refine e_ret ?_
              obtain rfl := Option.some.inj ho1810
              obtain rfl := Option.some.inj ht1810
              obtain rfl := Option.some.inj ho1013
              obtain rfl := Option.some.inj ht1013
              obtain rfl := Option.some.inj h
              exact ⟨_, res1 rfl rfl, _, rfl, (hS.pickB [] 5 rfl rfl)⟩
            · replace ho1810 := (if_neg (not_true hc1880)).symm.trans ho1810
              refine e_skip ?_
              refine hK1874 _ _ ?_
              refine e_region_text rfl ?_
              refine q_move rfl rfl ?_
              refine q_addW rfl rfl rfl ?_
              refine q_assign rfl rfl ?_
              refine eseq_nil ?_
              obtain rfl := Option.some.inj ho1810
              exact ⟨m1810, _, Nat.lt_succ_self _, ⟨(w64 (x1844 + 1)), _, ht1810, hS, rfl⟩, Sub.cons rfl (Sub.cons rfl (Sub.cons rfl (Sub.cons rfl (Sub.cons rfl (Sub.nil _)))))⟩
          · replace ho1810 := (if_neg (not_true hc1873)).symm.trans ho1810
            refine e_exit ?_
            obtain rfl := Option.some.inj ho1810
            obtain rfl := Option.some.inj ht1810
            replace ho1013 : law32_OrphanGreatest_K2 fuel r973 x1316 = some o1013 := ho1013
            unfold law32_OrphanGreatest_K2 at ho1013
            exact hJ1604  _ _ _ ho1013 hS  (Sub.cons rfl (Sub.cons rfl (Sub.cons rfl (Sub.cons rfl (Sub.nil _)))))
        · replace ho1013 := (if_neg (not_true hc1808)).symm.trans ho1013
          refine e_skip ?_
          exact hJ1604  _ _ _ ho1013 hS  (Sub.cons rfl (Sub.cons rfl (Sub.cons rfl (Sub.cons rfl (Sub.nil _)))))
    refine e_seq fun K1882 hK1882 => ?_
    refine e_region_text rfl ?_
    refine q_move rfl rfl ?_
    obtain ⟨r1884, hr1884, h⟩ := Option.of_bind h
    refine q_call rfl (make_Codes_Next_w (Sep.enter (As := [_]) hS) f958 hr1884) rfl ?_
    rintro _ w1883 ⟨R1883, rfl, hC1883⟩
    refine ⟨(fun h => by cases h), ?_⟩
    have hk1883 := hC1883.keptR (Sep.offFeet (As := [_]) hS)
    replace f958 := (f958.kept hk1883).mono fun k hk _ => hC1883.ro0 k hk
    replace hS := Sep.leave (As := [_]) hS hC1883; simp only [List.cons_append, List.nil_append] at hS
    refine q_eql rfl rfl rfl ?_
    refine eseq_nil ?_
    refine hK1882 _ _ ?_
    refine e_cond rfl (fun hc1885 => ?_) (fun hc1885 => ?_)
    · replace h := (if_pos hc1885).symm.trans h
      refine e_region_text rfl ?_
      refine q_move rfl rfl ?_
      refine q_move rfl rfl ?_
      obtain ⟨r1887, hr1887, h⟩ := Option.of_bind h
      replace hS := hS.pickB [0, 3, 4, 1, 2] 5 rfl rfl; simp only [List.map_cons, List.map_nil, List.getD_cons_zero, List.getD_cons_succ] at hS
      refine q_call rfl (make_Codes_SpoilLineages_w (Sep.enter (As := [_, _, _]) hS) f958 hr1887) rfl ?_
      rintro v1889 w1886 ⟨_, v1890, R1886, rfl, hC1886⟩
      refine ⟨(fun h => by cases h), ?_⟩
      have hk1886 := hC1886.keptR (Sep.offFeet (As := [_, _, _]) hS)
      replace f958 := (f958.kept hk1886).mono fun k hk _ => hC1886.ro0 k hk
      replace hS := Sep.leave (As := [_, _, _]) hS hC1886; simp only [List.cons_append, List.nil_append] at hS
      refine q_assign rfl rfl ?_
      refine eseq_nil ?_
      exact hJ975 r1887.2.2 v1889 v1890 _ _ _ h (hS.pickB [1, 2, 3] 5 rfl rfl)  (Sub.cons rfl (Sub.cons rfl (Sub.nil _)))
    · replace h := (if_neg (not_true hc1885)).symm.trans h
      refine e_skip ?_
      exact hJ975 r961.1 v962 v963 _ _ _ h (hS.pickB [3, 4, 1] 5 rfl rfl)  (Sub.cons rfl (Sub.cons rfl (Sub.nil _)))
end Go.Proofs.Ytghjjkdfjmnfeaa
