/- Printed walks: A32r. -/
import Derived.Test.YtghjjkdfjmnfeaaA32m
set_option linter.unusedVariables false
set_option linter.unusedSimpArgs false
namespace Go.Mine
open Go.RowKit
def ref32_Labelled (fuel : Nat) (a0 : (List Evt)) (a1 : Lab) : Option (Bool) :=
  (if (a1.index == 0) = true then some (a1.inc == 0) else (andM (decide (0 < a1.index)) (some (decide (a1.index ≤ (a0.length : Int))))).bind fun x26 => (andM x26 ((ati a0 (w64 (a1.index - 1))).bind fun x29 => some (x29.inc == a1.inc))).bind fun x28 => some x28)
def ref32_sound (fuel : Nat) (a0 : (List (List Evt))) (a1 : Int) (a2 : Evt) : Option (Bool) :=
  (orM (a2.kind != 1) ((andM (decide (0 ≤ a2.frm)) (some (decide (a2.frm < (a0.length : Int))))).bind fun x26 => (andM x26 (some (a2.frm != a1))).bind fun x28 => (andM x28 ((ati a0 a2.frm).bind fun x31 => (ref32_Labelled fuel x31 (⟨a2.sent.inc, a2.sent.index⟩ : Lab)).bind fun r35 => some r35)).bind fun x30 => some x30)).bind fun x24 => some x24
def ref32_Consistent_K2 (fuel : Nat) : Option (Bool) :=
  some true
def ref32_Consistent_K3 (fuel : Nat) (x627 : Int) : Option ((Int) ⊕ (Unit ⊕ (Bool))) :=
  some (Sum.inl (w64 (x627 + 1)))
def ref32_Consistent_B2 (fuel : Nat) (a1 : (List Int)) (x627 : Int) (a0 : (List (List Evt))) (x792 : Int) : Option ((Int) ⊕ (Unit ⊕ (Bool))) :=
  (ati a1 x627).bind fun x831 => (if (decide (x792 < x831)) = true then (ati a0 x627).bind fun x836 => (ati x836 x792).bind fun x839 => (ref32_sound fuel a0 x627 (⟨x839.kind, x839.inc, x839.frm, (⟨x839.sent.inc, x839.sent.index⟩ : Lab), x839.ord, x839.value⟩ : Evt)).bind fun r847 => (orM (!r847) ((andM (x839.kind == 1) ((ati a1 x839.frm).bind fun x852 => some (decide (x852 < x839.sent.index)))).bind fun x851 => some x851)).bind fun x849 => (if x849 = true then some (Sum.inr (Sum.inr false)) else some (Sum.inl (w64 (x792 + 1)))) else some (Sum.inr (Sum.inl ())))
def ref32_Consistent_B1 (fuel : Nat) (a0 : (List (List Evt))) (a1 : (List Int)) (x627 : Int) : Option ((Int) ⊕ (Unit ⊕ (Bool))) :=
  (if (decide (x627 < (a0.length : Int))) = true then (iter (fun s => ref32_Consistent_B2 fuel a1 x627 a0 s) fuel 0).bind (fun t => Sum.elim (fun t => ref32_Consistent_K3 fuel x627) (fun t => some (Sum.inr (Sum.inr t))) t) else some (Sum.inr (Sum.inl ())))
def ref32_Consistent_K1 (fuel : Nat) (a0 : (List (List Evt))) (a1 : (List Int)) : Option (Bool) :=
  (iter (fun s => ref32_Consistent_B1 fuel a0 a1 s) fuel 0).bind (fun t => Sum.elim (fun t => ref32_Consistent_K2 fuel) (fun t => some t) t)
def ref32_Consistent_B3 (fuel : Nat) (a0 : (List (List Evt))) (a1 : (List Int)) (x475 : Int) : Option ((Int) ⊕ (Unit ⊕ (Bool))) :=
  (if (decide (x475 < (a0.length : Int))) = true then (ati a1 x475).bind fun x861 => (orM (decide (x861 < 0)) ((ati a1 x475).bind fun x865 => (ati a0 x475).bind fun x867 => some (decide ((x867.length : Int) < x865)))).bind fun x864 => (if x864 = true then some (Sum.inr (Sum.inr false)) else some (Sum.inl (w64 (x475 + 1)))) else some (Sum.inr (Sum.inl ())))
def ref32_Consistent (fuel : Nat) (a0 : (List (List Evt))) (a1 : (List Int)) : Option (Bool) :=
  (if ((a1.length : Int) != (a0.length : Int)) = true then some false else (iter (fun s => ref32_Consistent_B3 fuel a0 a1 s) fuel 0).bind (fun t => Sum.elim (fun t => ref32_Consistent_K1 fuel a0 a1) (fun t => some t) t))
def ref32_Lower_K2 (fuel : Nat) (x2603 : (List Int)) : Option ((List Int)) :=
  some x2603
def ref32_Lower_K3 (fuel : Nat) (x2920 : (List Int)) (x2921 : Bool) : Option (((List Int) × Bool) ⊕ ((List Int))) :=
  some (Sum.inl (x2920, x2921))
def ref32_Lower_K4 (fuel : Nat) (x2768 : Int) (x3029 : (List Int)) (x3030 : Bool) : Option (((List Int) × Bool × Int) ⊕ ((List Int) × Bool)) :=
  some (Sum.inl (x3029, x3030, (w64 (x2768 + 1))))
def ref32_Lower_B3 (fuel : Nat) (x2768 : Int) (a0 : (List (List Evt))) (x2979 : (List Int)) (x2980 : Bool) (x2981 : Int) : Option (((List Int) × Bool × Int) ⊕ ((List Int) × Bool)) :=
  (ati x2979 x2768).bind fun x3033 => (if (decide (x2981 < x3033)) = true then (ati a0 x2768).bind fun x3038 => (ati x3038 x2981).bind fun x3041 => (ref32_sound fuel a0 x2768 (⟨x3041.kind, x3041.inc, x3041.frm, (⟨x3041.sent.inc, x3041.sent.index⟩ : Lab), x3041.ord, x3041.value⟩ : Evt)).bind fun r3049 => (orM (!r3049) ((andM (x3041.kind == 1) ((ati x2979 x3041.frm).bind fun x3054 => some (decide (x3054 < x3041.sent.index)))).bind fun x3053 => some x3053)).bind fun x3051 => (if x3051 = true then (ati x2979 x2768).bind fun x3057 => (seti x2979 x2768 x2981).bind fun x3059 => some (Sum.inl (x3059, true, (w64 (x2981 + 1)))) else some (Sum.inl (x2979, x2980, (w64 (x2981 + 1))))) else some (Sum.inr (x2979, x2980)))
def ref32_Lower_B2 (fuel : Nat) (a0 : (List (List Evt))) (x2766 : (List Int)) (x2767 : Bool) (x2768 : Int) : Option (((List Int) × Bool × Int) ⊕ ((List Int) × Bool)) :=
  (if (decide (x2768 < (a0.length : Int))) = true then (iter (fun s => ref32_Lower_B3 fuel x2768 a0 s.1 s.2.1 s.2.2) fuel (x2766, x2767, 0)).bind (fun t => ref32_Lower_K4 fuel x2768 t.1 t.2) else some (Sum.inr (x2766, x2767)))
def ref32_Lower_B1 (fuel : Nat) (a0 : (List (List Evt))) (x2128 : (List Int)) (x2129 : Bool) : Option (((List Int) × Bool) ⊕ ((List Int))) :=
  (if x2129 = true then (iter (fun s => ref32_Lower_B2 fuel a0 s.1 s.2.1 s.2.2) fuel (x2128, false, 0)).bind (fun t => ref32_Lower_K3 fuel t.1 t.2) else some (Sum.inr x2128))
def ref32_Lower_K1 (fuel : Nat) (a0 : (List (List Evt))) (x1646 : (List Int)) : Option ((List Int)) :=
  (iter (fun s => ref32_Lower_B1 fuel a0 s.1 s.2) fuel (x1646, true)).bind (fun t => ref32_Lower_K2 fuel t)
def ref32_Lower_J1 (fuel : Nat) (x1601 : (List Int)) (x1602 : Int) (x3079 : Int) : Option (((List Int) × Int) ⊕ ((List Int))) :=
  (snoc x1601 x3079).bind fun x3083 => some (Sum.inl (x3083, (w64 (x1602 + 1))))
def ref32_Lower_B4 (fuel : Nat) (a0 : (List (List Evt))) (a1 : (List Int)) (x1601 : (List Int)) (x1602 : Int) : Option (((List Int) × Int) ⊕ ((List Int))) :=
  (if (decide (x1602 < (a0.length : Int))) = true then (if (decide (x1602 < (a1.length : Int))) = true then (ati a1 x1602).bind fun x3086 => (ati a0 x1602).bind fun x3088 => ref32_Lower_J1 fuel x1601 x1602 (max 0 (min x3086 (x3088.length : Int))) else ref32_Lower_J1 fuel x1601 x1602 0) else some (Sum.inr x1601))
def ref32_Lower (fuel : Nat) (a0 : (List (List Evt))) (a1 : (List Int)) : Option ((List Int)) :=
  (iter (fun s => ref32_Lower_B4 fuel a0 a1 s.1 s.2) fuel (([] : List Int), 0)).bind (fun t => ref32_Lower_K1 fuel a0 t)
def law32_size_K1 (fuel : Nat) (x100 : Int) : Option (Int) :=
  some x100
def law32_size_B1 (fuel : Nat) (a0 : (List (List Evt))) (x82 : Int) (x83 : Int) : Option ((Int × Int) ⊕ (Int)) :=
  (andM (decide (x83 < (a0.length : Int))) (some (decide (x82 ≤ 100)))).bind fun x105 => (if x105 = true then (ati a0 x83).bind fun x108 => some (Sum.inl ((w64 (x82 + (x108.length : Int))), (w64 (x83 + 1)))) else some (Sum.inr x82))
def law32_size (fuel : Nat) (a0 : (List (List Evt))) : Option (Int) :=
  (iter (fun s => law32_size_B1 fuel a0 s.1 s.2) fuel ((a0.length : Int), 0)).bind (fun t => law32_size_K1 fuel t)
def law32_OrphanCuts (fuel : Nat) (a0 : (List (List Evt))) (a1 : (List Int)) (a2 : (List Int)) : Option (Bool) :=
  (law32_awake fuel).bind fun r62 => (orM (!r62) ((law32_size fuel a0).bind fun r67 => some (decide (100 < r67)))).bind fun x65 => (orM x65 (some (decide (60 < (a1.length : Int))))).bind fun x69 => (if x69 = true then (law32_size fuel a0).bind fun r73 => (orM (decide (100 < r73)) (some (decide (60 < (a1.length : Int))))).bind fun x75 => some x75 else (law32_scene fuel a2).bind fun r78 => (orphan_Consistent fuel a0 a1).bind fun r84 => (ref32_Consistent fuel a0 a1).bind fun r86 => (andM (r84 == r86) ((orphan_Consistent fuel r78.1 r78.2).bind fun r90 => (ref32_Consistent fuel r78.1 r78.2).bind fun r92 => some (r90 == r92))).bind fun x88 => (andM x88 ((orphan_Lower fuel a0 a1).bind fun r96 => (ref32_Lower fuel a0 a1).bind fun r99 => (ref23_SameInts fuel r96 r99).bind fun r102 => some r102)).bind fun x94 => (andM x94 ((orphan_Lower fuel r78.1 r78.2).bind fun r106 => (ref32_Lower fuel r78.1 r78.2).bind fun r109 => (ref23_SameInts fuel r106 r109).bind fun r112 => some r112)).bind fun x104 => some x104)
def law32_OrphanGreatest_K1 (fuel : Nat) (x1665 : (List Int)) (x1666 : Int) : Option (((List Int)) ⊕ (Bool)) :=
  (if (x1666 == (x1665.length : Int)) = true then some (Sum.inr true) else (ati x1665 x1666).bind fun x1671 => (ati x1665 x1666).bind fun x1673 => (seti x1665 x1666 (w64 (x1671 + 1))).bind fun x1675 => some (Sum.inl x1675))
def law32_OrphanGreatest_B2 (fuel : Nat) (r915 : ((List Int) × Int)) (x1632 : (List Int)) (x1633 : Int) : Option (((List Int) × Int) ⊕ ((List Int) × Int)) :=
  (andM (decide (x1633 < (x1632.length : Int))) ((ati x1632 x1633).bind fun x1680 => (ati r915.1 x1633).bind fun x1682 => some (x1680 == x1682))).bind fun x1679 => (if x1679 = true then (ati x1632 x1633).bind fun x1686 => (seti x1632 x1633 0).bind fun x1688 => some (Sum.inl (x1688, (w64 (x1633 + 1)))) else some (Sum.inr (x1632, x1633)))
def law32_OrphanGreatest_J2 (fuel : Nat) (r915 : ((List Int) × Int)) (x1236 : (List Int)) : Option (((List Int)) ⊕ (Bool)) :=
  (iter (fun s => law32_OrphanGreatest_B2 fuel r915 s.1 s.2) fuel (x1236, 0)).bind (fun t => law32_OrphanGreatest_K1 fuel t.1 t.2)
def law32_OrphanGreatest_K2 (fuel : Nat) (r915 : ((List Int) × Int)) (x1236 : (List Int)) : Option (((List Int)) ⊕ (Bool)) :=
  law32_OrphanGreatest_J2 fuel r915 x1236
def law32_OrphanGreatest_B3 (fuel : Nat) (x1236 : (List Int)) (r937 : ((List Int))) (x1728 : Int) : Option ((Int) ⊕ (Unit ⊕ (Bool))) :=
  (if (decide (x1728 < (x1236.length : Int))) = true then (ati x1236 x1728).bind fun x1760 => (ati r937 x1728).bind fun x1762 => (if (decide (x1762 < x1760)) = true then some (Sum.inr (Sum.inr false)) else some (Sum.inl (w64 (x1728 + 1)))) else some (Sum.inr (Sum.inl ())))
def law32_OrphanGreatest_B1 (fuel : Nat) (x931 : (List (List Evt))) (r937 : ((List Int))) (r915 : ((List Int) × Int)) (x1236 : (List Int)) : Option (((List Int)) ⊕ (Bool)) :=
  (ref32_Consistent fuel x931 x1236).bind fun r1691 => (if r1691 = true then (iter (fun s => law32_OrphanGreatest_B3 fuel x1236 r937 s) fuel 0).bind (fun t => Sum.elim (fun t => law32_OrphanGreatest_K2 fuel r915 x1236) (fun t => some (Sum.inr t)) t) else law32_OrphanGreatest_J2 fuel r915 x1236)
def law32_OrphanGreatest_J1 (fuel : Nat) (r915 : ((List Int) × Int)) (x931 : (List (List Evt))) : Option (Bool) :=
  (orphan_Lower fuel x931 r915.1).bind fun r937 => (orM ((r937.length : Int) != (r915.1.length : Int)) ((orphan_Consistent fuel x931 r937).bind fun r944 => some (!r944))).bind fun x942 => (if x942 = true then some false else (mkL (r915.1.length : Int) (0 : Int)).bind fun x948 => (iter (fun s => law32_OrphanGreatest_B1 fuel x931 r937 r915 s) fuel x948).bind (fun t => some t))
def law32_OrphanGreatest (fuel : Nat) (a0 : (List Int)) : Option (Bool) :=
  (law32_awake fuel).bind fun r893 => (if (!r893) = true then some false else (make_New fuel a0 60).bind fun r898 => (make_Codes_Lineages fuel 14 r898.1 r898.2).bind fun r903 => (make_Codes_Cut fuel (⟨r903.2.1.lens, r903.2.1.ckpts, r903.2.1.arcs⟩ : Pat) r898.1 r903.2.2).bind fun r915 => (make_Codes_Next fuel 3 r898.1 r915.2).bind fun r1768 => (if (r1768.1 == 2) = true then (make_Codes_SpoilLineages fuel r898.1 r1768.2 r903.1).bind fun r1771 => law32_OrphanGreatest_J1 fuel r915 r1771.2.2 else law32_OrphanGreatest_J1 fuel r915 r903.1))
end Go.Mine
namespace Go.Proofs.Ytghjjkdfjmnfeaa
open Go.RowKit Go.Mine
attribute [local irreducible] eseq ewp iter
theorem ref32_Labelled_w {F R : Nat → Prop} {w : World} {fuel : Nat} {a0 : (List Evt)} {a1 : Lab} {v1 : Value} {r : (Bool)} (hS : Sep F R R w w []) (f1 : IsSlice evtTy w R v1 a0) (h : ref32_Labelled fuel a0 a1 = some r) :
    Gives Try.prog 78 [v1, .agg #[.int .i64 a1.inc, .int .i64 a1.index]] w fun u w1 => ∃ (R1 : Nat → Prop), u = .bool r ∧ Sep F R R1 w w1 [] := by
  refine fn_of Try.func78 rfl Try.ntmps78 (Nat.le_of_ble_eq_true rfl) ?_
  unfold ref32_Labelled at h
  refine e_seq fun K17 hK17 => ?_
  refine e_region_text rfl ?_
  refine q_boxB rfl rfl rfl fun w18 bl18 hg18 hb18 hB18 => ?_
  replace f1 := f1.ext hB18
  replace hS := hS.newBlk hB18 hg18 hb18
  refine q_assign rfl rfl ?_
  refine eseq_nil ?_
  refine hK17 _ _ ?_
  refine e_seq fun K20 hK20 => ?_
  refine e_seq fun K21 hK21 => ?_
  refine e_region_text rfl ?_
  refine q_field rfl rfl ?_
  refine q_load rfl (Blk.cell (hS.blk 0 rfl) rfl) rfl ?_
  refine q_eql rfl rfl rfl ?_
  refine eseq_nil ?_
  refine hK21 _ _ ?_
  refine e_cond rfl (fun hc22 => ?_) (fun hc22 => ?_)
  · replace h := (if_pos hc22).symm.trans h
    refine e_seq fun K23 hK23 => ?_
    refine e_region_text rfl ?_
    refine q_field rfl rfl ?_
    refine q_load rfl (Blk.cell (hS.blk 0 rfl) rfl) rfl ?_
    refine q_eql rfl rfl rfl ?_
    refine q_assign rfl rfl ?_
    refine eseq_nil ?_
    refine hK23 _ _ ?_
    refine e_ret ?_
    obtain rfl := Option.some.inj h
    exact ⟨_, res1 rfl rfl, _, rfl, (hS.pickB [] 1 rfl rfl)⟩
  · replace h := (if_neg (not_true hc22)).symm.trans h
    refine e_skip ?_
    refine hK20 _ _ ?_
    refine e_seq fun K24 hK24 => ?_
    refine e_region_draw mixed (fun _ => False) [0, 1, 3, 7, 15, 31, 15, 79, 255, 511, 1023, 2047, 2047, 6143, 14335, 32767, 65535, 131071, 2047, 264191, 1048575, 2097151, 4194303] [] [0, 1, 2, 3, 4, 5, 6, 7, 8, 9, 10, 11, 12, 13, 14, 15, 16, 17, 18, 19, 20, 21, 22] (by kernel_rfl) ?_
    refine q_field rfl rfl ?_
    refine q_load rfl (Blk.cell (hS.blk 0 rfl) rfl) rfl ?_
    refine q_gtr rfl rfl rfl ?_
    refine q_move rfl rfl ?_
    obtain ⟨x26, hx25, h⟩ := Option.of_bind h
    refine g_andM 5 hx25 rfl trivial rfl rfl ?_ ?_ ?_
    · intro hg25 hx25
      clear h
      have hT25 := Below.refl (World.heap w18).size w18
      refine g_run rfl ?_; refine q_field rfl rfl ?_
      refine g_run rfl ?_; refine q_load rfl (Blk.cell (hS.blk 0 rfl) rfl) rfl ?_
      refine g_run rfl ?_; refine q_move rfl rfl ?_
      refine g_run rfl ?_; refine q_lenS rfl f1 rfl ?_
      refine g_run rfl ?_; refine q_leq rfl rfl rfl ?_
      cases hx25
      exact eseq_nil ⟨hT25, Sub.set rfl (Sub.set rfl (Sub.set rfl (Sub.set rfl (Sub.set rfl (Sub.bool true rfl hg25))))), rfl⟩
    · intro hg25
      refine g_skip rfl rfl rfl ?_
      refine g_skip rfl rfl rfl ?_
      refine g_skip rfl rfl rfl ?_
      refine g_skip rfl rfl rfl ?_
      refine g_skip rfl rfl rfl ?_
      exact eseq_nil ⟨rfl, Sub.set rfl (Sub.set rfl (Sub.set rfl (Sub.set rfl (Sub.set rfl (Sub.bool false rfl hg25)))))⟩
    intro wm25 hBm25; clear hx25
    replace hS := hS.below hBm25
    replace f1 := f1.ext hBm25
    refine q_move rfl rfl ?_
    obtain ⟨x28, hx27, h⟩ := Option.of_bind h
    refine g_andM 10 hx27 rfl trivial rfl rfl ?_ ?_ ?_
    · intro hg27 hx27
      clear h
      have hT27 := Below.refl (World.heap wm25).size wm25
      refine g_run rfl ?_; refine q_move rfl rfl ?_
      refine g_run rfl ?_; refine q_field rfl rfl ?_
      refine g_run rfl ?_; refine q_load rfl (Blk.cell (hS.blk 0 rfl) rfl) rfl ?_
      refine g_run rfl ?_; refine q_subW rfl rfl rfl ?_
      obtain ⟨x29, hx29, hx27⟩ := Option.of_bind hx27
      refine g_run rfl ?_; refine q_atS (by infer_instance) rfl f1 rfl hx29 rfl fun b30 o30 hm30 f30 => ?_
      refine g_run rfl ?_; refine q_field rfl rfl ?_
      have f31 := Evt_F1 f30
      refine g_run rfl ?_; refine q_load rfl (Elt.intCell f31) rfl ?_
      refine g_run rfl ?_; refine q_field rfl rfl ?_
      refine g_run rfl ?_; refine q_load rfl (Blk.cell (hS.blk 0 rfl) rfl) rfl ?_
      refine g_run rfl ?_; refine q_eql rfl rfl rfl ?_
      cases hx27
      exact eseq_nil ⟨hT27, Sub.set rfl (Sub.set rfl (Sub.set rfl (Sub.set rfl (Sub.set rfl (Sub.set rfl (Sub.set rfl (Sub.set rfl (Sub.set rfl (Sub.set rfl (Sub.bool true rfl hg27)))))))))), rfl⟩
    · intro hg27
      refine g_skip rfl rfl rfl ?_
      refine g_skip rfl rfl rfl ?_
      refine g_skip rfl rfl rfl ?_
      refine g_skip rfl rfl rfl ?_
      refine g_skip rfl rfl rfl ?_
      refine g_skip rfl rfl rfl ?_
      refine g_skip rfl rfl rfl ?_
      refine g_skip rfl rfl rfl ?_
      refine g_skip rfl rfl rfl ?_
      refine g_skip rfl rfl rfl ?_
      exact eseq_nil ⟨rfl, Sub.set rfl (Sub.set rfl (Sub.set rfl (Sub.set rfl (Sub.set rfl (Sub.set rfl (Sub.set rfl (Sub.set rfl (Sub.set rfl (Sub.set rfl (Sub.bool false rfl hg27))))))))))⟩
    intro wm27 hBm27; clear hx27
    replace hS := hS.below hBm27
    refine q_assign rfl rfl ?_
    refine eseq_nil ?_
    refine hK24 _ _ ?_
    refine e_ret ?_
    obtain rfl := Option.some.inj h
    exact ⟨_, res1 rfl rfl, _, rfl, (hS.pickB [] 1 rfl rfl)⟩
theorem ref32_sound_w {F R : Nat → Prop} {w : World} {fuel : Nat} {a0 : (List (List Evt))} {a1 : Int} {a2 : Evt} {v1 : Value} {r : (Bool)} (hS : Sep F R R w w []) (f1 : IsSlice (Ty.slice evtTy) w R v1 a0) (h : ref32_sound fuel a0 a1 a2 = some r) :
    Gives Try.prog 51 [v1, .int .i64 a1, .agg #[.int .i64 a2.kind, .int .i64 a2.inc, .int .i64 a2.frm, .int .i64 a2.sent.inc, .int .i64 a2.sent.index, .int .i64 a2.ord, .int .i64 a2.value]] w fun u w1 => ∃ (R1 : Nat → Prop), u = .bool r ∧ Sep F R R1 w w1 [] := by
  refine fn_of Try.func51 rfl Try.ntmps51 (Nat.le_of_ble_eq_true rfl) ?_
  unfold ref32_sound at h
  refine e_seq fun K19 hK19 => ?_
  refine e_region_text rfl ?_
  refine q_boxB rfl rfl rfl fun w20 bl20 hg20 hb20 hB20 => ?_
  replace f1 := f1.ext hB20
  replace hS := hS.newBlk hB20 hg20 hb20
  refine q_assign rfl rfl ?_
  refine eseq_nil ?_
  refine hK19 _ _ ?_
  refine e_seq fun K22 hK22 => ?_
  refine e_region_draw mixed (fun _ => False) [0, 1, 3, 7, 15, 31, 63, 127, 255, 511, 255, 1279, 4095, 8191, 16383, 32767, 65535, 32767, 262143, 524287, 1048575, 2097151, 2097151, 6291455, 16777215, 33554431, 2097151, 69206015, 268435455, 536870911, 1073741823, 2147483647] [] [0, 1, 2, 3, 4, 5, 6, 7, 8, 9, 10, 11, 12, 13, 14, 15, 16, 17, 18, 19, 20, 21, 22, 23, 24, 25, 26, 27, 28, 29, 30, 31] (by kernel_rfl) ?_
  refine q_field rfl rfl ?_
  refine q_load rfl (Blk.cell (hS.blk 0 rfl) rfl) rfl ?_
  refine q_neq rfl rfl rfl ?_
  refine q_move rfl rfl ?_
  obtain ⟨x24, hx23, h⟩ := Option.of_bind h
  refine g_orM 26 hx23 rfl trivial rfl rfl ?_ ?_ ?_
  · intro hg23
    refine g_skip rfl rfl rfl ?_
    refine g_skip rfl rfl rfl ?_
    refine g_skip rfl rfl rfl ?_
    refine g_skip rfl rfl rfl ?_
    refine g_skipU rfl rfl ?_
    refine g_skipU rfl rfl ?_
    refine g_skipU rfl rfl ?_
    refine g_skipU rfl rfl ?_
    refine g_skipU rfl rfl ?_
    refine g_skip rfl rfl rfl ?_
    refine g_skip rfl rfl rfl ?_
    refine g_skipU rfl rfl ?_
    refine g_skipU rfl rfl ?_
    refine g_skipU rfl rfl ?_
    refine g_skipU rfl rfl ?_
    refine g_skip rfl rfl rfl ?_
    refine g_skip rfl rfl rfl ?_
    refine g_skipU rfl rfl ?_
    refine g_skipU rfl rfl ?_
    refine g_skipU rfl rfl ?_
    refine g_skipU rfl rfl ?_
    refine g_skipU rfl rfl ?_
    refine g_skipU rfl rfl ?_
    refine g_skipU rfl rfl ?_
    refine g_skipU rfl rfl ?_
    refine g_skip rfl rfl rfl ?_
    exact eseq_nil ⟨rfl, Sub.set rfl (Sub.set rfl (Sub.set rfl (Sub.set rfl (Sub.set rfl (Sub.set rfl (Sub.set rfl (Sub.set rfl (Sub.set rfl (Sub.set rfl (Sub.set rfl (Sub.set rfl (Sub.set rfl (Sub.set rfl (Sub.set rfl (Sub.set rfl (Sub.set rfl (Sub.set rfl (Sub.set rfl (Sub.set rfl (Sub.set rfl (Sub.set rfl (Sub.set rfl (Sub.set rfl (Sub.set rfl (Sub.set rfl (Sub.bool true rfl hg23))))))))))))))))))))))))))⟩
  · intro hg23 hx23
    clear h
    have hT23 := Below.refl (World.heap w20).size w20
    refine g_run rfl ?_; refine q_field rfl rfl ?_
    refine g_run rfl ?_; refine q_load rfl (Blk.cell (hS.blk 0 rfl) rfl) rfl ?_
    refine g_run rfl ?_; refine q_geq rfl rfl rfl ?_
    refine g_run rfl ?_; refine q_move rfl rfl ?_
    obtain ⟨x26, hx25, hx23⟩ := Option.of_bind hx23
    refine g_andM 5 hx25 rfl rfl rfl rfl ?_ ?_ ?_
    · intro hg25 hx25
      clear hx23
      have hT25 := Below.refl (World.heap w20).size w20
      refine g_run rfl ?_; refine q_field rfl rfl ?_
      refine g_run rfl ?_; refine q_load rfl (Blk.cell (hS.blk 0 rfl) rfl) rfl ?_
      refine g_run rfl ?_; refine q_move rfl rfl ?_
      refine g_run rfl ?_; refine q_lenS rfl f1 rfl ?_
      refine g_run rfl ?_; refine q_lss rfl rfl rfl ?_
      cases hx25
      exact eseq_nil ⟨hT25, Sub.set rfl (Sub.set rfl (Sub.set rfl (Sub.set rfl (Sub.set rfl (Sub.bool true rfl hg25))))), rfl⟩
    · intro hg25
      refine g_skip rfl rfl rfl ?_
      refine g_skip rfl rfl rfl ?_
      refine g_skip rfl rfl rfl ?_
      refine g_skip rfl rfl rfl ?_
      refine g_skip rfl rfl rfl ?_
      exact eseq_nil ⟨rfl, Sub.set rfl (Sub.set rfl (Sub.set rfl (Sub.set rfl (Sub.set rfl (Sub.bool false rfl hg25)))))⟩
    intro wm25 hBm25; clear hx25
    replace hS := hS.below hBm25
    replace f1 := f1.ext hBm25
    replace hT23 := hT23.trans (Below.mono hBm25 hT23.size)
    refine g_run rfl ?_; refine q_move rfl rfl ?_
    obtain ⟨x28, hx27, hx23⟩ := Option.of_bind hx23
    refine g_andM 4 hx27 rfl rfl rfl rfl ?_ ?_ ?_
    · intro hg27 hx27
      clear hx23
      have hT27 := Below.refl (World.heap wm25).size wm25
      refine g_run rfl ?_; refine q_field rfl rfl ?_
      refine g_run rfl ?_; refine q_load rfl (Blk.cell (hS.blk 0 rfl) rfl) rfl ?_
      refine g_run rfl ?_; refine q_move rfl rfl ?_
      refine g_run rfl ?_; refine q_neq rfl rfl rfl ?_
      cases hx27
      exact eseq_nil ⟨hT27, Sub.set rfl (Sub.set rfl (Sub.set rfl (Sub.set rfl (Sub.bool true rfl hg27)))), rfl⟩
    · intro hg27
      refine g_skip rfl rfl rfl ?_
      refine g_skip rfl rfl rfl ?_
      refine g_skip rfl rfl rfl ?_
      refine g_skip rfl rfl rfl ?_
      exact eseq_nil ⟨rfl, Sub.set rfl (Sub.set rfl (Sub.set rfl (Sub.set rfl (Sub.bool false rfl hg27))))⟩
    intro wm27 hBm27; clear hx27
    replace hS := hS.below hBm27
    replace f1 := f1.ext hBm27
    replace hT23 := hT23.trans (Below.mono hBm27 hT23.size)
    refine g_run rfl ?_; refine q_move rfl rfl ?_
    obtain ⟨x30, hx29, hx23⟩ := Option.of_bind hx23
    refine g_andM 8 hx29 rfl rfl rfl rfl ?_ ?_ ?_
    · intro hg29 hx29
      clear hx23
      have hT29 := Below.refl (World.heap wm27).size wm27
      refine g_run rfl ?_; refine q_move rfl rfl ?_
      refine g_run rfl ?_; refine q_field rfl rfl ?_
      refine g_run rfl ?_; refine q_load rfl (Blk.cell (hS.blk 0 rfl) rfl) rfl ?_
      obtain ⟨x31, hx31, hx29⟩ := Option.of_bind hx29
      refine g_run rfl ?_; refine q_atS (by infer_instance) rfl f1 rfl hx31 rfl fun b32 o32 hm32 f32 => ?_
      refine g_run rfl ?_; refine q_loadE rfl f32 rfl (fun v33 f33 => ?_)
      refine g_run rfl ?_; refine q_field rfl rfl ?_
      refine g_run rfl ?_; refine q_loadAgg rfl (Blk.cellsAt (hS.blk 0 rfl) 3 2 rfl) rfl rfl ?_
      obtain ⟨r35, hr35, hx29⟩ := Option.of_bind hx29
      refine g_run rfl ?_; refine q_call rfl (ref32_Labelled_w (a1 := (⟨a2.sent.inc, a2.sent.index⟩ : Lab)) (Sep.enter (As := []) hS) f33 hr35) rfl ?_
      rintro _ w34 ⟨R34, rfl, hC34⟩
      have hB34 : Below (World.heap wm27).size wm27 w34 := hC34.stepB0
      refine ⟨fun _ => .of_below hB34, ?_⟩
      replace f33 := (f33.ext hB34).mono fun k hk _ => hC34.ro0 k hk
      replace hT23 := hT23.trans (Below.mono hB34 hT23.size)
      replace hT29 := hT29.trans (Below.mono hB34 hT29.size)
      replace hS := Sep.leave (As := []) hS hC34; simp only [List.cons_append, List.nil_append] at hS
      cases hx29
      exact eseq_nil ⟨hT29, Sub.set rfl (Sub.set rfl (Sub.set rfl (Sub.set rfl (Sub.set rfl (Sub.set rfl (Sub.set rfl (Sub.set rfl (Sub.bool true rfl hg29)))))))), rfl⟩
    · intro hg29
      refine g_skip rfl rfl rfl ?_
      refine g_skip rfl rfl rfl ?_
      refine g_skip rfl rfl rfl ?_
      refine g_skip rfl rfl rfl ?_
      refine g_skip rfl rfl rfl ?_
      refine g_skip rfl rfl rfl ?_
      refine g_skip rfl rfl rfl ?_
      refine g_skip rfl rfl rfl ?_
      exact eseq_nil ⟨rfl, Sub.set rfl (Sub.set rfl (Sub.set rfl (Sub.set rfl (Sub.set rfl (Sub.set rfl (Sub.set rfl (Sub.set rfl (Sub.bool false rfl hg29))))))))⟩
    intro wm29 hBm29; clear hx29
    replace hS := hS.below hBm29
    replace hT23 := hT23.trans (Below.mono hBm29 hT23.size)
    cases hx23
    exact eseq_nil ⟨hT23, Sub.set rfl (Sub.set rfl (Sub.set rfl (Sub.set rfl (Sub.set rfl (Sub.set rfl (Sub.set rfl (Sub.set rfl (Sub.set rfl (Sub.bool false rfl hg23))))))))), rfl⟩
  intro wm23 hBm23; clear hx23
  replace hS := hS.below hBm23
  refine q_assign rfl rfl ?_
  refine eseq_nil ?_
  refine hK22 _ _ ?_
  refine e_ret ?_
  obtain rfl := Option.some.inj h
  exact ⟨_, res1 rfl rfl, _, rfl, (hS.pickB [] 1 rfl rfl)⟩
theorem ref32_Consistent_w {F R : Nat → Prop} {w : World} {fuel : Nat} {a0 : (List (List Evt))} {a1 : (List Int)} {v1 : Value} {v2 : Value} {r : (Bool)} (hS : Sep F R R w w []) (f1 : IsSlice (Ty.slice evtTy) w R v1 a0) (f2 : IsSlice Ty.int w R v2 a1) (h : ref32_Consistent fuel a0 a1 = some r) :
    Gives Try.prog 22 [v1, v2] w fun u w1 => ∃ (R1 : Nat → Prop), u = .bool r ∧ Sep F R R1 w w1 [] := by
  refine fn_of Try.func22 rfl Try.ntmps22 (Nat.le_of_ble_eq_true rfl) ?_
  unfold ref32_Consistent at h
  refine e_seq fun K438 hK438 => ?_
  refine e_region_text rfl ?_
  refine q_assign rfl rfl ?_
  refine eseq_nil ?_
  refine hK438 _ _ ?_
  refine e_seq fun K439 hK439 => ?_
  refine e_seq fun K440 hK440 => ?_
  refine e_region_text rfl ?_
  refine q_move rfl rfl ?_
  refine q_lenS rfl f2 rfl ?_
  refine q_move rfl rfl ?_
  refine q_lenS rfl f1 rfl ?_
  refine q_neq rfl rfl rfl ?_
  refine eseq_nil ?_
  refine hK440 _ _ ?_
  refine e_cond rfl (fun hc441 => ?_) (fun hc441 => ?_)
  · replace h := (if_pos hc441).symm.trans h
    refine e_seq fun K442 hK442 => ?_
    refine e_region_text rfl ?_
    refine q_assign rfl rfl ?_
    refine eseq_nil ?_
    refine hK442 _ _ ?_
    refine e_ret ?_
    obtain rfl := Option.some.inj h
    exact ⟨_, res1 rfl rfl, _, rfl, hS⟩
  · replace h := (if_neg (not_true hc441)).symm.trans h
    refine e_skip ?_
    refine hK439 _ _ ?_
    refine e_seq fun K443 hK443 => ?_
    refine e_seq fun K444 hK444 => ?_
    refine e_region_text rfl ?_
    refine q_assign rfl rfl ?_
    refine eseq_nil ?_
    refine hK444 _ _ ?_
    refine e_block ?_
    obtain ⟨tl445, ht445, h⟩ := Option.of_bind h
    have hX445_0 : ∀ (R497 : Nat → Prop) (w498 : World) (E_ : Env), ref32_Consistent_K1 fuel a0 a1 = some r → Sep F R R497 w w498 [] → IsSlice (Ty.slice evtTy) w498 R497 v1 a0 → IsSlice Ty.int w498 R497 v2 a1 → Sub [(0, v1), (1, v2)] E_ → K443 E_ w498 := by
      intro R497 w498 E_ h hS f499 f500 hsub
      refine hK443 _ _ (e_sub hsub ?_); clear hsub
      unfold ref32_Consistent_K1 at h
      refine e_seq fun K501 hK501 => ?_
      refine e_seq fun K502 hK502 => ?_
      refine e_region_text rfl ?_
      refine q_assign rfl rfl ?_
      refine eseq_nil ?_
      refine hK502 _ _ ?_
      refine e_block ?_
      obtain ⟨tl503, ht503, h⟩ := Option.of_bind h
      have hX503_2 : ∀ (R743 : Nat → Prop) (w744 : World) (E_ : Env), ref32_Consistent_K2 fuel = some r → Sep F R R743 w w744 [] → Sub [] E_ → K501 E_ w744 := by
        intro R743 w744 E_ h hS  hsub
        refine hK501 _ _ (e_sub hsub ?_); clear hsub
        unfold ref32_Consistent_K2 at h
        refine e_seq fun K745 hK745 => ?_
        refine e_region_text rfl ?_
        refine q_assign rfl rfl ?_
        refine eseq_nil ?_
        refine hK745 _ _ ?_
        refine e_ret ?_
        obtain rfl := Option.some.inj h
        exact ⟨_, res1 rfl rfl, _, rfl, hS⟩
      refine e_loop (fun m_ E_ w624 => ∃ (x627 : Int), ∃ (R623 : Nat → Prop), iter (fun s => ref32_Consistent_B1 fuel a0 a1 s) m_ x627 = some tl503 ∧ Sep F R R623 w w624 [] ∧ IsSlice (Ty.slice evtTy) w624 R623 v1 a0 ∧ IsSlice Ty.int w624 R623 v2 a1 ∧ E_ = [(0, v1), (1, v2), (6, .int .i64 x627)]) _ ⟨_, ⟨0, _, ht503, hS, f499, f500, rfl⟩, Sub.cons rfl (Sub.cons rfl (Sub.cons rfl (Sub.nil _)))⟩ ?_
      clear ht503 hS
      rintro m503 _ w624 ⟨x627, R623, ht503, hS, f625, f626, rfl⟩
      obtain ⟨m503, rfl, o503, ho503, ht503⟩ := iter_some ht503
      replace ho503 : ref32_Consistent_B1 fuel a0 a1 x627 = some o503 := ho503
      unfold ref32_Consistent_B1 at ho503
      refine e_seq fun K746 hK746 => ?_
      refine e_seq fun K747 hK747 => ?_
      refine e_region_text rfl ?_
      refine q_move rfl rfl ?_
      refine q_move rfl rfl ?_
      refine q_lenS rfl f625 rfl ?_
      refine q_lss rfl rfl rfl ?_
      refine eseq_nil ?_
      refine hK747 _ _ ?_
      refine e_cond rfl (fun hc748 => ?_) (fun hc748 => ?_)
      · replace ho503 := (if_pos hc748).symm.trans ho503
        refine e_skip ?_
        refine hK746 _ _ ?_
        refine e_seq fun K749 hK749 => ?_
        refine e_block ?_
        refine e_seq fun K750 hK750 => ?_
        refine e_region_text rfl ?_
        refine q_assign rfl rfl ?_
        refine eseq_nil ?_
        refine hK750 _ _ ?_
        refine e_block ?_
        obtain ⟨tl751, ht751, ho503⟩ := Option.of_bind ho503
        have hX751_4 : ∀ (R825 : Nat → Prop) (w826 : World) (E_ : Env), ref32_Consistent_K3 fuel x627 = some o503 → Sep F R R825 w w826 [] → IsSlice (Ty.slice evtTy) w826 R825 v1 a0 → IsSlice Ty.int w826 R825 v2 a1 → Sub [(0, v1), (1, v2), (6, .int .i64 x627)] E_ → K749 E_ w826 := by
          intro R825 w826 E_ ho503 hS f827 f828 hsub
          refine hK749 _ _ (e_sub hsub ?_); clear hsub
          unfold ref32_Consistent_K3 at ho503
          refine e_region_text rfl ?_
          refine q_move rfl rfl ?_
          refine q_addW rfl rfl rfl ?_
          refine q_assign rfl rfl ?_
          refine eseq_nil ?_
          obtain rfl := Option.some.inj ho503
          exact ⟨m503, _, Nat.lt_succ_self _, ⟨(w64 (x627 + 1)), _, ht503, hS, f827, f828, rfl⟩, Sub.cons rfl (Sub.cons rfl (Sub.cons rfl (Sub.nil _)))⟩
        refine e_loop (fun m_ E_ w789 => ∃ (x792 : Int), ∃ (R788 : Nat → Prop), iter (fun s => ref32_Consistent_B2 fuel a1 x627 a0 s) m_ x792 = some tl751 ∧ Sep F R R788 w w789 [] ∧ IsSlice (Ty.slice evtTy) w789 R788 v1 a0 ∧ IsSlice Ty.int w789 R788 v2 a1 ∧ E_ = [(0, v1), (1, v2), (6, .int .i64 x627), (7, .int .i64 x792)]) _ ⟨_, ⟨0, _, ht751, hS, f625, f626, rfl⟩, Sub.cons rfl (Sub.cons rfl (Sub.cons rfl (Sub.cons rfl (Sub.nil _))))⟩ ?_
        clear ht751 hS
        rintro m751 _ w789 ⟨x792, R788, ht751, hS, f790, f791, rfl⟩
        obtain ⟨m751, rfl, o751, ho751, ht751⟩ := iter_some ht751
        replace ho751 : ref32_Consistent_B2 fuel a1 x627 a0 x792 = some o751 := ho751
        unfold ref32_Consistent_B2 at ho751
        refine e_seq fun K829 hK829 => ?_
        refine e_seq fun K830 hK830 => ?_
        refine e_region_text rfl ?_
        refine q_move rfl rfl ?_
        refine q_move rfl rfl ?_
        refine q_move rfl rfl ?_
        obtain ⟨x831, hx831, ho751⟩ := Option.of_bind ho751
        refine q_atS (by infer_instance) rfl f791 rfl hx831 rfl fun b832 o832 hm832 f832 => ?_
        refine q_load rfl (Elt.intCell f832) rfl ?_
        refine q_lss rfl rfl rfl ?_
        refine eseq_nil ?_
        refine hK830 _ _ ?_
        refine e_cond rfl (fun hc833 => ?_) (fun hc833 => ?_)
        · replace ho751 := (if_pos hc833).symm.trans ho751
          refine e_skip ?_
          refine hK829 _ _ ?_
          refine e_seq fun K834 hK834 => ?_
          refine e_block ?_
          refine e_seq fun K835 hK835 => ?_
          refine e_region_text rfl ?_
          refine q_move rfl rfl ?_
          refine q_move rfl rfl ?_
          obtain ⟨x836, hx836, ho751⟩ := Option.of_bind ho751
          refine q_atS (by infer_instance) rfl f790 rfl hx836 rfl fun b837 o837 hm837 f837 => ?_
          refine q_loadE rfl f837 rfl (fun v838 f838 => ?_)
          refine q_move rfl rfl ?_
          obtain ⟨x839, hx839, ho751⟩ := Option.of_bind ho751
          refine q_atS (by infer_instance) rfl f838 rfl hx839 rfl fun b840 o840 hm840 f840 => ?_
          have hc841 := Evt_open f840
          refine q_loadAgg rfl hc841 rfl rfl ?_
          refine q_allocB rfl fun w842 bl842 hg842 hb842 hB842 => ?_
          replace f790 := f790.ext hB842
          replace f791 := f791.ext hB842
          replace hS := hS.newBlk hB842 hg842 hb842
          refine q_storeAgg rfl rfl (hS.blk 0 rfl) rfl (Nat.le_of_ble_eq_true rfl) (all_cons rfl (all_cons rfl (all_cons rfl (all_cons rfl (all_cons rfl (all_cons rfl (all_cons rfl (all_nil)))))))) rfl rfl fun w844 hb844 hO844 => ?_
          simp only [setN, List.set, List.take, List.drop] at hb844
          have hk844 := hS.keptBlk 0 rfl hO844
          replace f790 := f790.kept hk844
          replace f791 := f791.kept hk844
          replace hS := hS.setBlk 0 rfl hb844 hO844; simp only [List.set] at hS
          refine eseq_nil ?_
          refine hK835 _ _ ?_
          refine e_seq fun K845 hK845 => ?_
          refine e_region_draw mixed (fun _ => False) [0, 0, 0, 7, 15, 31, 63, 127, 255, 511, 1023, 2047, 4095, 1023, 1023, 17407, 58367, 123903, 262143, 524287, 1048575] [] [0, 1, 2, 3, 4, 5, 6, 7, 8, 9, 10, 11, 12, 13, 14, 15, 16, 17, 18, 19, 20] (by kernel_rfl) ?_
          refine q_move rfl rfl ?_
          refine q_move rfl rfl ?_
          refine q_loadAgg rfl (Blk.cellsAt (hS.blk 0 rfl) 0 7 rfl) rfl rfl ?_
          obtain ⟨r847, hr847, ho751⟩ := Option.of_bind ho751
          refine q_call rfl (ref32_sound_w (a2 := (⟨x839.kind, x839.inc, x839.frm, (⟨x839.sent.inc, x839.sent.index⟩ : Lab), x839.ord, x839.value⟩ : Evt)) (Sep.enter (As := []) hS) f790 hr847) rfl ?_
          rintro _ w846 ⟨R846, rfl, hC846⟩
          have hB846 : Below (World.heap w844).size w844 w846 := hC846.stepB0
          refine ⟨fun _ => .of_below hB846, ?_⟩
          replace f790 := (f790.ext hB846).mono fun k hk _ => hC846.ro0 k hk
          replace f791 := (f791.ext hB846).mono fun k hk _ => hC846.ro0 k hk
          replace hS := Sep.leave (As := []) hS hC846; simp only [List.cons_append, List.nil_append] at hS
          refine q_not rfl rfl ?_
          refine q_move rfl rfl ?_
          obtain ⟨x849, hx848, ho751⟩ := Option.of_bind ho751
          refine g_orM 14 hx848 rfl trivial rfl rfl ?_ ?_ ?_
          · intro hg848
            refine g_skip rfl rfl rfl ?_
            refine g_skip rfl rfl rfl ?_
            refine g_skip rfl rfl rfl ?_
            refine g_skip rfl rfl rfl ?_
            refine g_skipU rfl rfl ?_
            refine g_skipU rfl rfl ?_
            refine g_skipU rfl rfl ?_
            refine g_skipU rfl rfl ?_
            refine g_skipU rfl rfl ?_
            refine g_skipU rfl rfl ?_
            refine g_skipU rfl rfl ?_
            refine g_skipU rfl rfl ?_
            refine g_skipU rfl rfl ?_
            refine g_skip rfl rfl rfl ?_
            exact eseq_nil ⟨rfl, Sub.set rfl (Sub.set rfl (Sub.set rfl (Sub.set rfl (Sub.set rfl (Sub.set rfl (Sub.set rfl (Sub.set rfl (Sub.set rfl (Sub.set rfl (Sub.set rfl (Sub.set rfl (Sub.set rfl (Sub.set rfl (Sub.bool true rfl hg848))))))))))))))⟩
          · intro hg848 hx848
            clear ho751
            have hT848 := Below.refl (World.heap w846).size w846
            refine g_run rfl ?_; refine q_field rfl rfl ?_
            refine g_run rfl ?_; refine q_load rfl (Blk.cell (hS.blk 0 rfl) rfl) rfl ?_
            refine g_run rfl ?_; refine q_eql rfl rfl rfl ?_
            refine g_run rfl ?_; refine q_move rfl rfl ?_
            obtain ⟨x851, hx850, hx848⟩ := Option.of_bind hx848
            refine g_andM 9 hx850 rfl rfl rfl rfl ?_ ?_ ?_
            · intro hg850 hx850
              clear hx848
              have hT850 := Below.refl (World.heap w846).size w846
              refine g_run rfl ?_; refine q_field rfl rfl ?_
              refine g_run rfl ?_; refine q_field rfl rfl ?_
              refine g_run rfl ?_; refine q_load rfl (Blk.cell (hS.blk 0 rfl) rfl) rfl ?_
              refine g_run rfl ?_; refine q_move rfl rfl ?_
              refine g_run rfl ?_; refine q_field rfl rfl ?_
              refine g_run rfl ?_; refine q_load rfl (Blk.cell (hS.blk 0 rfl) rfl) rfl ?_
              obtain ⟨x852, hx852, hx850⟩ := Option.of_bind hx850
              refine g_run rfl ?_; refine q_atS (by infer_instance) rfl f791 rfl hx852 rfl fun b853 o853 hm853 f853 => ?_
              refine g_run rfl ?_; refine q_load rfl (Elt.intCell f853) rfl ?_
              refine g_run rfl ?_; refine q_gtr rfl rfl rfl ?_
              cases hx850
              exact eseq_nil ⟨hT850, Sub.set rfl (Sub.set rfl (Sub.set rfl (Sub.set rfl (Sub.set rfl (Sub.set rfl (Sub.set rfl (Sub.set rfl (Sub.set rfl (Sub.bool true rfl hg850))))))))), rfl⟩
            · intro hg850
              refine g_skip rfl rfl rfl ?_
              refine g_skip rfl rfl rfl ?_
              refine g_skip rfl rfl rfl ?_
              refine g_skip rfl rfl rfl ?_
              refine g_skip rfl rfl rfl ?_
              refine g_skip rfl rfl rfl ?_
              refine g_skip rfl rfl rfl ?_
              refine g_skip rfl rfl rfl ?_
              refine g_skip rfl rfl rfl ?_
              exact eseq_nil ⟨rfl, Sub.set rfl (Sub.set rfl (Sub.set rfl (Sub.set rfl (Sub.set rfl (Sub.set rfl (Sub.set rfl (Sub.set rfl (Sub.set rfl (Sub.bool false rfl hg850)))))))))⟩
            intro wm850 hBm850; clear hx850
            replace hS := hS.below hBm850
            replace f790 := f790.ext hBm850
            replace f791 := f791.ext hBm850
            replace hT848 := hT848.trans (Below.mono hBm850 hT848.size)
            cases hx848
            exact eseq_nil ⟨hT848, Sub.set rfl (Sub.set rfl (Sub.set rfl (Sub.set rfl (Sub.set rfl (Sub.bool false rfl hg848))))), rfl⟩
          intro wm848 hBm848; clear hx848
          replace hS := hS.below hBm848
          replace f790 := f790.ext hBm848
          replace f791 := f791.ext hBm848
          refine eseq_nil ?_
          refine hK845 _ _ ?_
          refine e_cond rfl (fun hc854 => ?_) (fun hc854 => ?_)
          · replace ho751 := (if_pos hc854).symm.trans ho751
            refine e_seq fun K855 hK855 => ?_
            refine e_region_text rfl ?_
            refine q_assign rfl rfl ?_
            refine eseq_nil ?_
            refine hK855 _ _ ?_
            refine e_ret ?_
            obtain rfl := Option.some.inj ho751
            obtain rfl := Option.some.inj ht751
            obtain rfl := Option.some.inj ho503
            obtain rfl := Option.some.inj ht503
            obtain rfl := Option.some.inj h
            exact ⟨_, res1 rfl rfl, _, rfl, (hS.pickB [] 1 rfl rfl)⟩
          · replace ho751 := (if_neg (not_true hc854)).symm.trans ho751
            refine e_skip ?_
            refine hK834 _ _ ?_
            refine e_region_text rfl ?_
            refine q_move rfl rfl ?_
            refine q_addW rfl rfl rfl ?_
            refine q_assign rfl rfl ?_
            refine eseq_nil ?_
            obtain rfl := Option.some.inj ho751
            exact ⟨m751, _, Nat.lt_succ_self _, ⟨(w64 (x792 + 1)), _, ht751, (hS.pickB [] 1 rfl rfl), f790, f791, rfl⟩, Sub.cons rfl (Sub.cons rfl (Sub.cons rfl (Sub.cons rfl (Sub.nil _))))⟩
        · replace ho751 := (if_neg (not_true hc833)).symm.trans ho751
          refine e_exit ?_
          obtain rfl := Option.some.inj ho751
          obtain rfl := Option.some.inj ht751
          exact hX751_4  _ _ _ ho503 hS f790 f791 (Sub.cons rfl (Sub.cons rfl (Sub.cons rfl (Sub.nil _))))
      · replace ho503 := (if_neg (not_true hc748)).symm.trans ho503
        refine e_exit ?_
        obtain rfl := Option.some.inj ho503
        obtain rfl := Option.some.inj ht503
        exact hX503_2  _ _ _ h hS  (Sub.nil _)
    refine e_loop (fun m_ E_ w472 => ∃ (x475 : Int), ∃ (R471 : Nat → Prop), iter (fun s => ref32_Consistent_B3 fuel a0 a1 s) m_ x475 = some tl445 ∧ Sep F R R471 w w472 [] ∧ IsSlice (Ty.slice evtTy) w472 R471 v1 a0 ∧ IsSlice Ty.int w472 R471 v2 a1 ∧ E_ = [(0, v1), (1, v2), (5, .int .i64 x475)]) _ ⟨_, ⟨0, _, ht445, hS, f1, f2, rfl⟩, Sub.cons rfl (Sub.cons rfl (Sub.cons rfl (Sub.nil _)))⟩ ?_
    clear ht445 hS
    rintro m445 _ w472 ⟨x475, R471, ht445, hS, f473, f474, rfl⟩
    obtain ⟨m445, rfl, o445, ho445, ht445⟩ := iter_some ht445
    replace ho445 : ref32_Consistent_B3 fuel a0 a1 x475 = some o445 := ho445
    unfold ref32_Consistent_B3 at ho445
    refine e_seq fun K856 hK856 => ?_
    refine e_seq fun K857 hK857 => ?_
    refine e_region_text rfl ?_
    refine q_move rfl rfl ?_
    refine q_move rfl rfl ?_
    refine q_lenS rfl f473 rfl ?_
    refine q_lss rfl rfl rfl ?_
    refine eseq_nil ?_
    refine hK857 _ _ ?_
    refine e_cond rfl (fun hc858 => ?_) (fun hc858 => ?_)
    · replace ho445 := (if_pos hc858).symm.trans ho445
      refine e_skip ?_
      refine hK856 _ _ ?_
      refine e_seq fun K859 hK859 => ?_
      refine e_block ?_
      refine e_seq fun K860 hK860 => ?_
      refine e_region_draw mixed (fun _ => False) [0, 0, 3, 7, 15, 31, 63, 63, 255, 511, 63, 63, 3135, 7231, 15423, 32767, 65535] [] [0, 1, 2, 3, 4, 5, 6, 7, 8, 9, 10, 11, 12, 13, 14, 15, 16] (by kernel_rfl) ?_
      refine q_move rfl rfl ?_
      refine q_move rfl rfl ?_
      obtain ⟨x861, hx861, ho445⟩ := Option.of_bind ho445
      refine q_atS (by infer_instance) rfl f474 rfl hx861 rfl fun b862 o862 hm862 f862 => ?_
      refine q_load rfl (Elt.intCell f862) rfl ?_
      refine q_lss rfl rfl rfl ?_
      refine q_move rfl rfl ?_
      obtain ⟨x864, hx863, ho445⟩ := Option.of_bind ho445
      refine g_orM 10 hx863 rfl trivial rfl rfl ?_ ?_ ?_
      · intro hg863
        refine g_skip rfl rfl rfl ?_
        refine g_skip rfl rfl rfl ?_
        refine g_skip rfl rfl rfl ?_
        refine g_skip rfl rfl rfl ?_
        refine g_skip rfl rfl rfl ?_
        refine g_skip rfl rfl rfl ?_
        refine g_skip rfl rfl rfl ?_
        refine g_skip rfl rfl rfl ?_
        refine g_skip rfl rfl rfl ?_
        refine g_skip rfl rfl rfl ?_
        exact eseq_nil ⟨rfl, Sub.set rfl (Sub.set rfl (Sub.set rfl (Sub.set rfl (Sub.set rfl (Sub.set rfl (Sub.set rfl (Sub.set rfl (Sub.set rfl (Sub.set rfl (Sub.bool true rfl hg863))))))))))⟩
      · intro hg863 hx863
        clear ho445
        have hT863 := Below.refl (World.heap w472).size w472
        refine g_run rfl ?_; refine q_move rfl rfl ?_
        refine g_run rfl ?_; refine q_move rfl rfl ?_
        obtain ⟨x865, hx865, hx863⟩ := Option.of_bind hx863
        refine g_run rfl ?_; refine q_atS (by infer_instance) rfl f474 rfl hx865 rfl fun b866 o866 hm866 f866 => ?_
        refine g_run rfl ?_; refine q_load rfl (Elt.intCell f866) rfl ?_
        refine g_run rfl ?_; refine q_move rfl rfl ?_
        refine g_run rfl ?_; refine q_move rfl rfl ?_
        obtain ⟨x867, hx867, hx863⟩ := Option.of_bind hx863
        refine g_run rfl ?_; refine q_atS (by infer_instance) rfl f473 rfl hx867 rfl fun b868 o868 hm868 f868 => ?_
        refine g_run rfl ?_; refine q_loadE rfl f868 rfl (fun v869 f869 => ?_)
        refine g_run rfl ?_; refine q_lenS rfl f869 rfl ?_
        refine g_run rfl ?_; refine q_gtr rfl rfl rfl ?_
        cases hx863
        exact eseq_nil ⟨hT863, Sub.set rfl (Sub.set rfl (Sub.set rfl (Sub.set rfl (Sub.set rfl (Sub.set rfl (Sub.set rfl (Sub.set rfl (Sub.set rfl (Sub.set rfl (Sub.bool false rfl hg863)))))))))), rfl⟩
      intro wm863 hBm863; clear hx863
      replace hS := hS.below hBm863
      replace f473 := f473.ext hBm863
      replace f474 := f474.ext hBm863
      refine eseq_nil ?_
      refine hK860 _ _ ?_
      refine e_cond rfl (fun hc870 => ?_) (fun hc870 => ?_)
      · replace ho445 := (if_pos hc870).symm.trans ho445
        refine e_seq fun K871 hK871 => ?_
        refine e_region_text rfl ?_
        refine q_assign rfl rfl ?_
        refine eseq_nil ?_
        refine hK871 _ _ ?_
        refine e_ret ?_
        obtain rfl := Option.some.inj ho445
        obtain rfl := Option.some.inj ht445
        obtain rfl := Option.some.inj h
        exact ⟨_, res1 rfl rfl, _, rfl, hS⟩
      · replace ho445 := (if_neg (not_true hc870)).symm.trans ho445
        refine e_skip ?_
        refine hK859 _ _ ?_
        refine e_region_text rfl ?_
        refine q_move rfl rfl ?_
        refine q_addW rfl rfl rfl ?_
        refine q_assign rfl rfl ?_
        refine eseq_nil ?_
        obtain rfl := Option.some.inj ho445
        exact ⟨m445, _, Nat.lt_succ_self _, ⟨(w64 (x475 + 1)), _, ht445, hS, f473, f474, rfl⟩, Sub.cons rfl (Sub.cons rfl (Sub.cons rfl (Sub.nil _)))⟩
    · replace ho445 := (if_neg (not_true hc858)).symm.trans ho445
      refine e_exit ?_
      obtain rfl := Option.some.inj ho445
      obtain rfl := Option.some.inj ht445
      exact hX445_0  _ _ _ h hS f473 f474 (Sub.cons rfl (Sub.cons rfl (Sub.nil _)))
theorem ref32_Lower_w {F R : Nat → Prop} {w : World} {fuel : Nat} {a0 : (List (List Evt))} {a1 : (List Int)} {v1 : Value} {v2 : Value} {r : ((List Int))} (hS : Sep F R R w w []) (f1 : IsSlice (Ty.slice evtTy) w R v1 a0) (f2 : IsSlice Ty.int w R v2 a1) (h : ref32_Lower fuel a0 a1 = some r) :
    Gives Try.prog 25 [v1, v2] w fun u w1 => ∃ (v1547 : Value), ∃ (R1 : Nat → Prop), u = v1547 ∧ Sep F R R1 w w1 [HP.own Ty.int (fun _ => False) 3 v1547 r] := by
  refine fn_of Try.func25 rfl Try.ntmps25 (Nat.le_of_ble_eq_true rfl) ?_
  unfold ref32_Lower at h
  refine e_seq fun K1548 hK1548 => ?_
  refine e_region_text rfl ?_
  refine q_assign rfl rfl ?_
  refine eseq_nil ?_
  refine hK1548 _ _ ?_
  refine e_seq fun K1549 hK1549 => ?_
  refine e_region_text rfl ?_
  refine q_assign rfl rfl ?_
  refine eseq_nil ?_
  refine hK1549 _ _ ?_
  refine e_seq fun K1550 hK1550 => ?_
  refine e_seq fun K1551 hK1551 => ?_
  refine e_region_text rfl ?_
  refine q_assign rfl rfl ?_
  refine eseq_nil ?_
  refine hK1551 _ _ ?_
  refine e_block ?_
  obtain ⟨tl1552, ht1552, h⟩ := Option.of_bind h
  have hX1552_0 : ∀ (x1646 : (List Int)) (v1645 : Value) (R1641 : Nat → Prop) (w1642 : World) (E_ : Env), ref32_Lower_K1 fuel a0 x1646 = some r → Sep F R R1641 w w1642 [HP.own Ty.int (fun _ => False) 3 v1645 x1646] → IsSlice (Ty.slice evtTy) w1642 R1641 v1 a0 → Sub [(0, v1), (5, v1645)] E_ → K1550 E_ w1642 := by
    intro x1646 v1645 R1641 w1642 E_ h hS f1643 hsub
    refine hK1550 _ _ (e_sub hsub ?_); clear hsub
    unfold ref32_Lower_K1 at h
    refine e_seq fun K1647 hK1647 => ?_
    refine e_seq fun K1648 hK1648 => ?_
    refine e_region_text rfl ?_
    refine q_assign rfl rfl ?_
    refine eseq_nil ?_
    refine hK1648 _ _ ?_
    refine e_block ?_
    obtain ⟨tl1649, ht1649, h⟩ := Option.of_bind h
    have hX1649_2 : ∀ (x2603 : (List Int)) (v2602 : Value) (R2599 : Nat → Prop) (w2600 : World) (E_ : Env), ref32_Lower_K2 fuel x2603 = some r → Sep F R R2599 w w2600 [HP.own Ty.int (fun _ => False) 3 v2602 x2603] → Sub [(5, v2602)] E_ → K1647 E_ w2600 := by
      intro x2603 v2602 R2599 w2600 E_ h hS  hsub
      refine hK1647 _ _ (e_sub hsub ?_); clear hsub
      unfold ref32_Lower_K2 at h
      refine e_seq fun K2604 hK2604 => ?_
      refine e_region_text rfl ?_
      refine q_move rfl rfl ?_
      refine q_assign rfl rfl ?_
      refine eseq_nil ?_
      refine hK2604 _ _ ?_
      refine e_ret ?_
      obtain rfl := Option.some.inj h
      exact ⟨_, res1 rfl rfl, v2602, _, rfl, hS⟩
    refine e_loop (fun m_ E_ w2124 => ∃ (x2128 : (List Int)), ∃ (x2129 : Bool), ∃ (v2127 : Value), ∃ (R2123 : Nat → Prop), iter (fun s => ref32_Lower_B1 fuel a0 s.1 s.2) m_ (x2128, x2129) = some tl1649 ∧ Sep F R R2123 w w2124 [HP.own Ty.int (fun _ => False) 3 v2127 x2128] ∧ IsSlice (Ty.slice evtTy) w2124 R2123 v1 a0 ∧ E_ = [(0, v1), (5, v2127), (8, .bool x2129)]) _ ⟨_, ⟨x1646, true, v1645, _, ht1649, hS, f1643, rfl⟩, Sub.cons rfl (Sub.cons rfl (Sub.cons rfl (Sub.nil _)))⟩ ?_
    clear ht1649 hS
    rintro m1649 _ w2124 ⟨x2128, x2129, v2127, R2123, ht1649, hS, f2125, rfl⟩
    obtain ⟨m1649, rfl, o1649, ho1649, ht1649⟩ := iter_some ht1649
    replace ho1649 : ref32_Lower_B1 fuel a0 x2128 x2129 = some o1649 := ho1649
    unfold ref32_Lower_B1 at ho1649
    refine e_seq fun K2605 hK2605 => ?_
    refine e_seq fun K2606 hK2606 => ?_
    refine e_region_text rfl ?_
    refine q_move rfl rfl ?_
    refine eseq_nil ?_
    refine hK2606 _ _ ?_
    refine e_cond rfl (fun hc2607 => ?_) (fun hc2607 => ?_)
    · replace ho1649 := (if_pos hc2607).symm.trans ho1649
      refine e_skip ?_
      refine hK2605 _ _ ?_
      refine e_block ?_
      refine e_seq fun K2608 hK2608 => ?_
      refine e_region_text rfl ?_
      refine q_assign rfl rfl ?_
      refine eseq_nil ?_
      refine hK2608 _ _ ?_
      refine e_seq fun K2609 hK2609 => ?_
      refine e_region_text rfl ?_
      refine q_assign rfl rfl ?_
      refine eseq_nil ?_
      refine hK2609 _ _ ?_
      refine e_block ?_
      obtain ⟨tl2610, ht2610, ho1649⟩ := Option.of_bind ho1649
      refine e_loop (fun m_ E_ w2762 => ∃ (x2766 : (List Int)), ∃ (x2767 : Bool), ∃ (x2768 : Int), ∃ (v2765 : Value), ∃ (R2761 : Nat → Prop), iter (fun s => ref32_Lower_B2 fuel a0 s.1 s.2.1 s.2.2) m_ (x2766, x2767, x2768) = some tl2610 ∧ Sep F R R2761 w w2762 [HP.own Ty.int (fun _ => False) 3 v2765 x2766] ∧ IsSlice (Ty.slice evtTy) w2762 R2761 v1 a0 ∧ E_ = [(0, v1), (5, v2765), (8, .bool x2767), (9, .int .i64 x2768)]) _ ⟨_, ⟨x2128, false, 0, v2127, _, ht2610, hS, f2125, rfl⟩, Sub.cons rfl (Sub.cons rfl (Sub.cons rfl (Sub.cons rfl (Sub.nil _))))⟩ ?_
      clear ht2610 hS
      rintro m2610 _ w2762 ⟨x2766, x2767, x2768, v2765, R2761, ht2610, hS, f2763, rfl⟩
      obtain ⟨m2610, rfl, o2610, ho2610, ht2610⟩ := iter_some ht2610
      replace ho2610 : ref32_Lower_B2 fuel a0 x2766 x2767 x2768 = some o2610 := ho2610
      unfold ref32_Lower_B2 at ho2610
      refine e_seq fun K2922 hK2922 => ?_
      refine e_seq fun K2923 hK2923 => ?_
      refine e_region_text rfl ?_
      refine q_move rfl rfl ?_
      refine q_move rfl rfl ?_
      refine q_lenS rfl f2763 rfl ?_
      refine q_lss rfl rfl rfl ?_
      refine eseq_nil ?_
      refine hK2923 _ _ ?_
      refine e_cond rfl (fun hc2924 => ?_) (fun hc2924 => ?_)
      · replace ho2610 := (if_pos hc2924).symm.trans ho2610
        refine e_skip ?_
        refine hK2922 _ _ ?_
        refine e_seq fun K2925 hK2925 => ?_
        refine e_block ?_
        refine e_seq fun K2926 hK2926 => ?_
        refine e_region_text rfl ?_
        refine q_assign rfl rfl ?_
        refine eseq_nil ?_
        refine hK2926 _ _ ?_
        refine e_block ?_
        obtain ⟨tl2927, ht2927, ho2610⟩ := Option.of_bind ho2610
        have hX2927_6 : ∀ (x3029 : (List Int)) (x3030 : Bool) (v3028 : Value) (R3024 : Nat → Prop) (w3025 : World) (E_ : Env), ref32_Lower_K4 fuel x2768 x3029 x3030 = some o2610 → Sep F R R3024 w w3025 [HP.own Ty.int (fun _ => False) 3 v3028 x3029] → IsSlice (Ty.slice evtTy) w3025 R3024 v1 a0 → Sub [(0, v1), (5, v3028), (8, .bool x3030), (9, .int .i64 x2768)] E_ → K2925 E_ w3025 := by
          intro x3029 x3030 v3028 R3024 w3025 E_ ho2610 hS f3026 hsub
          refine hK2925 _ _ (e_sub hsub ?_); clear hsub
          unfold ref32_Lower_K4 at ho2610
          refine e_region_text rfl ?_
          refine q_move rfl rfl ?_
          refine q_addW rfl rfl rfl ?_
          refine q_assign rfl rfl ?_
          refine eseq_nil ?_
          obtain rfl := Option.some.inj ho2610
          exact ⟨m2610, _, Nat.lt_succ_self _, ⟨x3029, x3030, (w64 (x2768 + 1)), v3028, _, ht2610, hS, f3026, rfl⟩, Sub.cons rfl (Sub.cons rfl (Sub.cons rfl (Sub.cons rfl (Sub.nil _))))⟩
        refine e_loop (fun m_ E_ w2975 => ∃ (x2979 : (List Int)), ∃ (x2980 : Bool), ∃ (x2981 : Int), ∃ (v2978 : Value), ∃ (R2974 : Nat → Prop), iter (fun s => ref32_Lower_B3 fuel x2768 a0 s.1 s.2.1 s.2.2) m_ (x2979, x2980, x2981) = some tl2927 ∧ Sep F R R2974 w w2975 [HP.own Ty.int (fun _ => False) 3 v2978 x2979] ∧ IsSlice (Ty.slice evtTy) w2975 R2974 v1 a0 ∧ E_ = [(0, v1), (5, v2978), (8, .bool x2980), (9, .int .i64 x2768), (10, .int .i64 x2981)]) _ ⟨_, ⟨x2766, x2767, 0, v2765, _, ht2927, hS, f2763, rfl⟩, Sub.cons rfl (Sub.cons rfl (Sub.cons rfl (Sub.cons rfl (Sub.cons rfl (Sub.nil _)))))⟩ ?_
        clear ht2927 hS
        rintro m2927 _ w2975 ⟨x2979, x2980, x2981, v2978, R2974, ht2927, hS, f2976, rfl⟩
        obtain ⟨m2927, rfl, o2927, ho2927, ht2927⟩ := iter_some ht2927
        replace ho2927 : ref32_Lower_B3 fuel x2768 a0 x2979 x2980 x2981 = some o2927 := ho2927
        unfold ref32_Lower_B3 at ho2927
        refine e_seq fun K3031 hK3031 => ?_
        refine e_seq fun K3032 hK3032 => ?_
        refine e_region_text rfl ?_
        refine q_move rfl rfl ?_
        refine q_move rfl rfl ?_
        refine q_move rfl rfl ?_
        obtain ⟨x3033, hx3033, ho2927⟩ := Option.of_bind ho2927
        refine q_indexO (by infer_instance) rfl (hS.own 0 rfl) rfl hx3033 rfl ?_
        have f3034 := (hS.ownR 0 rfl).elt hx3033
        refine q_load rfl (Elt.intCell f3034) rfl ?_
        refine q_lss rfl rfl rfl ?_
        refine eseq_nil ?_
        refine hK3032 _ _ ?_
        refine e_cond rfl (fun hc3035 => ?_) (fun hc3035 => ?_)
        · replace ho2927 := (if_pos hc3035).symm.trans ho2927
          refine e_skip ?_
          refine hK3031 _ _ ?_
          refine e_seq fun K3036 hK3036 => ?_
          refine e_block ?_
          refine e_seq fun K3037 hK3037 => ?_
          refine e_region_text rfl ?_
          refine q_move rfl rfl ?_
          refine q_move rfl rfl ?_
          obtain ⟨x3038, hx3038, ho2927⟩ := Option.of_bind ho2927
          refine q_atS (by infer_instance) rfl f2976 rfl hx3038 rfl fun b3039 o3039 hm3039 f3039 => ?_
          refine q_loadE rfl f3039 rfl (fun v3040 f3040 => ?_)
          refine q_move rfl rfl ?_
          obtain ⟨x3041, hx3041, ho2927⟩ := Option.of_bind ho2927
          refine q_atS (by infer_instance) rfl f3040 rfl hx3041 rfl fun b3042 o3042 hm3042 f3042 => ?_
          have hc3043 := Evt_open f3042
          refine q_loadAgg rfl hc3043 rfl rfl ?_
          refine q_allocB rfl fun w3044 bl3044 hg3044 hb3044 hB3044 => ?_
          replace f2976 := f2976.ext hB3044
          replace hS := hS.newBlk hB3044 hg3044 hb3044
          refine q_storeAgg rfl rfl (hS.blk 0 rfl) rfl (Nat.le_of_ble_eq_true rfl) (all_cons rfl (all_cons rfl (all_cons rfl (all_cons rfl (all_cons rfl (all_cons rfl (all_cons rfl (all_nil)))))))) rfl rfl fun w3046 hb3046 hO3046 => ?_
          simp only [setN, List.set, List.take, List.drop] at hb3046
          have hk3046 := hS.keptBlk 0 rfl hO3046
          replace f2976 := f2976.kept hk3046
          replace hS := hS.setBlk 0 rfl hb3046 hO3046; simp only [List.set] at hS
          refine eseq_nil ?_
          refine hK3037 _ _ ?_
          refine e_seq fun K3047 hK3047 => ?_
          refine e_region_draw mixed (fun _ => False) [0, 0, 0, 7, 15, 31, 63, 127, 255, 511, 1023, 2047, 4095, 1023, 1023, 17407, 58367, 123903, 262143, 524287, 1048575] [] [0, 1, 2, 3, 4, 5, 6, 7, 8, 9, 10, 11, 12, 13, 14, 15, 16, 17, 18, 19, 20] (by kernel_rfl) ?_
          refine q_move rfl rfl ?_
          refine q_move rfl rfl ?_
          refine q_loadAgg rfl (Blk.cellsAt (hS.blk 0 rfl) 0 7 rfl) rfl rfl ?_
          obtain ⟨r3049, hr3049, ho2927⟩ := Option.of_bind ho2927
          refine q_call rfl (ref32_sound_w (a2 := (⟨x3041.kind, x3041.inc, x3041.frm, (⟨x3041.sent.inc, x3041.sent.index⟩ : Lab), x3041.ord, x3041.value⟩ : Evt)) (Sep.enter (As := []) hS) f2976 hr3049) rfl ?_
          rintro _ w3048 ⟨R3048, rfl, hC3048⟩
          have hB3048 : Below (World.heap w3046).size w3046 w3048 := hC3048.stepB0
          refine ⟨fun _ => .of_below hB3048, ?_⟩
          replace f2976 := (f2976.ext hB3048).mono fun k hk _ => hC3048.ro0 k hk
          replace hS := Sep.leave (As := []) hS hC3048; simp only [List.cons_append, List.nil_append] at hS
          refine q_not rfl rfl ?_
          refine q_move rfl rfl ?_
          obtain ⟨x3051, hx3050, ho2927⟩ := Option.of_bind ho2927
          refine g_orM 14 hx3050 rfl trivial rfl rfl ?_ ?_ ?_
          · intro hg3050
            refine g_skip rfl rfl rfl ?_
            refine g_skip rfl rfl rfl ?_
            refine g_skip rfl rfl rfl ?_
            refine g_skip rfl rfl rfl ?_
            refine g_skipU rfl rfl ?_
            refine g_skipU rfl rfl ?_
            refine g_skipU rfl rfl ?_
            refine g_skipU rfl rfl ?_
            refine g_skipU rfl rfl ?_
            refine g_skipU rfl rfl ?_
            refine g_skipU rfl rfl ?_
            refine g_skipU rfl rfl ?_
            refine g_skipU rfl rfl ?_
            refine g_skip rfl rfl rfl ?_
            exact eseq_nil ⟨rfl, Sub.set rfl (Sub.set rfl (Sub.set rfl (Sub.set rfl (Sub.set rfl (Sub.set rfl (Sub.set rfl (Sub.set rfl (Sub.set rfl (Sub.set rfl (Sub.set rfl (Sub.set rfl (Sub.set rfl (Sub.set rfl (Sub.bool true rfl hg3050))))))))))))))⟩
          · intro hg3050 hx3050
            clear ho2927
            have hT3050 := Below.refl (World.heap w3048).size w3048
            refine g_run rfl ?_; refine q_field rfl rfl ?_
            refine g_run rfl ?_; refine q_load rfl (Blk.cell (hS.blk 0 rfl) rfl) rfl ?_
            refine g_run rfl ?_; refine q_eql rfl rfl rfl ?_
            refine g_run rfl ?_; refine q_move rfl rfl ?_
            obtain ⟨x3053, hx3052, hx3050⟩ := Option.of_bind hx3050
            refine g_andM 9 hx3052 rfl rfl rfl rfl ?_ ?_ ?_
            · intro hg3052 hx3052
              clear hx3050
              have hT3052 := Below.refl (World.heap w3048).size w3048
              refine g_run rfl ?_; refine q_field rfl rfl ?_
              refine g_run rfl ?_; refine q_field rfl rfl ?_
              refine g_run rfl ?_; refine q_load rfl (Blk.cell (hS.blk 0 rfl) rfl) rfl ?_
              refine g_run rfl ?_; refine q_move rfl rfl ?_
              refine g_run rfl ?_; refine q_field rfl rfl ?_
              refine g_run rfl ?_; refine q_load rfl (Blk.cell (hS.blk 0 rfl) rfl) rfl ?_
              obtain ⟨x3054, hx3054, hx3052⟩ := Option.of_bind hx3052
              refine g_run rfl ?_; refine q_indexO (by infer_instance) rfl (hS.own 1 rfl) rfl hx3054 rfl ?_
              have f3055 := (hS.ownR 1 rfl).elt hx3054
              refine g_run rfl ?_; refine q_load rfl (Elt.intCell f3055) rfl ?_
              refine g_run rfl ?_; refine q_gtr rfl rfl rfl ?_
              cases hx3052
              exact eseq_nil ⟨hT3052, Sub.set rfl (Sub.set rfl (Sub.set rfl (Sub.set rfl (Sub.set rfl (Sub.set rfl (Sub.set rfl (Sub.set rfl (Sub.set rfl (Sub.bool true rfl hg3052))))))))), rfl⟩
            · intro hg3052
              refine g_skip rfl rfl rfl ?_
              refine g_skip rfl rfl rfl ?_
              refine g_skip rfl rfl rfl ?_
              refine g_skip rfl rfl rfl ?_
              refine g_skip rfl rfl rfl ?_
              refine g_skip rfl rfl rfl ?_
              refine g_skip rfl rfl rfl ?_
              refine g_skip rfl rfl rfl ?_
              refine g_skip rfl rfl rfl ?_
              exact eseq_nil ⟨rfl, Sub.set rfl (Sub.set rfl (Sub.set rfl (Sub.set rfl (Sub.set rfl (Sub.set rfl (Sub.set rfl (Sub.set rfl (Sub.set rfl (Sub.bool false rfl hg3052)))))))))⟩
            intro wm3052 hBm3052; clear hx3052
            replace hS := hS.below hBm3052
            replace f2976 := f2976.ext hBm3052
            replace hT3050 := hT3050.trans (Below.mono hBm3052 hT3050.size)
            cases hx3050
            exact eseq_nil ⟨hT3050, Sub.set rfl (Sub.set rfl (Sub.set rfl (Sub.set rfl (Sub.set rfl (Sub.bool false rfl hg3050))))), rfl⟩
          intro wm3050 hBm3050; clear hx3050
          replace hS := hS.below hBm3050
          replace f2976 := f2976.ext hBm3050
          refine eseq_nil ?_
          refine hK3047 _ _ ?_
          refine e_cond rfl (fun hc3056 => ?_) (fun hc3056 => ?_)
          · replace ho2927 := (if_pos hc3056).symm.trans ho2927
            refine e_region_text rfl ?_
            refine q_move rfl rfl ?_
            refine q_move rfl rfl ?_
            refine q_move rfl rfl ?_
            obtain ⟨x3057, hx3057, ho2927⟩ := Option.of_bind ho2927
            refine q_indexO (by infer_instance) rfl (hS.own 1 rfl) rfl hx3057 rfl ?_
            obtain ⟨x3059, hx3059, ho2927⟩ := Option.of_bind ho2927
            refine q_storeO (T := Ty.int) (j := 0) rfl rfl (hS.own 1 rfl) hx3057 hx3059 rfl rfl rfl (Enc.setL rfl) fun w3058 ho3058 hO3058 => ?_
            have hk3058 := hS.keptO 1 rfl hx3057 hO3058
            replace f2976 := f2976.kept hk3058
            replace hS := hS.putO 1 rfl hx3057 ho3058 hO3058; simp only [List.set] at hS
            refine q_assign rfl rfl ?_
            refine eseq_nil ?_
            refine hK3036 _ _ ?_
            refine e_region_text rfl ?_
            refine q_move rfl rfl ?_
            refine q_addW rfl rfl rfl ?_
            refine q_assign rfl rfl ?_
            refine eseq_nil ?_
            obtain rfl := Option.some.inj ho2927
            exact ⟨m2927, _, Nat.lt_succ_self _, ⟨x3059, true, (w64 (x2981 + 1)), v2978, _, ht2927, (hS.pickB [1] 2 rfl rfl), f2976, rfl⟩, Sub.cons rfl (Sub.cons rfl (Sub.cons rfl (Sub.cons rfl (Sub.cons rfl (Sub.nil _)))))⟩
          · replace ho2927 := (if_neg (not_true hc3056)).symm.trans ho2927
            refine e_skip ?_
            refine hK3036 _ _ ?_
            refine e_region_text rfl ?_
            refine q_move rfl rfl ?_
            refine q_addW rfl rfl rfl ?_
            refine q_assign rfl rfl ?_
            refine eseq_nil ?_
            obtain rfl := Option.some.inj ho2927
            exact ⟨m2927, _, Nat.lt_succ_self _, ⟨x2979, x2980, (w64 (x2981 + 1)), v2978, _, ht2927, (hS.pickB [1] 2 rfl rfl), f2976, rfl⟩, Sub.cons rfl (Sub.cons rfl (Sub.cons rfl (Sub.cons rfl (Sub.cons rfl (Sub.nil _)))))⟩
        · replace ho2927 := (if_neg (not_true hc3035)).symm.trans ho2927
          refine e_exit ?_
          obtain rfl := Option.some.inj ho2927
          obtain rfl := Option.some.inj ht2927
          exact hX2927_6 x2979 x2980 v2978 _ _ _ ho2610 hS f2976 (Sub.cons rfl (Sub.cons rfl (Sub.cons rfl (Sub.cons rfl (Sub.nil _)))))
      · replace ho2610 := (if_neg (not_true hc2924)).symm.trans ho2610
        refine e_exit ?_
        obtain rfl := Option.some.inj ho2610
        obtain rfl := Option.some.inj ht2610
        replace ho1649 : ref32_Lower_K3 fuel x2766 x2767 = some o1649 := ho1649
        unfold ref32_Lower_K3 at ho1649
        obtain rfl := Option.some.inj ho1649
        exact ⟨m1649, _, Nat.lt_succ_self _, ⟨x2766, x2767, v2765, _, ht1649, hS, f2763, rfl⟩, Sub.cons rfl (Sub.cons rfl (Sub.cons rfl (Sub.nil _)))⟩
    · replace ho1649 := (if_neg (not_true hc2607)).symm.trans ho1649
      refine e_exit ?_
      obtain rfl := Option.some.inj ho1649
      obtain rfl := Option.some.inj ht1649
      exact hX1649_2 x2128 v2127 _ _ _ h hS  (Sub.cons rfl (Sub.nil _))
  replace hS := hS.nilOwn0 Ty.int 3
  refine e_loop (fun m_ E_ w1596 => ∃ (x1601 : (List Int)), ∃ (x1602 : Int), ∃ (v1600 : Value), ∃ (R1595 : Nat → Prop), iter (fun s => ref32_Lower_B4 fuel a0 a1 s.1 s.2) m_ (x1601, x1602) = some tl1552 ∧ Sep F R R1595 w w1596 [HP.own Ty.int (fun _ => False) 3 v1600 x1601] ∧ IsSlice (Ty.slice evtTy) w1596 R1595 v1 a0 ∧ IsSlice Ty.int w1596 R1595 v2 a1 ∧ E_ = [(0, v1), (1, v2), (5, v1600), (6, .int .i64 x1602)]) _ ⟨_, ⟨([] : List Int), 0, (.slice none 0 0), _, ht1552, hS, f1, f2, rfl⟩, Sub.cons rfl (Sub.cons rfl (Sub.cons rfl (Sub.cons rfl (Sub.nil _))))⟩ ?_
  clear ht1552 hS
  rintro m1552 _ w1596 ⟨x1601, x1602, v1600, R1595, ht1552, hS, f1597, f1598, rfl⟩
  obtain ⟨m1552, rfl, o1552, ho1552, ht1552⟩ := iter_some ht1552
  replace ho1552 : ref32_Lower_B4 fuel a0 a1 x1601 x1602 = some o1552 := ho1552
  unfold ref32_Lower_B4 at ho1552
  refine e_seq fun K3061 hK3061 => ?_
  refine e_seq fun K3062 hK3062 => ?_
  refine e_region_text rfl ?_
  refine q_move rfl rfl ?_
  refine q_move rfl rfl ?_
  refine q_lenS rfl f1597 rfl ?_
  refine q_lss rfl rfl rfl ?_
  refine eseq_nil ?_
  refine hK3062 _ _ ?_
  refine e_cond rfl (fun hc3063 => ?_) (fun hc3063 => ?_)
  · replace ho1552 := (if_pos hc3063).symm.trans ho1552
    refine e_skip ?_
    refine hK3061 _ _ ?_
    refine e_seq fun K3064 hK3064 => ?_
    refine e_block ?_
    refine e_seq fun K3065 hK3065 => ?_
    refine e_region_text rfl ?_
    refine q_assign rfl rfl ?_
    refine eseq_nil ?_
    refine hK3065 _ _ ?_
    refine e_seq fun K3066 hK3066 => ?_
    have hJ3066 : ∀ (x3079 : Int) (R3074 : Nat → Prop) (w3075 : World) (E_ : Env), ref32_Lower_J1 fuel x1601 x1602 x3079 = some o1552 → Sep F R R3074 w w3075 [HP.own Ty.int (fun _ => False) 3 v1600 x1601] → IsSlice (Ty.slice evtTy) w3075 R3074 v1 a0 → IsSlice Ty.int w3075 R3074 v2 a1 → Sub [(0, v1), (1, v2), (5, v1600), (6, .int .i64 x1602), (7, .int .i64 x3079)] E_ → K3066 E_ w3075 := by
      intro x3079 R3074 w3075 E_ ho1552 hS f3076 f3077 hsub
      refine hK3066 _ _ (e_sub hsub ?_); clear hsub
      unfold ref32_Lower_J1 at ho1552
      refine e_region_text rfl ?_
      refine q_move rfl rfl ?_
      refine q_move rfl rfl ?_
      refine q_litO (T := Ty.int) (S := (fun _ => False)) (cells := [[.int .i64 x3079]]) (ys := [x3079]) ((Parts.cons rfl rfl Parts.nil)) rfl rfl rfl rfl rfl rfl rfl (fun w1 hB => ⟨rfl, trivial⟩) (fun _ h => h.elim) rfl fun w3080 v3080 ho3080 hv3080 hB3080 => ?_
      replace f3076 := f3076.ext hB3080
      replace f3077 := f3077.ext hB3080
      replace hS := hS.newOwnS hB3080 ho3080 hv3080 (fun _ h => h.elim)
      obtain ⟨x3083, hx3083, ho1552⟩ := Option.of_bind ho1552
      refine q_catOwn (T := Ty.int) rfl rfl rfl rfl (hS.own 1 rfl) rfl (hS.own 0 rfl) (fun _ h _ => h.elim) (snoc_cat hx3083) (Nat.zero_le _) rfl (fun h => by cases h) fun v3082 w3082 hw3082 hgr3082 hnw3082 => ?_
      have hk3082 := hS.keptOwn 1 rfl hgr3082
      replace f3076 := f3076.kept hk3082
      replace f3077 := f3077.kept hk3082
      replace hS := hS.setOwn 1 rfl hw3082 hgr3082 hnw3082; simp only [List.set] at hS
      refine q_assign rfl rfl ?_
      refine eseq_nil ?_
      refine hK3064 _ _ ?_
      refine e_region_text rfl ?_
      refine q_move rfl rfl ?_
      refine q_addW rfl rfl rfl ?_
      refine q_assign rfl rfl ?_
      refine eseq_nil ?_
      obtain rfl := Option.some.inj ho1552
      exact ⟨m1552, _, Nat.lt_succ_self _, ⟨x3083, (w64 (x1602 + 1)), v3082, _, ht1552, (hS.pickB [1] 2 rfl rfl), f3076, f3077, rfl⟩, Sub.cons rfl (Sub.cons rfl (Sub.cons rfl (Sub.cons rfl (Sub.nil _))))⟩
    refine e_seq fun K3084 hK3084 => ?_
    refine e_region_text rfl ?_
    refine q_move rfl rfl ?_
    refine q_move rfl rfl ?_
    refine q_lenS rfl f1598 rfl ?_
    refine q_lss rfl rfl rfl ?_
    refine eseq_nil ?_
    refine hK3084 _ _ ?_
    refine e_cond rfl (fun hc3085 => ?_) (fun hc3085 => ?_)
    · replace ho1552 := (if_pos hc3085).symm.trans ho1552
      refine e_region_draw mixed (fun _ => False) [0, 0, 3, 7, 0, 0, 48, 112, 240, 511, 1023, 2047] [] [0, 1, 2, 3, 4, 5, 6, 7, 8, 9, 10, 11] (by kernel_rfl) ?_
      refine q_move rfl rfl ?_
      refine q_move rfl rfl ?_
      obtain ⟨x3086, hx3086, ho1552⟩ := Option.of_bind ho1552
      refine q_atS (by infer_instance) rfl f1598 rfl hx3086 rfl fun b3087 o3087 hm3087 f3087 => ?_
      refine q_load rfl (Elt.intCell f3087) rfl ?_
      refine q_move rfl rfl ?_
      refine q_move rfl rfl ?_
      obtain ⟨x3088, hx3088, ho1552⟩ := Option.of_bind ho1552
      refine q_atS (by infer_instance) rfl f1597 rfl hx3088 rfl fun b3089 o3089 hm3089 f3089 => ?_
      refine q_loadE rfl f3089 rfl (fun v3090 f3090 => ?_)
      refine q_lenS rfl f3090 rfl ?_
      refine q_min rfl rfl rfl ?_
      refine q_max rfl rfl rfl ?_
      refine q_assign rfl rfl ?_
      refine eseq_nil ?_
      exact hJ3066 (max 0 (min x3086 (x3088.length : Int))) _ _ _ ho1552 hS f1597 f1598 (Sub.cons rfl (Sub.cons rfl (Sub.cons rfl (Sub.cons rfl (Sub.cons rfl (Sub.nil _))))))
    · replace ho1552 := (if_neg (not_true hc3085)).symm.trans ho1552
      refine e_skip ?_
      exact hJ3066 0 _ _ _ ho1552 hS f1597 f1598 (Sub.cons rfl (Sub.cons rfl (Sub.cons rfl (Sub.cons rfl (Sub.cons rfl (Sub.nil _))))))
  · replace ho1552 := (if_neg (not_true hc3063)).symm.trans ho1552
    refine e_exit ?_
    obtain rfl := Option.some.inj ho1552
    obtain rfl := Option.some.inj ht1552
    exact hX1552_0 x1601 v1600 _ _ _ h hS f1597 (Sub.cons rfl (Sub.cons rfl (Sub.nil _)))
theorem law32_size_w {F R : Nat → Prop} {w : World} {fuel : Nat} {a0 : (List (List Evt))} {v1 : Value} {r : (Int)} (hS : Sep F R R w w []) (f1 : IsSlice (Ty.slice evtTy) w R v1 a0) (h : law32_size fuel a0 = some r) :
    Gives Try.prog 19 [v1] w fun u w1 => ∃ (R1 : Nat → Prop), u = .int .i64 r ∧ Sep F R R1 w w1 [] := by
  refine fn_of Try.func19 rfl Try.ntmps19 (Nat.le_of_ble_eq_true rfl) ?_
  unfold law32_size at h
  refine e_seq fun K56 hK56 => ?_
  refine e_region_text rfl ?_
  refine q_assign rfl rfl ?_
  refine eseq_nil ?_
  refine hK56 _ _ ?_
  refine e_seq fun K57 hK57 => ?_
  refine e_region_text rfl ?_
  refine q_move rfl rfl ?_
  refine q_lenS rfl f1 rfl ?_
  refine q_assign rfl rfl ?_
  refine eseq_nil ?_
  refine hK57 _ _ ?_
  refine e_seq fun K58 hK58 => ?_
  refine e_seq fun K59 hK59 => ?_
  refine e_region_text rfl ?_
  refine q_assign rfl rfl ?_
  refine eseq_nil ?_
  refine hK59 _ _ ?_
  refine e_block ?_
  obtain ⟨tl60, ht60, h⟩ := Option.of_bind h
  have hX60_0 : ∀ (x100 : Int) (R98 : Nat → Prop) (w99 : World) (E_ : Env), law32_size_K1 fuel x100 = some r → Sep F R R98 w w99 [] → Sub [(3, .int .i64 x100)] E_ → K58 E_ w99 := by
    intro x100 R98 w99 E_ h hS  hsub
    refine hK58 _ _ (e_sub hsub ?_); clear hsub
    unfold law32_size_K1 at h
    refine e_seq fun K101 hK101 => ?_
    refine e_region_text rfl ?_
    refine q_move rfl rfl ?_
    refine q_assign rfl rfl ?_
    refine eseq_nil ?_
    refine hK101 _ _ ?_
    refine e_ret ?_
    obtain rfl := Option.some.inj h
    exact ⟨_, res1 rfl rfl, _, rfl, hS⟩
  refine e_loop (fun m_ E_ w80 => ∃ (x82 : Int), ∃ (x83 : Int), ∃ (R79 : Nat → Prop), iter (fun s => law32_size_B1 fuel a0 s.1 s.2) m_ (x82, x83) = some tl60 ∧ Sep F R R79 w w80 [] ∧ IsSlice (Ty.slice evtTy) w80 R79 v1 a0 ∧ E_ = [(0, v1), (3, .int .i64 x82), (4, .int .i64 x83)]) _ ⟨_, ⟨(a0.length : Int), 0, _, ht60, hS, f1, rfl⟩, Sub.cons rfl (Sub.cons rfl (Sub.cons rfl (Sub.nil _)))⟩ ?_
  clear ht60 hS
  rintro m60 _ w80 ⟨x82, x83, R79, ht60, hS, f81, rfl⟩
  obtain ⟨m60, rfl, o60, ho60, ht60⟩ := iter_some ht60
  replace ho60 : law32_size_B1 fuel a0 x82 x83 = some o60 := ho60
  unfold law32_size_B1 at ho60
  refine e_seq fun K102 hK102 => ?_
  refine e_seq fun K103 hK103 => ?_
  refine e_region_text rfl ?_
  refine q_move rfl rfl ?_
  refine q_move rfl rfl ?_
  refine q_lenS rfl f81 rfl ?_
  refine q_lss rfl rfl rfl ?_
  refine q_move rfl rfl ?_
  obtain ⟨x105, hx104, ho60⟩ := Option.of_bind ho60
  refine g_andM 2 hx104 rfl trivial rfl rfl ?_ ?_ ?_
  · intro hg104 hx104
    clear ho60
    have hT104 := Below.refl (World.heap w80).size w80
    refine g_run rfl ?_; refine q_move rfl rfl ?_
    refine g_run rfl ?_; refine q_leq rfl rfl rfl ?_
    cases hx104
    exact eseq_nil ⟨hT104, Sub.set rfl (Sub.set rfl (Sub.bool true rfl hg104)), rfl⟩
  · intro hg104
    refine g_skip rfl rfl rfl ?_
    refine g_skip rfl rfl rfl ?_
    exact eseq_nil ⟨rfl, Sub.set rfl (Sub.set rfl (Sub.bool false rfl hg104))⟩
  intro wm104 hBm104; clear hx104
  replace hS := hS.below hBm104
  replace f81 := f81.ext hBm104
  refine eseq_nil ?_
  refine hK103 _ _ ?_
  refine e_cond rfl (fun hc106 => ?_) (fun hc106 => ?_)
  · replace ho60 := (if_pos hc106).symm.trans ho60
    refine e_skip ?_
    refine hK102 _ _ ?_
    refine e_seq fun K107 hK107 => ?_
    refine e_block ?_
    refine e_region_text rfl ?_
    refine q_move rfl rfl ?_
    refine q_move rfl rfl ?_
    refine q_move rfl rfl ?_
    obtain ⟨x108, hx108, ho60⟩ := Option.of_bind ho60
    refine q_atS (by infer_instance) rfl f81 rfl hx108 rfl fun b109 o109 hm109 f109 => ?_
    refine q_loadE rfl f109 rfl (fun v110 f110 => ?_)
    refine q_lenS rfl f110 rfl ?_
    refine q_addW rfl rfl rfl ?_
    refine q_assign rfl rfl ?_
    refine eseq_nil ?_
    refine hK107 _ _ ?_
    refine e_region_text rfl ?_
    refine q_move rfl rfl ?_
    refine q_addW rfl rfl rfl ?_
    refine q_assign rfl rfl ?_
    refine eseq_nil ?_
    obtain rfl := Option.some.inj ho60
    exact ⟨m60, _, Nat.lt_succ_self _, ⟨(w64 (x82 + (x108.length : Int))), (w64 (x83 + 1)), _, ht60, hS, f81, rfl⟩, Sub.cons rfl (Sub.cons rfl (Sub.cons rfl (Sub.nil _)))⟩
  · replace ho60 := (if_neg (not_true hc106)).symm.trans ho60
    refine e_exit ?_
    obtain rfl := Option.some.inj ho60
    obtain rfl := Option.some.inj ht60
    exact hX60_0 x82 _ _ _ h hS  (Sub.cons rfl (Sub.nil _))
theorem law32_OrphanCuts_w {F R : Nat → Prop} {w : World} {fuel : Nat} {a0 : (List (List Evt))} {a1 : (List Int)} {a2 : (List Int)} {v1 : Value} {v2 : Value} {v3 : Value} {r : (Bool)} (hS : Sep F R R w w []) (f1 : IsSlice (Ty.slice evtTy) w R v1 a0) (f2 : IsSlice Ty.int w R v2 a1) (f3 : IsSlice Ty.u8 w R v3 a2) (h : law32_OrphanCuts fuel a0 a1 a2 = some r) :
    Gives Try.prog 4 [v1, v2, v3] w fun u w1 => ∃ (R1 : Nat → Prop), u = .bool r ∧ Sep F R R1 w w1 [] := by
  refine fn_of Try.func4 rfl Try.ntmps4 (Nat.le_of_ble_eq_true rfl) ?_
  unfold law32_OrphanCuts at h
  refine e_seq fun K58 hK58 => ?_
  refine e_region_text rfl ?_
  refine q_assign rfl rfl ?_
  refine eseq_nil ?_
  refine hK58 _ _ ?_
  refine e_seq fun K59 hK59 => ?_
  refine e_seq fun K60 hK60 => ?_
  refine e_region_text rfl ?_
  obtain ⟨r62, hr62, h⟩ := Option.of_bind h
  refine q_call rfl (law32_awake_w (Sep.enter (As := []) hS)  hr62) rfl ?_
  rintro _ w61 ⟨R61, rfl, hC61⟩
  have hB61 : Below (World.heap w).size w w61 := hC61.stepB0
  refine ⟨fun _ => .of_below hB61, ?_⟩
  replace f1 := (f1.ext hB61).mono fun k hk _ => hC61.ro0 k hk
  replace f2 := (f2.ext hB61).mono fun k hk _ => hC61.ro0 k hk
  replace f3 := (f3.ext hB61).mono fun k hk _ => hC61.ro0 k hk
  replace hS := Sep.leave (As := []) hS hC61; simp only [List.cons_append, List.nil_append] at hS
  refine q_not rfl rfl ?_
  refine q_move rfl rfl ?_
  obtain ⟨x65, hx63, h⟩ := Option.of_bind h
  refine g_orM 3 hx63 rfl trivial rfl rfl ?_ ?_ ?_
  · intro hg63
    refine g_skip rfl rfl rfl ?_
    refine g_skip rfl rfl rfl ?_
    refine g_skip rfl rfl rfl ?_
    exact eseq_nil ⟨rfl, Sub.set rfl (Sub.set rfl (Sub.set rfl (Sub.bool true rfl hg63)))⟩
  · intro hg63 hx63
    clear h
    have hT63 := Below.refl (World.heap w61).size w61
    refine g_run rfl ?_; refine q_move rfl rfl ?_
    obtain ⟨r67, hr67, hx63⟩ := Option.of_bind hx63
    refine g_run rfl ?_; refine q_call rfl (law32_size_w (Sep.enter (As := []) hS) f1 hr67) rfl ?_
    rintro _ w66 ⟨R66, rfl, hC66⟩
    have hB66 : Below (World.heap w61).size w61 w66 := hC66.stepB0
    refine ⟨fun _ => .of_below hB66, ?_⟩
    replace f1 := (f1.ext hB66).mono fun k hk _ => hC66.ro0 k hk
    replace f2 := (f2.ext hB66).mono fun k hk _ => hC66.ro0 k hk
    replace f3 := (f3.ext hB66).mono fun k hk _ => hC66.ro0 k hk
    replace hT63 := hT63.trans (Below.mono hB66 hT63.size)
    replace hS := Sep.leave (As := []) hS hC66; simp only [List.cons_append, List.nil_append] at hS
    refine g_run rfl ?_; refine q_gtr rfl rfl rfl ?_
    cases hx63
    exact eseq_nil ⟨hT63, Sub.set rfl (Sub.set rfl (Sub.set rfl (Sub.bool false rfl hg63))), rfl⟩
  intro wm63 hBm63; clear hx63
  replace hS := hS.below hBm63
  replace f1 := f1.ext hBm63
  replace f2 := f2.ext hBm63
  replace f3 := f3.ext hBm63
  refine q_move rfl rfl ?_
  obtain ⟨x69, hx68, h⟩ := Option.of_bind h
  refine g_orM 3 hx68 rfl trivial rfl rfl ?_ ?_ ?_
  · intro hg68
    refine g_skip rfl rfl rfl ?_
    refine g_skip rfl rfl rfl ?_
    refine g_skip rfl rfl rfl ?_
    exact eseq_nil ⟨rfl, Sub.set rfl (Sub.set rfl (Sub.set rfl (Sub.bool true rfl hg68)))⟩
  · intro hg68 hx68
    clear h
    have hT68 := Below.refl (World.heap wm63).size wm63
    refine g_run rfl ?_; refine q_move rfl rfl ?_
    refine g_run rfl ?_; refine q_lenS rfl f2 rfl ?_
    refine g_run rfl ?_; refine q_gtr rfl rfl rfl ?_
    cases hx68
    exact eseq_nil ⟨hT68, Sub.set rfl (Sub.set rfl (Sub.set rfl (Sub.bool false rfl hg68))), rfl⟩
  intro wm68 hBm68; clear hx68
  replace hS := hS.below hBm68
  replace f1 := f1.ext hBm68
  replace f2 := f2.ext hBm68
  replace f3 := f3.ext hBm68
  refine eseq_nil ?_
  refine hK60 _ _ ?_
  refine e_cond rfl (fun hc70 => ?_) (fun hc70 => ?_)
  · replace h := (if_pos hc70).symm.trans h
    refine e_seq fun K71 hK71 => ?_
    refine e_region_text rfl ?_
    refine q_move rfl rfl ?_
    obtain ⟨r73, hr73, h⟩ := Option.of_bind h
    refine q_call rfl (law32_size_w (Sep.enter (As := []) hS) f1 hr73) rfl ?_
    rintro _ w72 ⟨R72, rfl, hC72⟩
    have hB72 : Below (World.heap wm68).size wm68 w72 := hC72.stepB0
    refine ⟨fun _ => .of_below hB72, ?_⟩
    replace f2 := (f2.ext hB72).mono fun k hk _ => hC72.ro0 k hk
    replace f1 := (f1.ext hB72).mono fun k hk _ => hC72.ro0 k hk
    replace hS := Sep.leave (As := []) hS hC72; simp only [List.cons_append, List.nil_append] at hS
    refine q_gtr rfl rfl rfl ?_
    refine q_move rfl rfl ?_
    obtain ⟨x75, hx74, h⟩ := Option.of_bind h
    refine g_orM 3 hx74 rfl trivial rfl rfl ?_ ?_ ?_
    · intro hg74
      refine g_skip rfl rfl rfl ?_
      refine g_skip rfl rfl rfl ?_
      refine g_skip rfl rfl rfl ?_
      exact eseq_nil ⟨rfl, Sub.set rfl (Sub.set rfl (Sub.set rfl (Sub.bool true rfl hg74)))⟩
    · intro hg74 hx74
      clear h
      have hT74 := Below.refl (World.heap w72).size w72
      refine g_run rfl ?_; refine q_move rfl rfl ?_
      refine g_run rfl ?_; refine q_lenS rfl f2 rfl ?_
      refine g_run rfl ?_; refine q_gtr rfl rfl rfl ?_
      cases hx74
      exact eseq_nil ⟨hT74, Sub.set rfl (Sub.set rfl (Sub.set rfl (Sub.bool false rfl hg74))), rfl⟩
    intro wm74 hBm74; clear hx74
    replace hS := hS.below hBm74
    refine q_assign rfl rfl ?_
    refine eseq_nil ?_
    refine hK71 _ _ ?_
    refine e_ret ?_
    obtain rfl := Option.some.inj h
    exact ⟨_, res1 rfl rfl, _, rfl, hS⟩
  · replace h := (if_neg (not_true hc70)).symm.trans h
    refine e_skip ?_
    refine hK59 _ _ ?_
    refine e_seq fun K76 hK76 => ?_
    refine e_region_text rfl ?_
    refine q_move rfl rfl ?_
    obtain ⟨r78, hr78, h⟩ := Option.of_bind h
    refine q_call rfl (law32_scene_w (Sep.enter (As := []) hS) f3 hr78) rfl ?_
    rintro _ w77 ⟨v79, v80, v81, R77, rfl, hC77, f81⟩
    have hB77 : Below (World.heap wm68).size wm68 w77 := hC77.stepB0
    refine ⟨fun _ => .of_below hB77, ?_⟩
    replace f1 := (f1.ext hB77).mono fun k hk _ => hC77.ro0 k hk
    replace f2 := (f2.ext hB77).mono fun k hk _ => hC77.ro0 k hk
    replace f3 := (f3.ext hB77).mono fun k hk _ => hC77.ro0 k hk
    replace hS := Sep.leave (As := []) hS hC77; simp only [List.cons_append, List.nil_append] at hS
    refine q_move rfl rfl ?_
    refine q_extract rfl rfl rfl ?_
    refine q_extract rfl rfl rfl ?_
    refine q_assign rfl rfl ?_
    refine q_assign rfl rfl ?_
    refine eseq_nil ?_
    refine hK76 _ _ ?_
    refine e_seq fun K82 hK82 => ?_
    refine e_region_text rfl ?_
    refine q_move rfl rfl ?_
    refine q_move rfl rfl ?_
    obtain ⟨r84, hr84, h⟩ := Option.of_bind h
    refine q_call rfl (orphan_Consistent_w (Sep.enter (As := []) hS) f1 f2 hr84) rfl ?_
    rintro _ w83 ⟨R83, rfl, hC83⟩
    have hB83 : Below (World.heap w77).size w77 w83 := hC83.stepB0
    refine ⟨fun _ => .of_below hB83, ?_⟩
    replace f1 := (f1.ext hB83).mono fun k hk _ => hC83.ro0 k hk
    replace f2 := (f2.ext hB83).mono fun k hk _ => hC83.ro0 k hk
    replace f81 := (f81.ext hB83).mono fun k hk _ => hC83.ro0 k hk
    replace hS := Sep.leave (As := []) hS hC83; simp only [List.cons_append, List.nil_append] at hS
    refine q_move rfl rfl ?_
    refine q_move rfl rfl ?_
    obtain ⟨r86, hr86, h⟩ := Option.of_bind h
    refine q_call rfl (ref32_Consistent_w (Sep.enter (As := []) hS) f1 f2 hr86) rfl ?_
    rintro _ w85 ⟨R85, rfl, hC85⟩
    have hB85 : Below (World.heap w83).size w83 w85 := hC85.stepB0
    refine ⟨fun _ => .of_below hB85, ?_⟩
    replace f1 := (f1.ext hB85).mono fun k hk _ => hC85.ro0 k hk
    replace f2 := (f2.ext hB85).mono fun k hk _ => hC85.ro0 k hk
    replace f81 := (f81.ext hB85).mono fun k hk _ => hC85.ro0 k hk
    replace hS := Sep.leave (As := []) hS hC85; simp only [List.cons_append, List.nil_append] at hS
    refine q_eqlB rfl rfl rfl ?_
    refine q_move rfl rfl ?_
    obtain ⟨x88, hx87, h⟩ := Option.of_bind h
    refine g_andM 7 hx87 rfl trivial rfl rfl ?_ ?_ ?_
    · intro hg87 hx87
      clear h
      have hT87 := Below.refl (World.heap w85).size w85
      refine g_run rfl ?_; refine q_move rfl rfl ?_
      refine g_run rfl ?_; refine q_move rfl rfl ?_
      obtain ⟨r90, hr90, hx87⟩ := Option.of_bind hx87
      refine g_run rfl ?_; refine q_call rfl (orphan_Consistent_w (Sep.all w85) ((hS.rowsI 0 1 rfl rfl (by decide))).old (f81).old hr90) rfl ?_
      rintro _ w89 ⟨R89, rfl, hC89⟩
      have hB89 : Below (World.heap w85).size w85 w89 := hC89.stepBF
      refine ⟨fun _ => .of_below hB89, ?_⟩
      replace f1 := f1.ext hB89
      replace f2 := f2.ext hB89
      replace f81 := f81.ext hB89
      replace hT87 := hT87.trans (Below.mono hB89 hT87.size)
      replace hS := hS.below hB89
      refine g_run rfl ?_; refine q_move rfl rfl ?_
      refine g_run rfl ?_; refine q_move rfl rfl ?_
      obtain ⟨r92, hr92, hx87⟩ := Option.of_bind hx87
      refine g_run rfl ?_; refine q_call rfl (ref32_Consistent_w (Sep.all w89) ((hS.rowsI 0 1 rfl rfl (by decide))).old (f81).old hr92) rfl ?_
      rintro _ w91 ⟨R91, rfl, hC91⟩
      have hB91 : Below (World.heap w89).size w89 w91 := hC91.stepBF
      refine ⟨fun _ => .of_below hB91, ?_⟩
      replace f1 := f1.ext hB91
      replace f2 := f2.ext hB91
      replace f81 := f81.ext hB91
      replace hT87 := hT87.trans (Below.mono hB91 hT87.size)
      replace hS := hS.below hB91
      refine g_run rfl ?_; refine q_eqlB rfl rfl rfl ?_
      cases hx87
      exact eseq_nil ⟨hT87, Sub.set rfl (Sub.set rfl (Sub.set rfl (Sub.set rfl (Sub.set rfl (Sub.set rfl (Sub.set rfl (Sub.bool true rfl hg87))))))), rfl⟩
    · intro hg87
      refine g_skip rfl rfl rfl ?_
      refine g_skip rfl rfl rfl ?_
      refine g_skip rfl rfl rfl ?_
      refine g_skip rfl rfl rfl ?_
      refine g_skip rfl rfl rfl ?_
      refine g_skip rfl rfl rfl ?_
      refine g_skip rfl rfl rfl ?_
      exact eseq_nil ⟨rfl, Sub.set rfl (Sub.set rfl (Sub.set rfl (Sub.set rfl (Sub.set rfl (Sub.set rfl (Sub.set rfl (Sub.bool false rfl hg87)))))))⟩
    intro wm87 hBm87; clear hx87
    replace hS := hS.below hBm87
    replace f1 := f1.ext hBm87
    replace f2 := f2.ext hBm87
    replace f81 := f81.ext hBm87
    refine q_move rfl rfl ?_
    obtain ⟨x94, hx93, h⟩ := Option.of_bind h
    refine g_andM 7 hx93 rfl trivial rfl rfl ?_ ?_ ?_
    · intro hg93 hx93
      clear h
      have hT93 := Below.refl (World.heap wm87).size wm87
      refine g_run rfl ?_; refine q_move rfl rfl ?_
      refine g_run rfl ?_; refine q_move rfl rfl ?_
      obtain ⟨r96, hr96, hx93⟩ := Option.of_bind hx93
      refine g_run rfl ?_; refine q_call rfl (orphan_Lower_w (Sep.enter (As := []) hS) f1 f2 hr96) rfl ?_
      rintro v97 w95 ⟨_, R95, rfl, hC95⟩
      have hB95 : Below (World.heap wm87).size wm87 w95 := hC95.stepB0
      refine ⟨fun _ => .of_below hB95, ?_⟩
      replace f1 := (f1.ext hB95).mono fun k hk _ => hC95.ro0 k hk
      replace f2 := (f2.ext hB95).mono fun k hk _ => hC95.ro0 k hk
      replace f81 := (f81.ext hB95).mono fun k hk _ => hC95.ro0 k hk
      replace hT93 := hT93.trans (Below.mono hB95 hT93.size)
      replace hS := Sep.leave (As := []) hS hC95; simp only [List.cons_append, List.nil_append] at hS
      refine g_run rfl ?_; refine q_move rfl rfl ?_
      refine g_run rfl ?_; refine q_move rfl rfl ?_
      obtain ⟨r99, hr99, hx93⟩ := Option.of_bind hx93
      refine g_run rfl ?_; refine q_call rfl (ref32_Lower_w (Sep.enter (As := []) hS) f1 f2 hr99) rfl ?_
      rintro v100 w98 ⟨_, R98, rfl, hC98⟩
      have hB98 : Below (World.heap w95).size w95 w98 := hC98.stepB0
      refine ⟨fun _ => .of_below hB98, ?_⟩
      replace f81 := (f81.ext hB98).mono fun k hk _ => hC98.ro0 k hk
      replace f1 := (f1.ext hB98).mono fun k hk _ => hC98.ro0 k hk
      replace f2 := (f2.ext hB98).mono fun k hk _ => hC98.ro0 k hk
      replace hT93 := hT93.trans (Below.mono hB98 hT93.size)
      replace hS := Sep.leave (As := []) hS hC98; simp only [List.cons_append, List.nil_append] at hS
      obtain ⟨r102, hr102, hx93⟩ := Option.of_bind hx93
      refine g_run rfl ?_; refine q_call rfl (ref23_SameInts_w (Sep.all w98) ((hS.isl 1 rfl)).old ((hS.isl 0 rfl)).old hr102) rfl ?_
      rintro _ w101 ⟨R101, rfl, hC101⟩
      have hB101 : Below (World.heap w98).size w98 w101 := hC101.stepBF
      refine ⟨fun _ => .of_below hB101, ?_⟩
      replace f81 := f81.ext hB101
      replace hT93 := hT93.trans (Below.mono hB101 hT93.size)
      replace hS := hS.below hB101
      cases hx93
      exact eseq_nil ⟨hT93, Sub.set rfl (Sub.set rfl (Sub.set rfl (Sub.set rfl (Sub.set rfl (Sub.set rfl (Sub.set rfl (Sub.bool true rfl hg93))))))), rfl⟩
    · intro hg93
      refine g_skip rfl rfl rfl ?_
      refine g_skip rfl rfl rfl ?_
      refine g_skip rfl rfl rfl ?_
      refine g_skip rfl rfl rfl ?_
      refine g_skip rfl rfl rfl ?_
      refine g_skip rfl rfl rfl ?_
      refine g_skip rfl rfl rfl ?_
      exact eseq_nil ⟨rfl, Sub.set rfl (Sub.set rfl (Sub.set rfl (Sub.set rfl (Sub.set rfl (Sub.set rfl (Sub.set rfl (Sub.bool false rfl hg93)))))))⟩
    intro wm93 hBm93; clear hx93
    replace hS := hS.below hBm93
    replace f81 := f81.ext hBm93
    refine q_move rfl rfl ?_
    obtain ⟨x104, hx103, h⟩ := Option.of_bind h
    refine g_andM 7 hx103 rfl trivial rfl rfl ?_ ?_ ?_
    · intro hg103 hx103
      clear h
      have hT103 := Below.refl (World.heap wm93).size wm93
      refine g_run rfl ?_; refine q_move rfl rfl ?_
      refine g_run rfl ?_; refine q_move rfl rfl ?_
      obtain ⟨r106, hr106, hx103⟩ := Option.of_bind hx103
      refine g_run rfl ?_; refine q_call rfl (orphan_Lower_w (Sep.all wm93) ((hS.rowsI 0 1 rfl rfl (by decide))).old (f81).old hr106) rfl ?_
      rintro v107 w105 ⟨_, R105, rfl, hC105⟩
      have hB105 : Below (World.heap wm93).size wm93 w105 := hC105.stepBF
      refine ⟨fun _ => .of_below hB105, ?_⟩
      replace f81 := f81.ext hB105
      replace hT103 := hT103.trans (Below.mono hB105 hT103.size)
      replace hS := hS.newOwnS hB105 (hC105.own 0 rfl) (hC105.fresh 0 rfl) (fun _ h => h.elim)
      refine g_run rfl ?_; refine q_move rfl rfl ?_
      refine g_run rfl ?_; refine q_move rfl rfl ?_
      obtain ⟨r109, hr109, hx103⟩ := Option.of_bind hx103
      refine g_run rfl ?_; refine q_call rfl (ref32_Lower_w (Sep.all w105) ((hS.rowsI 1 2 rfl rfl (by decide))).old (f81).old hr109) rfl ?_
      rintro v110 w108 ⟨_, R108, rfl, hC108⟩
      have hB108 : Below (World.heap w105).size w105 w108 := hC108.stepBF
      refine ⟨fun _ => .of_below hB108, ?_⟩
      replace f81 := f81.ext hB108
      replace hT103 := hT103.trans (Below.mono hB108 hT103.size)
      replace hS := hS.newOwnS hB108 (hC108.own 0 rfl) (hC108.fresh 0 rfl) (fun _ h => h.elim)
      obtain ⟨r112, hr112, hx103⟩ := Option.of_bind hx103
      refine g_run rfl ?_; refine q_call rfl (ref23_SameInts_w (Sep.all w108) ((hS.isl 1 rfl)).old ((hS.isl 0 rfl)).old hr112) rfl ?_
      rintro _ w111 ⟨R111, rfl, hC111⟩
      have hB111 : Below (World.heap w108).size w108 w111 := hC111.stepBF
      refine ⟨fun _ => .of_below hB111, ?_⟩
      replace hT103 := hT103.trans (Below.mono hB111 hT103.size)
      replace hS := hS.below hB111
      cases hx103
      exact eseq_nil ⟨hT103, Sub.set rfl (Sub.set rfl (Sub.set rfl (Sub.set rfl (Sub.set rfl (Sub.set rfl (Sub.set rfl (Sub.bool true rfl hg103))))))), rfl⟩
    · intro hg103
      refine g_skip rfl rfl rfl ?_
      refine g_skip rfl rfl rfl ?_
      refine g_skip rfl rfl rfl ?_
      refine g_skip rfl rfl rfl ?_
      refine g_skip rfl rfl rfl ?_
      refine g_skip rfl rfl rfl ?_
      refine g_skip rfl rfl rfl ?_
      exact eseq_nil ⟨rfl, Sub.set rfl (Sub.set rfl (Sub.set rfl (Sub.set rfl (Sub.set rfl (Sub.set rfl (Sub.set rfl (Sub.bool false rfl hg103)))))))⟩
    intro wm103 hBm103; clear hx103
    replace hS := hS.below hBm103
    refine q_assign rfl rfl ?_
    refine eseq_nil ?_
    refine hK82 _ _ ?_
    refine e_ret ?_
    obtain rfl := Option.some.inj h
    exact ⟨_, res1 rfl rfl, _, rfl, (hS.pickB [] 2 rfl rfl)⟩
theorem law32_OrphanGreatest_w {F R : Nat → Prop} {w : World} {fuel : Nat} {a0 : (List Int)} {v1 : Value} {r : (Bool)} (hS : Sep F R R w w []) (f1 : IsSlice Ty.u8 w R v1 a0) (h : law32_OrphanGreatest fuel a0 = some r) :
    Gives Try.prog 5 [v1] w fun u w1 => ∃ (R1 : Nat → Prop), u = .bool r ∧ Sep F R R1 w w1 [] := by
  refine fn_of Try.func5 rfl Try.ntmps5 (Nat.le_of_ble_eq_true rfl) ?_
  unfold law32_OrphanGreatest at h
  refine e_seq fun K889 hK889 => ?_
  refine e_region_text rfl ?_
  refine q_assign rfl rfl ?_
  refine eseq_nil ?_
  refine hK889 _ _ ?_
  refine e_seq fun K890 hK890 => ?_
  refine e_seq fun K891 hK891 => ?_
  refine e_region_text rfl ?_
  obtain ⟨r893, hr893, h⟩ := Option.of_bind h
  refine q_call rfl (law32_awake_w (Sep.enter (As := []) hS)  hr893) rfl ?_
  rintro _ w892 ⟨R892, rfl, hC892⟩
  have hB892 : Below (World.heap w).size w w892 := hC892.stepB0
  refine ⟨fun _ => .of_below hB892, ?_⟩
  replace f1 := (f1.ext hB892).mono fun k hk _ => hC892.ro0 k hk
  replace hS := Sep.leave (As := []) hS hC892; simp only [List.cons_append, List.nil_append] at hS
  refine q_not rfl rfl ?_
  refine eseq_nil ?_
  refine hK891 _ _ ?_
  refine e_cond rfl (fun hc894 => ?_) (fun hc894 => ?_)
  · replace h := (if_pos hc894).symm.trans h
    refine e_seq fun K895 hK895 => ?_
    refine e_region_text rfl ?_
    refine q_assign rfl rfl ?_
    refine eseq_nil ?_
    refine hK895 _ _ ?_
    refine e_ret ?_
    obtain rfl := Option.some.inj h
    exact ⟨_, res1 rfl rfl, _, rfl, hS⟩
  · replace h := (if_neg (not_true hc894)).symm.trans h
    refine e_skip ?_
    refine hK890 _ _ ?_
    refine e_seq fun K896 hK896 => ?_
    refine e_region_text rfl ?_
    refine q_move rfl rfl ?_
    obtain ⟨r898, hr898, h⟩ := Option.of_bind h
    refine q_call rfl (make_New_w (Sep.enter (As := []) hS) f1 hr898) rfl ?_
    rintro _ w897 ⟨B899, v900, R897, rfl, hC897, f900⟩
    have hB897 : Below (World.heap w892).size w892 w897 := hC897.stepB0
    refine ⟨fun _ => .of_below hB897, ?_⟩
    replace f1 := (f1.ext hB897).mono fun k hk _ => hC897.ro0 k hk
    replace hS := Sep.leave (As := []) hS hC897; simp only [List.cons_append, List.nil_append] at hS
    refine q_assign rfl rfl ?_
    refine eseq_nil ?_
    refine hK896 _ _ ?_
    refine e_seq fun K901 hK901 => ?_
    refine e_region_text rfl ?_
    refine q_move rfl rfl ?_
    obtain ⟨r903, hr903, h⟩ := Option.of_bind h
    refine q_call rfl (make_Codes_Lineages_w (Sep.enter (As := [_]) hS) f900 hr903) rfl ?_
    rintro _ w902 ⟨v904, v905, v906, v907, v908, R902, rfl, hC902, f906, f907⟩
    refine ⟨(fun h => by cases h), ?_⟩
    have hk902 := hC902.keptR (Sep.offFeet (As := [_]) hS)
    replace f900 := (f900.kept hk902).mono fun k hk _ => hC902.ro0 k hk
    replace hS := Sep.leave (As := [_]) hS hC902; simp only [List.cons_append, List.nil_append] at hS
    refine q_move rfl rfl ?_
    refine q_extract rfl rfl rfl ?_
    refine q_extract rfl rfl rfl ?_
    refine q_allocB rfl fun w909 bl909 hg909 hb909 hB909 => ?_
    replace f900 := f900.ext hB909
    replace f906 := f906.ext hB909
    replace f907 := f907.ext hB909
    replace hS := hS.newBlk hB909 hg909 hb909
    refine q_assign rfl rfl ?_
    refine q_storeAgg rfl rfl (hS.blk 0 rfl) rfl (Nat.le_of_ble_eq_true rfl) (all_cons f906.one (all_cons f907.one (all_cons (hS.own 4 rfl).one (all_nil)))) rfl rfl fun w911 hb911 hO911 => ?_
    simp only [setN, List.set, List.take, List.drop] at hb911
    have hk911 := hS.keptBlk 0 rfl hO911
    replace f900 := f900.kept hk911
    replace f906 := f906.kept hk911
    replace f907 := f907.kept hk911
    replace hS := hS.setBlk 0 rfl hb911 hO911; simp only [List.set] at hS
    refine eseq_nil ?_
    refine hK901 _ _ ?_
    refine e_seq fun K912 hK912 => ?_
    refine e_region_text rfl ?_
    refine q_move rfl rfl ?_
    refine q_loadAgg rfl (Blk.cellsAt (hS.blk 0 rfl) 0 3 rfl) rfl rfl ?_
    obtain ⟨R914, hS, hm914, f914⟩ := hS.freezeOwn 4 rfl; simp only [List.eraseIdx] at hS
    replace f900 := f900.mono fun k hk _ => hm914 k hk
    replace f906 := f906.mono fun k hk _ => hm914 k hk
    replace f907 := f907.mono fun k hk _ => hm914 k hk
    obtain ⟨r915, hr915, h⟩ := Option.of_bind h
    replace hS := hS.pickB [1, 0, 2, 3] 4 rfl rfl; simp only [List.map_cons, List.map_nil, List.getD_cons_zero, List.getD_cons_succ] at hS
    refine q_call rfl (make_Codes_Cut_w (a1 := (⟨r903.2.1.lens, r903.2.1.ckpts, r903.2.1.arcs⟩ : Pat)) (Sep.enter (As := [_]) hS) f906 f907 f914 f900 hr915) rfl ?_
    rintro v916 w913 ⟨_, R913, rfl, hC913⟩
    refine ⟨(fun h => by cases h), ?_⟩
    have hk913 := hC913.keptR (Sep.offFeet (As := [_]) hS)
    replace f900 := (f900.kept hk913).mono fun k hk _ => hC913.ro0 k hk
    replace f906 := (f906.kept hk913).mono fun k hk _ => hC913.ro0 k hk
    replace f907 := (f907.kept hk913).mono fun k hk _ => hC913.ro0 k hk
    replace f914 := (f914.kept hk913).mono fun k hk _ => hC913.ro0 k hk
    replace hS := Sep.leave (As := [_]) hS hC913; simp only [List.cons_append, List.nil_append] at hS
    refine q_assign rfl rfl ?_
    refine eseq_nil ?_
    refine hK912 _ _ ?_
    refine e_seq fun K917 hK917 => ?_
    have hJ917 : ∀ (x931 : (List (List Evt))) (v929 : Value) (v930 : List Value) (R927 : Nat → Prop) (w928 : World) (E_ : Env), law32_OrphanGreatest_J1 fuel r915 x931 = some r → Sep F R R927 w w928 [HP.own Ty.raw (fun _ => False) 64 v929 v930, HP.famS evtTy (fun _ => False) 66 v930 x931, HP.own Ty.int (fun _ => False) 3 v916 r915.1] → Sub [(4, v929), (6, v916)] E_ → K917 E_ w928 := by
      intro x931 v929 v930 R927 w928 E_ h hS  hsub
      refine hK917 _ _ (e_sub hsub ?_); clear hsub
      unfold law32_OrphanGreatest_J1 at h
      refine e_seq fun K935 hK935 => ?_
      refine e_region_text rfl ?_
      refine q_move rfl rfl ?_
      refine q_move rfl rfl ?_
      obtain ⟨r937, hr937, h⟩ := Option.of_bind h
      refine q_call rfl (orphan_Lower_w (Sep.all w928) ((hS.rowsI 0 1 rfl rfl (by decide))).old ((hS.isl 2 rfl)).old hr937) rfl ?_
      rintro v938 w936 ⟨_, R936, rfl, hC936⟩
      have hB936 : Below (World.heap w928).size w928 w936 := hC936.stepBF
      refine ⟨fun _ => .of_below hB936, ?_⟩
      replace hS := hS.newOwnS hB936 (hC936.own 0 rfl) (hC936.fresh 0 rfl) (fun _ h => h.elim)
      refine q_assign rfl rfl ?_
      refine eseq_nil ?_
      refine hK935 _ _ ?_
      refine e_seq fun K939 hK939 => ?_
      refine e_seq fun K940 hK940 => ?_
      refine e_region_text rfl ?_
      refine q_move rfl rfl ?_
      refine q_lenS rfl (hS.isl 0 rfl) rfl ?_
      refine q_move rfl rfl ?_
      refine q_lenS rfl (hS.isl 3 rfl) rfl ?_
      refine q_neq rfl rfl rfl ?_
      refine q_move rfl rfl ?_
      obtain ⟨x942, hx941, h⟩ := Option.of_bind h
      refine g_orM 4 hx941 rfl trivial rfl rfl ?_ ?_ ?_
      · intro hg941
        refine g_skip rfl rfl rfl ?_
        refine g_skip rfl rfl rfl ?_
        refine g_skip rfl rfl rfl ?_
        refine g_skip rfl rfl rfl ?_
        exact eseq_nil ⟨rfl, Sub.set rfl (Sub.set rfl (Sub.set rfl (Sub.set rfl (Sub.bool true rfl hg941))))⟩
      · intro hg941 hx941
        clear h
        have hT941 := Below.refl (World.heap w936).size w936
        refine g_run rfl ?_; refine q_move rfl rfl ?_
        refine g_run rfl ?_; refine q_move rfl rfl ?_
        obtain ⟨r944, hr944, hx941⟩ := Option.of_bind hx941
        refine g_run rfl ?_; refine q_call rfl (orphan_Consistent_w (Sep.all w936) ((hS.rowsI 1 2 rfl rfl (by decide))).old ((hS.isl 0 rfl)).old hr944) rfl ?_
        rintro _ w943 ⟨R943, rfl, hC943⟩
        have hB943 : Below (World.heap w936).size w936 w943 := hC943.stepBF
        refine ⟨fun _ => .of_below hB943, ?_⟩
        replace hT941 := hT941.trans (Below.mono hB943 hT941.size)
        replace hS := hS.below hB943
        refine g_run rfl ?_; refine q_not rfl rfl ?_
        cases hx941
        exact eseq_nil ⟨hT941, Sub.set rfl (Sub.set rfl (Sub.set rfl (Sub.set rfl (Sub.bool false rfl hg941)))), rfl⟩
      intro wm941 hBm941; clear hx941
      replace hS := hS.below hBm941
      refine eseq_nil ?_
      refine hK940 _ _ ?_
      refine e_cond rfl (fun hc945 => ?_) (fun hc945 => ?_)
      · replace h := (if_pos hc945).symm.trans h
        refine e_seq fun K946 hK946 => ?_
        refine e_region_text rfl ?_
        refine q_assign rfl rfl ?_
        refine eseq_nil ?_
        refine hK946 _ _ ?_
        refine e_ret ?_
        obtain rfl := Option.some.inj h
        exact ⟨_, res1 rfl rfl, _, rfl, (hS.pickB [] 4 rfl rfl)⟩
      · replace h := (if_neg (not_true hc945)).symm.trans h
        refine e_skip ?_
        refine hK939 _ _ ?_
        refine e_seq fun K947 hK947 => ?_
        refine e_region_text rfl ?_
        refine q_move rfl rfl ?_
        refine q_lenS rfl (hS.isl 3 rfl) rfl ?_
        obtain ⟨x948, hx948, h⟩ := Option.of_bind h
        refine q_makeO (T := Ty.int) (S := (fun _ => False)) rfl rfl rfl hx948 (fun _ h => h.elim) rfl fun w949 v949 ho949 hv949 hB949 => ?_
        replace hS := hS.newOwnS hB949 ho949 hv949 (fun _ h => h.elim)
        refine q_assign rfl rfl ?_
        refine eseq_nil ?_
        refine hK947 _ _ ?_
        refine e_block ?_
        obtain ⟨tl951, ht951, h⟩ := Option.of_bind h
        refine e_loop (fun m_ E_ w1229 => ∃ (x1236 : (List Int)), ∃ (v1235 : Value), ∃ (R1228 : Nat → Prop), iter (fun s => law32_OrphanGreatest_B1 fuel x931 r937 r915 s) m_ x1236 = some tl951 ∧ Sep F R R1228 w w1229 [HP.own Ty.raw (fun _ => False) 64 v929 v930, HP.famS evtTy (fun _ => False) 66 v930 x931, HP.own Ty.int (fun _ => False) 3 v916 r915.1, HP.own Ty.int (fun _ => False) 3 v938 r937, HP.own Ty.int (fun _ => False) 3 v1235 x1236] ∧ E_ = [(4, v929), (6, v916), (7, v938), (8, v1235)]) _ ⟨_, ⟨x948, v949, _, ht951, (hS.pickB [2, 3, 4, 1, 0] 5 rfl rfl), rfl⟩, Sub.cons rfl (Sub.cons rfl (Sub.cons rfl (Sub.cons rfl (Sub.nil _))))⟩ ?_
        clear ht951 hS
        rintro m951 _ w1229 ⟨x1236, v1235, R1228, ht951, hS, rfl⟩
        obtain ⟨m951, rfl, o951, ho951, ht951⟩ := iter_some ht951
        replace ho951 : law32_OrphanGreatest_B1 fuel x931 r937 r915 x1236 = some o951 := ho951
        unfold law32_OrphanGreatest_B1 at ho951
        refine e_block ?_
        refine e_seq fun K1506 hK1506 => ?_
        have hJ1506 : ∀ (R1584 : Nat → Prop) (w1585 : World) (E_ : Env), law32_OrphanGreatest_J2 fuel r915 x1236 = some o951 → Sep F R R1584 w w1585 [HP.own Ty.raw (fun _ => False) 64 v929 v930, HP.famS evtTy (fun _ => False) 66 v930 x931, HP.own Ty.int (fun _ => False) 3 v916 r915.1, HP.own Ty.int (fun _ => False) 3 v938 r937, HP.own Ty.int (fun _ => False) 3 v1235 x1236] → Sub [(4, v929), (6, v916), (7, v938), (8, v1235)] E_ → K1506 E_ w1585 := by
          intro R1584 w1585 E_ ho951 hS  hsub
          refine hK1506 _ _ (e_sub hsub ?_); clear hsub
          unfold law32_OrphanGreatest_J2 at ho951
          refine e_seq fun K1591 hK1591 => ?_
          refine e_region_text rfl ?_
          refine q_assign rfl rfl ?_
          refine eseq_nil ?_
          refine hK1591 _ _ ?_
          refine e_seq fun K1592 hK1592 => ?_
          refine e_block ?_
          obtain ⟨tl1593, ht1593, ho951⟩ := Option.of_bind ho951
          have hX1593_4 : ∀ (x1665 : (List Int)) (x1666 : Int) (v1664 : Value) (R1657 : Nat → Prop) (w1658 : World) (E_ : Env), law32_OrphanGreatest_K1 fuel x1665 x1666 = some o951 → Sep F R R1657 w w1658 [HP.own Ty.raw (fun _ => False) 64 v929 v930, HP.famS evtTy (fun _ => False) 66 v930 x931, HP.own Ty.int (fun _ => False) 3 v916 r915.1, HP.own Ty.int (fun _ => False) 3 v938 r937, HP.own Ty.int (fun _ => False) 3 v1664 x1665] → Sub [(4, v929), (6, v916), (7, v938), (8, v1664), (10, .int .i64 x1666)] E_ → K1592 E_ w1658 := by
            intro x1665 x1666 v1664 R1657 w1658 E_ ho951 hS  hsub
            refine hK1592 _ _ (e_sub hsub ?_); clear hsub
            unfold law32_OrphanGreatest_K1 at ho951
            refine e_seq fun K1667 hK1667 => ?_
            refine e_seq fun K1668 hK1668 => ?_
            refine e_region_text rfl ?_
            refine q_move rfl rfl ?_
            refine q_move rfl rfl ?_
            refine q_lenS rfl (hS.isl 4 rfl) rfl ?_
            refine q_eql rfl rfl rfl ?_
            refine eseq_nil ?_
            refine hK1668 _ _ ?_
            refine e_cond rfl (fun hc1669 => ?_) (fun hc1669 => ?_)
            · replace ho951 := (if_pos hc1669).symm.trans ho951
              refine e_seq fun K1670 hK1670 => ?_
              refine e_region_text rfl ?_
              refine q_assign rfl rfl ?_
              refine eseq_nil ?_
              refine hK1670 _ _ ?_
              refine e_ret ?_
              obtain rfl := Option.some.inj ho951
              obtain rfl := Option.some.inj ht951
              obtain rfl := Option.some.inj h
              exact ⟨_, res1 rfl rfl, _, rfl, (hS.pickB [] 5 rfl rfl)⟩
            · replace ho951 := (if_neg (not_true hc1669)).symm.trans ho951
              refine e_skip ?_
              refine hK1667 _ _ ?_
              refine e_region_text rfl ?_
              refine q_move rfl rfl ?_
              refine q_move rfl rfl ?_
              obtain ⟨x1671, hx1671, ho951⟩ := Option.of_bind ho951
              refine q_indexO (by infer_instance) rfl (hS.own 4 rfl) rfl hx1671 rfl ?_
              have f1672 := (hS.ownR 4 rfl).elt hx1671
              refine q_load rfl (Elt.intCell f1672) rfl ?_
              refine q_addW rfl rfl rfl ?_
              obtain ⟨x1673, hx1673, ho951⟩ := Option.of_bind ho951
              refine q_indexO (by infer_instance) rfl (hS.own 4 rfl) rfl hx1673 rfl ?_
              obtain ⟨x1675, hx1675, ho951⟩ := Option.of_bind ho951
              refine q_storeO (T := Ty.int) (j := 0) rfl rfl (hS.own 4 rfl) hx1673 hx1675 rfl rfl rfl (Enc.setL rfl) fun w1674 ho1674 hO1674 => ?_
              have hk1674 := hS.keptO 4 rfl hx1673 hO1674
              replace hS := hS.putO 4 rfl hx1673 ho1674 hO1674; simp only [List.set] at hS
              refine eseq_nil ?_
              obtain rfl := Option.some.inj ho951
              exact ⟨m951, _, Nat.lt_succ_self _, ⟨x1675, v1664, _, ht951, hS, rfl⟩, Sub.cons rfl (Sub.cons rfl (Sub.cons rfl (Sub.cons rfl (Sub.nil _))))⟩
          refine e_loop (fun m_ E_ w1625 => ∃ (x1632 : (List Int)), ∃ (x1633 : Int), ∃ (v1631 : Value), ∃ (R1624 : Nat → Prop), iter (fun s => law32_OrphanGreatest_B2 fuel r915 s.1 s.2) m_ (x1632, x1633) = some tl1593 ∧ Sep F R R1624 w w1625 [HP.own Ty.raw (fun _ => False) 64 v929 v930, HP.famS evtTy (fun _ => False) 66 v930 x931, HP.own Ty.int (fun _ => False) 3 v916 r915.1, HP.own Ty.int (fun _ => False) 3 v938 r937, HP.own Ty.int (fun _ => False) 3 v1631 x1632] ∧ E_ = [(4, v929), (6, v916), (7, v938), (8, v1631), (10, .int .i64 x1633)]) _ ⟨_, ⟨x1236, 0, v1235, _, ht1593, hS, rfl⟩, Sub.cons rfl (Sub.cons rfl (Sub.cons rfl (Sub.cons rfl (Sub.cons rfl (Sub.nil _)))))⟩ ?_
          clear ht1593 hS
          rintro m1593 _ w1625 ⟨x1632, x1633, v1631, R1624, ht1593, hS, rfl⟩
          obtain ⟨m1593, rfl, o1593, ho1593, ht1593⟩ := iter_some ht1593
          replace ho1593 : law32_OrphanGreatest_B2 fuel r915 x1632 x1633 = some o1593 := ho1593
          unfold law32_OrphanGreatest_B2 at ho1593
          refine e_seq fun K1676 hK1676 => ?_
          refine e_seq fun K1677 hK1677 => ?_
          refine e_region_draw mixed (fun _ => False) [0, 0, 2, 7, 15, 31, 31, 127, 255, 31, 31, 1567, 3615, 8191, 16383] [] [0, 1, 2, 3, 4, 5, 6, 7, 8, 9, 10, 11, 12, 13, 14] (by kernel_rfl) ?_
          refine q_move rfl rfl ?_
          refine q_move rfl rfl ?_
          refine q_lenS rfl (hS.isl 4 rfl) rfl ?_
          refine q_lss rfl rfl rfl ?_
          refine q_move rfl rfl ?_
          obtain ⟨x1679, hx1678, ho1593⟩ := Option.of_bind ho1593
          refine g_andM 9 hx1678 rfl trivial rfl rfl ?_ ?_ ?_
          · intro hg1678 hx1678
            clear ho1593
            have hT1678 := Below.refl (World.heap w1625).size w1625
            refine g_run rfl ?_; refine q_move rfl rfl ?_
            refine g_run rfl ?_; refine q_move rfl rfl ?_
            obtain ⟨x1680, hx1680, hx1678⟩ := Option.of_bind hx1678
            refine g_run rfl ?_; refine q_indexO (by infer_instance) rfl (hS.own 4 rfl) rfl hx1680 rfl ?_
            have f1681 := (hS.ownR 4 rfl).elt hx1680
            refine g_run rfl ?_; refine q_load rfl (Elt.intCell f1681) rfl ?_
            refine g_run rfl ?_; refine q_move rfl rfl ?_
            refine g_run rfl ?_; refine q_move rfl rfl ?_
            obtain ⟨x1682, hx1682, hx1678⟩ := Option.of_bind hx1678
            refine g_run rfl ?_; refine q_indexO (by infer_instance) rfl (hS.own 2 rfl) rfl hx1682 rfl ?_
            have f1683 := (hS.ownR 2 rfl).elt hx1682
            refine g_run rfl ?_; refine q_load rfl (Elt.intCell f1683) rfl ?_
            refine g_run rfl ?_; refine q_eql rfl rfl rfl ?_
            cases hx1678
            exact eseq_nil ⟨hT1678, Sub.set rfl (Sub.set rfl (Sub.set rfl (Sub.set rfl (Sub.set rfl (Sub.set rfl (Sub.set rfl (Sub.set rfl (Sub.set rfl (Sub.bool true rfl hg1678))))))))), rfl⟩
          · intro hg1678
            refine g_skip rfl rfl rfl ?_
            refine g_skip rfl rfl rfl ?_
            refine g_skip rfl rfl rfl ?_
            refine g_skip rfl rfl rfl ?_
            refine g_skip rfl rfl rfl ?_
            refine g_skip rfl rfl rfl ?_
            refine g_skip rfl rfl rfl ?_
            refine g_skip rfl rfl rfl ?_
            refine g_skip rfl rfl rfl ?_
            exact eseq_nil ⟨rfl, Sub.set rfl (Sub.set rfl (Sub.set rfl (Sub.set rfl (Sub.set rfl (Sub.set rfl (Sub.set rfl (Sub.set rfl (Sub.set rfl (Sub.bool false rfl hg1678)))))))))⟩
          intro wm1678 hBm1678; clear hx1678
          replace hS := hS.below hBm1678
          refine eseq_nil ?_
          refine hK1677 _ _ ?_
          refine e_cond rfl (fun hc1684 => ?_) (fun hc1684 => ?_)
          · replace ho1593 := (if_pos hc1684).symm.trans ho1593
            refine e_skip ?_
            refine hK1676 _ _ ?_
            refine e_block ?_
            refine e_seq fun K1685 hK1685 => ?_
            refine e_region_text rfl ?_
            refine q_move rfl rfl ?_
            refine q_move rfl rfl ?_
            obtain ⟨x1686, hx1686, ho1593⟩ := Option.of_bind ho1593
            refine q_indexO (by infer_instance) rfl (hS.own 4 rfl) rfl hx1686 rfl ?_
            obtain ⟨x1688, hx1688, ho1593⟩ := Option.of_bind ho1593
            refine q_storeO (T := Ty.int) (j := 0) rfl rfl (hS.own 4 rfl) hx1686 hx1688 rfl rfl rfl (Enc.setL rfl) fun w1687 ho1687 hO1687 => ?_
            have hk1687 := hS.keptO 4 rfl hx1686 hO1687
            replace hS := hS.putO 4 rfl hx1686 ho1687 hO1687; simp only [List.set] at hS
            refine eseq_nil ?_
            refine hK1685 _ _ ?_
            refine e_region_text rfl ?_
            refine q_move rfl rfl ?_
            refine q_addW rfl rfl rfl ?_
            refine q_assign rfl rfl ?_
            refine eseq_nil ?_
            obtain rfl := Option.some.inj ho1593
            exact ⟨m1593, _, Nat.lt_succ_self _, ⟨x1688, (w64 (x1633 + 1)), v1631, _, ht1593, hS, rfl⟩, Sub.cons rfl (Sub.cons rfl (Sub.cons rfl (Sub.cons rfl (Sub.cons rfl (Sub.nil _)))))⟩
          · replace ho1593 := (if_neg (not_true hc1684)).symm.trans ho1593
            refine e_exit ?_
            obtain rfl := Option.some.inj ho1593
            obtain rfl := Option.some.inj ht1593
            exact hX1593_4 x1632 x1633 v1631 _ _ _ ho951 hS  (Sub.cons rfl (Sub.cons rfl (Sub.cons rfl (Sub.cons rfl (Sub.cons rfl (Sub.nil _))))))
        refine e_seq fun K1689 hK1689 => ?_
        refine e_region_text rfl ?_
        refine q_move rfl rfl ?_
        refine q_move rfl rfl ?_
        obtain ⟨r1691, hr1691, ho951⟩ := Option.of_bind ho951
        refine q_call rfl (ref32_Consistent_w (Sep.all w1229) ((hS.rowsI 0 1 rfl rfl (by decide))).old ((hS.isl 4 rfl)).old hr1691) rfl ?_
        rintro _ w1690 ⟨R1690, rfl, hC1690⟩
        have hB1690 : Below (World.heap w1229).size w1229 w1690 := hC1690.stepBF
        refine ⟨fun _ => .of_below hB1690, ?_⟩
        replace hS := hS.below hB1690
        refine eseq_nil ?_
        refine hK1689 _ _ ?_
        refine e_cond rfl (fun hc1692 => ?_) (fun hc1692 => ?_)
        · replace ho951 := (if_pos hc1692).symm.trans ho951
          refine e_seq fun K1693 hK1693 => ?_
          refine e_region_text rfl ?_
          refine q_assign rfl rfl ?_
          refine eseq_nil ?_
          refine hK1693 _ _ ?_
          refine e_block ?_
          obtain ⟨tl1694, ht1694, ho951⟩ := Option.of_bind ho951
          refine e_loop (fun m_ E_ w1722 => ∃ (x1728 : Int), ∃ (R1721 : Nat → Prop), iter (fun s => law32_OrphanGreatest_B3 fuel x1236 r937 s) m_ x1728 = some tl1694 ∧ Sep F R R1721 w w1722 [HP.own Ty.raw (fun _ => False) 64 v929 v930, HP.famS evtTy (fun _ => False) 66 v930 x931, HP.own Ty.int (fun _ => False) 3 v916 r915.1, HP.own Ty.int (fun _ => False) 3 v938 r937, HP.own Ty.int (fun _ => False) 3 v1235 x1236] ∧ E_ = [(4, v929), (6, v916), (7, v938), (8, v1235), (9, .int .i64 x1728)]) _ ⟨_, ⟨0, _, ht1694, hS, rfl⟩, Sub.cons rfl (Sub.cons rfl (Sub.cons rfl (Sub.cons rfl (Sub.cons rfl (Sub.nil _)))))⟩ ?_
          clear ht1694 hS
          rintro m1694 _ w1722 ⟨x1728, R1721, ht1694, hS, rfl⟩
          obtain ⟨m1694, rfl, o1694, ho1694, ht1694⟩ := iter_some ht1694
          replace ho1694 : law32_OrphanGreatest_B3 fuel x1236 r937 x1728 = some o1694 := ho1694
          unfold law32_OrphanGreatest_B3 at ho1694
          refine e_seq fun K1755 hK1755 => ?_
          refine e_seq fun K1756 hK1756 => ?_
          refine e_region_text rfl ?_
          refine q_move rfl rfl ?_
          refine q_move rfl rfl ?_
          refine q_lenS rfl (hS.isl 4 rfl) rfl ?_
          refine q_lss rfl rfl rfl ?_
          refine eseq_nil ?_
          refine hK1756 _ _ ?_
          refine e_cond rfl (fun hc1757 => ?_) (fun hc1757 => ?_)
          · replace ho1694 := (if_pos hc1757).symm.trans ho1694
            refine e_skip ?_
            refine hK1755 _ _ ?_
            refine e_seq fun K1758 hK1758 => ?_
            refine e_block ?_
            refine e_seq fun K1759 hK1759 => ?_
            refine e_region_draw mixed (fun _ => False) [0, 0, 3, 7, 0, 0, 48, 112, 255] [] [0, 1, 2, 3, 4, 5, 6, 7, 8] (by kernel_rfl) ?_
            refine q_move rfl rfl ?_
            refine q_move rfl rfl ?_
            obtain ⟨x1760, hx1760, ho1694⟩ := Option.of_bind ho1694
            refine q_indexO (by infer_instance) rfl (hS.own 4 rfl) rfl hx1760 rfl ?_
            have f1761 := (hS.ownR 4 rfl).elt hx1760
            refine q_load rfl (Elt.intCell f1761) rfl ?_
            refine q_move rfl rfl ?_
            refine q_move rfl rfl ?_
            obtain ⟨x1762, hx1762, ho1694⟩ := Option.of_bind ho1694
            refine q_indexO (by infer_instance) rfl (hS.own 3 rfl) rfl hx1762 rfl ?_
            have f1763 := (hS.ownR 3 rfl).elt hx1762
            refine q_load rfl (Elt.intCell f1763) rfl ?_
            refine q_gtr rfl rfl rfl ?_
            refine eseq_nil ?_
            refine hK1759 _ _ ?_
            refine e_cond rfl (fun hc1764 => ?_) (fun hc1764 => ?_)
            · replace ho1694 := (if_pos hc1764).symm.trans ho1694
              refine e_seq fun K1765 hK1765 => ?_
              refine e_region_text rfl ?_
              refine q_assign rfl rfl ?_
              refine eseq_nil ?_
              refine hK1765 _ _ ?_
              refine e_ret ?_
              obtain rfl := Option.some.inj ho1694
              obtain rfl := Option.some.inj ht1694
              obtain rfl := Option.some.inj ho951
              obtain rfl := Option.some.inj ht951
              obtain rfl := Option.some.inj h
              exact ⟨_, res1 rfl rfl, _, rfl, (hS.pickB [] 5 rfl rfl)⟩
            · replace ho1694 := (if_neg (not_true hc1764)).symm.trans ho1694
              refine e_skip ?_
              refine hK1758 _ _ ?_
              refine e_region_text rfl ?_
              refine q_move rfl rfl ?_
              refine q_addW rfl rfl rfl ?_
              refine q_assign rfl rfl ?_
              refine eseq_nil ?_
              obtain rfl := Option.some.inj ho1694
              exact ⟨m1694, _, Nat.lt_succ_self _, ⟨(w64 (x1728 + 1)), _, ht1694, hS, rfl⟩, Sub.cons rfl (Sub.cons rfl (Sub.cons rfl (Sub.cons rfl (Sub.cons rfl (Sub.nil _)))))⟩
          · replace ho1694 := (if_neg (not_true hc1757)).symm.trans ho1694
            refine e_exit ?_
            obtain rfl := Option.some.inj ho1694
            obtain rfl := Option.some.inj ht1694
            replace ho951 : law32_OrphanGreatest_K2 fuel r915 x1236 = some o951 := ho951
            unfold law32_OrphanGreatest_K2 at ho951
            exact hJ1506  _ _ _ ho951 hS  (Sub.cons rfl (Sub.cons rfl (Sub.cons rfl (Sub.cons rfl (Sub.nil _)))))
        · replace ho951 := (if_neg (not_true hc1692)).symm.trans ho951
          refine e_skip ?_
          exact hJ1506  _ _ _ ho951 hS  (Sub.cons rfl (Sub.cons rfl (Sub.cons rfl (Sub.cons rfl (Sub.nil _)))))
    refine e_seq fun K1766 hK1766 => ?_
    refine e_region_text rfl ?_
    refine q_move rfl rfl ?_
    obtain ⟨r1768, hr1768, h⟩ := Option.of_bind h
    refine q_call rfl (make_Codes_Next_w (Sep.enter (As := [_]) hS) f900 hr1768) rfl ?_
    rintro _ w1767 ⟨R1767, rfl, hC1767⟩
    refine ⟨(fun h => by cases h), ?_⟩
    have hk1767 := hC1767.keptR (Sep.offFeet (As := [_]) hS)
    replace f900 := (f900.kept hk1767).mono fun k hk _ => hC1767.ro0 k hk
    replace hS := Sep.leave (As := [_]) hS hC1767; simp only [List.cons_append, List.nil_append] at hS
    refine q_eql rfl rfl rfl ?_
    refine eseq_nil ?_
    refine hK1766 _ _ ?_
    refine e_cond rfl (fun hc1769 => ?_) (fun hc1769 => ?_)
    · replace h := (if_pos hc1769).symm.trans h
      refine e_region_text rfl ?_
      refine q_move rfl rfl ?_
      refine q_move rfl rfl ?_
      obtain ⟨r1771, hr1771, h⟩ := Option.of_bind h
      replace hS := hS.pickB [0, 3, 4, 1, 2] 5 rfl rfl; simp only [List.map_cons, List.map_nil, List.getD_cons_zero, List.getD_cons_succ] at hS
      refine q_call rfl (make_Codes_SpoilLineages_w (Sep.enter (As := [_, _, _]) hS) f900 hr1771) rfl ?_
      rintro v1773 w1770 ⟨_, v1774, R1770, rfl, hC1770⟩
      refine ⟨(fun h => by cases h), ?_⟩
      have hk1770 := hC1770.keptR (Sep.offFeet (As := [_, _, _]) hS)
      replace f900 := (f900.kept hk1770).mono fun k hk _ => hC1770.ro0 k hk
      replace hS := Sep.leave (As := [_, _, _]) hS hC1770; simp only [List.cons_append, List.nil_append] at hS
      refine q_assign rfl rfl ?_
      refine eseq_nil ?_
      exact hJ917 r1771.2.2 v1773 v1774 _ _ _ h (hS.pickB [1, 2, 3] 5 rfl rfl)  (Sub.cons rfl (Sub.cons rfl (Sub.nil _)))
    · replace h := (if_neg (not_true hc1769)).symm.trans h
      refine e_skip ?_
      exact hJ917 r903.1 v904 v905 _ _ _ h (hS.pickB [3, 4, 1] 5 rfl rfl)  (Sub.cons rfl (Sub.cons rfl (Sub.nil _)))
end Go.Proofs.Ytghjjkdfjmnfeaa
