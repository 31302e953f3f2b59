/- Printed walks: A20x. -/
import Derived.Test.YtbmjcbhappjnaaaA16
set_option linter.unusedVariables false
set_option linter.unusedSimpArgs false
namespace Go.Mine
open Go.RowKit
def Compact_K1 (fuel : Nat) (c0_0 : (List Pt2)) : Option ((List Pt2)) :=
  some c0_0
def Compact_K2 (fuel : Nat) (x824 : (List Pt2)) (x825 : Int) : Option ((Int) ⊕ (Unit ⊕ ((List Pt2)))) :=
  (dropL x824 x825).bind fun x827 => (dropL x824 x825).bind fun x829 => (some (clearL x824 (x825).toNat (⟨(⟨(0 : Int), (0 : Int)⟩ : Pt), (⟨(0 : Int), (0 : Int)⟩ : Pt)⟩ : Pt2))).bind fun x830 => (takeL x830 x825).bind fun x834 => some (Sum.inr (Sum.inr x834))
def Compact_B2 (fuel : Nat) (x582 : Int) (x783 : (List Pt2)) (x784 : Int) (x785 : Int) : Option (((List Pt2) × Int × Int) ⊕ ((List Pt2) × Int)) :=
  (dropL x783 x582).bind fun x837 => (if (decide (x785 < (x837.length : Int))) = true then (dropL x783 x582).bind fun x841 => (ati x841 x785).bind fun x842 => (dropL x783 x582).bind fun x845 => (ati x845 (w64 (x785 - 1))).bind fun x846 => (if (!((((x842.x0.proc == x846.x0.proc) && ((x842.x0.index == x846.x0.index) && true))) && ((((x842.x1.proc == x846.x1.proc) && ((x842.x1.index == x846.x1.index) && true))) && true))) = true then (dropL x783 x582).bind fun x851 => (ati x851 x785).bind fun x852 => (ati x783 x784).bind fun x855 => (seti x783 x784 x852).bind fun x857 => some (Sum.inl (x857, (w64 (x784 + 1)), (w64 (x785 + 1)))) else some (Sum.inl (x783, x784, (w64 (x785 + 1))))) else some (Sum.inr (x783, x784)))
def Compact_B1 (fuel : Nat) (c0_0 : (List Pt2)) (x582 : Int) : Option ((Int) ⊕ (Unit ⊕ ((List Pt2)))) :=
  (if (decide (x582 < (c0_0.length : Int))) = true then (ati c0_0 x582).bind fun x730 => (ati c0_0 (w64 (x582 - 1))).bind fun x733 => (if ((((x730.x0.proc == x733.x0.proc) && ((x730.x0.index == x733.x0.index) && true))) && ((((x730.x1.proc == x733.x1.proc) && ((x730.x1.index == x733.x1.index) && true))) && true)) = true then (dropL c0_0 x582).bind fun x738 => (iter (fun s => Compact_B2 fuel x582 s.1 s.2.1 s.2.2) fuel (c0_0, x582, 1)).bind (fun t => Compact_K2 fuel t.1 t.2) else some (Sum.inl (w64 (x582 + 1)))) else some (Sum.inr (Sum.inl ())))
def Compact (fuel : Nat) (c0_0 : (List Pt2)) : Option ((List Pt2)) :=
  (if (decide ((c0_0.length : Int) < 2)) = true then some c0_0 else (iter (fun s => Compact_B1 fuel c0_0 s) fuel 1).bind (fun t => Sum.elim (fun t => Compact_K1 fuel c0_0) (fun t => some t) t))
def pattern_Interval_K1 (fuel : Nat) (x141 : Int) : Option (Int) :=
  some x141
def pattern_Interval_B1 (fuel : Nat) (x91 : (List Int)) (a2 : Int) (x118 : Int) (x120 : Int) : Option ((Int × Int) ⊕ (Int)) :=
  (if (decide (x120 < (x91.length : Int))) = true then (ati x91 x120).bind fun x148 => (if (decide (x148 < a2)) = true then some (Sum.inl ((w64 (x118 + 1)), (w64 (x120 + 1)))) else some (Sum.inl (x118, (w64 (x120 + 1))))) else some (Sum.inr x118))
def pattern_Interval (fuel : Nat) (a0 : Pat) (a1 : Int) (a2 : Int) : Option (Int) :=
  (andM (decide (0 ≤ a1)) (some (decide (a1 < (a0.ckpts.length : Int))))).bind fun x88 => (if x88 = true then (ati a0.ckpts a1).bind fun x91 => (iter (fun s => pattern_Interval_B1 fuel x91 a2 s.1 s.2) fuel (0, 0)).bind (fun t => pattern_Interval_K1 fuel t) else some 0)
def depend_Index (fuel : Nat) (a0 : Pat) (a1 : Int) (a2 : Int) : Option (Int) :=
  (orM (decide (a1 < 0)) (some (decide ((a0.lens.length : Int) ≤ a1)))).bind fun x46 => (orM x46 (some (decide ((a0.ckpts.length : Int) ≤ a1)))).bind fun x50 => (orM x50 (some (decide (a2 < 0)))).bind fun x54 => (if x54 = true then some 0 else (ati a0.ckpts a1).bind fun x59 => (if (decide (a2 < (x59.length : Int))) = true then (ati a0.ckpts a1).bind fun x65 => (ati x65 a2).bind fun x68 => some x68 else (ati a0.lens a1).bind fun x71 => some x71))
end Go.Mine
namespace Go.Proofs.Ytbmjcbhappjnaaa
open Go.RowKit Go.Mine
attribute [local irreducible] eseq ewp iter
theorem Compact_w {F R : Nat → Prop} {w : World} {fuel : Nat} {c0_0 : (List Pt2)} {v1 : Value} {r : ((List Pt2))} (hS : Sep F R R w w [HP.own pt2Ty (fun _ => False) 189 v1 c0_0]) (h : Compact fuel c0_0 = some r) :
    Gives Try.prog 142 [v1] w fun u w1 => ∃ (v429 : Value), ∃ (R1 : Nat → Prop), u = v429 ∧ Sep F R R1 w w1 [] ∧ IsSlice pt2Ty w1 R1 v429 r := by
  refine fn_of Try.func142 rfl Try.ntmps142 (Nat.le_of_ble_eq_true rfl) ?_
  unfold Compact at h
  refine e_seq fun K430 hK430 => ?_
  refine e_region_text rfl ?_
  refine q_assign rfl rfl ?_
  refine eseq_nil ?_
  refine hK430 _ _ ?_
  refine e_seq fun K431 hK431 => ?_
  refine e_seq fun K432 hK432 => ?_
  refine e_region_text rfl ?_
  refine q_move rfl rfl ?_
  refine q_lenS rfl (hS.isl 0 rfl) rfl ?_
  refine q_lss rfl rfl rfl ?_
  refine eseq_nil ?_
  refine hK432 _ _ ?_
  refine e_cond rfl (fun hc433 => ?_) (fun hc433 => ?_)
  · replace h := (if_pos hc433).symm.trans h
    refine e_seq fun K434 hK434 => ?_
    refine e_region_text rfl ?_
    refine q_move rfl rfl ?_
    refine q_assign rfl rfl ?_
    refine eseq_nil ?_
    refine hK434 _ _ ?_
    refine e_ret ?_
    obtain ⟨R435, hS, hm435, f435⟩ := hS.freezeOwn 0 rfl; simp only [List.eraseIdx] at hS
    obtain rfl := Option.some.inj h
    exact ⟨_, res1 rfl rfl, v1, _, rfl, hS, f435⟩
  · replace h := (if_neg (not_true hc433)).symm.trans h
    refine e_skip ?_
    refine hK431 _ _ ?_
    refine e_seq fun K436 hK436 => ?_
    refine e_seq fun K437 hK437 => ?_
    refine e_region_text rfl ?_
    refine q_assign rfl rfl ?_
    refine eseq_nil ?_
    refine hK437 _ _ ?_
    refine e_block ?_
    obtain ⟨tl438, ht438, h⟩ := Option.of_bind h
    have hX438_0 : ∀ (R720 : Nat → Prop) (w721 : World) (E_ : Env), Compact_K1 fuel c0_0 = some r → Sep F R R720 w w721 [HP.own pt2Ty (fun _ => False) 189 v1 c0_0] → Sub [(0, v1)] E_ → K436 E_ w721 := by
      intro R720 w721 E_ h hS  hsub
      refine hK436 _ _ (e_sub hsub ?_); clear hsub
      unfold Compact_K1 at h
      refine e_seq fun K723 hK723 => ?_
      refine e_region_text rfl ?_
      refine q_move rfl rfl ?_
      refine q_assign rfl rfl ?_
      refine eseq_nil ?_
      refine hK723 _ _ ?_
      refine e_ret ?_
      obtain ⟨R724, hS, hm724, f724⟩ := hS.freezeOwn 0 rfl; simp only [List.eraseIdx] at hS
      obtain rfl := Option.some.inj h
      exact ⟨_, res1 rfl rfl, v1, _, rfl, hS, f724⟩
    refine e_loop (fun m_ E_ w580 => ∃ (x582 : Int), ∃ (R579 : Nat → Prop), iter (fun s => Compact_B1 fuel c0_0 s) m_ x582 = some tl438 ∧ Sep F R R579 w w580 [HP.own pt2Ty (fun _ => False) 189 v1 c0_0] ∧ E_ = [(0, v1), (3, .int .i64 x582)]) _ ⟨_, ⟨1, _, ht438, hS, rfl⟩, Sub.cons rfl (Sub.cons rfl (Sub.nil _))⟩ ?_
    clear ht438 hS
    rintro m438 _ w580 ⟨x582, R579, ht438, hS, rfl⟩
    obtain ⟨m438, rfl, o438, ho438, ht438⟩ := iter_some ht438
    replace ho438 : Compact_B1 fuel c0_0 x582 = some o438 := ho438
    unfold Compact_B1 at ho438
    refine e_seq fun K725 hK725 => ?_
    refine e_seq fun K726 hK726 => ?_
    refine e_region_text rfl ?_
    refine q_move rfl rfl ?_
    refine q_move rfl rfl ?_
    refine q_lenS rfl (hS.isl 0 rfl) rfl ?_
    refine q_lss rfl rfl rfl ?_
    refine eseq_nil ?_
    refine hK726 _ _ ?_
    refine e_cond rfl (fun hc727 => ?_) (fun hc727 => ?_)
    · replace ho438 := (if_pos hc727).symm.trans ho438
      refine e_skip ?_
      refine hK725 _ _ ?_
      refine e_seq fun K728 hK728 => ?_
      refine e_block ?_
      refine e_seq fun K729 hK729 => ?_
      refine e_region_draw mixed (fun _ => False) [0, 0, 3, 7, 0, 0, 32, 112, 240, 511] [] [0, 1, 2, 3, 4, 5, 6, 7, 8, 9] (by kernel_rfl) ?_
      refine q_move rfl rfl ?_
      refine q_move rfl rfl ?_
      obtain ⟨x730, hx730, ho438⟩ := Option.of_bind ho438
      refine q_indexO (by infer_instance) rfl (hS.own 0 rfl) rfl hx730 rfl ?_
      have f731 := (hS.ownR 0 rfl).elt hx730
      have hc732 := Pt2_open f731
      refine q_loadAgg rfl hc732 rfl rfl ?_
      refine q_move rfl rfl ?_
      refine q_move rfl rfl ?_
      refine q_subW rfl rfl rfl ?_
      obtain ⟨x733, hx733, ho438⟩ := Option.of_bind ho438
      refine q_indexO (by infer_instance) rfl (hS.own 0 rfl) rfl hx733 rfl ?_
      have f734 := (hS.ownR 0 rfl).elt hx733
      have hc735 := Pt2_open f734
      refine q_loadAgg rfl hc735 rfl rfl ?_
      refine q_eqlA eqT189 (by kernel_rfl) rfl rfl rfl ?_
      refine eseq_nil ?_
      refine hK729 _ _ ?_
      refine e_cond rfl (fun hc736 => ?_) (fun hc736 => ?_)
      · replace ho438 := (if_pos hc736).symm.trans ho438
        refine e_seq fun K737 hK737 => ?_
        refine e_region_text rfl ?_
        refine q_move rfl rfl ?_
        refine q_move rfl rfl ?_
        obtain ⟨x738, hx738, ho438⟩ := Option.of_bind ho438
        refine q_sufO (T := pt2Ty) (by infer_instance) rfl (hS.own 0 rfl) rfl hx738 rfl ?_
        refine q_assign rfl rfl ?_
        refine eseq_nil ?_
        refine hK737 _ _ ?_
        refine e_seq fun K739 hK739 => ?_
        refine e_seq fun K740 hK740 => ?_
        refine e_region_text rfl ?_
        refine q_assign rfl rfl ?_
        refine eseq_nil ?_
        refine hK740 _ _ ?_
        refine e_block ?_
        obtain ⟨tl741, ht741, ho438⟩ := Option.of_bind ho438
        have hX741_2 : ∀ (x824 : (List Pt2)) (x825 : Int) (v823 : Value) (R820 : Nat → Prop) (w821 : World) (E_ : Env), Compact_K2 fuel x824 x825 = some o438 → Sep F R R820 w w821 [HP.own pt2Ty (fun _ => False) 189 v823 x824] → Sub [(0, v823), (3, .int .i64 x825)] E_ → K739 E_ w821 := by
          intro x824 x825 v823 R820 w821 E_ ho438 hS  hsub
          refine hK739 _ _ (e_sub hsub ?_); clear hsub
          unfold Compact_K2 at ho438
          refine e_seq fun K826 hK826 => ?_
          refine e_region_text rfl ?_
          refine q_move rfl rfl ?_
          refine q_move rfl rfl ?_
          obtain ⟨x827, hx827, ho438⟩ := Option.of_bind ho438
          refine q_sufO (T := pt2Ty) (by infer_instance) rfl (hS.own 0 rfl) rfl hx827 rfl ?_
          obtain ⟨x829, hx829, ho438⟩ := Option.of_bind ho438
          obtain ⟨x830, hx830, ho438⟩ := Option.of_bind ho438
          refine q_clearSuf (T := pt2Ty) rfl (hS.own 0 rfl) (dropL_le hx829) rfl fun w828 ho828 hst828 => ?_
          rw [Option.some.inj hx830] at ho828
          have hk828 := hS.keptF 0 rfl hst828
          replace hS := hS.set 0 rfl hst828 (c' := HP.own _ _ _ _ _) ho828 (fun k hk => .inl hk) (fun k hk => hS.depR 0 rfl k hk); simp only [List.set] at hS
          refine eseq_nil ?_
          refine hK826 _ _ ?_
          refine e_seq fun K831 hK831 => ?_
          refine e_region_text rfl ?_
          refine q_move rfl rfl ?_
          refine q_move rfl rfl ?_
          obtain ⟨R832, hS, hm832, f832⟩ := hS.freezeOwn 0 rfl; simp only [List.eraseIdx] at hS
          obtain ⟨x834, hx834, ho438⟩ := Option.of_bind ho438
          refine q_takeS (by infer_instance) rfl f832 rfl hx834 rfl fun v833 f833 => ?_
          refine q_assign rfl rfl ?_
          refine eseq_nil ?_
          refine hK831 _ _ ?_
          refine e_ret ?_
          obtain rfl := Option.some.inj ho438
          obtain rfl := Option.some.inj ht438
          obtain rfl := Option.some.inj h
          exact ⟨_, res1 rfl rfl, v833, _, rfl, hS, f833⟩
        refine e_loop (fun m_ E_ w780 => ∃ (x783 : (List Pt2)), ∃ (x784 : Int), ∃ (x785 : Int), ∃ (v782 : Value), ∃ (R779 : Nat → Prop), iter (fun s => Compact_B2 fuel x582 s.1 s.2.1 s.2.2) m_ (x783, x784, x785) = some tl741 ∧ Sep F R R779 w w780 [HP.own pt2Ty (fun _ => False) 189 v782 x783] ∧ E_ = [(0, v782), (3, .int .i64 x784), (4, (sufV pt2Ty.sz v782 (x582).toNat)), (5, .int .i64 x785)]) _ ⟨_, ⟨c0_0, x582, 1, v1, _, ht741, hS, rfl⟩, Sub.cons rfl (Sub.cons rfl (Sub.cons rfl (Sub.cons rfl (Sub.nil _))))⟩ ?_
        clear ht741 hS
        rintro m741 _ w780 ⟨x783, x784, x785, v782, R779, ht741, hS, rfl⟩
        obtain ⟨m741, rfl, o741, ho741, ht741⟩ := iter_some ht741
        replace ho741 : Compact_B2 fuel x582 x783 x784 x785 = some o741 := ho741
        unfold Compact_B2 at ho741
        refine e_seq fun K835 hK835 => ?_
        refine e_seq fun K836 hK836 => ?_
        refine e_region_text rfl ?_
        refine q_move rfl rfl ?_
        refine q_move rfl rfl ?_
        obtain ⟨x837, hx837, ho741⟩ := Option.of_bind ho741
        refine q_lenSuf (T := pt2Ty) rfl (hS.own 0 rfl) hx837 rfl ?_
        refine q_lss rfl rfl rfl ?_
        refine eseq_nil ?_
        refine hK836 _ _ ?_
        refine e_cond rfl (fun hc838 => ?_) (fun hc838 => ?_)
        · replace ho741 := (if_pos hc838).symm.trans ho741
          refine e_skip ?_
          refine hK835 _ _ ?_
          refine e_seq fun K839 hK839 => ?_
          refine e_block ?_
          refine e_seq fun K840 hK840 => ?_
          refine e_region_draw mixed (fun _ => False) [0, 0, 3, 7, 0, 0, 32, 112, 240, 511] [] [0, 1, 2, 3, 4, 5, 6, 7, 8, 9] (by kernel_rfl) ?_
          refine q_move rfl rfl ?_
          refine q_move rfl rfl ?_
          obtain ⟨x841, hx841, ho741⟩ := Option.of_bind ho741
          obtain ⟨x842, hx842, ho741⟩ := Option.of_bind ho741
          have hdx842 := ati_dropL hx841 hx842
          refine q_indexSuf (T := pt2Ty) (by infer_instance) rfl (hS.own 0 rfl) hx841 rfl hx842 rfl ?_
          have f843 := (hS.ownR 0 rfl).elt hdx842
          have hc844 := Pt2_open f843
          refine q_loadAgg rfl hc844 rfl rfl ?_
          refine q_move rfl rfl ?_
          refine q_move rfl rfl ?_
          refine q_subW rfl rfl rfl ?_
          obtain ⟨x845, hx845, ho741⟩ := Option.of_bind ho741
          obtain ⟨x846, hx846, ho741⟩ := Option.of_bind ho741
          have hdx846 := ati_dropL hx845 hx846
          refine q_indexSuf (T := pt2Ty) (by infer_instance) rfl (hS.own 0 rfl) hx845 rfl hx846 rfl ?_
          have f847 := (hS.ownR 0 rfl).elt hdx846
          have hc848 := Pt2_open f847
          refine q_loadAgg rfl hc848 rfl rfl ?_
          refine q_neqA eqT189 (by kernel_rfl) rfl rfl rfl ?_
          refine eseq_nil ?_
          refine hK840 _ _ ?_
          refine e_cond rfl (fun hc849 => ?_) (fun hc849 => ?_)
          · replace ho741 := (if_pos hc849).symm.trans ho741
            refine e_seq fun K850 hK850 => ?_
            refine e_region_text rfl ?_
            refine q_move rfl rfl ?_
            refine q_move rfl rfl ?_
            refine q_move rfl rfl ?_
            refine q_move rfl rfl ?_
            obtain ⟨x851, hx851, ho741⟩ := Option.of_bind ho741
            obtain ⟨x852, hx852, ho741⟩ := Option.of_bind ho741
            have hdx852 := ati_dropL hx851 hx852
            refine q_indexSuf (T := pt2Ty) (by infer_instance) rfl (hS.own 0 rfl) hx851 rfl hx852 rfl ?_
            have f853 := (hS.ownR 0 rfl).elt hdx852
            have hc854 := Pt2_open f853
            refine q_loadAgg rfl hc854 rfl rfl ?_
            obtain ⟨x855, hx855, ho741⟩ := Option.of_bind ho741
            refine q_indexO (by infer_instance) rfl (hS.own 0 rfl) rfl hx855 rfl ?_
            obtain ⟨x857, hx857, ho741⟩ := Option.of_bind ho741
            refine q_storeOA (T := pt2Ty) (j := 0) rfl rfl (hS.own 0 rfl) hx855 hx857 rfl rfl (all_cons rfl (all_cons rfl (all_cons rfl (all_cons rfl (all_nil))))) rfl (Enc.setNL rfl) fun w856 ho856 hO856 => ?_
            have hk856 := hS.keptO 0 rfl hx855 hO856
            replace hS := hS.putO 0 rfl hx855 ho856 hO856; simp only [List.set] at hS
            refine eseq_nil ?_
            refine hK850 _ _ ?_
            refine e_region_text rfl ?_
            refine q_move rfl rfl ?_
            refine q_addW rfl rfl rfl ?_
            refine q_assign rfl rfl ?_
            refine eseq_nil ?_
            refine hK839 _ _ ?_
            refine e_region_text rfl ?_
            refine q_move rfl rfl ?_
            refine q_addW rfl rfl rfl ?_
            refine q_assign rfl rfl ?_
            refine eseq_nil ?_
            obtain rfl := Option.some.inj ho741
            exact ⟨m741, _, Nat.lt_succ_self _, ⟨x857, (w64 (x784 + 1)), (w64 (x785 + 1)), v782, _, ht741, hS, rfl⟩, Sub.cons rfl (Sub.cons rfl (Sub.cons rfl (Sub.cons rfl (Sub.nil _))))⟩
          · replace ho741 := (if_neg (not_true hc849)).symm.trans ho741
            refine e_skip ?_
            refine hK839 _ _ ?_
            refine e_region_text rfl ?_
            refine q_move rfl rfl ?_
            refine q_addW rfl rfl rfl ?_
            refine q_assign rfl rfl ?_
            refine eseq_nil ?_
            obtain rfl := Option.some.inj ho741
            exact ⟨m741, _, Nat.lt_succ_self _, ⟨x783, x784, (w64 (x785 + 1)), v782, _, ht741, hS, rfl⟩, Sub.cons rfl (Sub.cons rfl (Sub.cons rfl (Sub.cons rfl (Sub.nil _))))⟩
        · replace ho741 := (if_neg (not_true hc838)).symm.trans ho741
          refine e_exit ?_
          obtain rfl := Option.some.inj ho741
          obtain rfl := Option.some.inj ht741
          exact hX741_2 x783 x784 v782 _ _ _ ho438 hS  (Sub.cons rfl (Sub.cons rfl (Sub.nil _)))
      · replace ho438 := (if_neg (not_true hc736)).symm.trans ho438
        refine e_skip ?_
        refine hK728 _ _ ?_
        refine e_region_text rfl ?_
        refine q_move rfl rfl ?_
        refine q_addW rfl rfl rfl ?_
        refine q_assign rfl rfl ?_
        refine eseq_nil ?_
        obtain rfl := Option.some.inj ho438
        exact ⟨m438, _, Nat.lt_succ_self _, ⟨(w64 (x582 + 1)), _, ht438, hS, rfl⟩, Sub.cons rfl (Sub.cons rfl (Sub.nil _))⟩
    · replace ho438 := (if_neg (not_true hc727)).symm.trans ho438
      refine e_exit ?_
      obtain rfl := Option.some.inj ho438
      obtain rfl := Option.some.inj ht438
      exact hX438_0  _ _ _ h hS  (Sub.cons rfl (Sub.nil _))
theorem pattern_Interval_w {F R : Nat → Prop} {w : World} {fuel : Nat} {a0 : Pat} {a1 : Int} {a2 : Int} {v1 : Value} {v2 : Value} {v3 : Value} {r : (Int)} (hS : Sep F R R w w []) (f1 : IsSlice Ty.int w R v1 a0.lens) (f2 : IsSlice (Ty.slice Ty.int) w R v2 a0.ckpts) (f3 : IsSlice arcTy w R v3 a0.arcs) (h : pattern_Interval fuel a0 a1 a2 = some r) :
    Gives Try.prog 135 [.agg #[v1, v2, v3], .int .i64 a1, .int .i64 a2] w fun u w1 => ∃ (R1 : Nat → Prop), u = .int .i64 r ∧ Sep F R R1 w w1 [] := by
  refine fn_of Try.func135 rfl Try.ntmps135 (Nat.le_of_ble_eq_true rfl) ?_
  unfold pattern_Interval at h
  refine e_seq fun K79 hK79 => ?_
  refine e_region_text rfl ?_
  refine q_boxB rfl rfl rfl fun w80 bl80 hg80 hb80 hB80 => ?_
  replace f1 := f1.ext hB80
  replace f2 := f2.ext hB80
  replace f3 := f3.ext hB80
  replace hS := hS.newBlk hB80 hg80 hb80
  refine q_assign rfl rfl ?_
  refine eseq_nil ?_
  refine hK79 _ _ ?_
  refine e_seq fun K82 hK82 => ?_
  refine e_region_text rfl ?_
  refine q_assign rfl rfl ?_
  refine eseq_nil ?_
  refine hK82 _ _ ?_
  refine e_seq fun K83 hK83 => ?_
  refine e_seq fun K84 hK84 => ?_
  refine e_region_text rfl ?_
  refine q_move rfl rfl ?_
  refine q_geq rfl rfl rfl ?_
  refine q_move rfl rfl ?_
  obtain ⟨x88, hx87, h⟩ := Option.of_bind h
  refine g_andM 5 hx87 rfl trivial rfl rfl ?_ ?_ ?_
  · intro hg87 hx87
    clear h
    have hT87 := Below.refl (World.heap w80).size w80
    refine g_run rfl ?_; refine q_move rfl rfl ?_
    refine g_run rfl ?_; refine q_field rfl rfl ?_
    refine g_run rfl ?_; refine q_load rfl (Blk.cell (hS.blk 0 rfl) rfl) rfl ?_
    refine g_run rfl ?_; refine q_lenS rfl f2 rfl ?_
    refine g_run rfl ?_; refine q_lss rfl rfl rfl ?_
    cases hx87
    exact eseq_nil ⟨hT87, Sub.set rfl (Sub.set rfl (Sub.set rfl (Sub.set rfl (Sub.set rfl (Sub.bool true rfl hg87))))), rfl⟩
  · intro hg87
    refine g_skip rfl rfl rfl ?_
    refine g_skip rfl rfl rfl ?_
    refine g_skip rfl rfl rfl ?_
    refine g_skip rfl rfl rfl ?_
    refine g_skip rfl rfl rfl ?_
    exact eseq_nil ⟨rfl, Sub.set rfl (Sub.set rfl (Sub.set rfl (Sub.set rfl (Sub.set rfl (Sub.bool false rfl hg87)))))⟩
  intro wm87 hBm87; clear hx87
  replace hS := hS.below hBm87
  replace f1 := f1.ext hBm87
  replace f2 := f2.ext hBm87
  replace f3 := f3.ext hBm87
  refine eseq_nil ?_
  refine hK84 _ _ ?_
  refine e_cond rfl (fun hc89 => ?_) (fun hc89 => ?_)
  · replace h := (if_pos hc89).symm.trans h
    refine e_seq fun K90 hK90 => ?_
    refine e_region_text rfl ?_
    refine q_field rfl rfl ?_
    refine q_load rfl (Blk.cell (hS.blk 0 rfl) rfl) rfl ?_
    refine q_move rfl rfl ?_
    obtain ⟨x91, hx91, h⟩ := Option.of_bind h
    refine q_atS (by infer_instance) rfl f2 rfl hx91 rfl fun b92 o92 hm92 f92 => ?_
    refine q_loadE rfl f92 rfl (fun v93 f93 => ?_)
    refine q_lenS rfl f93 rfl ?_
    refine q_move rfl rfl ?_
    refine eseq_nil ?_
    refine hK90 _ _ ?_
    refine e_block ?_
    obtain ⟨tl94, ht94, h⟩ := Option.of_bind h
    have hX94_0 : ∀ (x141 : Int) (R139 : Nat → Prop) (w140 : World) (E_ : Env), pattern_Interval_K1 fuel x141 = some r → Sep F R R139 w w140 [] → Sub [(7, .int .i64 x141)] E_ → K83 E_ w140 := by
      intro x141 R139 w140 E_ h hS  hsub
      refine hK83 _ _ (e_sub hsub ?_); clear hsub
      unfold pattern_Interval_K1 at h
      refine e_seq fun K142 hK142 => ?_
      refine e_region_text rfl ?_
      refine q_move rfl rfl ?_
      refine q_assign rfl rfl ?_
      refine eseq_nil ?_
      refine hK142 _ _ ?_
      refine e_ret ?_
      obtain rfl := Option.some.inj h
      exact ⟨_, res1 rfl rfl, _, rfl, hS⟩
    refine e_loop (fun m_ E_ w117 => ∃ (x118 : Int), ∃ (x120 : Int), ∃ (R116 : Nat → Prop), iter (fun s => pattern_Interval_B1 fuel x91 a2 s.1 s.2) m_ (x118, x120) = some tl94 ∧ Sep F R R116 w w117 [] ∧ IsSlice Ty.int w117 R116 v93 x91 ∧ E_ = [(2, .int .i64 a2), (7, .int .i64 x118), (23, v93), (24, .int .i64 (x91.length : Int)), (25, .int .i64 x120)]) _ ⟨_, ⟨0, 0, _, ht94, (hS.pickB [] 1 rfl rfl), f93, rfl⟩, Sub.cons rfl (Sub.cons rfl (Sub.cons rfl (Sub.cons rfl (Sub.cons rfl (Sub.nil _)))))⟩ ?_
    clear ht94 hS
    rintro m94 _ w117 ⟨x118, x120, R116, ht94, hS, f119, rfl⟩
    obtain ⟨m94, rfl, o94, ho94, ht94⟩ := iter_some ht94
    replace ho94 : pattern_Interval_B1 fuel x91 a2 x118 x120 = some o94 := ho94
    unfold pattern_Interval_B1 at ho94
    refine e_seq fun K143 hK143 => ?_
    refine e_region_text rfl ?_
    refine q_lss rfl rfl rfl ?_
    refine eseq_nil ?_
    refine hK143 _ _ ?_
    refine e_seq fun K144 hK144 => ?_
    refine e_cond rfl (fun hc145 => ?_) (fun hc145 => ?_)
    · replace ho94 := (if_pos hc145).symm.trans ho94
      refine e_skip ?_
      refine hK144 _ _ ?_
      refine e_seq fun K146 hK146 => ?_
      refine e_block ?_
      refine e_seq fun K147 hK147 => ?_
      refine e_region_text rfl ?_
      obtain ⟨x148, hx148, ho94⟩ := Option.of_bind ho94
      refine q_atS (by infer_instance) rfl f119 rfl hx148 rfl fun b149 o149 hm149 f149 => ?_
      refine q_load rfl (Elt.intCell f149) rfl ?_
      refine q_assign rfl rfl ?_
      refine eseq_nil ?_
      refine hK147 _ _ ?_
      refine e_seq fun K150 hK150 => ?_
      refine e_region_text rfl ?_
      refine q_move rfl rfl ?_
      refine q_move rfl rfl ?_
      refine q_lss rfl rfl rfl ?_
      refine eseq_nil ?_
      refine hK150 _ _ ?_
      refine e_cond rfl (fun hc151 => ?_) (fun hc151 => ?_)
      · replace ho94 := (if_pos hc151).symm.trans ho94
        refine e_region_text rfl ?_
        refine q_move rfl rfl ?_
        refine q_addW rfl rfl rfl ?_
        refine q_assign rfl rfl ?_
        refine eseq_nil ?_
        refine hK146 _ _ ?_
        refine e_region_text rfl ?_
        refine q_addW rfl rfl rfl ?_
        refine q_move rfl rfl ?_
        refine eseq_nil ?_
        obtain rfl := Option.some.inj ho94
        exact ⟨m94, _, Nat.lt_succ_self _, ⟨(w64 (x118 + 1)), (w64 (x120 + 1)), _, ht94, hS, f119, rfl⟩, Sub.cons rfl (Sub.cons rfl (Sub.cons rfl (Sub.cons rfl (Sub.cons rfl (Sub.nil _)))))⟩
      · replace ho94 := (if_neg (not_true hc151)).symm.trans ho94
        refine e_skip ?_
        refine hK146 _ _ ?_
        refine e_region_text rfl ?_
        refine q_addW rfl rfl rfl ?_
        refine q_move rfl rfl ?_
        refine eseq_nil ?_
        obtain rfl := Option.some.inj ho94
        exact ⟨m94, _, Nat.lt_succ_self _, ⟨x118, (w64 (x120 + 1)), _, ht94, hS, f119, rfl⟩, Sub.cons rfl (Sub.cons rfl (Sub.cons rfl (Sub.cons rfl (Sub.cons rfl (Sub.nil _)))))⟩
    · replace ho94 := (if_neg (not_true hc145)).symm.trans ho94
      refine e_exit ?_
      obtain rfl := Option.some.inj ho94
      obtain rfl := Option.some.inj ht94
      exact hX94_0 x118 _ _ _ h hS  (Sub.cons rfl (Sub.nil _))
  · replace h := (if_neg (not_true hc89)).symm.trans h
    refine e_skip ?_
    refine hK83 _ _ ?_
    refine e_seq fun K152 hK152 => ?_
    refine e_region_text rfl ?_
    refine q_move rfl rfl ?_
    refine q_assign rfl rfl ?_
    refine eseq_nil ?_
    refine hK152 _ _ ?_
    refine e_ret ?_
    obtain rfl := Option.some.inj h
    exact ⟨_, res1 rfl rfl, _, rfl, (hS.pickB [] 1 rfl rfl)⟩
theorem depend_Index_w {F R : Nat → Prop} {w : World} {fuel : Nat} {a0 : Pat} {a1 : Int} {a2 : Int} {v1 : Value} {v2 : Value} {v3 : Value} {r : (Int)} (hS : Sep F R R w w []) (f1 : IsSlice Ty.int w R v1 a0.lens) (f2 : IsSlice (Ty.slice Ty.int) w R v2 a0.ckpts) (f3 : IsSlice arcTy w R v3 a0.arcs) (h : depend_Index fuel a0 a1 a2 = some r) :
    Gives Try.prog 73 [.agg #[v1, v2, v3], .int .i64 a1, .int .i64 a2] w fun u w1 => ∃ (R1 : Nat → Prop), u = .int .i64 r ∧ Sep F R R1 w w1 [] := by
  refine fn_of Try.func73 rfl Try.ntmps73 (Nat.le_of_ble_eq_true rfl) ?_
  unfold depend_Index at h
  refine e_seq fun K38 hK38 => ?_
  refine e_region_text rfl ?_
  refine q_boxB rfl rfl rfl fun w39 bl39 hg39 hb39 hB39 => ?_
  replace f1 := f1.ext hB39
  replace f2 := f2.ext hB39
  replace f3 := f3.ext hB39
  replace hS := hS.newBlk hB39 hg39 hb39
  refine q_assign rfl rfl ?_
  refine eseq_nil ?_
  refine hK38 _ _ ?_
  refine e_seq fun K41 hK41 => ?_
  refine e_seq fun K42 hK42 => ?_
  refine e_region_text rfl ?_
  refine q_move rfl rfl ?_
  refine q_lss rfl rfl rfl ?_
  refine q_move rfl rfl ?_
  obtain ⟨x46, hx45, h⟩ := Option.of_bind h
  refine g_orM 5 hx45 rfl trivial rfl rfl ?_ ?_ ?_
  · intro hg45
    refine g_skip rfl rfl rfl ?_
    refine g_skip rfl rfl rfl ?_
    refine g_skip rfl rfl rfl ?_
    refine g_skip rfl rfl rfl ?_
    refine g_skip rfl rfl rfl ?_
    exact eseq_nil ⟨rfl, Sub.set rfl (Sub.set rfl (Sub.set rfl (Sub.set rfl (Sub.set rfl (Sub.bool true rfl hg45)))))⟩
  · intro hg45 hx45
    clear h
    have hT45 := Below.refl (World.heap w39).size w39
    refine g_run rfl ?_; refine q_move rfl rfl ?_
    refine g_run rfl ?_; refine q_field rfl rfl ?_
    refine g_run rfl ?_; refine q_load rfl (Blk.cell (hS.blk 0 rfl) rfl) rfl ?_
    refine g_run rfl ?_; refine q_lenS rfl f1 rfl ?_
    refine g_run rfl ?_; refine q_geq rfl rfl rfl ?_
    cases hx45
    exact eseq_nil ⟨hT45, Sub.set rfl (Sub.set rfl (Sub.set rfl (Sub.set rfl (Sub.set rfl (Sub.bool false rfl hg45))))), rfl⟩
  intro wm45 hBm45; clear hx45
  replace hS := hS.below hBm45
  replace f1 := f1.ext hBm45
  replace f2 := f2.ext hBm45
  replace f3 := f3.ext hBm45
  refine q_move rfl rfl ?_
  obtain ⟨x50, hx49, h⟩ := Option.of_bind h
  refine g_orM 5 hx49 rfl trivial rfl rfl ?_ ?_ ?_
  · intro hg49
    refine g_skip rfl rfl rfl ?_
    refine g_skip rfl rfl rfl ?_
    refine g_skip rfl rfl rfl ?_
    refine g_skip rfl rfl rfl ?_
    refine g_skip rfl rfl rfl ?_
    exact eseq_nil ⟨rfl, Sub.set rfl (Sub.set rfl (Sub.set rfl (Sub.set rfl (Sub.set rfl (Sub.bool true rfl hg49)))))⟩
  · intro hg49 hx49
    clear h
    have hT49 := Below.refl (World.heap wm45).size wm45
    refine g_run rfl ?_; refine q_move rfl rfl ?_
    refine g_run rfl ?_; refine q_field rfl rfl ?_
    refine g_run rfl ?_; refine q_load rfl (Blk.cell (hS.blk 0 rfl) rfl) rfl ?_
    refine g_run rfl ?_; refine q_lenS rfl f2 rfl ?_
    refine g_run rfl ?_; refine q_geq rfl rfl rfl ?_
    cases hx49
    exact eseq_nil ⟨hT49, Sub.set rfl (Sub.set rfl (Sub.set rfl (Sub.set rfl (Sub.set rfl (Sub.bool false rfl hg49))))), rfl⟩
  intro wm49 hBm49; clear hx49
  replace hS := hS.below hBm49
  replace f1 := f1.ext hBm49
  replace f2 := f2.ext hBm49
  replace f3 := f3.ext hBm49
  refine q_move rfl rfl ?_
  obtain ⟨x54, hx53, h⟩ := Option.of_bind h
  refine g_orM 2 hx53 rfl trivial rfl rfl ?_ ?_ ?_
  · intro hg53
    refine g_skip rfl rfl rfl ?_
    refine g_skip rfl rfl rfl ?_
    exact eseq_nil ⟨rfl, Sub.set rfl (Sub.set rfl (Sub.bool true rfl hg53))⟩
  · intro hg53 hx53
    clear h
    have hT53 := Below.refl (World.heap wm49).size wm49
    refine g_run rfl ?_; refine q_move rfl rfl ?_
    refine g_run rfl ?_; refine q_lss rfl rfl rfl ?_
    cases hx53
    exact eseq_nil ⟨hT53, Sub.set rfl (Sub.set rfl (Sub.bool false rfl hg53)), rfl⟩
  intro wm53 hBm53; clear hx53
  replace hS := hS.below hBm53
  replace f1 := f1.ext hBm53
  replace f2 := f2.ext hBm53
  replace f3 := f3.ext hBm53
  refine eseq_nil ?_
  refine hK42 _ _ ?_
  refine e_cond rfl (fun hc55 => ?_) (fun hc55 => ?_)
  · replace h := (if_pos hc55).symm.trans h
    refine e_seq fun K56 hK56 => ?_
    refine e_region_text rfl ?_
    refine q_assign rfl rfl ?_
    refine eseq_nil ?_
    refine hK56 _ _ ?_
    refine e_ret ?_
    obtain rfl := Option.some.inj h
    exact ⟨_, res1 rfl rfl, _, rfl, (hS.pickB [] 1 rfl rfl)⟩
  · replace h := (if_neg (not_true hc55)).symm.trans h
    refine e_skip ?_
    refine hK41 _ _ ?_
    refine e_seq fun K57 hK57 => ?_
    refine e_seq fun K58 hK58 => ?_
    refine e_region_text rfl ?_
    refine q_move rfl rfl ?_
    refine q_field rfl rfl ?_
    refine q_load rfl (Blk.cell (hS.blk 0 rfl) rfl) rfl ?_
    refine q_move rfl rfl ?_
    obtain ⟨x59, hx59, h⟩ := Option.of_bind h
    refine q_atS (by infer_instance) rfl f2 rfl hx59 rfl fun b60 o60 hm60 f60 => ?_
    refine q_loadE rfl f60 rfl (fun v61 f61 => ?_)
    refine q_lenS rfl f61 rfl ?_
    refine q_lss rfl rfl rfl ?_
    refine eseq_nil ?_
    refine hK58 _ _ ?_
    refine e_cond rfl (fun hc62 => ?_) (fun hc62 => ?_)
    · replace h := (if_pos hc62).symm.trans h
      refine e_seq fun K63 hK63 => ?_
      refine e_region_text rfl ?_
      refine q_field rfl rfl ?_
      refine q_load rfl (Blk.cell (hS.blk 0 rfl) rfl) rfl ?_
      refine q_move rfl rfl ?_
      obtain ⟨x65, hx65, h⟩ := Option.of_bind h
      refine q_atS (by infer_instance) rfl f2 rfl hx65 rfl fun b66 o66 hm66 f66 => ?_
      refine q_loadE rfl f66 rfl (fun v67 f67 => ?_)
      refine q_move rfl rfl ?_
      obtain ⟨x68, hx68, h⟩ := Option.of_bind h
      refine q_atS (by infer_instance) rfl f67 rfl hx68 rfl fun b69 o69 hm69 f69 => ?_
      refine q_load rfl (Elt.intCell f69) rfl ?_
      refine q_assign rfl rfl ?_
      refine eseq_nil ?_
      refine hK63 _ _ ?_
      refine e_ret ?_
      obtain rfl := Option.some.inj h
      exact ⟨_, res1 rfl rfl, _, rfl, (hS.pickB [] 1 rfl rfl)⟩
    · replace h := (if_neg (not_true hc62)).symm.trans h
      refine e_skip ?_
      refine hK57 _ _ ?_
      refine e_seq fun K70 hK70 => ?_
      refine e_region_text rfl ?_
      refine q_field rfl rfl ?_
      refine q_load rfl (Blk.cell (hS.blk 0 rfl) rfl) rfl ?_
      refine q_move rfl rfl ?_
      obtain ⟨x71, hx71, h⟩ := Option.of_bind h
      refine q_atS (by infer_instance) rfl f1 rfl hx71 rfl fun b72 o72 hm72 f72 => ?_
      refine q_load rfl (Elt.intCell f72) rfl ?_
      refine q_assign rfl rfl ?_
      refine eseq_nil ?_
      refine hK70 _ _ ?_
      refine e_ret ?_
      obtain rfl := Option.some.inj h
      exact ⟨_, res1 rfl rfl, _, rfl, (hS.pickB [] 1 rfl rfl)⟩
end Go.Proofs.Ytbmjcbhappjnaaa
