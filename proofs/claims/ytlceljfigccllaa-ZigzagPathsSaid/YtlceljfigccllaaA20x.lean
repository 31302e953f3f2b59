/- Printed walks: A20x. -/
import Derived.Test.YtlceljfigccllaaA16
set_option linter.unusedVariables false
set_option linter.unusedSimpArgs false
namespace Go.Mine
open Go.RowKit
def Compact_K1 (fuel : Nat) (c0_0 : (List Pt2)) : Option ((List Pt2)) :=
  some c0_0
def Compact_K2 (fuel : Nat) (x824 : (List Pt2)) (x825 : Int) : Option ((Int) ⊕ (Unit ⊕ ((List Pt2)))) :=
  (dropL x824 x825).bind fun x827 => (dropL x824 x825).bind fun x829 => (some (clearL x824 (x825).toNat (⟨(⟨(0 : Int), (0 : Int)⟩ : Pt), (⟨(0 : Int), (0 : Int)⟩ : Pt)⟩ : Pt2))).bind fun x830 => (takeL x830 x825).bind fun x834 => some (Sum.inr (Sum.inr x834))
def Compact_B2 (fuel : Nat) (x582 : Int) (x783 : (List Pt2)) (x784 : Int) (x785 : Int) : Option (((List Pt2) × Int × Int) ⊕ ((List Pt2) × Int)) :=
  (dropL x783 x582).bind fun x837 => (if (decide (x785 < (x837.length : Int))) = true then (dropL x783 x582).bind fun x841 => (ati x841 x785).bind fun x842 => (dropL x783 x582).bind fun x845 => (ati x845 (w64 (x785 - 1))).bind fun x846 => (if (!((((x842.x0.proc == x846.x0.proc) && ((x842.x0.index == x846.x0.index) && true))) && ((((x842.x1.proc == x846.x1.proc) && ((x842.x1.index == x846.x1.index) && true))) && true))) = true then (dropL x783 x582).bind fun x851 => (ati x851 x785).bind fun x852 => (ati x783 x784).bind fun x855 => (seti x783 x784 x852).bind fun x857 => some (Sum.inl (x857, (w64 (x784 + 1)), (w64 (x785 + 1)))) else some (Sum.inl (x783, x784, (w64 (x785 + 1))))) else some (Sum.inr (x783, x784)))
def Compact_B1 (fuel : Nat) (c0_0 : (List Pt2)) (x582 : Int) : Option ((Int) ⊕ (Unit ⊕ ((List Pt2)))) :=
  (if (decide (x582 < (c0_0.length : Int))) = true then (ati c0_0 x582).bind fun x730 => (ati c0_0 (w64 (x582 - 1))).bind fun x733 => (if ((((x730.x0.proc == x733.x0.proc) && ((x730.x0.index == x733.x0.index) && true))) && ((((x730.x1.proc == x733.x1.proc) && ((x730.x1.index == x733.x1.index) && true))) && true)) = true then (dropL c0_0 x582).bind fun x738 => (iter (fun s => Compact_B2 fuel x582 s.1 s.2.1 s.2.2) fuel (c0_0, x582, 1)).bind (fun t => Compact_K2 fuel t.1 t.2) else some (Sum.inl (w64 (x582 + 1)))) else some (Sum.inr (Sum.inl ())))
def Compact (fuel : Nat) (c0_0 : (List Pt2)) : Option ((List Pt2)) :=
  (if (decide ((c0_0.length : Int) < 2)) = true then some c0_0 else (iter (fun s => Compact_B1 fuel c0_0 s) fuel 1).bind (fun t => Sum.elim (fun t => Compact_K1 fuel c0_0) (fun t => some t) t))
def ref20_less (fuel : Nat) (a0 : Pt) (a1 : Pt) : Option (Bool) :=
  (orM (decide (a0.proc < a1.proc)) ((andM (a0.proc == a1.proc) (some (decide (a0.index < a1.index)))).bind fun x28 => some x28)).bind fun x26 => some x26
def ref20_insert_K1 (fuel : Nat) (a0 : (List Pt2)) (a1 : Pt2) (x317 : Int) : Option ((List Pt2)) :=
  (andM (decide (0 < x317)) ((ati a0 (w64 (x317 - 1))).bind fun x327 => some ((((x327.x0.proc == a1.x0.proc) && ((x327.x0.index == a1.x0.index) && true))) && ((((x327.x1.proc == a1.x1.proc) && ((x327.x1.index == a1.x1.index) && true))) && true)))).bind fun x326 => (if x326 = true then some a0 else (takeL a0 x317).bind fun x334 => (catL ([] : List Pt2) x334).bind fun x337 => (dropL a0 x317).bind fun x340 => (snoc x337 (⟨(⟨a1.x0.proc, a1.x0.index⟩ : Pt), (⟨a1.x1.proc, a1.x1.index⟩ : Pt)⟩ : Pt2)).bind fun x344 => (catL x344 x340).bind fun x346 => some x346)
def ref20_insert_B1 (fuel : Nat) (a0 : (List Pt2)) (a1 : Pt2) (x262 : Int) : Option ((Int) ⊕ (Int)) :=
  (andM (decide (0 < x262)) ((ati a0 (w64 (x262 - 1))).bind fun x374 => (ref20_less fuel (⟨a1.x0.proc, a1.x0.index⟩ : Pt) x374.x0).bind fun r379 => (orM r379 ((ati a0 (w64 (x262 - 1))).bind fun x382 => (andM ((a1.x0.proc == x382.x0.proc) && ((a1.x0.index == x382.x0.index) && true)) ((ati a0 (w64 (x262 - 1))).bind fun x388 => (ref20_less fuel (⟨a1.x1.proc, a1.x1.index⟩ : Pt) x388.x1).bind fun r393 => some r393)).bind fun x387 => some x387)).bind fun x381 => some x381)).bind fun x373 => (if x373 = true then some (Sum.inl (w64 (x262 - 1))) else some (Sum.inr x262))
def ref20_insert (fuel : Nat) (a0 : (List Pt2)) (a1 : Pt2) : Option ((List Pt2)) :=
  (iter (fun s => ref20_insert_B1 fuel a0 a1 s) fuel (a0.length : Int)).bind (fun t => ref20_insert_K1 fuel a0 a1 t)
def pattern_Interval_K1 (fuel : Nat) (x141 : Int) : Option (Int) :=
  some x141
def pattern_Interval_B1 (fuel : Nat) (x91 : (List Int)) (a2 : Int) (x118 : Int) (x120 : Int) : Option ((Int × Int) ⊕ (Int)) :=
  (if (decide (x120 < (x91.length : Int))) = true then (ati x91 x120).bind fun x148 => (if (decide (x148 < a2)) = true then some (Sum.inl ((w64 (x118 + 1)), (w64 (x120 + 1)))) else some (Sum.inl (x118, (w64 (x120 + 1))))) else some (Sum.inr x118))
def pattern_Interval (fuel : Nat) (a0 : Pat) (a1 : Int) (a2 : Int) : Option (Int) :=
  (andM (decide (0 ≤ a1)) (some (decide (a1 < (a0.ckpts.length : Int))))).bind fun x88 => (if x88 = true then (ati a0.ckpts a1).bind fun x91 => (iter (fun s => pattern_Interval_B1 fuel x91 a2 s.1 s.2) fuel (0, 0)).bind (fun t => pattern_Interval_K1 fuel t) else some 0)
def ref16_Interval_K1 (fuel : Nat) (x171 : Int) : Option (Int) :=
  some x171
def ref16_Interval_B1 (fuel : Nat) (a0 : Pat) (a1 : Int) (a2 : Int) (x140 : Int) (x141 : Int) : Option ((Int × Int) ⊕ (Int)) :=
  (ati a0.ckpts a1).bind fun x175 => (if (decide (x141 < (x175.length : Int))) = true then (ati a0.ckpts a1).bind fun x181 => (ati x181 x141).bind fun x184 => (if (decide (x184 < a2)) = true then some (Sum.inl ((w64 (x140 + 1)), (w64 (x141 + 1)))) else some (Sum.inl (x140, (w64 (x141 + 1))))) else some (Sum.inr x140))
def ref16_Interval (fuel : Nat) (a0 : Pat) (a1 : Int) (a2 : Int) : Option (Int) :=
  (iter (fun s => ref16_Interval_B1 fuel a0 a1 a2 s.1 s.2) fuel (0, 0)).bind (fun t => ref16_Interval_K1 fuel t)
def ref20_Edges_K2 (fuel : Nat) (x727 : (List Pt2)) : Option ((List Pt2)) :=
  some x727
def ref20_Edges_B1 (fuel : Nat) (a0 : Pat) (x678 : (List Pt2)) (x680 : Int) : Option (((List Pt2) × Int) ⊕ ((List Pt2))) :=
  (if (decide (x680 < (a0.arcs.length : Int))) = true then (ati a0.arcs x680).bind fun x735 => (if (decide (0 < x735.rcv)) = true then (ref16_Interval fuel (⟨a0.lens, a0.ckpts, a0.arcs⟩ : Pat) x735.fr x735.ix).bind fun r751 => (ref16_Interval fuel (⟨a0.lens, a0.ckpts, a0.arcs⟩ : Pat) x735.to x735.rcv).bind fun r753 => (ref20_insert fuel x678 (⟨(⟨x735.fr, r751⟩ : Pt), (⟨x735.to, r753⟩ : Pt)⟩ : Pt2)).bind fun r755 => some (Sum.inl (r755, (w64 (x680 + 1)))) else some (Sum.inl (x678, (w64 (x680 + 1))))) else some (Sum.inr x678))
def ref20_Edges_K1 (fuel : Nat) (a0 : Pat) (x618 : (List Pt2)) : Option ((List Pt2)) :=
  (iter (fun s => ref20_Edges_B1 fuel a0 s.1 s.2) fuel (x618, 0)).bind (fun t => ref20_Edges_K2 fuel t)
def ref20_Edges_K3 (fuel : Nat) (x525 : Int) (x822 : (List Pt2)) : Option (((List Pt2) × Int) ⊕ ((List Pt2))) :=
  some (Sum.inl (x822, (w64 (x525 + 1))))
def ref20_Edges_B3 (fuel : Nat) (a0 : Pat) (x525 : Int) (x794 : (List Pt2)) (x796 : Int) : Option (((List Pt2) × Int) ⊕ ((List Pt2))) :=
  (ati a0.ckpts x525).bind fun x826 => (if (decide (x796 < (x826.length : Int))) = true then (ref20_insert fuel x794 (⟨(⟨x525, x796⟩ : Pt), (⟨x525, w64 (x796 + 1)⟩ : Pt)⟩ : Pt2)).bind fun r832 => some (Sum.inl (r832, (w64 (x796 + 1)))) else some (Sum.inr x794))
def ref20_Edges_B2 (fuel : Nat) (a0 : Pat) (x523 : (List Pt2)) (x525 : Int) : Option (((List Pt2) × Int) ⊕ ((List Pt2))) :=
  (if (decide (x525 < (a0.ckpts.length : Int))) = true then (iter (fun s => ref20_Edges_B3 fuel a0 x525 s.1 s.2) fuel (x523, 0)).bind (fun t => ref20_Edges_K3 fuel x525 t) else some (Sum.inr x523))
def ref20_Edges (fuel : Nat) (a0 : Pat) : Option ((List Pt2)) :=
  (iter (fun s => ref20_Edges_B2 fuel a0 s.1 s.2) fuel (([] : List Pt2), 0)).bind (fun t => ref20_Edges_K1 fuel a0 t)
def depend_Index (fuel : Nat) (a0 : Pat) (a1 : Int) (a2 : Int) : Option (Int) :=
  (orM (decide (a1 < 0)) (some (decide ((a0.lens.length : Int) ≤ a1)))).bind fun x46 => (orM x46 (some (decide ((a0.ckpts.length : Int) ≤ a1)))).bind fun x50 => (orM x50 (some (decide (a2 < 0)))).bind fun x54 => (if x54 = true then some 0 else (ati a0.ckpts a1).bind fun x59 => (if (decide (a2 < (x59.length : Int))) = true then (ati a0.ckpts a1).bind fun x65 => (ati x65 a2).bind fun x68 => some x68 else (ati a0.lens a1).bind fun x71 => some x71))
def ref19_Index (fuel : Nat) (a0 : Pat) (a1 : Int) (a2 : Int) : Option (Int) :=
  (ati a0.ckpts a1).bind fun x27 => (if (decide ((x27.length : Int) ≤ a2)) = true then (ati a0.lens a1).bind fun x32 => some x32 else (ati a0.ckpts a1).bind fun x35 => (ati x35 a2).bind fun x38 => some x38)
def ref20_Reach_K3 (fuel : Nat) (x2124 : (List (List Bool))) : Option ((List (List Bool))) :=
  some x2124
def ref20_Reach_K4 (fuel : Nat) (x2357 : (List (List Bool))) (x2361 : Bool) : Option (((List (List Bool)) × Bool) ⊕ ((List (List Bool)))) :=
  some (Sum.inl (x2357, x2361))
def ref20_Reach_J1 (fuel : Nat) (x2245 : (List (List Bool))) (x2367 : Pt2) (x2371 : Pt2) (x2250 : Int) (x2249 : Bool) : Option (((List (List Bool)) × Bool × Int) ⊕ ((List (List Bool)) × Bool)) :=
  (ati x2245 x2367.x0.proc).bind fun x2410 => (ati x2410 x2367.x0.index).bind fun x2411 => (andM x2411 ((ati x2245 x2371.x1.proc).bind fun x2420 => (ati x2420 x2371.x1.index).bind fun x2421 => some (!x2421))).bind fun x2419 => (if x2419 = true then (ati x2245 x2371.x1.proc).bind fun x2425 => (ati x2425 x2371.x1.index).bind fun x2426 => (seti x2425 x2371.x1.index true).bind fun x2428 => (seti x2245 x2371.x1.proc x2428).bind fun x2429 => some (Sum.inl (x2429, true, (w64 (x2250 + 1)))) else some (Sum.inl (x2245, x2249, (w64 (x2250 + 1)))))
def ref20_Reach_B2 (fuel : Nat) (r1425 : ((List Pt2))) (x2245 : (List (List Bool))) (x2249 : Bool) (x2250 : Int) : Option (((List (List Bool)) × Bool × Int) ⊕ ((List (List Bool)) × Bool)) :=
  (if (decide (x2250 < (r1425.length : Int))) = true then (ati r1425 x2250).bind fun x2367 => (ati r1425 x2250).bind fun x2371 => ref20_Reach_J1 fuel x2245 x2367 x2371 x2250 x2249 else some (Sum.inr (x2245, x2249)))
def ref20_Reach_B1 (fuel : Nat) (r1425 : ((List Pt2))) (x1777 : (List (List Bool))) (x1781 : Bool) : Option (((List (List Bool)) × Bool) ⊕ ((List (List Bool)))) :=
  (if x1781 = true then (iter (fun s => ref20_Reach_B2 fuel r1425 s.1 s.2.1 s.2.2) fuel (x1777, false, 0)).bind (fun t => ref20_Reach_K4 fuel t.1 t.2) else some (Sum.inr x1777))
def ref20_Reach_K2 (fuel : Nat) (a0 : Pat) (x1420 : (List (List Bool))) : Option ((List (List Bool))) :=
  (ref20_Edges fuel (⟨a0.lens, a0.ckpts, a0.arcs⟩ : Pat)).bind fun r1425 => (iter (fun s => ref20_Reach_B1 fuel r1425 s.1 s.2) fuel (x1420, true)).bind (fun t => ref20_Reach_K3 fuel t)
def ref20_Reach_B3 (fuel : Nat) (a1 : (List Pt)) (x1382 : (List (List Bool))) (x1385 : Int) : Option (((List (List Bool)) × Int) ⊕ ((List (List Bool)))) :=
  (if (decide (x1385 < (a1.length : Int))) = true then (ati a1 x1385).bind fun x2452 => (ati x1382 x2452.proc).bind fun x2455 => (ati a1 x1385).bind fun x2456 => (ati x2455 x2456.index).bind fun x2459 => (seti x2455 x2456.index true).bind fun x2461 => (seti x1382 x2452.proc x2461).bind fun x2462 => some (Sum.inl (x2462, (w64 (x1385 + 1)))) else some (Sum.inr x1382))
def ref20_Reach_K1 (fuel : Nat) (a1 : (List Pt)) (a0 : Pat) (x1333 : (List (List Bool))) : Option ((List (List Bool))) :=
  (iter (fun s => ref20_Reach_B3 fuel a1 s.1 s.2) fuel (x1333, 0)).bind (fun t => ref20_Reach_K2 fuel a0 t)
def ref20_Reach_B4 (fuel : Nat) (a0 : Pat) (x1294 : (List (List Bool))) (x1297 : Int) : Option (((List (List Bool)) × Int) ⊕ ((List (List Bool)))) :=
  (if (decide (x1297 < (a0.ckpts.length : Int))) = true then (ati a0.ckpts x1297).bind fun x2469 => (mkL (w64 ((x2469.length : Int) + 1)) false).bind fun x2472 => (snoc x1294 x2472).bind fun x2479 => some (Sum.inl (x2479, (w64 (x1297 + 1)))) else some (Sum.inr x1294))
def ref20_Reach (fuel : Nat) (a0 : Pat) (a1 : (List Pt)) : Option ((List (List Bool))) :=
  (iter (fun s => ref20_Reach_B4 fuel a0 s.1 s.2) fuel (([] : List (List Bool)), 0)).bind (fun t => ref20_Reach_K1 fuel a1 a0 t)
end Go.Mine
namespace Go.Proofs.Ytlceljfigccllaa
open Go.RowKit Go.Mine
attribute [local irreducible] eseq ewp iter
theorem Compact_w {F R : Nat → Prop} {w : World} {fuel : Nat} {c0_0 : (List Pt2)} {v1 : Value} {r : ((List Pt2))} (hS : Sep F R R w w [HP.own pt2Ty (fun _ => False) 149 v1 c0_0]) (h : Compact fuel c0_0 = some r) :
    Gives Try.prog 136 [v1] w fun u w1 => ∃ (v429 : Value), ∃ (R1 : Nat → Prop), u = v429 ∧ Sep F R R1 w w1 [] ∧ IsSlice pt2Ty w1 R1 v429 r := by
  refine fn_of Try.func136 rfl Try.ntmps136 (Nat.le_of_ble_eq_true rfl) ?_
  unfold Compact at h
  refine e_seq fun K430 hK430 => ?_
  refine e_region_text rfl ?_
  refine q_assign rfl rfl ?_
  refine eseq_nil ?_
  refine hK430 _ _ ?_
  refine e_seq fun K431 hK431 => ?_
  refine e_seq fun K432 hK432 => ?_
  refine e_region_text rfl ?_
  refine q_move rfl rfl ?_
  refine q_lenS rfl (hS.isl 0 rfl) rfl ?_
  refine q_lss rfl rfl rfl ?_
  refine eseq_nil ?_
  refine hK432 _ _ ?_
  refine e_cond rfl (fun hc433 => ?_) (fun hc433 => ?_)
  · replace h := (if_pos hc433).symm.trans h
    refine e_seq fun K434 hK434 => ?_
    refine e_region_text rfl ?_
    refine q_move rfl rfl ?_
    refine q_assign rfl rfl ?_
    refine eseq_nil ?_
    refine hK434 _ _ ?_
    refine e_ret ?_
    obtain ⟨R435, hS, hm435, f435⟩ := hS.freezeOwn 0 rfl; simp only [List.eraseIdx] at hS
    obtain rfl := Option.some.inj h
    exact ⟨_, res1 rfl rfl, v1, _, rfl, hS, f435⟩
  · replace h := (if_neg (not_true hc433)).symm.trans h
    refine e_skip ?_
    refine hK431 _ _ ?_
    refine e_seq fun K436 hK436 => ?_
    refine e_seq fun K437 hK437 => ?_
    refine e_region_text rfl ?_
    refine q_assign rfl rfl ?_
    refine eseq_nil ?_
    refine hK437 _ _ ?_
    refine e_block ?_
    obtain ⟨tl438, ht438, h⟩ := Option.of_bind h
    have hX438_0 : ∀ (R720 : Nat → Prop) (w721 : World) (E_ : Env), Compact_K1 fuel c0_0 = some r → Sep F R R720 w w721 [HP.own pt2Ty (fun _ => False) 149 v1 c0_0] → Sub [(0, v1)] E_ → K436 E_ w721 := by
      intro R720 w721 E_ h hS  hsub
      refine hK436 _ _ (e_sub hsub ?_); clear hsub
      unfold Compact_K1 at h
      refine e_seq fun K723 hK723 => ?_
      refine e_region_text rfl ?_
      refine q_move rfl rfl ?_
      refine q_assign rfl rfl ?_
      refine eseq_nil ?_
      refine hK723 _ _ ?_
      refine e_ret ?_
      obtain ⟨R724, hS, hm724, f724⟩ := hS.freezeOwn 0 rfl; simp only [List.eraseIdx] at hS
      obtain rfl := Option.some.inj h
      exact ⟨_, res1 rfl rfl, v1, _, rfl, hS, f724⟩
    refine e_loop (fun m_ E_ w580 => ∃ (x582 : Int), ∃ (R579 : Nat → Prop), iter (fun s => Compact_B1 fuel c0_0 s) m_ x582 = some tl438 ∧ Sep F R R579 w w580 [HP.own pt2Ty (fun _ => False) 149 v1 c0_0] ∧ E_ = [(0, v1), (3, .int .i64 x582)]) _ ⟨_, ⟨1, _, ht438, hS, rfl⟩, Sub.cons rfl (Sub.cons rfl (Sub.nil _))⟩ ?_
    clear ht438 hS
    rintro m438 _ w580 ⟨x582, R579, ht438, hS, rfl⟩
    obtain ⟨m438, rfl, o438, ho438, ht438⟩ := iter_some ht438
    replace ho438 : Compact_B1 fuel c0_0 x582 = some o438 := ho438
    unfold Compact_B1 at ho438
    refine e_seq fun K725 hK725 => ?_
    refine e_seq fun K726 hK726 => ?_
    refine e_region_text rfl ?_
    refine q_move rfl rfl ?_
    refine q_move rfl rfl ?_
    refine q_lenS rfl (hS.isl 0 rfl) rfl ?_
    refine q_lss rfl rfl rfl ?_
    refine eseq_nil ?_
    refine hK726 _ _ ?_
    refine e_cond rfl (fun hc727 => ?_) (fun hc727 => ?_)
    · replace ho438 := (if_pos hc727).symm.trans ho438
      refine e_skip ?_
      refine hK725 _ _ ?_
      refine e_seq fun K728 hK728 => ?_
      refine e_block ?_
      refine e_seq fun K729 hK729 => ?_
      refine e_region_draw mixed (fun _ => False) [0, 0, 3, 7, 0, 0, 32, 112, 240, 511] [] [0, 1, 2, 3, 4, 5, 6, 7, 8, 9] (by kernel_rfl) ?_
      refine q_move rfl rfl ?_
      refine q_move rfl rfl ?_
      obtain ⟨x730, hx730, ho438⟩ := Option.of_bind ho438
      refine q_indexO (by infer_instance) rfl (hS.own 0 rfl) rfl hx730 rfl ?_
      have f731 := (hS.ownR 0 rfl).elt hx730
      have hc732 := Pt2_open f731
      refine q_loadAgg rfl hc732 rfl rfl ?_
      refine q_move rfl rfl ?_
      refine q_move rfl rfl ?_
      refine q_subW rfl rfl rfl ?_
      obtain ⟨x733, hx733, ho438⟩ := Option.of_bind ho438
      refine q_indexO (by infer_instance) rfl (hS.own 0 rfl) rfl hx733 rfl ?_
      have f734 := (hS.ownR 0 rfl).elt hx733
      have hc735 := Pt2_open f734
      refine q_loadAgg rfl hc735 rfl rfl ?_
      refine q_eqlA eqT149 (by kernel_rfl) rfl rfl rfl ?_
      refine eseq_nil ?_
      refine hK729 _ _ ?_
      refine e_cond rfl (fun hc736 => ?_) (fun hc736 => ?_)
      · replace ho438 := (if_pos hc736).symm.trans ho438
        refine e_seq fun K737 hK737 => ?_
        refine e_region_text rfl ?_
        refine q_move rfl rfl ?_
        refine q_move rfl rfl ?_
        obtain ⟨x738, hx738, ho438⟩ := Option.of_bind ho438
        refine q_sufO (T := pt2Ty) (by infer_instance) rfl (hS.own 0 rfl) rfl hx738 rfl ?_
        refine q_assign rfl rfl ?_
        refine eseq_nil ?_
        refine hK737 _ _ ?_
        refine e_seq fun K739 hK739 => ?_
        refine e_seq fun K740 hK740 => ?_
        refine e_region_text rfl ?_
        refine q_assign rfl rfl ?_
        refine eseq_nil ?_
        refine hK740 _ _ ?_
        refine e_block ?_
        obtain ⟨tl741, ht741, ho438⟩ := Option.of_bind ho438
        have hX741_2 : ∀ (x824 : (List Pt2)) (x825 : Int) (v823 : Value) (R820 : Nat → Prop) (w821 : World) (E_ : Env), Compact_K2 fuel x824 x825 = some o438 → Sep F R R820 w w821 [HP.own pt2Ty (fun _ => False) 149 v823 x824] → Sub [(0, v823), (3, .int .i64 x825)] E_ → K739 E_ w821 := by
          intro x824 x825 v823 R820 w821 E_ ho438 hS  hsub
          refine hK739 _ _ (e_sub hsub ?_); clear hsub
          unfold Compact_K2 at ho438
          refine e_seq fun K826 hK826 => ?_
          refine e_region_text rfl ?_
          refine q_move rfl rfl ?_
          refine q_move rfl rfl ?_
          obtain ⟨x827, hx827, ho438⟩ := Option.of_bind ho438
          refine q_sufO (T := pt2Ty) (by infer_instance) rfl (hS.own 0 rfl) rfl hx827 rfl ?_
          obtain ⟨x829, hx829, ho438⟩ := Option.of_bind ho438
          obtain ⟨x830, hx830, ho438⟩ := Option.of_bind ho438
          refine q_clearSuf (T := pt2Ty) rfl (hS.own 0 rfl) (dropL_le hx829) rfl fun w828 ho828 hst828 => ?_
          rw [Option.some.inj hx830] at ho828
          have hk828 := hS.keptF 0 rfl hst828
          replace hS := hS.set 0 rfl hst828 (c' := HP.own _ _ _ _ _) ho828 (fun k hk => .inl hk) (fun k hk => hS.depR 0 rfl k hk); simp only [List.set] at hS
          refine eseq_nil ?_
          refine hK826 _ _ ?_
          refine e_seq fun K831 hK831 => ?_
          refine e_region_text rfl ?_
          refine q_move rfl rfl ?_
          refine q_move rfl rfl ?_
          obtain ⟨R832, hS, hm832, f832⟩ := hS.freezeOwn 0 rfl; simp only [List.eraseIdx] at hS
          obtain ⟨x834, hx834, ho438⟩ := Option.of_bind ho438
          refine q_takeS (by infer_instance) rfl f832 rfl hx834 rfl fun v833 f833 => ?_
          refine q_assign rfl rfl ?_
          refine eseq_nil ?_
          refine hK831 _ _ ?_
          refine e_ret ?_
          obtain rfl := Option.some.inj ho438
          obtain rfl := Option.some.inj ht438
          obtain rfl := Option.some.inj h
          exact ⟨_, res1 rfl rfl, v833, _, rfl, hS, f833⟩
        refine e_loop (fun m_ E_ w780 => ∃ (x783 : (List Pt2)), ∃ (x784 : Int), ∃ (x785 : Int), ∃ (v782 : Value), ∃ (R779 : Nat → Prop), iter (fun s => Compact_B2 fuel x582 s.1 s.2.1 s.2.2) m_ (x783, x784, x785) = some tl741 ∧ Sep F R R779 w w780 [HP.own pt2Ty (fun _ => False) 149 v782 x783] ∧ E_ = [(0, v782), (3, .int .i64 x784), (4, (sufV pt2Ty.sz v782 (x582).toNat)), (5, .int .i64 x785)]) _ ⟨_, ⟨c0_0, x582, 1, v1, _, ht741, hS, rfl⟩, Sub.cons rfl (Sub.cons rfl (Sub.cons rfl (Sub.cons rfl (Sub.nil _))))⟩ ?_
        clear ht741 hS
        rintro m741 _ w780 ⟨x783, x784, x785, v782, R779, ht741, hS, rfl⟩
        obtain ⟨m741, rfl, o741, ho741, ht741⟩ := iter_some ht741
        replace ho741 : Compact_B2 fuel x582 x783 x784 x785 = some o741 := ho741
        unfold Compact_B2 at ho741
        refine e_seq fun K835 hK835 => ?_
        refine e_seq fun K836 hK836 => ?_
        refine e_region_text rfl ?_
        refine q_move rfl rfl ?_
        refine q_move rfl rfl ?_
        obtain ⟨x837, hx837, ho741⟩ := Option.of_bind ho741
        refine q_lenSuf (T := pt2Ty) rfl (hS.own 0 rfl) hx837 rfl ?_
        refine q_lss rfl rfl rfl ?_
        refine eseq_nil ?_
        refine hK836 _ _ ?_
        refine e_cond rfl (fun hc838 => ?_) (fun hc838 => ?_)
        · replace ho741 := (if_pos hc838).symm.trans ho741
          refine e_skip ?_
          refine hK835 _ _ ?_
          refine e_seq fun K839 hK839 => ?_
          refine e_block ?_
          refine e_seq fun K840 hK840 => ?_
          refine e_region_draw mixed (fun _ => False) [0, 0, 3, 7, 0, 0, 32, 112, 240, 511] [] [0, 1, 2, 3, 4, 5, 6, 7, 8, 9] (by kernel_rfl) ?_
          refine q_move rfl rfl ?_
          refine q_move rfl rfl ?_
          obtain ⟨x841, hx841, ho741⟩ := Option.of_bind ho741
          obtain ⟨x842, hx842, ho741⟩ := Option.of_bind ho741
          have hdx842 := ati_dropL hx841 hx842
          refine q_indexSuf (T := pt2Ty) (by infer_instance) rfl (hS.own 0 rfl) hx841 rfl hx842 rfl ?_
          have f843 := (hS.ownR 0 rfl).elt hdx842
          have hc844 := Pt2_open f843
          refine q_loadAgg rfl hc844 rfl rfl ?_
          refine q_move rfl rfl ?_
          refine q_move rfl rfl ?_
          refine q_subW rfl rfl rfl ?_
          obtain ⟨x845, hx845, ho741⟩ := Option.of_bind ho741
          obtain ⟨x846, hx846, ho741⟩ := Option.of_bind ho741
          have hdx846 := ati_dropL hx845 hx846
          refine q_indexSuf (T := pt2Ty) (by infer_instance) rfl (hS.own 0 rfl) hx845 rfl hx846 rfl ?_
          have f847 := (hS.ownR 0 rfl).elt hdx846
          have hc848 := Pt2_open f847
          refine q_loadAgg rfl hc848 rfl rfl ?_
          refine q_neqA eqT149 (by kernel_rfl) rfl rfl rfl ?_
          refine eseq_nil ?_
          refine hK840 _ _ ?_
          refine e_cond rfl (fun hc849 => ?_) (fun hc849 => ?_)
          · replace ho741 := (if_pos hc849).symm.trans ho741
            refine e_seq fun K850 hK850 => ?_
            refine e_region_text rfl ?_
            refine q_move rfl rfl ?_
            refine q_move rfl rfl ?_
            refine q_move rfl rfl ?_
            refine q_move rfl rfl ?_
            obtain ⟨x851, hx851, ho741⟩ := Option.of_bind ho741
            obtain ⟨x852, hx852, ho741⟩ := Option.of_bind ho741
            have hdx852 := ati_dropL hx851 hx852
            refine q_indexSuf (T := pt2Ty) (by infer_instance) rfl (hS.own 0 rfl) hx851 rfl hx852 rfl ?_
            have f853 := (hS.ownR 0 rfl).elt hdx852
            have hc854 := Pt2_open f853
            refine q_loadAgg rfl hc854 rfl rfl ?_
            obtain ⟨x855, hx855, ho741⟩ := Option.of_bind ho741
            refine q_indexO (by infer_instance) rfl (hS.own 0 rfl) rfl hx855 rfl ?_
            obtain ⟨x857, hx857, ho741⟩ := Option.of_bind ho741
            refine q_storeOA (T := pt2Ty) (j := 0) rfl rfl (hS.own 0 rfl) hx855 hx857 rfl rfl (all_cons rfl (all_cons rfl (all_cons rfl (all_cons rfl (all_nil))))) rfl (Enc.setNL rfl) fun w856 ho856 hO856 => ?_
            have hk856 := hS.keptO 0 rfl hx855 hO856
            replace hS := hS.putO 0 rfl hx855 ho856 hO856; simp only [List.set] at hS
            refine eseq_nil ?_
            refine hK850 _ _ ?_
            refine e_region_text rfl ?_
            refine q_move rfl rfl ?_
            refine q_addW rfl rfl rfl ?_
            refine q_assign rfl rfl ?_
            refine eseq_nil ?_
            refine hK839 _ _ ?_
            refine e_region_text rfl ?_
            refine q_move rfl rfl ?_
            refine q_addW rfl rfl rfl ?_
            refine q_assign rfl rfl ?_
            refine eseq_nil ?_
            obtain rfl := Option.some.inj ho741
            exact ⟨m741, _, Nat.lt_succ_self _, ⟨x857, (w64 (x784 + 1)), (w64 (x785 + 1)), v782, _, ht741, hS, rfl⟩, Sub.cons rfl (Sub.cons rfl (Sub.cons rfl (Sub.cons rfl (Sub.nil _))))⟩
          · replace ho741 := (if_neg (not_true hc849)).symm.trans ho741
            refine e_skip ?_
            refine hK839 _ _ ?_
            refine e_region_text rfl ?_
            refine q_move rfl rfl ?_
            refine q_addW rfl rfl rfl ?_
            refine q_assign rfl rfl ?_
            refine eseq_nil ?_
            obtain rfl := Option.some.inj ho741
            exact ⟨m741, _, Nat.lt_succ_self _, ⟨x783, x784, (w64 (x785 + 1)), v782, _, ht741, hS, rfl⟩, Sub.cons rfl (Sub.cons rfl (Sub.cons rfl (Sub.cons rfl (Sub.nil _))))⟩
        · replace ho741 := (if_neg (not_true hc838)).symm.trans ho741
          refine e_exit ?_
          obtain rfl := Option.some.inj ho741
          obtain rfl := Option.some.inj ht741
          exact hX741_2 x783 x784 v782 _ _ _ ho438 hS  (Sub.cons rfl (Sub.cons rfl (Sub.nil _)))
      · replace ho438 := (if_neg (not_true hc736)).symm.trans ho438
        refine e_skip ?_
        refine hK728 _ _ ?_
        refine e_region_text rfl ?_
        refine q_move rfl rfl ?_
        refine q_addW rfl rfl rfl ?_
        refine q_assign rfl rfl ?_
        refine eseq_nil ?_
        obtain rfl := Option.some.inj ho438
        exact ⟨m438, _, Nat.lt_succ_self _, ⟨(w64 (x582 + 1)), _, ht438, hS, rfl⟩, Sub.cons rfl (Sub.cons rfl (Sub.nil _))⟩
    · replace ho438 := (if_neg (not_true hc727)).symm.trans ho438
      refine e_exit ?_
      obtain rfl := Option.some.inj ho438
      obtain rfl := Option.some.inj ht438
      exact hX438_0  _ _ _ h hS  (Sub.cons rfl (Sub.nil _))
theorem ref20_less_w {F R : Nat → Prop} {w : World} {fuel : Nat} {a0 : Pt} {a1 : Pt} {r : (Bool)} (hS : Sep F R R w w []) (h : ref20_less fuel a0 a1 = some r) :
    Gives Try.prog 153 [.agg #[.int .i64 a0.proc, .int .i64 a0.index], .agg #[.int .i64 a1.proc, .int .i64 a1.index]] w fun u w1 => ∃ (R1 : Nat → Prop), u = .bool r ∧ Sep F R R1 w w1 [] := by
  refine fn_of Try.func153 rfl Try.ntmps153 (Nat.le_of_ble_eq_true rfl) ?_
  unfold ref20_less at h
  refine e_seq fun K15 hK15 => ?_
  refine e_region_text rfl ?_
  refine q_boxB rfl rfl rfl fun w16 bl16 hg16 hb16 hB16 => ?_
  replace hS := hS.newBlk hB16 hg16 hb16
  refine q_boxB rfl rfl rfl fun w18 bl18 hg18 hb18 hB18 => ?_
  replace hS := hS.newBlk hB18 hg18 hb18
  refine q_assign rfl rfl ?_
  refine eseq_nil ?_
  refine hK15 _ _ ?_
  refine e_seq fun K20 hK20 => ?_
  refine e_region_text rfl ?_
  refine q_field rfl rfl ?_
  refine q_load rfl (Blk.cell (hS.blk 1 rfl) rfl) rfl ?_
  refine q_field rfl rfl ?_
  refine q_load rfl (Blk.cell (hS.blk 0 rfl) rfl) rfl ?_
  refine q_lss rfl rfl rfl ?_
  refine q_move rfl rfl ?_
  obtain ⟨x26, hx25, h⟩ := Option.of_bind h
  refine g_orM 12 hx25 rfl trivial rfl rfl ?_ ?_ ?_
  · intro hg25
    refine g_skip rfl rfl rfl ?_
    refine g_skip rfl rfl rfl ?_
    refine g_skip rfl rfl rfl ?_
    refine g_skip rfl rfl rfl ?_
    refine g_skip rfl rfl rfl ?_
    refine g_skip rfl rfl rfl ?_
    refine g_skipU rfl rfl ?_
    refine g_skipU rfl rfl ?_
    refine g_skipU rfl rfl ?_
    refine g_skipU rfl rfl ?_
    refine g_skipU rfl rfl ?_
    refine g_skip rfl rfl rfl ?_
    exact eseq_nil ⟨rfl, Sub.set rfl (Sub.set rfl (Sub.set rfl (Sub.set rfl (Sub.set rfl (Sub.set rfl (Sub.set rfl (Sub.set rfl (Sub.set rfl (Sub.set rfl (Sub.set rfl (Sub.set rfl (Sub.bool true rfl hg25))))))))))))⟩
  · intro hg25 hx25
    clear h
    have hT25 := Below.refl (World.heap w18).size w18
    refine g_run rfl ?_; refine q_field rfl rfl ?_
    refine g_run rfl ?_; refine q_load rfl (Blk.cell (hS.blk 1 rfl) rfl) rfl ?_
    refine g_run rfl ?_; refine q_field rfl rfl ?_
    refine g_run rfl ?_; refine q_load rfl (Blk.cell (hS.blk 0 rfl) rfl) rfl ?_
    refine g_run rfl ?_; refine q_eql rfl rfl rfl ?_
    refine g_run rfl ?_; refine q_move rfl rfl ?_
    obtain ⟨x28, hx27, hx25⟩ := Option.of_bind hx25
    refine g_andM 5 hx27 rfl rfl rfl rfl ?_ ?_ ?_
    · intro hg27 hx27
      clear hx25
      have hT27 := Below.refl (World.heap w18).size w18
      refine g_run rfl ?_; refine q_field rfl rfl ?_
      refine g_run rfl ?_; refine q_load rfl (Blk.cell (hS.blk 1 rfl) rfl) rfl ?_
      refine g_run rfl ?_; refine q_field rfl rfl ?_
      refine g_run rfl ?_; refine q_load rfl (Blk.cell (hS.blk 0 rfl) rfl) rfl ?_
      refine g_run rfl ?_; refine q_lss rfl rfl rfl ?_
      cases hx27
      exact eseq_nil ⟨hT27, Sub.set rfl (Sub.set rfl (Sub.set rfl (Sub.set rfl (Sub.set rfl (Sub.bool true rfl hg27))))), rfl⟩
    · intro hg27
      refine g_skip rfl rfl rfl ?_
      refine g_skip rfl rfl rfl ?_
      refine g_skip rfl rfl rfl ?_
      refine g_skip rfl rfl rfl ?_
      refine g_skip rfl rfl rfl ?_
      exact eseq_nil ⟨rfl, Sub.set rfl (Sub.set rfl (Sub.set rfl (Sub.set rfl (Sub.set rfl (Sub.bool false rfl hg27)))))⟩
    intro wm27 hBm27; clear hx27
    replace hS := hS.below hBm27
    replace hT25 := hT25.trans (Below.mono hBm27 hT25.size)
    cases hx25
    exact eseq_nil ⟨hT25, Sub.set rfl (Sub.set rfl (Sub.set rfl (Sub.set rfl (Sub.set rfl (Sub.set rfl (Sub.set rfl (Sub.bool false rfl hg25))))))), rfl⟩
  intro wm25 hBm25; clear hx25
  replace hS := hS.below hBm25
  refine q_assign rfl rfl ?_
  refine eseq_nil ?_
  refine hK20 _ _ ?_
  refine e_ret ?_
  obtain rfl := Option.some.inj h
  exact ⟨_, res1 rfl rfl, _, rfl, (hS.pickB [] 2 rfl rfl)⟩
theorem ref20_insert_w {F R : Nat → Prop} {w : World} {fuel : Nat} {a0 : (List Pt2)} {a1 : Pt2} {v1 : Value} {r : ((List Pt2))} (hS : Sep F R R w w []) (f1 : IsSlice pt2Ty w R v1 a0) (h : ref20_insert fuel a0 a1 = some r) :
    Gives Try.prog 137 [v1, .agg #[.int .i64 a1.x0.proc, .int .i64 a1.x0.index, .int .i64 a1.x1.proc, .int .i64 a1.x1.index]] w fun u w1 => ∃ (v198 : Value), ∃ (R1 : Nat → Prop), u = v198 ∧ Sep F R R1 w w1 [] ∧ IsSlice pt2Ty w1 R1 v198 r := by
  refine fn_of Try.func137 rfl Try.ntmps137 (Nat.le_of_ble_eq_true rfl) ?_
  unfold ref20_insert at h
  refine e_seq fun K199 hK199 => ?_
  refine e_region_text rfl ?_
  refine q_boxB rfl rfl rfl fun w200 bl200 hg200 hb200 hB200 => ?_
  replace f1 := f1.ext hB200
  replace hS := hS.newBlk hB200 hg200 hb200
  refine q_assign rfl rfl ?_
  refine eseq_nil ?_
  refine hK199 _ _ ?_
  refine e_seq fun K202 hK202 => ?_
  refine e_region_text rfl ?_
  refine q_move rfl rfl ?_
  refine q_lenS rfl f1 rfl ?_
  refine q_assign rfl rfl ?_
  refine eseq_nil ?_
  refine hK202 _ _ ?_
  refine e_seq fun K203 hK203 => ?_
  refine e_block ?_
  obtain ⟨tl204, ht204, h⟩ := Option.of_bind h
  have hX204_0 : ∀ (x317 : Int) (R314 : Nat → Prop) (w315 : World) (E_ : Env), ref20_insert_K1 fuel a0 a1 x317 = some r → Sep F R R314 w w315 [HP.blk bl200 [.int .i64 a1.x0.proc, .int .i64 a1.x0.index, .int .i64 a1.x1.proc, .int .i64 a1.x1.index] 149] → IsSlice pt2Ty w315 R314 v1 a0 → Sub [(0, v1), (3, .pointer (some ⟨bl200, 0, none⟩)), (5, .int .i64 x317)] E_ → K203 E_ w315 := by
    intro x317 R314 w315 E_ h hS f316 hsub
    refine hK203 _ _ (e_sub hsub ?_); clear hsub
    unfold ref20_insert_K1 at h
    refine e_seq fun K318 hK318 => ?_
    refine e_seq fun K319 hK319 => ?_
    refine e_region_draw mixed (fun _ => False) [0, 1, 3, 7, 7, 23, 63, 127, 7, 511, 1023] [] [0, 1, 2, 3, 4, 5, 6, 7, 8, 9, 10] (by kernel_rfl) ?_
    refine q_move rfl rfl ?_
    refine q_gtr rfl rfl rfl ?_
    refine q_move rfl rfl ?_
    obtain ⟨x326, hx325, h⟩ := Option.of_bind h
    refine g_andM 7 hx325 rfl trivial rfl rfl ?_ ?_ ?_
    · intro hg325 hx325
      clear h
      have hT325 := Below.refl (World.heap w315).size w315
      refine g_run rfl ?_; refine q_move rfl rfl ?_
      refine g_run rfl ?_; refine q_move rfl rfl ?_
      refine g_run rfl ?_; refine q_subW rfl rfl rfl ?_
      obtain ⟨x327, hx327, hx325⟩ := Option.of_bind hx325
      refine g_run rfl ?_; refine q_atS (by infer_instance) rfl f316 rfl hx327 rfl fun b328 o328 hm328 f328 => ?_
      have hc329 := Pt2_open f328
      refine g_run rfl ?_; refine q_loadAgg rfl hc329 rfl rfl ?_
      refine g_run rfl ?_; refine q_loadAgg rfl (Blk.cellsAt (hS.blk 0 rfl) 0 4 rfl) rfl rfl ?_
      refine g_run rfl ?_; refine q_eqlA eqT149 (by kernel_rfl) rfl rfl rfl ?_
      cases hx325
      exact eseq_nil ⟨hT325, Sub.set rfl (Sub.set rfl (Sub.set rfl (Sub.set rfl (Sub.set rfl (Sub.set rfl (Sub.set rfl (Sub.bool true rfl hg325))))))), rfl⟩
    · intro hg325
      refine g_skip rfl rfl rfl ?_
      refine g_skip rfl rfl rfl ?_
      refine g_skip rfl rfl rfl ?_
      refine g_skip rfl rfl rfl ?_
      refine g_skip rfl rfl rfl ?_
      refine g_skip rfl rfl rfl ?_
      refine g_skip rfl rfl rfl ?_
      exact eseq_nil ⟨rfl, Sub.set rfl (Sub.set rfl (Sub.set rfl (Sub.set rfl (Sub.set rfl (Sub.set rfl (Sub.set rfl (Sub.bool false rfl hg325)))))))⟩
    intro wm325 hBm325; clear hx325
    replace hS := hS.below hBm325
    replace f316 := f316.ext hBm325
    refine eseq_nil ?_
    refine hK319 _ _ ?_
    refine e_cond rfl (fun hc330 => ?_) (fun hc330 => ?_)
    · replace h := (if_pos hc330).symm.trans h
      refine e_seq fun K331 hK331 => ?_
      refine e_region_text rfl ?_
      refine q_move rfl rfl ?_
      refine q_assign rfl rfl ?_
      refine eseq_nil ?_
      refine hK331 _ _ ?_
      refine e_ret ?_
      obtain rfl := Option.some.inj h
      exact ⟨_, res1 rfl rfl, v1, _, rfl, (hS.pickB [] 1 rfl rfl), f316⟩
    · replace h := (if_neg (not_true hc330)).symm.trans h
      refine e_skip ?_
      refine hK318 _ _ ?_
      refine e_seq fun K332 hK332 => ?_
      refine e_region_text rfl ?_
      refine q_move rfl rfl ?_
      refine q_move rfl rfl ?_
      obtain ⟨x334, hx334, h⟩ := Option.of_bind h
      refine q_takeS (by infer_instance) rfl f316 rfl hx334 rfl fun v333 f333 => ?_
      replace hS := hS.nilOwn0 pt2Ty 149
      obtain ⟨x337, hx337, h⟩ := Option.of_bind h
      refine q_catE (T := pt2Ty) rfl rfl rfl rfl (hS.own 0 rfl) rfl f333 hx337 (Nat.zero_le _) rfl (fun h => by cases h) fun v336 w336 hw336 hgr336 hnw336 => ?_
      have hk336 := hS.keptOwn 0 rfl hgr336
      replace f316 := f316.kept hk336
      replace f333 := f333.kept hk336
      replace hS := hS.setOwn 0 rfl hw336 hgr336 hnw336; simp only [List.set] at hS
      refine q_assign rfl rfl ?_
      refine eseq_nil ?_
      refine hK332 _ _ ?_
      refine e_seq fun K338 hK338 => ?_
      refine e_region_draw mixed (fun _ => False) [0, 0, 2, 7, 0, 0, 48, 127, 255] [] [0, 1, 4, 5, 6, 2, 3, 7, 8] (by kernel_rfl) ?_
      refine q_move rfl rfl ?_
      refine q_loadAgg rfl (Blk.cellsAt (hS.blk 1 rfl) 0 4 rfl) rfl rfl ?_
      refine q_move rfl rfl ?_
      refine q_move rfl rfl ?_
      obtain ⟨x340, hx340, h⟩ := Option.of_bind h
      refine q_dropS (by infer_instance) rfl f316 rfl hx340 rfl fun v339 f339 => ?_
      refine q_litO (T := pt2Ty) (S := (fun _ => False)) (cells := [[.int .i64 a1.x0.proc, .int .i64 a1.x0.index, .int .i64 a1.x1.proc, .int .i64 a1.x1.index]]) (ys := [(⟨(⟨a1.x0.proc, a1.x0.index⟩ : Pt), (⟨a1.x1.proc, a1.x1.index⟩ : Pt)⟩ : Pt2)]) ((Parts.cons rfl rfl Parts.nil)) rfl rfl rfl rfl rfl rfl rfl (fun w1 hB => ⟨⟨[_, _], _, rfl, ⟨[_], _, rfl, rfl, rfl⟩, ⟨[_], _, rfl, rfl, rfl⟩⟩, trivial⟩) (fun _ h => h.elim) rfl fun w341 v341 ho341 hv341 hB341 => ?_
      replace f339 := f339.ext hB341
      replace hS := hS.newOwnS hB341 ho341 hv341 (fun _ h => h.elim)
      obtain ⟨x344, hx344, h⟩ := Option.of_bind h
      refine q_catOwn (T := pt2Ty) rfl rfl rfl rfl (hS.own 1 rfl) rfl (hS.own 0 rfl) (fun _ h _ => h.elim) (snoc_cat hx344) (Nat.zero_le _) rfl (fun h => by cases h) fun v343 w343 hw343 hgr343 hnw343 => ?_
      have hk343 := hS.keptOwn 1 rfl hgr343
      replace f339 := f339.kept hk343
      replace hS := hS.setOwn 1 rfl hw343 hgr343 hnw343; simp only [List.set] at hS
      obtain ⟨x346, hx346, h⟩ := Option.of_bind h
      refine q_catE (T := pt2Ty) rfl rfl rfl rfl (hS.own 1 rfl) rfl f339 hx346 (Nat.zero_le _) rfl (fun h => by cases h) fun v345 w345 hw345 hgr345 hnw345 => ?_
      have hk345 := hS.keptOwn 1 rfl hgr345
      replace f339 := f339.kept hk345
      replace hS := hS.setOwn 1 rfl hw345 hgr345 hnw345; simp only [List.set] at hS
      refine q_assign rfl rfl ?_
      refine eseq_nil ?_
      refine hK338 _ _ ?_
      refine e_ret ?_
      obtain ⟨R347, hS, hm347, f347⟩ := hS.freezeOwn 1 rfl; simp only [List.eraseIdx] at hS
      obtain rfl := Option.some.inj h
      exact ⟨_, res1 rfl rfl, v345, _, rfl, (hS.pickB [] 2 rfl rfl), f347⟩
  refine e_loop (fun m_ E_ w260 => ∃ (x262 : Int), ∃ (R259 : Nat → Prop), iter (fun s => ref20_insert_B1 fuel a0 a1 s) m_ x262 = some tl204 ∧ Sep F R R259 w w260 [HP.blk bl200 [.int .i64 a1.x0.proc, .int .i64 a1.x0.index, .int .i64 a1.x1.proc, .int .i64 a1.x1.index] 149] ∧ IsSlice pt2Ty w260 R259 v1 a0 ∧ E_ = [(0, v1), (3, .pointer (some ⟨bl200, 0, none⟩)), (5, .int .i64 x262)]) _ ⟨_, ⟨(a0.length : Int), _, ht204, hS, f1, rfl⟩, Sub.cons rfl (Sub.cons rfl (Sub.cons rfl (Sub.nil _)))⟩ ?_
  clear ht204 hS
  rintro m204 _ w260 ⟨x262, R259, ht204, hS, f261, rfl⟩
  obtain ⟨m204, rfl, o204, ho204, ht204⟩ := iter_some ht204
  replace ho204 : ref20_insert_B1 fuel a0 a1 x262 = some o204 := ho204
  unfold ref20_insert_B1 at ho204
  refine e_seq fun K348 hK348 => ?_
  refine e_seq fun K349 hK349 => ?_
  refine e_region_draw mixed (fun _ => False) [0, 1, 3, 7, 15, 7, 7, 71, 231, 487, 999, 2047, 4095, 8191, 16383, 8191, 8191, 73727, 237567, 499711, 1023999, 2097151, 4194303, 8388607, 16777215, 8388607, 8388607, 75497471, 243269631, 511705087, 1048575999, 2147483647, 4294967295, 8589934591, 17179869183] [] [0, 1, 2, 3, 4, 5, 6, 7, 8, 9, 10, 11, 12, 13, 14, 15, 16, 17, 18, 19, 20, 21, 22, 23, 24, 25, 26, 27, 28, 29, 30, 31, 32, 33, 34] (by kernel_rfl) ?_
  refine q_move rfl rfl ?_
  refine q_gtr rfl rfl rfl ?_
  refine q_move rfl rfl ?_
  obtain ⟨x373, hx372, ho204⟩ := Option.of_bind ho204
  refine g_andM 31 hx372 rfl trivial rfl rfl ?_ ?_ ?_
  · intro hg372 hx372
    clear ho204
    have hT372 := Below.refl (World.heap w260).size w260
    refine g_run rfl ?_; refine q_indexC (k := 0) rfl rfl rfl rfl rfl ?_
    refine g_run rfl ?_; refine q_loadAgg rfl (Blk.cellsAt (hS.blk 0 rfl) 0 2 rfl) rfl rfl ?_
    refine g_run rfl ?_; refine q_move rfl rfl ?_
    refine g_run rfl ?_; refine q_move rfl rfl ?_
    refine g_run rfl ?_; refine q_subW rfl rfl rfl ?_
    obtain ⟨x374, hx374, hx372⟩ := Option.of_bind hx372
    refine g_run rfl ?_; refine q_atS (by infer_instance) rfl f261 rfl hx374 rfl fun b375 o375 hm375 f375 => ?_
    refine g_run rfl ?_; refine q_indexC (k := 0) rfl rfl rfl rfl rfl ?_
    have f376 := Pt2_F0 f375
    have hc377 := Pt_open f376
    refine g_run rfl ?_; refine q_loadAgg rfl hc377 rfl rfl ?_
    obtain ⟨r379, hr379, hx372⟩ := Option.of_bind hx372
    refine g_run rfl ?_; refine q_call rfl (ref20_less_w (a0 := (⟨a1.x0.proc, a1.x0.index⟩ : Pt)) (a1 := x374.x0) (Sep.enter (As := []) hS)  hr379) rfl ?_
    rintro _ w378 ⟨R378, rfl, hC378⟩
    have hB378 : Below (World.heap w260).size w260 w378 := hC378.stepB0
    refine ⟨fun _ => .of_below hB378, ?_⟩
    replace f261 := (f261.ext hB378).mono fun k hk _ => hC378.ro0 k hk
    replace f375 := (f375.ext hB378).mono fun k hk _ => hC378.ro0 k hk
    replace f376 := (f376.ext hB378).mono fun k hk _ => hC378.ro0 k hk
    replace hT372 := hT372.trans (Below.mono hB378 hT372.size)
    replace hS := Sep.leave (As := []) hS hC378; simp only [List.cons_append, List.nil_append] at hS
    refine g_run rfl ?_; refine q_move rfl rfl ?_
    obtain ⟨x381, hx380, hx372⟩ := Option.of_bind hx372
    refine g_orM 20 hx380 rfl rfl rfl rfl ?_ ?_ ?_
    · intro hg380
      refine g_skip rfl rfl rfl ?_
      refine g_skip rfl rfl rfl ?_
      refine g_skip rfl rfl rfl ?_
      refine g_skip rfl rfl rfl ?_
      refine g_skip rfl rfl rfl ?_
      refine g_skip rfl rfl rfl ?_
      refine g_skip rfl rfl rfl ?_
      refine g_skip rfl rfl rfl ?_
      refine g_skip rfl rfl rfl ?_
      refine g_skip rfl rfl rfl ?_
      refine g_skipU rfl rfl ?_
      refine g_skipU rfl rfl ?_
      refine g_skipU rfl rfl ?_
      refine g_skipU rfl rfl ?_
      refine g_skipU rfl rfl ?_
      refine g_skipU rfl rfl ?_
      refine g_skipU rfl rfl ?_
      refine g_skipU rfl rfl ?_
      refine g_skipU rfl rfl ?_
      refine g_skip rfl rfl rfl ?_
      exact eseq_nil ⟨rfl, Sub.set rfl (Sub.set rfl (Sub.set rfl (Sub.set rfl (Sub.set rfl (Sub.set rfl (Sub.set rfl (Sub.set rfl (Sub.set rfl (Sub.set rfl (Sub.set rfl (Sub.set rfl (Sub.set rfl (Sub.set rfl (Sub.set rfl (Sub.set rfl (Sub.set rfl (Sub.set rfl (Sub.set rfl (Sub.set rfl (Sub.bool true rfl hg380))))))))))))))))))))⟩
    · intro hg380 hx380
      clear hx372
      have hT380 := Below.refl (World.heap w378).size w378
      refine g_run rfl ?_; refine q_indexC (k := 0) rfl rfl rfl rfl rfl ?_
      refine g_run rfl ?_; refine q_loadAgg rfl (Blk.cellsAt (hS.blk 0 rfl) 0 2 rfl) rfl rfl ?_
      refine g_run rfl ?_; refine q_move rfl rfl ?_
      refine g_run rfl ?_; refine q_move rfl rfl ?_
      refine g_run rfl ?_; refine q_subW rfl rfl rfl ?_
      obtain ⟨x382, hx382, hx380⟩ := Option.of_bind hx380
      refine g_run rfl ?_; refine q_atS (by infer_instance) rfl f261 rfl hx382 rfl fun b383 o383 hm383 f383 => ?_
      refine g_run rfl ?_; refine q_indexC (k := 0) rfl rfl rfl rfl rfl ?_
      have f384 := Pt2_F0 f383
      have hc385 := Pt_open f384
      refine g_run rfl ?_; refine q_loadAgg rfl hc385 rfl rfl ?_
      refine g_run rfl ?_; refine q_eqlA eqT36 (by kernel_rfl) rfl rfl rfl ?_
      refine g_run rfl ?_; refine q_move rfl rfl ?_
      obtain ⟨x387, hx386, hx380⟩ := Option.of_bind hx380
      refine g_andM 9 hx386 rfl rfl rfl rfl ?_ ?_ ?_
      · intro hg386 hx386
        clear hx380
        have hT386 := Below.refl (World.heap w378).size w378
        refine g_run rfl ?_; refine q_indexC (k := 1) rfl rfl rfl rfl rfl ?_
        refine g_run rfl ?_; refine q_loadAgg rfl (Blk.cellsAt (hS.blk 0 rfl) 2 2 rfl) rfl rfl ?_
        refine g_run rfl ?_; refine q_move rfl rfl ?_
        refine g_run rfl ?_; refine q_move rfl rfl ?_
        refine g_run rfl ?_; refine q_subW rfl rfl rfl ?_
        obtain ⟨x388, hx388, hx386⟩ := Option.of_bind hx386
        refine g_run rfl ?_; refine q_atS (by infer_instance) rfl f261 rfl hx388 rfl fun b389 o389 hm389 f389 => ?_
        refine g_run rfl ?_; refine q_indexC (k := 1) rfl rfl rfl rfl rfl ?_
        have f390 := Pt2_F1 f389
        have hc391 := Pt_open f390
        refine g_run rfl ?_; refine q_loadAgg rfl hc391 rfl rfl ?_
        obtain ⟨r393, hr393, hx386⟩ := Option.of_bind hx386
        refine g_run rfl ?_; refine q_call rfl (ref20_less_w (a0 := (⟨a1.x1.proc, a1.x1.index⟩ : Pt)) (a1 := x388.x1) (Sep.enter (As := []) hS)  hr393) rfl ?_
        rintro _ w392 ⟨R392, rfl, hC392⟩
        have hB392 : Below (World.heap w378).size w378 w392 := hC392.stepB0
        refine ⟨fun _ => .of_below hB392, ?_⟩
        replace f261 := (f261.ext hB392).mono fun k hk _ => hC392.ro0 k hk
        replace f375 := (f375.ext hB392).mono fun k hk _ => hC392.ro0 k hk
        replace f376 := (f376.ext hB392).mono fun k hk _ => hC392.ro0 k hk
        replace f383 := (f383.ext hB392).mono fun k hk _ => hC392.ro0 k hk
        replace f384 := (f384.ext hB392).mono fun k hk _ => hC392.ro0 k hk
        replace f389 := (f389.ext hB392).mono fun k hk _ => hC392.ro0 k hk
        replace f390 := (f390.ext hB392).mono fun k hk _ => hC392.ro0 k hk
        replace hT372 := hT372.trans (Below.mono hB392 hT372.size)
        replace hT380 := hT380.trans (Below.mono hB392 hT380.size)
        replace hT386 := hT386.trans (Below.mono hB392 hT386.size)
        replace hS := Sep.leave (As := []) hS hC392; simp only [List.cons_append, List.nil_append] at hS
        cases hx386
        exact eseq_nil ⟨hT386, Sub.set rfl (Sub.set rfl (Sub.set rfl (Sub.set rfl (Sub.set rfl (Sub.set rfl (Sub.set rfl (Sub.set rfl (Sub.set rfl (Sub.bool true rfl hg386))))))))), rfl⟩
      · intro hg386
        refine g_skip rfl rfl rfl ?_
        refine g_skip rfl rfl rfl ?_
        refine g_skip rfl rfl rfl ?_
        refine g_skip rfl rfl rfl ?_
        refine g_skip rfl rfl rfl ?_
        refine g_skip rfl rfl rfl ?_
        refine g_skip rfl rfl rfl ?_
        refine g_skip rfl rfl rfl ?_
        refine g_skip rfl rfl rfl ?_
        exact eseq_nil ⟨rfl, Sub.set rfl (Sub.set rfl (Sub.set rfl (Sub.set rfl (Sub.set rfl (Sub.set rfl (Sub.set rfl (Sub.set rfl (Sub.set rfl (Sub.bool false rfl hg386)))))))))⟩
      intro wm386 hBm386; clear hx386
      replace hS := hS.below hBm386
      replace f261 := f261.ext hBm386
      replace f375 := f375.ext hBm386
      replace f376 := f376.ext hBm386
      replace f383 := f383.ext hBm386
      replace f384 := f384.ext hBm386
      replace hT372 := hT372.trans (Below.mono hBm386 hT372.size)
      replace hT380 := hT380.trans (Below.mono hBm386 hT380.size)
      cases hx380
      exact eseq_nil ⟨hT380, Sub.set rfl (Sub.set rfl (Sub.set rfl (Sub.set rfl (Sub.set rfl (Sub.set rfl (Sub.set rfl (Sub.set rfl (Sub.set rfl (Sub.set rfl (Sub.set rfl (Sub.bool false rfl hg380))))))))))), rfl⟩
    intro wm380 hBm380; clear hx380
    replace hS := hS.below hBm380
    replace f261 := f261.ext hBm380
    replace f375 := f375.ext hBm380
    replace f376 := f376.ext hBm380
    replace hT372 := hT372.trans (Below.mono hBm380 hT372.size)
    cases hx372
    exact eseq_nil ⟨hT372, Sub.set rfl (Sub.set rfl (Sub.set rfl (Sub.set rfl (Sub.set rfl (Sub.set rfl (Sub.set rfl (Sub.set rfl (Sub.set rfl (Sub.set rfl (Sub.set rfl (Sub.bool true rfl hg372))))))))))), rfl⟩
  · intro hg372
    refine g_skip rfl rfl rfl ?_
    refine g_skip rfl rfl rfl ?_
    refine g_skip rfl rfl rfl ?_
    refine g_skip rfl rfl rfl ?_
    refine g_skip rfl rfl rfl ?_
    refine g_skip rfl rfl rfl ?_
    refine g_skip rfl rfl rfl ?_
    refine g_skip rfl rfl rfl ?_
    refine g_skip rfl rfl rfl ?_
    refine g_skip rfl rfl rfl ?_
    refine g_skipU rfl rfl ?_
    refine g_skipU rfl rfl ?_
    refine g_skipU rfl rfl ?_
    refine g_skipU rfl rfl ?_
    refine g_skipU rfl rfl ?_
    refine g_skipU rfl rfl ?_
    refine g_skipU rfl rfl ?_
    refine g_skipU rfl rfl ?_
    refine g_skipU rfl rfl ?_
    refine g_skipU rfl rfl ?_
    refine g_skipU rfl rfl ?_
    refine g_skipU rfl rfl ?_
    refine g_skipU rfl rfl ?_
    refine g_skipU rfl rfl ?_
    refine g_skipU rfl rfl ?_
    refine g_skipU rfl rfl ?_
    refine g_skipU rfl rfl ?_
    refine g_skipU rfl rfl ?_
    refine g_skipU rfl rfl ?_
    refine g_skipU rfl rfl ?_
    refine g_skip rfl rfl rfl ?_
    exact eseq_nil ⟨rfl, Sub.set rfl (Sub.set rfl (Sub.set rfl (Sub.set rfl (Sub.set rfl (Sub.set rfl (Sub.set rfl (Sub.set rfl (Sub.set rfl (Sub.set rfl (Sub.set rfl (Sub.set rfl (Sub.set rfl (Sub.set rfl (Sub.set rfl (Sub.set rfl (Sub.set rfl (Sub.set rfl (Sub.set rfl (Sub.set rfl (Sub.set rfl (Sub.set rfl (Sub.set rfl (Sub.set rfl (Sub.set rfl (Sub.set rfl (Sub.set rfl (Sub.set rfl (Sub.set rfl (Sub.set rfl (Sub.set rfl (Sub.bool false rfl hg372)))))))))))))))))))))))))))))))⟩
  intro wm372 hBm372; clear hx372
  replace hS := hS.below hBm372
  replace f261 := f261.ext hBm372
  refine eseq_nil ?_
  refine hK349 _ _ ?_
  refine e_cond rfl (fun hc394 => ?_) (fun hc394 => ?_)
  · replace ho204 := (if_pos hc394).symm.trans ho204
    refine e_skip ?_
    refine hK348 _ _ ?_
    refine e_block ?_
    refine e_region_text rfl ?_
    refine q_move rfl rfl ?_
    refine q_subW rfl rfl rfl ?_
    refine q_assign rfl rfl ?_
    refine eseq_nil ?_
    obtain rfl := Option.some.inj ho204
    exact ⟨m204, _, Nat.lt_succ_self _, ⟨(w64 (x262 - 1)), _, ht204, hS, f261, rfl⟩, Sub.cons rfl (Sub.cons rfl (Sub.cons rfl (Sub.nil _)))⟩
  · replace ho204 := (if_neg (not_true hc394)).symm.trans ho204
    refine e_exit ?_
    obtain rfl := Option.some.inj ho204
    obtain rfl := Option.some.inj ht204
    exact hX204_0 x262 _ _ _ h hS f261 (Sub.cons rfl (Sub.cons rfl (Sub.cons rfl (Sub.nil _))))
theorem pattern_Interval_w {F R : Nat → Prop} {w : World} {fuel : Nat} {a0 : Pat} {a1 : Int} {a2 : Int} {v1 : Value} {v2 : Value} {v3 : Value} {r : (Int)} (hS : Sep F R R w w []) (f1 : IsSlice Ty.int w R v1 a0.lens) (f2 : IsSlice (Ty.slice Ty.int) w R v2 a0.ckpts) (f3 : IsSlice arcTy w R v3 a0.arcs) (h : pattern_Interval fuel a0 a1 a2 = some r) :
    Gives Try.prog 131 [.agg #[v1, v2, v3], .int .i64 a1, .int .i64 a2] w fun u w1 => ∃ (R1 : Nat → Prop), u = .int .i64 r ∧ Sep F R R1 w w1 [] := by
  refine fn_of Try.func131 rfl Try.ntmps131 (Nat.le_of_ble_eq_true rfl) ?_
  unfold pattern_Interval at h
  refine e_seq fun K79 hK79 => ?_
  refine e_region_text rfl ?_
  refine q_boxB rfl rfl rfl fun w80 bl80 hg80 hb80 hB80 => ?_
  replace f1 := f1.ext hB80
  replace f2 := f2.ext hB80
  replace f3 := f3.ext hB80
  replace hS := hS.newBlk hB80 hg80 hb80
  refine q_assign rfl rfl ?_
  refine eseq_nil ?_
  refine hK79 _ _ ?_
  refine e_seq fun K82 hK82 => ?_
  refine e_region_text rfl ?_
  refine q_assign rfl rfl ?_
  refine eseq_nil ?_
  refine hK82 _ _ ?_
  refine e_seq fun K83 hK83 => ?_
  refine e_seq fun K84 hK84 => ?_
  refine e_region_text rfl ?_
  refine q_move rfl rfl ?_
  refine q_geq rfl rfl rfl ?_
  refine q_move rfl rfl ?_
  obtain ⟨x88, hx87, h⟩ := Option.of_bind h
  refine g_andM 5 hx87 rfl trivial rfl rfl ?_ ?_ ?_
  · intro hg87 hx87
    clear h
    have hT87 := Below.refl (World.heap w80).size w80
    refine g_run rfl ?_; refine q_move rfl rfl ?_
    refine g_run rfl ?_; refine q_field rfl rfl ?_
    refine g_run rfl ?_; refine q_load rfl (Blk.cell (hS.blk 0 rfl) rfl) rfl ?_
    refine g_run rfl ?_; refine q_lenS rfl f2 rfl ?_
    refine g_run rfl ?_; refine q_lss rfl rfl rfl ?_
    cases hx87
    exact eseq_nil ⟨hT87, Sub.set rfl (Sub.set rfl (Sub.set rfl (Sub.set rfl (Sub.set rfl (Sub.bool true rfl hg87))))), rfl⟩
  · intro hg87
    refine g_skip rfl rfl rfl ?_
    refine g_skip rfl rfl rfl ?_
    refine g_skip rfl rfl rfl ?_
    refine g_skip rfl rfl rfl ?_
    refine g_skip rfl rfl rfl ?_
    exact eseq_nil ⟨rfl, Sub.set rfl (Sub.set rfl (Sub.set rfl (Sub.set rfl (Sub.set rfl (Sub.bool false rfl hg87)))))⟩
  intro wm87 hBm87; clear hx87
  replace hS := hS.below hBm87
  replace f1 := f1.ext hBm87
  replace f2 := f2.ext hBm87
  replace f3 := f3.ext hBm87
  refine eseq_nil ?_
  refine hK84 _ _ ?_
  refine e_cond rfl (fun hc89 => ?_) (fun hc89 => ?_)
  · replace h := (if_pos hc89).symm.trans h
    refine e_seq fun K90 hK90 => ?_
    refine e_region_text rfl ?_
    refine q_field rfl rfl ?_
    refine q_load rfl (Blk.cell (hS.blk 0 rfl) rfl) rfl ?_
    refine q_move rfl rfl ?_
    obtain ⟨x91, hx91, h⟩ := Option.of_bind h
    refine q_atS (by infer_instance) rfl f2 rfl hx91 rfl fun b92 o92 hm92 f92 => ?_
    refine q_loadE rfl f92 rfl (fun v93 f93 => ?_)
    refine q_lenS rfl f93 rfl ?_
    refine q_move rfl rfl ?_
    refine eseq_nil ?_
    refine hK90 _ _ ?_
    refine e_block ?_
    obtain ⟨tl94, ht94, h⟩ := Option.of_bind h
    have hX94_0 : ∀ (x141 : Int) (R139 : Nat → Prop) (w140 : World) (E_ : Env), pattern_Interval_K1 fuel x141 = some r → Sep F R R139 w w140 [] → Sub [(7, .int .i64 x141)] E_ → K83 E_ w140 := by
      intro x141 R139 w140 E_ h hS  hsub
      refine hK83 _ _ (e_sub hsub ?_); clear hsub
      unfold pattern_Interval_K1 at h
      refine e_seq fun K142 hK142 => ?_
      refine e_region_text rfl ?_
      refine q_move rfl rfl ?_
      refine q_assign rfl rfl ?_
      refine eseq_nil ?_
      refine hK142 _ _ ?_
      refine e_ret ?_
      obtain rfl := Option.some.inj h
      exact ⟨_, res1 rfl rfl, _, rfl, hS⟩
    refine e_loop (fun m_ E_ w117 => ∃ (x118 : Int), ∃ (x120 : Int), ∃ (R116 : Nat → Prop), iter (fun s => pattern_Interval_B1 fuel x91 a2 s.1 s.2) m_ (x118, x120) = some tl94 ∧ Sep F R R116 w w117 [] ∧ IsSlice Ty.int w117 R116 v93 x91 ∧ E_ = [(2, .int .i64 a2), (7, .int .i64 x118), (23, v93), (24, .int .i64 (x91.length : Int)), (25, .int .i64 x120)]) _ ⟨_, ⟨0, 0, _, ht94, (hS.pickB [] 1 rfl rfl), f93, rfl⟩, Sub.cons rfl (Sub.cons rfl (Sub.cons rfl (Sub.cons rfl (Sub.cons rfl (Sub.nil _)))))⟩ ?_
    clear ht94 hS
    rintro m94 _ w117 ⟨x118, x120, R116, ht94, hS, f119, rfl⟩
    obtain ⟨m94, rfl, o94, ho94, ht94⟩ := iter_some ht94
    replace ho94 : pattern_Interval_B1 fuel x91 a2 x118 x120 = some o94 := ho94
    unfold pattern_Interval_B1 at ho94
    refine e_seq fun K143 hK143 => ?_
    refine e_region_text rfl ?_
    refine q_lss rfl rfl rfl ?_
    refine eseq_nil ?_
    refine hK143 _ _ ?_
    refine e_seq fun K144 hK144 => ?_
    refine e_cond rfl (fun hc145 => ?_) (fun hc145 => ?_)
    · replace ho94 := (if_pos hc145).symm.trans ho94
      refine e_skip ?_
      refine hK144 _ _ ?_
      refine e_seq fun K146 hK146 => ?_
      refine e_block ?_
      refine e_seq fun K147 hK147 => ?_
      refine e_region_text rfl ?_
      obtain ⟨x148, hx148, ho94⟩ := Option.of_bind ho94
      refine q_atS (by infer_instance) rfl f119 rfl hx148 rfl fun b149 o149 hm149 f149 => ?_
      refine q_load rfl (Elt.intCell f149) rfl ?_
      refine q_assign rfl rfl ?_
      refine eseq_nil ?_
      refine hK147 _ _ ?_
      refine e_seq fun K150 hK150 => ?_
      refine e_region_text rfl ?_
      refine q_move rfl rfl ?_
      refine q_move rfl rfl ?_
      refine q_lss rfl rfl rfl ?_
      refine eseq_nil ?_
      refine hK150 _ _ ?_
      refine e_cond rfl (fun hc151 => ?_) (fun hc151 => ?_)
      · replace ho94 := (if_pos hc151).symm.trans ho94
        refine e_region_text rfl ?_
        refine q_move rfl rfl ?_
        refine q_addW rfl rfl rfl ?_
        refine q_assign rfl rfl ?_
        refine eseq_nil ?_
        refine hK146 _ _ ?_
        refine e_region_text rfl ?_
        refine q_addW rfl rfl rfl ?_
        refine q_move rfl rfl ?_
        refine eseq_nil ?_
        obtain rfl := Option.some.inj ho94
        exact ⟨m94, _, Nat.lt_succ_self _, ⟨(w64 (x118 + 1)), (w64 (x120 + 1)), _, ht94, hS, f119, rfl⟩, Sub.cons rfl (Sub.cons rfl (Sub.cons rfl (Sub.cons rfl (Sub.cons rfl (Sub.nil _)))))⟩
      · replace ho94 := (if_neg (not_true hc151)).symm.trans ho94
        refine e_skip ?_
        refine hK146 _ _ ?_
        refine e_region_text rfl ?_
        refine q_addW rfl rfl rfl ?_
        refine q_move rfl rfl ?_
        refine eseq_nil ?_
        obtain rfl := Option.some.inj ho94
        exact ⟨m94, _, Nat.lt_succ_self _, ⟨x118, (w64 (x120 + 1)), _, ht94, hS, f119, rfl⟩, Sub.cons rfl (Sub.cons rfl (Sub.cons rfl (Sub.cons rfl (Sub.cons rfl (Sub.nil _)))))⟩
    · replace ho94 := (if_neg (not_true hc145)).symm.trans ho94
      refine e_exit ?_
      obtain rfl := Option.some.inj ho94
      obtain rfl := Option.some.inj ht94
      exact hX94_0 x118 _ _ _ h hS  (Sub.cons rfl (Sub.nil _))
  · replace h := (if_neg (not_true hc89)).symm.trans h
    refine e_skip ?_
    refine hK83 _ _ ?_
    refine e_seq fun K152 hK152 => ?_
    refine e_region_text rfl ?_
    refine q_move rfl rfl ?_
    refine q_assign rfl rfl ?_
    refine eseq_nil ?_
    refine hK152 _ _ ?_
    refine e_ret ?_
    obtain rfl := Option.some.inj h
    exact ⟨_, res1 rfl rfl, _, rfl, (hS.pickB [] 1 rfl rfl)⟩
theorem ref16_Interval_w {F R : Nat → Prop} {w : World} {fuel : Nat} {a0 : Pat} {a1 : Int} {a2 : Int} {v1 : Value} {v2 : Value} {v3 : Value} {r : (Int)} (hS : Sep F R R w w []) (f1 : IsSlice Ty.int w R v1 a0.lens) (f2 : IsSlice (Ty.slice Ty.int) w R v2 a0.ckpts) (f3 : IsSlice arcTy w R v3 a0.arcs) (h : ref16_Interval fuel a0 a1 a2 = some r) :
    Gives Try.prog 61 [.agg #[v1, v2, v3], .int .i64 a1, .int .i64 a2] w fun u w1 => ∃ (R1 : Nat → Prop), u = .int .i64 r ∧ Sep F R R1 w w1 [] := by
  refine fn_of Try.func61 rfl Try.ntmps61 (Nat.le_of_ble_eq_true rfl) ?_
  unfold ref16_Interval at h
  refine e_seq fun K96 hK96 => ?_
  refine e_region_text rfl ?_
  refine q_boxB rfl rfl rfl fun w97 bl97 hg97 hb97 hB97 => ?_
  replace f1 := f1.ext hB97
  replace f2 := f2.ext hB97
  replace f3 := f3.ext hB97
  replace hS := hS.newBlk hB97 hg97 hb97
  refine q_assign rfl rfl ?_
  refine eseq_nil ?_
  refine hK96 _ _ ?_
  refine e_seq fun K99 hK99 => ?_
  refine e_region_text rfl ?_
  refine q_assign rfl rfl ?_
  refine eseq_nil ?_
  refine hK99 _ _ ?_
  refine e_seq fun K100 hK100 => ?_
  refine e_seq fun K101 hK101 => ?_
  refine e_region_text rfl ?_
  refine q_assign rfl rfl ?_
  refine eseq_nil ?_
  refine hK101 _ _ ?_
  refine e_block ?_
  obtain ⟨tl102, ht102, h⟩ := Option.of_bind h
  have hX102_0 : ∀ (x171 : Int) (R169 : Nat → Prop) (w170 : World) (E_ : Env), ref16_Interval_K1 fuel x171 = some r → Sep F R R169 w w170 [] → Sub [(7, .int .i64 x171)] E_ → K100 E_ w170 := by
    intro x171 R169 w170 E_ h hS  hsub
    refine hK100 _ _ (e_sub hsub ?_); clear hsub
    unfold ref16_Interval_K1 at h
    refine e_seq fun K172 hK172 => ?_
    refine e_region_text rfl ?_
    refine q_move rfl rfl ?_
    refine q_assign rfl rfl ?_
    refine eseq_nil ?_
    refine hK172 _ _ ?_
    refine e_ret ?_
    obtain rfl := Option.some.inj h
    exact ⟨_, res1 rfl rfl, _, rfl, hS⟩
  refine e_loop (fun m_ E_ w136 => ∃ (x140 : Int), ∃ (x141 : Int), ∃ (R135 : Nat → Prop), iter (fun s => ref16_Interval_B1 fuel a0 a1 a2 s.1 s.2) m_ (x140, x141) = some tl102 ∧ Sep F R R135 w w136 [HP.blk bl97 [v1, v2, v3] 28] ∧ IsSlice Ty.int w136 R135 v1 a0.lens ∧ IsSlice (Ty.slice Ty.int) w136 R135 v2 a0.ckpts ∧ IsSlice arcTy w136 R135 v3 a0.arcs ∧ E_ = [(1, .int .i64 a1), (2, .int .i64 a2), (3, .pointer (some ⟨bl97, 0, none⟩)), (7, .int .i64 x140), (8, .int .i64 x141)]) _ ⟨_, ⟨0, 0, _, ht102, hS, f1, f2, f3, rfl⟩, Sub.cons rfl (Sub.cons rfl (Sub.cons rfl (Sub.cons rfl (Sub.cons rfl (Sub.nil _)))))⟩ ?_
  clear ht102 hS
  rintro m102 _ w136 ⟨x140, x141, R135, ht102, hS, f137, f138, f139, rfl⟩
  obtain ⟨m102, rfl, o102, ho102, ht102⟩ := iter_some ht102
  replace ho102 : ref16_Interval_B1 fuel a0 a1 a2 x140 x141 = some o102 := ho102
  unfold ref16_Interval_B1 at ho102
  refine e_seq fun K173 hK173 => ?_
  refine e_seq fun K174 hK174 => ?_
  refine e_region_text rfl ?_
  refine q_move rfl rfl ?_
  refine q_field rfl rfl ?_
  refine q_load rfl (Blk.cell (hS.blk 0 rfl) rfl) rfl ?_
  refine q_move rfl rfl ?_
  obtain ⟨x175, hx175, ho102⟩ := Option.of_bind ho102
  refine q_atS (by infer_instance) rfl f138 rfl hx175 rfl fun b176 o176 hm176 f176 => ?_
  refine q_loadE rfl f176 rfl (fun v177 f177 => ?_)
  refine q_lenS rfl f177 rfl ?_
  refine q_lss rfl rfl rfl ?_
  refine eseq_nil ?_
  refine hK174 _ _ ?_
  refine e_cond rfl (fun hc178 => ?_) (fun hc178 => ?_)
  · replace ho102 := (if_pos hc178).symm.trans ho102
    refine e_skip ?_
    refine hK173 _ _ ?_
    refine e_seq fun K179 hK179 => ?_
    refine e_block ?_
    refine e_seq fun K180 hK180 => ?_
    refine e_region_text rfl ?_
    refine q_field rfl rfl ?_
    refine q_load rfl (Blk.cell (hS.blk 0 rfl) rfl) rfl ?_
    refine q_move rfl rfl ?_
    obtain ⟨x181, hx181, ho102⟩ := Option.of_bind ho102
    refine q_atS (by infer_instance) rfl f138 rfl hx181 rfl fun b182 o182 hm182 f182 => ?_
    refine q_loadE rfl f182 rfl (fun v183 f183 => ?_)
    refine q_move rfl rfl ?_
    obtain ⟨x184, hx184, ho102⟩ := Option.of_bind ho102
    refine q_atS (by infer_instance) rfl f183 rfl hx184 rfl fun b185 o185 hm185 f185 => ?_
    refine q_load rfl (Elt.intCell f185) rfl ?_
    refine q_move rfl rfl ?_
    refine q_lss rfl rfl rfl ?_
    refine eseq_nil ?_
    refine hK180 _ _ ?_
    refine e_cond rfl (fun hc186 => ?_) (fun hc186 => ?_)
    · replace ho102 := (if_pos hc186).symm.trans ho102
      refine e_region_text rfl ?_
      refine q_move rfl rfl ?_
      refine q_addW rfl rfl rfl ?_
      refine q_assign rfl rfl ?_
      refine eseq_nil ?_
      refine hK179 _ _ ?_
      refine e_region_text rfl ?_
      refine q_move rfl rfl ?_
      refine q_addW rfl rfl rfl ?_
      refine q_assign rfl rfl ?_
      refine eseq_nil ?_
      obtain rfl := Option.some.inj ho102
      exact ⟨m102, _, Nat.lt_succ_self _, ⟨(w64 (x140 + 1)), (w64 (x141 + 1)), _, ht102, hS, f137, f138, f139, rfl⟩, Sub.cons rfl (Sub.cons rfl (Sub.cons rfl (Sub.cons rfl (Sub.cons rfl (Sub.nil _)))))⟩
    · replace ho102 := (if_neg (not_true hc186)).symm.trans ho102
      refine e_skip ?_
      refine hK179 _ _ ?_
      refine e_region_text rfl ?_
      refine q_move rfl rfl ?_
      refine q_addW rfl rfl rfl ?_
      refine q_assign rfl rfl ?_
      refine eseq_nil ?_
      obtain rfl := Option.some.inj ho102
      exact ⟨m102, _, Nat.lt_succ_self _, ⟨x140, (w64 (x141 + 1)), _, ht102, hS, f137, f138, f139, rfl⟩, Sub.cons rfl (Sub.cons rfl (Sub.cons rfl (Sub.cons rfl (Sub.cons rfl (Sub.nil _)))))⟩
  · replace ho102 := (if_neg (not_true hc178)).symm.trans ho102
    refine e_exit ?_
    obtain rfl := Option.some.inj ho102
    obtain rfl := Option.some.inj ht102
    exact hX102_0 x140 _ _ _ h (hS.pickB [] 1 rfl rfl)  (Sub.cons rfl (Sub.nil _))
theorem ref20_Edges_w {F R : Nat → Prop} {w : World} {fuel : Nat} {a0 : Pat} {v1 : Value} {v2 : Value} {v3 : Value} {r : ((List Pt2))} (hS : Sep F R R w w []) (f1 : IsSlice Ty.int w R v1 a0.lens) (f2 : IsSlice (Ty.slice Ty.int) w R v2 a0.ckpts) (f3 : IsSlice arcTy w R v3 a0.arcs) (h : ref20_Edges fuel a0 = some r) :
    Gives Try.prog 102 [.agg #[v1, v2, v3]] w fun u w1 => ∃ (v419 : Value), ∃ (R1 : Nat → Prop), u = v419 ∧ Sep F R R1 w w1 [] ∧ IsSlice pt2Ty w1 R1 v419 r := by
  refine fn_of Try.func102 rfl Try.ntmps102 (Nat.le_of_ble_eq_true rfl) ?_
  unfold ref20_Edges at h
  refine e_seq fun K420 hK420 => ?_
  refine e_region_text rfl ?_
  refine q_boxB rfl rfl rfl fun w421 bl421 hg421 hb421 hB421 => ?_
  replace f1 := f1.ext hB421
  replace f2 := f2.ext hB421
  replace f3 := f3.ext hB421
  replace hS := hS.newBlk hB421 hg421 hb421
  refine q_assign rfl rfl ?_
  refine eseq_nil ?_
  refine hK420 _ _ ?_
  refine e_seq fun K423 hK423 => ?_
  refine e_region_text rfl ?_
  refine q_assign rfl rfl ?_
  refine eseq_nil ?_
  refine hK423 _ _ ?_
  refine e_seq fun K424 hK424 => ?_
  refine e_seq fun K425 hK425 => ?_
  refine e_region_text rfl ?_
  refine q_assign rfl rfl ?_
  refine eseq_nil ?_
  refine hK425 _ _ ?_
  refine e_block ?_
  obtain ⟨tl426, ht426, h⟩ := Option.of_bind h
  have hX426_0 : ∀ (x618 : (List Pt2)) (v617 : Value) (R612 : Nat → Prop) (w613 : World) (E_ : Env), ref20_Edges_K1 fuel a0 x618 = some r → Sep F R R612 w w613 [HP.blk bl421 [v1, v2, v3] 28] → IsSlice Ty.int w613 R612 v1 a0.lens → IsSlice (Ty.slice Ty.int) w613 R612 v2 a0.ckpts → IsSlice arcTy w613 R612 v3 a0.arcs → IsSlice pt2Ty w613 R612 v617 x618 → Sub [(1, .pointer (some ⟨bl421, 0, none⟩)), (3, v617)] E_ → K424 E_ w613 := by
    intro x618 v617 R612 w613 E_ h hS f614 f615 f616 f619 hsub
    refine hK424 _ _ (e_sub hsub ?_); clear hsub
    unfold ref20_Edges_K1 at h
    refine e_seq fun K620 hK620 => ?_
    refine e_seq fun K621 hK621 => ?_
    refine e_region_text rfl ?_
    refine q_assign rfl rfl ?_
    refine eseq_nil ?_
    refine hK621 _ _ ?_
    refine e_block ?_
    obtain ⟨tl622, ht622, h⟩ := Option.of_bind h
    have hX622_4 : ∀ (x727 : (List Pt2)) (v726 : Value) (R724 : Nat → Prop) (w725 : World) (E_ : Env), ref20_Edges_K2 fuel x727 = some r → Sep F R R724 w w725 [] → IsSlice pt2Ty w725 R724 v726 x727 → Sub [(3, v726)] E_ → K620 E_ w725 := by
      intro x727 v726 R724 w725 E_ h hS f728 hsub
      refine hK620 _ _ (e_sub hsub ?_); clear hsub
      unfold ref20_Edges_K2 at h
      refine e_seq fun K729 hK729 => ?_
      refine e_region_text rfl ?_
      refine q_move rfl rfl ?_
      refine q_assign rfl rfl ?_
      refine eseq_nil ?_
      refine hK729 _ _ ?_
      refine e_ret ?_
      obtain rfl := Option.some.inj h
      exact ⟨_, res1 rfl rfl, v726, _, rfl, hS, f728⟩
    refine e_loop (fun m_ E_ w673 => ∃ (x678 : (List Pt2)), ∃ (x680 : Int), ∃ (v677 : Value), ∃ (R672 : Nat → Prop), iter (fun s => ref20_Edges_B1 fuel a0 s.1 s.2) m_ (x678, x680) = some tl622 ∧ Sep F R R672 w w673 [HP.blk bl421 [v1, v2, v3] 28] ∧ IsSlice Ty.int w673 R672 v1 a0.lens ∧ IsSlice (Ty.slice Ty.int) w673 R672 v2 a0.ckpts ∧ IsSlice arcTy w673 R672 v3 a0.arcs ∧ IsSlice pt2Ty w673 R672 v677 x678 ∧ E_ = [(1, .pointer (some ⟨bl421, 0, none⟩)), (3, v677), (6, .int .i64 x680)]) _ ⟨_, ⟨x618, 0, v617, _, ht622, hS, f614, f615, f616, f619, rfl⟩, Sub.cons rfl (Sub.cons rfl (Sub.cons rfl (Sub.nil _)))⟩ ?_
    clear ht622 hS
    rintro m622 _ w673 ⟨x678, x680, v677, R672, ht622, hS, f674, f675, f676, f679, rfl⟩
    obtain ⟨m622, rfl, o622, ho622, ht622⟩ := iter_some ht622
    replace ho622 : ref20_Edges_B1 fuel a0 x678 x680 = some o622 := ho622
    unfold ref20_Edges_B1 at ho622
    refine e_seq fun K730 hK730 => ?_
    refine e_seq fun K731 hK731 => ?_
    refine e_region_text rfl ?_
    refine q_move rfl rfl ?_
    refine q_field rfl rfl ?_
    refine q_load rfl (Blk.cell (hS.blk 0 rfl) rfl) rfl ?_
    refine q_lenS rfl f676 rfl ?_
    refine q_lss rfl rfl rfl ?_
    refine eseq_nil ?_
    refine hK731 _ _ ?_
    refine e_cond rfl (fun hc732 => ?_) (fun hc732 => ?_)
    · replace ho622 := (if_pos hc732).symm.trans ho622
      refine e_skip ?_
      refine hK730 _ _ ?_
      refine e_seq fun K733 hK733 => ?_
      refine e_block ?_
      refine e_seq fun K734 hK734 => ?_
      refine e_region_text rfl ?_
      refine q_field rfl rfl ?_
      refine q_load rfl (Blk.cell (hS.blk 0 rfl) rfl) rfl ?_
      refine q_move rfl rfl ?_
      obtain ⟨x735, hx735, ho622⟩ := Option.of_bind ho622
      refine q_atS (by infer_instance) rfl f676 rfl hx735 rfl fun b736 o736 hm736 f736 => ?_
      have hc737 := Arc_open f736
      refine q_loadAgg rfl hc737 rfl rfl ?_
      refine q_allocB rfl fun w738 bl738 hg738 hb738 hB738 => ?_
      replace f674 := f674.ext hB738
      replace f675 := f675.ext hB738
      replace f676 := f676.ext hB738
      replace f679 := f679.ext hB738
      replace hS := hS.newBlk hB738 hg738 hb738
      refine q_storeAgg rfl rfl (hS.blk 0 rfl) rfl (Nat.le_of_ble_eq_true rfl) (all_cons rfl (all_cons rfl (all_cons rfl (all_cons rfl (all_nil))))) rfl rfl fun w740 hb740 hO740 => ?_
      simp only [setN, List.set, List.take, List.drop] at hb740
      have hk740 := hS.keptBlk 0 rfl hO740
      replace f674 := f674.kept hk740
      replace f675 := f675.kept hk740
      replace f676 := f676.kept hk740
      replace f679 := f679.kept hk740
      replace hS := hS.setBlk 0 rfl hb740 hO740; simp only [List.set] at hS
      refine eseq_nil ?_
      refine hK734 _ _ ?_
      refine e_seq fun K741 hK741 => ?_
      refine e_region_text rfl ?_
      refine q_field rfl rfl ?_
      refine q_load rfl (Blk.cell (hS.blk 0 rfl) rfl) rfl ?_
      refine q_gtr rfl rfl rfl ?_
      refine eseq_nil ?_
      refine hK741 _ _ ?_
      refine e_cond rfl (fun hc742 => ?_) (fun hc742 => ?_)
      · replace ho622 := (if_pos hc742).symm.trans ho622
        refine e_region_draw mixed (fun _ => False) [0, 0, 2, 0, 0, 16, 0, 64, 248, 510, 0, 1024, 0, 0, 8192, 0, 32768, 127480, 261624, 524286, 1048575, 2097151] [8, 17] [0, 1, 2, 3, 4, 5, 6, 7, 10, 11, 12, 13, 14, 15, 16, 8, 9, 17, 18, 19, 20, 21] (by kernel_rfl) ?_
        refine q_move rfl rfl ?_
        refine q_field rfl rfl ?_
        refine q_load rfl (Blk.cell (hS.blk 0 rfl) rfl) rfl ?_
        refine q_loadAgg rfl (Blk.cellsAt (hS.blk 1 rfl) 0 3 rfl) rfl rfl ?_
        refine q_field rfl rfl ?_
        refine q_load rfl (Blk.cell (hS.blk 0 rfl) rfl) rfl ?_
        refine q_field rfl rfl ?_
        refine q_load rfl (Blk.cell (hS.blk 0 rfl) rfl) rfl ?_
        refine q_field rfl rfl ?_
        refine q_load rfl (Blk.cell (hS.blk 0 rfl) rfl) rfl ?_
        refine q_loadAgg rfl (Blk.cellsAt (hS.blk 1 rfl) 0 3 rfl) rfl rfl ?_
        refine q_field rfl rfl ?_
        refine q_load rfl (Blk.cell (hS.blk 0 rfl) rfl) rfl ?_
        refine q_field rfl rfl ?_
        refine q_load rfl (Blk.cell (hS.blk 0 rfl) rfl) rfl ?_
        obtain ⟨r751, hr751, ho622⟩ := Option.of_bind ho622
        refine q_call rfl (ref16_Interval_w (a0 := (⟨a0.lens, a0.ckpts, a0.arcs⟩ : Pat)) (Sep.enter (As := []) hS) f674 f675 f676 hr751) rfl ?_
        rintro _ w750 ⟨R750, rfl, hC750⟩
        have hB750 : Below (World.heap w740).size w740 w750 := hC750.stepB0
        refine ⟨fun _ => .of_below hB750, ?_⟩
        replace f674 := (f674.ext hB750).mono fun k hk _ => hC750.ro0 k hk
        replace f675 := (f675.ext hB750).mono fun k hk _ => hC750.ro0 k hk
        replace f676 := (f676.ext hB750).mono fun k hk _ => hC750.ro0 k hk
        replace f679 := (f679.ext hB750).mono fun k hk _ => hC750.ro0 k hk
        replace hS := Sep.leave (As := []) hS hC750; simp only [List.cons_append, List.nil_append] at hS
        refine q_build (Parts.cons rfl rfl (Parts.cons rfl rfl Parts.nil)) rfl rfl ?_
        obtain ⟨r753, hr753, ho622⟩ := Option.of_bind ho622
        refine q_call rfl (ref16_Interval_w (a0 := (⟨a0.lens, a0.ckpts, a0.arcs⟩ : Pat)) (Sep.enter (As := []) hS) f674 f675 f676 hr753) rfl ?_
        rintro _ w752 ⟨R752, rfl, hC752⟩
        have hB752 : Below (World.heap w750).size w750 w752 := hC752.stepB0
        refine ⟨fun _ => .of_below hB752, ?_⟩
        replace f674 := (f674.ext hB752).mono fun k hk _ => hC752.ro0 k hk
        replace f675 := (f675.ext hB752).mono fun k hk _ => hC752.ro0 k hk
        replace f676 := (f676.ext hB752).mono fun k hk _ => hC752.ro0 k hk
        replace f679 := (f679.ext hB752).mono fun k hk _ => hC752.ro0 k hk
        replace hS := Sep.leave (As := []) hS hC752; simp only [List.cons_append, List.nil_append] at hS
        refine q_build (Parts.cons rfl rfl (Parts.cons rfl rfl Parts.nil)) rfl rfl ?_
        refine q_buildA (Parts.cons rfl rfl (Parts.cons rfl rfl Parts.nil)) rfl rfl ?_
        obtain ⟨r755, hr755, ho622⟩ := Option.of_bind ho622
        refine q_call rfl (ref20_insert_w (a1 := (⟨(⟨x735.fr, r751⟩ : Pt), (⟨x735.to, r753⟩ : Pt)⟩ : Pt2)) (Sep.enter (As := []) hS) f679 hr755) rfl ?_
        rintro v756 w754 ⟨_, R754, rfl, hC754, f756⟩
        have hB754 : Below (World.heap w752).size w752 w754 := hC754.stepB0
        refine ⟨fun _ => .of_below hB754, ?_⟩
        replace f674 := (f674.ext hB754).mono fun k hk _ => hC754.ro0 k hk
        replace f675 := (f675.ext hB754).mono fun k hk _ => hC754.ro0 k hk
        replace f676 := (f676.ext hB754).mono fun k hk _ => hC754.ro0 k hk
        replace f679 := (f679.ext hB754).mono fun k hk _ => hC754.ro0 k hk
        replace hS := Sep.leave (As := []) hS hC754; simp only [List.cons_append, List.nil_append] at hS
        refine q_assign rfl rfl ?_
        refine eseq_nil ?_
        refine hK733 _ _ ?_
        refine e_region_text rfl ?_
        refine q_move rfl rfl ?_
        refine q_addW rfl rfl rfl ?_
        refine q_assign rfl rfl ?_
        refine eseq_nil ?_
        obtain rfl := Option.some.inj ho622
        exact ⟨m622, _, Nat.lt_succ_self _, ⟨r755, (w64 (x680 + 1)), v756, _, ht622, (hS.pickB [1] 2 rfl rfl), f674, f675, f676, f756, rfl⟩, Sub.cons rfl (Sub.cons rfl (Sub.cons rfl (Sub.nil _)))⟩
      · replace ho622 := (if_neg (not_true hc742)).symm.trans ho622
        refine e_skip ?_
        refine hK733 _ _ ?_
        refine e_region_text rfl ?_
        refine q_move rfl rfl ?_
        refine q_addW rfl rfl rfl ?_
        refine q_assign rfl rfl ?_
        refine eseq_nil ?_
        obtain rfl := Option.some.inj ho622
        exact ⟨m622, _, Nat.lt_succ_self _, ⟨x678, (w64 (x680 + 1)), v677, _, ht622, (hS.pickB [1] 2 rfl rfl), f674, f675, f676, f679, rfl⟩, Sub.cons rfl (Sub.cons rfl (Sub.cons rfl (Sub.nil _)))⟩
    · replace ho622 := (if_neg (not_true hc732)).symm.trans ho622
      refine e_exit ?_
      obtain rfl := Option.some.inj ho622
      obtain rfl := Option.some.inj ht622
      exact hX622_4 x678 v677 _ _ _ h (hS.pickB [] 1 rfl rfl) f679 (Sub.cons rfl (Sub.nil _))
  refine e_loop (fun m_ E_ w518 => ∃ (x523 : (List Pt2)), ∃ (x525 : Int), ∃ (v522 : Value), ∃ (R517 : Nat → Prop), iter (fun s => ref20_Edges_B2 fuel a0 s.1 s.2) m_ (x523, x525) = some tl426 ∧ Sep F R R517 w w518 [HP.blk bl421 [v1, v2, v3] 28] ∧ IsSlice Ty.int w518 R517 v1 a0.lens ∧ IsSlice (Ty.slice Ty.int) w518 R517 v2 a0.ckpts ∧ IsSlice arcTy w518 R517 v3 a0.arcs ∧ IsSlice pt2Ty w518 R517 v522 x523 ∧ E_ = [(1, .pointer (some ⟨bl421, 0, none⟩)), (3, v522), (4, .int .i64 x525)]) _ ⟨_, ⟨([] : List Pt2), 0, (.slice none 0 0), _, ht426, hS, f1, f2, f3, (IsSlice.nil _ _ _), rfl⟩, Sub.cons rfl (Sub.cons rfl (Sub.cons rfl (Sub.nil _)))⟩ ?_
  clear ht426 hS
  rintro m426 _ w518 ⟨x523, x525, v522, R517, ht426, hS, f519, f520, f521, f524, rfl⟩
  obtain ⟨m426, rfl, o426, ho426, ht426⟩ := iter_some ht426
  replace ho426 : ref20_Edges_B2 fuel a0 x523 x525 = some o426 := ho426
  unfold ref20_Edges_B2 at ho426
  refine e_seq fun K757 hK757 => ?_
  refine e_seq fun K758 hK758 => ?_
  refine e_region_text rfl ?_
  refine q_move rfl rfl ?_
  refine q_field rfl rfl ?_
  refine q_load rfl (Blk.cell (hS.blk 0 rfl) rfl) rfl ?_
  refine q_lenS rfl f520 rfl ?_
  refine q_lss rfl rfl rfl ?_
  refine eseq_nil ?_
  refine hK758 _ _ ?_
  refine e_cond rfl (fun hc759 => ?_) (fun hc759 => ?_)
  · replace ho426 := (if_pos hc759).symm.trans ho426
    refine e_skip ?_
    refine hK757 _ _ ?_
    refine e_seq fun K760 hK760 => ?_
    refine e_block ?_
    refine e_seq fun K761 hK761 => ?_
    refine e_region_text rfl ?_
    refine q_assign rfl rfl ?_
    refine eseq_nil ?_
    refine hK761 _ _ ?_
    refine e_block ?_
    obtain ⟨tl762, ht762, ho426⟩ := Option.of_bind ho426
    have hX762_2 : ∀ (x822 : (List Pt2)) (v821 : Value) (R816 : Nat → Prop) (w817 : World) (E_ : Env), ref20_Edges_K3 fuel x525 x822 = some o426 → Sep F R R816 w w817 [HP.blk bl421 [v1, v2, v3] 28] → IsSlice Ty.int w817 R816 v1 a0.lens → IsSlice (Ty.slice Ty.int) w817 R816 v2 a0.ckpts → IsSlice arcTy w817 R816 v3 a0.arcs → IsSlice pt2Ty w817 R816 v821 x822 → Sub [(1, .pointer (some ⟨bl421, 0, none⟩)), (3, v821), (4, .int .i64 x525)] E_ → K760 E_ w817 := by
      intro x822 v821 R816 w817 E_ ho426 hS f818 f819 f820 f823 hsub
      refine hK760 _ _ (e_sub hsub ?_); clear hsub
      unfold ref20_Edges_K3 at ho426
      refine e_region_text rfl ?_
      refine q_move rfl rfl ?_
      refine q_addW rfl rfl rfl ?_
      refine q_assign rfl rfl ?_
      refine eseq_nil ?_
      obtain rfl := Option.some.inj ho426
      exact ⟨m426, _, Nat.lt_succ_self _, ⟨x822, (w64 (x525 + 1)), v821, _, ht426, hS, f818, f819, f820, f823, rfl⟩, Sub.cons rfl (Sub.cons rfl (Sub.cons rfl (Sub.nil _)))⟩
    refine e_loop (fun m_ E_ w789 => ∃ (x794 : (List Pt2)), ∃ (x796 : Int), ∃ (v793 : Value), ∃ (R788 : Nat → Prop), iter (fun s => ref20_Edges_B3 fuel a0 x525 s.1 s.2) m_ (x794, x796) = some tl762 ∧ Sep F R R788 w w789 [HP.blk bl421 [v1, v2, v3] 28] ∧ IsSlice Ty.int w789 R788 v1 a0.lens ∧ IsSlice (Ty.slice Ty.int) w789 R788 v2 a0.ckpts ∧ IsSlice arcTy w789 R788 v3 a0.arcs ∧ IsSlice pt2Ty w789 R788 v793 x794 ∧ E_ = [(1, .pointer (some ⟨bl421, 0, none⟩)), (3, v793), (4, .int .i64 x525), (5, .int .i64 x796)]) _ ⟨_, ⟨x523, 0, v522, _, ht762, hS, f519, f520, f521, f524, rfl⟩, Sub.cons rfl (Sub.cons rfl (Sub.cons rfl (Sub.cons rfl (Sub.nil _))))⟩ ?_
    clear ht762 hS
    rintro m762 _ w789 ⟨x794, x796, v793, R788, ht762, hS, f790, f791, f792, f795, rfl⟩
    obtain ⟨m762, rfl, o762, ho762, ht762⟩ := iter_some ht762
    replace ho762 : ref20_Edges_B3 fuel a0 x525 x794 x796 = some o762 := ho762
    unfold ref20_Edges_B3 at ho762
    refine e_seq fun K824 hK824 => ?_
    refine e_seq fun K825 hK825 => ?_
    refine e_region_text rfl ?_
    refine q_move rfl rfl ?_
    refine q_field rfl rfl ?_
    refine q_load rfl (Blk.cell (hS.blk 0 rfl) rfl) rfl ?_
    refine q_move rfl rfl ?_
    obtain ⟨x826, hx826, ho762⟩ := Option.of_bind ho762
    refine q_atS (by infer_instance) rfl f791 rfl hx826 rfl fun b827 o827 hm827 f827 => ?_
    refine q_loadE rfl f827 rfl (fun v828 f828 => ?_)
    refine q_lenS rfl f828 rfl ?_
    refine q_lss rfl rfl rfl ?_
    refine eseq_nil ?_
    refine hK825 _ _ ?_
    refine e_cond rfl (fun hc829 => ?_) (fun hc829 => ?_)
    · replace ho762 := (if_pos hc829).symm.trans ho762
      refine e_skip ?_
      refine hK824 _ _ ?_
      refine e_seq fun K830 hK830 => ?_
      refine e_block ?_
      refine e_region_text rfl ?_
      refine q_move rfl rfl ?_
      refine q_move rfl rfl ?_
      refine q_move rfl rfl ?_
      refine q_build (Parts.cons rfl rfl (Parts.cons rfl rfl Parts.nil)) rfl rfl ?_
      refine q_move rfl rfl ?_
      refine q_move rfl rfl ?_
      refine q_addW rfl rfl rfl ?_
      refine q_build (Parts.cons rfl rfl (Parts.cons rfl rfl Parts.nil)) rfl rfl ?_
      refine q_buildA (Parts.cons rfl rfl (Parts.cons rfl rfl Parts.nil)) rfl rfl ?_
      obtain ⟨r832, hr832, ho762⟩ := Option.of_bind ho762
      refine q_call rfl (ref20_insert_w (a1 := (⟨(⟨x525, x796⟩ : Pt), (⟨x525, w64 (x796 + 1)⟩ : Pt)⟩ : Pt2)) (Sep.enter (As := []) hS) f795 hr832) rfl ?_
      rintro v833 w831 ⟨_, R831, rfl, hC831, f833⟩
      have hB831 : Below (World.heap w789).size w789 w831 := hC831.stepB0
      refine ⟨fun _ => .of_below hB831, ?_⟩
      replace f790 := (f790.ext hB831).mono fun k hk _ => hC831.ro0 k hk
      replace f791 := (f791.ext hB831).mono fun k hk _ => hC831.ro0 k hk
      replace f792 := (f792.ext hB831).mono fun k hk _ => hC831.ro0 k hk
      replace f795 := (f795.ext hB831).mono fun k hk _ => hC831.ro0 k hk
      replace hS := Sep.leave (As := []) hS hC831; simp only [List.cons_append, List.nil_append] at hS
      refine q_assign rfl rfl ?_
      refine eseq_nil ?_
      refine hK830 _ _ ?_
      refine e_region_text rfl ?_
      refine q_move rfl rfl ?_
      refine q_addW rfl rfl rfl ?_
      refine q_assign rfl rfl ?_
      refine eseq_nil ?_
      obtain rfl := Option.some.inj ho762
      exact ⟨m762, _, Nat.lt_succ_self _, ⟨r832, (w64 (x796 + 1)), v833, _, ht762, hS, f790, f791, f792, f833, rfl⟩, Sub.cons rfl (Sub.cons rfl (Sub.cons rfl (Sub.cons rfl (Sub.nil _))))⟩
    · replace ho762 := (if_neg (not_true hc829)).symm.trans ho762
      refine e_exit ?_
      obtain rfl := Option.some.inj ho762
      obtain rfl := Option.some.inj ht762
      exact hX762_2 x794 v793 _ _ _ ho426 hS f790 f791 f792 f795 (Sub.cons rfl (Sub.cons rfl (Sub.cons rfl (Sub.nil _))))
  · replace ho426 := (if_neg (not_true hc759)).symm.trans ho426
    refine e_exit ?_
    obtain rfl := Option.some.inj ho426
    obtain rfl := Option.some.inj ht426
    exact hX426_0 x523 v522 _ _ _ h hS f519 f520 f521 f524 (Sub.cons rfl (Sub.cons rfl (Sub.nil _)))
theorem depend_Index_w {F R : Nat → Prop} {w : World} {fuel : Nat} {a0 : Pat} {a1 : Int} {a2 : Int} {v1 : Value} {v2 : Value} {v3 : Value} {r : (Int)} (hS : Sep F R R w w []) (f1 : IsSlice Ty.int w R v1 a0.lens) (f2 : IsSlice (Ty.slice Ty.int) w R v2 a0.ckpts) (f3 : IsSlice arcTy w R v3 a0.arcs) (h : depend_Index fuel a0 a1 a2 = some r) :
    Gives Try.prog 93 [.agg #[v1, v2, v3], .int .i64 a1, .int .i64 a2] w fun u w1 => ∃ (R1 : Nat → Prop), u = .int .i64 r ∧ Sep F R R1 w w1 [] := by
  refine fn_of Try.func93 rfl Try.ntmps93 (Nat.le_of_ble_eq_true rfl) ?_
  unfold depend_Index at h
  refine e_seq fun K38 hK38 => ?_
  refine e_region_text rfl ?_
  refine q_boxB rfl rfl rfl fun w39 bl39 hg39 hb39 hB39 => ?_
  replace f1 := f1.ext hB39
  replace f2 := f2.ext hB39
  replace f3 := f3.ext hB39
  replace hS := hS.newBlk hB39 hg39 hb39
  refine q_assign rfl rfl ?_
  refine eseq_nil ?_
  refine hK38 _ _ ?_
  refine e_seq fun K41 hK41 => ?_
  refine e_seq fun K42 hK42 => ?_
  refine e_region_text rfl ?_
  refine q_move rfl rfl ?_
  refine q_lss rfl rfl rfl ?_
  refine q_move rfl rfl ?_
  obtain ⟨x46, hx45, h⟩ := Option.of_bind h
  refine g_orM 5 hx45 rfl trivial rfl rfl ?_ ?_ ?_
  · intro hg45
    refine g_skip rfl rfl rfl ?_
    refine g_skip rfl rfl rfl ?_
    refine g_skip rfl rfl rfl ?_
    refine g_skip rfl rfl rfl ?_
    refine g_skip rfl rfl rfl ?_
    exact eseq_nil ⟨rfl, Sub.set rfl (Sub.set rfl (Sub.set rfl (Sub.set rfl (Sub.set rfl (Sub.bool true rfl hg45)))))⟩
  · intro hg45 hx45
    clear h
    have hT45 := Below.refl (World.heap w39).size w39
    refine g_run rfl ?_; refine q_move rfl rfl ?_
    refine g_run rfl ?_; refine q_field rfl rfl ?_
    refine g_run rfl ?_; refine q_load rfl (Blk.cell (hS.blk 0 rfl) rfl) rfl ?_
    refine g_run rfl ?_; refine q_lenS rfl f1 rfl ?_
    refine g_run rfl ?_; refine q_geq rfl rfl rfl ?_
    cases hx45
    exact eseq_nil ⟨hT45, Sub.set rfl (Sub.set rfl (Sub.set rfl (Sub.set rfl (Sub.set rfl (Sub.bool false rfl hg45))))), rfl⟩
  intro wm45 hBm45; clear hx45
  replace hS := hS.below hBm45
  replace f1 := f1.ext hBm45
  replace f2 := f2.ext hBm45
  replace f3 := f3.ext hBm45
  refine q_move rfl rfl ?_
  obtain ⟨x50, hx49, h⟩ := Option.of_bind h
  refine g_orM 5 hx49 rfl trivial rfl rfl ?_ ?_ ?_
  · intro hg49
    refine g_skip rfl rfl rfl ?_
    refine g_skip rfl rfl rfl ?_
    refine g_skip rfl rfl rfl ?_
    refine g_skip rfl rfl rfl ?_
    refine g_skip rfl rfl rfl ?_
    exact eseq_nil ⟨rfl, Sub.set rfl (Sub.set rfl (Sub.set rfl (Sub.set rfl (Sub.set rfl (Sub.bool true rfl hg49)))))⟩
  · intro hg49 hx49
    clear h
    have hT49 := Below.refl (World.heap wm45).size wm45
    refine g_run rfl ?_; refine q_move rfl rfl ?_
    refine g_run rfl ?_; refine q_field rfl rfl ?_
    refine g_run rfl ?_; refine q_load rfl (Blk.cell (hS.blk 0 rfl) rfl) rfl ?_
    refine g_run rfl ?_; refine q_lenS rfl f2 rfl ?_
    refine g_run rfl ?_; refine q_geq rfl rfl rfl ?_
    cases hx49
    exact eseq_nil ⟨hT49, Sub.set rfl (Sub.set rfl (Sub.set rfl (Sub.set rfl (Sub.set rfl (Sub.bool false rfl hg49))))), rfl⟩
  intro wm49 hBm49; clear hx49
  replace hS := hS.below hBm49
  replace f1 := f1.ext hBm49
  replace f2 := f2.ext hBm49
  replace f3 := f3.ext hBm49
  refine q_move rfl rfl ?_
  obtain ⟨x54, hx53, h⟩ := Option.of_bind h
  refine g_orM 2 hx53 rfl trivial rfl rfl ?_ ?_ ?_
  · intro hg53
    refine g_skip rfl rfl rfl ?_
    refine g_skip rfl rfl rfl ?_
    exact eseq_nil ⟨rfl, Sub.set rfl (Sub.set rfl (Sub.bool true rfl hg53))⟩
  · intro hg53 hx53
    clear h
    have hT53 := Below.refl (World.heap wm49).size wm49
    refine g_run rfl ?_; refine q_move rfl rfl ?_
    refine g_run rfl ?_; refine q_lss rfl rfl rfl ?_
    cases hx53
    exact eseq_nil ⟨hT53, Sub.set rfl (Sub.set rfl (Sub.bool false rfl hg53)), rfl⟩
  intro wm53 hBm53; clear hx53
  replace hS := hS.below hBm53
  replace f1 := f1.ext hBm53
  replace f2 := f2.ext hBm53
  replace f3 := f3.ext hBm53
  refine eseq_nil ?_
  refine hK42 _ _ ?_
  refine e_cond rfl (fun hc55 => ?_) (fun hc55 => ?_)
  · replace h := (if_pos hc55).symm.trans h
    refine e_seq fun K56 hK56 => ?_
    refine e_region_text rfl ?_
    refine q_assign rfl rfl ?_
    refine eseq_nil ?_
    refine hK56 _ _ ?_
    refine e_ret ?_
    obtain rfl := Option.some.inj h
    exact ⟨_, res1 rfl rfl, _, rfl, (hS.pickB [] 1 rfl rfl)⟩
  · replace h := (if_neg (not_true hc55)).symm.trans h
    refine e_skip ?_
    refine hK41 _ _ ?_
    refine e_seq fun K57 hK57 => ?_
    refine e_seq fun K58 hK58 => ?_
    refine e_region_text rfl ?_
    refine q_move rfl rfl ?_
    refine q_field rfl rfl ?_
    refine q_load rfl (Blk.cell (hS.blk 0 rfl) rfl) rfl ?_
    refine q_move rfl rfl ?_
    obtain ⟨x59, hx59, h⟩ := Option.of_bind h
    refine q_atS (by infer_instance) rfl f2 rfl hx59 rfl fun b60 o60 hm60 f60 => ?_
    refine q_loadE rfl f60 rfl (fun v61 f61 => ?_)
    refine q_lenS rfl f61 rfl ?_
    refine q_lss rfl rfl rfl ?_
    refine eseq_nil ?_
    refine hK58 _ _ ?_
    refine e_cond rfl (fun hc62 => ?_) (fun hc62 => ?_)
    · replace h := (if_pos hc62).symm.trans h
      refine e_seq fun K63 hK63 => ?_
      refine e_region_text rfl ?_
      refine q_field rfl rfl ?_
      refine q_load rfl (Blk.cell (hS.blk 0 rfl) rfl) rfl ?_
      refine q_move rfl rfl ?_
      obtain ⟨x65, hx65, h⟩ := Option.of_bind h
      refine q_atS (by infer_instance) rfl f2 rfl hx65 rfl fun b66 o66 hm66 f66 => ?_
      refine q_loadE rfl f66 rfl (fun v67 f67 => ?_)
      refine q_move rfl rfl ?_
      obtain ⟨x68, hx68, h⟩ := Option.of_bind h
      refine q_atS (by infer_instance) rfl f67 rfl hx68 rfl fun b69 o69 hm69 f69 => ?_
      refine q_load rfl (Elt.intCell f69) rfl ?_
      refine q_assign rfl rfl ?_
      refine eseq_nil ?_
      refine hK63 _ _ ?_
      refine e_ret ?_
      obtain rfl := Option.some.inj h
      exact ⟨_, res1 rfl rfl, _, rfl, (hS.pickB [] 1 rfl rfl)⟩
    · replace h := (if_neg (not_true hc62)).symm.trans h
      refine e_skip ?_
      refine hK57 _ _ ?_
      refine e_seq fun K70 hK70 => ?_
      refine e_region_text rfl ?_
      refine q_field rfl rfl ?_
      refine q_load rfl (Blk.cell (hS.blk 0 rfl) rfl) rfl ?_
      refine q_move rfl rfl ?_
      obtain ⟨x71, hx71, h⟩ := Option.of_bind h
      refine q_atS (by infer_instance) rfl f1 rfl hx71 rfl fun b72 o72 hm72 f72 => ?_
      refine q_load rfl (Elt.intCell f72) rfl ?_
      refine q_assign rfl rfl ?_
      refine eseq_nil ?_
      refine hK70 _ _ ?_
      refine e_ret ?_
      obtain rfl := Option.some.inj h
      exact ⟨_, res1 rfl rfl, _, rfl, (hS.pickB [] 1 rfl rfl)⟩
theorem ref19_Index_w {F R : Nat → Prop} {w : World} {fuel : Nat} {a0 : Pat} {a1 : Int} {a2 : Int} {v1 : Value} {v2 : Value} {v3 : Value} {r : (Int)} (hS : Sep F R R w w []) (f1 : IsSlice Ty.int w R v1 a0.lens) (f2 : IsSlice (Ty.slice Ty.int) w R v2 a0.ckpts) (f3 : IsSlice arcTy w R v3 a0.arcs) (h : ref19_Index fuel a0 a1 a2 = some r) :
    Gives Try.prog 72 [.agg #[v1, v2, v3], .int .i64 a1, .int .i64 a2] w fun u w1 => ∃ (R1 : Nat → Prop), u = .int .i64 r ∧ Sep F R R1 w w1 [] := by
  refine fn_of Try.func72 rfl Try.ntmps72 (Nat.le_of_ble_eq_true rfl) ?_
  unfold ref19_Index at h
  refine e_seq fun K22 hK22 => ?_
  refine e_region_text rfl ?_
  refine q_boxB rfl rfl rfl fun w23 bl23 hg23 hb23 hB23 => ?_
  replace f1 := f1.ext hB23
  replace f2 := f2.ext hB23
  replace f3 := f3.ext hB23
  replace hS := hS.newBlk hB23 hg23 hb23
  refine q_assign rfl rfl ?_
  refine eseq_nil ?_
  refine hK22 _ _ ?_
  refine e_seq fun K25 hK25 => ?_
  refine e_seq fun K26 hK26 => ?_
  refine e_region_text rfl ?_
  refine q_move rfl rfl ?_
  refine q_field rfl rfl ?_
  refine q_load rfl (Blk.cell (hS.blk 0 rfl) rfl) rfl ?_
  refine q_move rfl rfl ?_
  obtain ⟨x27, hx27, h⟩ := Option.of_bind h
  refine q_atS (by infer_instance) rfl f2 rfl hx27 rfl fun b28 o28 hm28 f28 => ?_
  refine q_loadE rfl f28 rfl (fun v29 f29 => ?_)
  refine q_lenS rfl f29 rfl ?_
  refine q_geq rfl rfl rfl ?_
  refine eseq_nil ?_
  refine hK26 _ _ ?_
  refine e_cond rfl (fun hc30 => ?_) (fun hc30 => ?_)
  · replace h := (if_pos hc30).symm.trans h
    refine e_seq fun K31 hK31 => ?_
    refine e_region_text rfl ?_
    refine q_field rfl rfl ?_
    refine q_load rfl (Blk.cell (hS.blk 0 rfl) rfl) rfl ?_
    refine q_move rfl rfl ?_
    obtain ⟨x32, hx32, h⟩ := Option.of_bind h
    refine q_atS (by infer_instance) rfl f1 rfl hx32 rfl fun b33 o33 hm33 f33 => ?_
    refine q_load rfl (Elt.intCell f33) rfl ?_
    refine q_assign rfl rfl ?_
    refine eseq_nil ?_
    refine hK31 _ _ ?_
    refine e_ret ?_
    obtain rfl := Option.some.inj h
    exact ⟨_, res1 rfl rfl, _, rfl, (hS.pickB [] 1 rfl rfl)⟩
  · replace h := (if_neg (not_true hc30)).symm.trans h
    refine e_skip ?_
    refine hK25 _ _ ?_
    refine e_seq fun K34 hK34 => ?_
    refine e_region_text rfl ?_
    refine q_field rfl rfl ?_
    refine q_load rfl (Blk.cell (hS.blk 0 rfl) rfl) rfl ?_
    refine q_move rfl rfl ?_
    obtain ⟨x35, hx35, h⟩ := Option.of_bind h
    refine q_atS (by infer_instance) rfl f2 rfl hx35 rfl fun b36 o36 hm36 f36 => ?_
    refine q_loadE rfl f36 rfl (fun v37 f37 => ?_)
    refine q_move rfl rfl ?_
    obtain ⟨x38, hx38, h⟩ := Option.of_bind h
    refine q_atS (by infer_instance) rfl f37 rfl hx38 rfl fun b39 o39 hm39 f39 => ?_
    refine q_load rfl (Elt.intCell f39) rfl ?_
    refine q_assign rfl rfl ?_
    refine eseq_nil ?_
    refine hK34 _ _ ?_
    refine e_ret ?_
    obtain rfl := Option.some.inj h
    exact ⟨_, res1 rfl rfl, _, rfl, (hS.pickB [] 1 rfl rfl)⟩
theorem ref20_Reach_w {F R : Nat → Prop} {w : World} {fuel : Nat} {a0 : Pat} {a1 : (List Pt)} {v1 : Value} {v2 : Value} {v3 : Value} {v4 : Value} {r : ((List (List Bool)))} (hS : Sep F R R w w []) (f1 : IsSlice Ty.int w R v1 a0.lens) (f2 : IsSlice (Ty.slice Ty.int) w R v2 a0.ckpts) (f3 : IsSlice arcTy w R v3 a0.arcs) (f4 : IsSlice ptTy w R v4 a1) (h : ref20_Reach fuel a0 a1 = some r) :
    Gives Try.prog 62 [.agg #[v1, v2, v3], v4] w fun u w1 => ∃ (v1242 : Value), ∃ (v1243 : List Value), ∃ (R1 : Nat → Prop), u = v1242 ∧ Sep F R R1 w w1 [HP.own Ty.raw (fun _ => False) 92 v1242 v1243, HP.famS Ty.bool (fun _ => False) 4 v1243 r] := by
  refine fn_of Try.func62 rfl Try.ntmps62 (Nat.le_of_ble_eq_true rfl) ?_
  unfold ref20_Reach at h
  refine e_seq fun K1244 hK1244 => ?_
  refine e_region_text rfl ?_
  refine q_boxB rfl rfl rfl fun w1245 bl1245 hg1245 hb1245 hB1245 => ?_
  replace f1 := f1.ext hB1245
  replace f2 := f2.ext hB1245
  replace f3 := f3.ext hB1245
  replace f4 := f4.ext hB1245
  replace hS := hS.newBlk hB1245 hg1245 hb1245
  refine q_assign rfl rfl ?_
  refine eseq_nil ?_
  refine hK1244 _ _ ?_
  refine e_seq fun K1247 hK1247 => ?_
  refine e_region_text rfl ?_
  refine q_assign rfl rfl ?_
  refine eseq_nil ?_
  refine hK1247 _ _ ?_
  refine e_seq fun K1248 hK1248 => ?_
  refine e_seq fun K1249 hK1249 => ?_
  refine e_region_text rfl ?_
  refine q_assign rfl rfl ?_
  refine eseq_nil ?_
  refine hK1249 _ _ ?_
  refine e_block ?_
  obtain ⟨tl1250, ht1250, h⟩ := Option.of_bind h
  have hX1250_0 : ∀ (x1333 : (List (List Bool))) (v1331 : Value) (v1332 : List Value) (R1325 : Nat → Prop) (w1326 : World) (E_ : Env), ref20_Reach_K1 fuel a1 a0 x1333 = some r → Sep F R R1325 w w1326 [HP.blk bl1245 [v1, v2, v3] 28, HP.own Ty.raw (fun _ => False) 92 v1331 v1332, HP.famS Ty.bool (fun _ => False) 4 v1332 x1333] → IsSlice ptTy w1326 R1325 v4 a1 → IsSlice Ty.int w1326 R1325 v1 a0.lens → IsSlice (Ty.slice Ty.int) w1326 R1325 v2 a0.ckpts → IsSlice arcTy w1326 R1325 v3 a0.arcs → Sub [(1, v4), (2, .pointer (some ⟨bl1245, 0, none⟩)), (5, v1331)] E_ → K1248 E_ w1326 := by
    intro x1333 v1331 v1332 R1325 w1326 E_ h hS f1327 f1328 f1329 f1330 hsub
    refine hK1248 _ _ (e_sub hsub ?_); clear hsub
    unfold ref20_Reach_K1 at h
    refine e_seq fun K1336 hK1336 => ?_
    refine e_seq fun K1337 hK1337 => ?_
    refine e_region_text rfl ?_
    refine q_assign rfl rfl ?_
    refine eseq_nil ?_
    refine hK1337 _ _ ?_
    refine e_block ?_
    obtain ⟨tl1338, ht1338, h⟩ := Option.of_bind h
    have hX1338_2 : ∀ (x1420 : (List (List Bool))) (v1418 : Value) (v1419 : List Value) (R1413 : Nat → Prop) (w1414 : World) (E_ : Env), ref20_Reach_K2 fuel a0 x1420 = some r → Sep F R R1413 w w1414 [HP.blk bl1245 [v1, v2, v3] 28, HP.own Ty.raw (fun _ => False) 92 v1418 v1419, HP.famS Ty.bool (fun _ => False) 4 v1419 x1420] → IsSlice Ty.int w1414 R1413 v1 a0.lens → IsSlice (Ty.slice Ty.int) w1414 R1413 v2 a0.ckpts → IsSlice arcTy w1414 R1413 v3 a0.arcs → Sub [(2, .pointer (some ⟨bl1245, 0, none⟩)), (5, v1418)] E_ → K1336 E_ w1414 := by
      intro x1420 v1418 v1419 R1413 w1414 E_ h hS f1415 f1416 f1417 hsub
      refine hK1336 _ _ (e_sub hsub ?_); clear hsub
      unfold ref20_Reach_K2 at h
      refine e_seq fun K1423 hK1423 => ?_
      refine e_region_text rfl ?_
      refine q_loadAgg rfl (Blk.cellsAt (hS.blk 0 rfl) 0 3 rfl) rfl rfl ?_
      obtain ⟨r1425, hr1425, h⟩ := Option.of_bind h
      refine q_call rfl (ref20_Edges_w (a0 := (⟨a0.lens, a0.ckpts, a0.arcs⟩ : Pat)) (Sep.enter (As := []) hS) f1415 f1416 f1417 hr1425) rfl ?_
      rintro v1426 w1424 ⟨_, R1424, rfl, hC1424, f1426⟩
      have hB1424 : Below (World.heap w1414).size w1414 w1424 := hC1424.stepB0
      refine ⟨fun _ => .of_below hB1424, ?_⟩
      replace f1415 := (f1415.ext hB1424).mono fun k hk _ => hC1424.ro0 k hk
      replace f1416 := (f1416.ext hB1424).mono fun k hk _ => hC1424.ro0 k hk
      replace f1417 := (f1417.ext hB1424).mono fun k hk _ => hC1424.ro0 k hk
      replace hS := Sep.leave (As := []) hS hC1424; simp only [List.cons_append, List.nil_append] at hS
      refine q_assign rfl rfl ?_
      refine eseq_nil ?_
      refine hK1423 _ _ ?_
      refine e_seq fun K1427 hK1427 => ?_
      refine e_seq fun K1428 hK1428 => ?_
      refine e_region_text rfl ?_
      refine q_assign rfl rfl ?_
      refine eseq_nil ?_
      refine hK1428 _ _ ?_
      refine e_block ?_
      obtain ⟨tl1429, ht1429, h⟩ := Option.of_bind h
      have hX1429_4 : ∀ (x2124 : (List (List Bool))) (v2122 : Value) (v2123 : List Value) (R2120 : Nat → Prop) (w2121 : World) (E_ : Env), ref20_Reach_K3 fuel x2124 = some r → Sep F R R2120 w w2121 [HP.own Ty.raw (fun _ => False) 92 v2122 v2123, HP.famS Ty.bool (fun _ => False) 4 v2123 x2124] → Sub [(5, v2122)] E_ → K1427 E_ w2121 := by
        intro x2124 v2122 v2123 R2120 w2121 E_ h hS  hsub
        refine hK1427 _ _ (e_sub hsub ?_); clear hsub
        unfold ref20_Reach_K3 at h
        refine e_seq fun K2127 hK2127 => ?_
        refine e_region_text rfl ?_
        refine q_move rfl rfl ?_
        refine q_assign rfl rfl ?_
        refine eseq_nil ?_
        refine hK2127 _ _ ?_
        refine e_ret ?_
        obtain rfl := Option.some.inj h
        exact ⟨_, res1 rfl rfl, v2122, v2123, _, rfl, hS⟩
      refine e_loop (fun m_ E_ w1774 => ∃ (x1777 : (List (List Bool))), ∃ (x1781 : Bool), ∃ (v1775 : Value), ∃ (v1776 : List Value), ∃ (R1773 : Nat → Prop), iter (fun s => ref20_Reach_B1 fuel r1425 s.1 s.2) m_ (x1777, x1781) = some tl1429 ∧ Sep F R R1773 w w1774 [HP.own Ty.raw (fun _ => False) 92 v1775 v1776, HP.famS Ty.bool (fun _ => False) 4 v1776 x1777] ∧ IsSlice pt2Ty w1774 R1773 v1426 r1425 ∧ E_ = [(5, v1775), (8, v1426), (9, .bool x1781)]) _ ⟨_, ⟨x1420, true, v1418, v1419, _, ht1429, (hS.pickB [1, 2] 3 rfl rfl), f1426, rfl⟩, Sub.cons rfl (Sub.cons rfl (Sub.cons rfl (Sub.nil _)))⟩ ?_
      clear ht1429 hS
      rintro m1429 _ w1774 ⟨x1777, x1781, v1775, v1776, R1773, ht1429, hS, f1780, rfl⟩
      obtain ⟨m1429, rfl, o1429, ho1429, ht1429⟩ := iter_some ht1429
      replace ho1429 : ref20_Reach_B1 fuel r1425 x1777 x1781 = some o1429 := ho1429
      unfold ref20_Reach_B1 at ho1429
      refine e_seq fun K2128 hK2128 => ?_
      refine e_seq fun K2129 hK2129 => ?_
      refine e_region_text rfl ?_
      refine q_move rfl rfl ?_
      refine eseq_nil ?_
      refine hK2129 _ _ ?_
      refine e_cond rfl (fun hc2130 => ?_) (fun hc2130 => ?_)
      · replace ho1429 := (if_pos hc2130).symm.trans ho1429
        refine e_skip ?_
        refine hK2128 _ _ ?_
        refine e_block ?_
        refine e_seq fun K2131 hK2131 => ?_
        refine e_region_text rfl ?_
        refine q_assign rfl rfl ?_
        refine eseq_nil ?_
        refine hK2131 _ _ ?_
        refine e_seq fun K2132 hK2132 => ?_
        refine e_region_text rfl ?_
        refine q_assign rfl rfl ?_
        refine eseq_nil ?_
        refine hK2132 _ _ ?_
        refine e_block ?_
        obtain ⟨tl2133, ht2133, ho1429⟩ := Option.of_bind ho1429
        refine e_loop (fun m_ E_ w2242 => ∃ (x2245 : (List (List Bool))), ∃ (x2249 : Bool), ∃ (x2250 : Int), ∃ (v2243 : Value), ∃ (v2244 : List Value), ∃ (R2241 : Nat → Prop), iter (fun s => ref20_Reach_B2 fuel r1425 s.1 s.2.1 s.2.2) m_ (x2245, x2249, x2250) = some tl2133 ∧ Sep F R R2241 w w2242 [HP.own Ty.raw (fun _ => False) 92 v2243 v2244, HP.famS Ty.bool (fun _ => False) 4 v2244 x2245] ∧ IsSlice pt2Ty w2242 R2241 v1426 r1425 ∧ E_ = [(5, v2243), (8, v1426), (9, .bool x2249), (10, .int .i64 x2250)]) _ ⟨_, ⟨x1777, false, 0, v1775, v1776, _, ht2133, hS, f1780, rfl⟩, Sub.cons rfl (Sub.cons rfl (Sub.cons rfl (Sub.cons rfl (Sub.nil _))))⟩ ?_
        clear ht2133 hS
        rintro m2133 _ w2242 ⟨x2245, x2249, x2250, v2243, v2244, R2241, ht2133, hS, f2248, rfl⟩
        obtain ⟨m2133, rfl, o2133, ho2133, ht2133⟩ := iter_some ht2133
        replace ho2133 : ref20_Reach_B2 fuel r1425 x2245 x2249 x2250 = some o2133 := ho2133
        unfold ref20_Reach_B2 at ho2133
        refine e_seq fun K2362 hK2362 => ?_
        refine e_seq fun K2363 hK2363 => ?_
        refine e_region_text rfl ?_
        refine q_move rfl rfl ?_
        refine q_move rfl rfl ?_
        refine q_lenS rfl f2248 rfl ?_
        refine q_lss rfl rfl rfl ?_
        refine eseq_nil ?_
        refine hK2363 _ _ ?_
        refine e_cond rfl (fun hc2364 => ?_) (fun hc2364 => ?_)
        · replace ho2133 := (if_pos hc2364).symm.trans ho2133
          refine e_skip ?_
          refine hK2362 _ _ ?_
          refine e_seq fun K2365 hK2365 => ?_
          refine e_block ?_
          refine e_seq fun K2366 hK2366 => ?_
          have hJt2408 : ∀ (x2367 : Pt2) (x2371 : Pt2) (B2405 : Nat) (B2407 : Nat) (R2399 : Nat → Prop) (w2400 : World) (E_ : Env), ref20_Reach_J1 fuel x2245 x2367 x2371 x2250 x2249 = some o2133 → Sep F R R2399 w w2400 [HP.own Ty.raw (fun _ => False) 92 v2243 v2244, HP.famS Ty.bool (fun _ => False) 4 v2244 x2245, HP.blk B2405 [.int .i64 x2367.x0.proc, .int .i64 x2367.x0.index] 36, HP.blk B2407 [.int .i64 x2371.x1.proc, .int .i64 x2371.x1.index] 36] → IsSlice pt2Ty w2400 R2399 v1426 r1425 → Sub [(5, v2243), (8, v1426), (9, .bool x2249), (10, .int .i64 x2250), (11, .pointer (some ⟨B2405, 0, none⟩)), (12, .pointer (some ⟨B2407, 0, none⟩))] E_ → K2366 E_ w2400 := by
            intro x2367 x2371 B2405 B2407 R2399 w2400 E_ ho2133 hS f2403 hsub
            refine hK2366 _ _ (e_sub hsub ?_); clear hsub
            unfold ref20_Reach_J1 at ho2133
            refine e_seq fun K2409 hK2409 => ?_
            refine e_region_draw mixed (fun _ => False) [0, 0, 2, 7, 15, 0, 32, 127, 255, 511, 1023, 1023, 3071, 8191, 16383, 1023, 33791, 131071, 262143, 524287, 1048575] [] [0, 1, 2, 3, 4, 5, 6, 7, 8, 9, 10, 11, 12, 13, 14, 15, 16, 17, 18, 19, 20] (by kernel_rfl) ?_
            refine q_move rfl rfl ?_
            refine q_field rfl rfl ?_
            refine q_load rfl (Blk.cell (hS.blk 2 rfl) rfl) rfl ?_
            obtain ⟨x2410, hx2410, ho2133⟩ := Option.of_bind ho2133
            have hax2410 := ati_nth (hS.famLen 1 rfl) hx2410
            refine q_indexO (T := Ty.raw) (by infer_instance) rfl (hS.own 0 rfl) rfl hax2410 rfl ?_
            refine q_load rfl (Elt.rawCell ((hS.own 0 rfl).elt hax2410)) rfl ?_
            refine q_field rfl rfl ?_
            refine q_load rfl (Blk.cell (hS.blk 2 rfl) rfl) rfl ?_
            obtain ⟨x2411, hx2411, ho2133⟩ := Option.of_bind ho2133
            refine q_indexO (by infer_instance) rfl (hS.famO 1 rfl hx2410) rfl hx2411 rfl ?_
            have f2412 := (hS.famOR 1 rfl hx2410).elt hx2411
            refine q_load rfl (Elt.boolCell f2412) rfl ?_
            refine q_move rfl rfl ?_
            obtain ⟨x2419, hx2418, ho2133⟩ := Option.of_bind ho2133
            refine g_andM 10 hx2418 rfl trivial rfl rfl ?_ ?_ ?_
            · intro hg2418 hx2418
              clear ho2133
              have hT2418 := Below.refl (World.heap w2400).size w2400
              refine g_run rfl ?_; refine q_move rfl rfl ?_
              refine g_run rfl ?_; refine q_field rfl rfl ?_
              refine g_run rfl ?_; refine q_load rfl (Blk.cell (hS.blk 3 rfl) rfl) rfl ?_
              obtain ⟨x2420, hx2420, hx2418⟩ := Option.of_bind hx2418
              have hax2420 := ati_nth (hS.famLen 1 rfl) hx2420
              refine g_run rfl ?_; refine q_indexO (T := Ty.raw) (by infer_instance) rfl (hS.own 0 rfl) rfl hax2420 rfl ?_
              refine g_run rfl ?_; refine q_load rfl (Elt.rawCell ((hS.own 0 rfl).elt hax2420)) rfl ?_
              refine g_run rfl ?_; refine q_field rfl rfl ?_
              refine g_run rfl ?_; refine q_load rfl (Blk.cell (hS.blk 3 rfl) rfl) rfl ?_
              obtain ⟨x2421, hx2421, hx2418⟩ := Option.of_bind hx2418
              refine g_run rfl ?_; refine q_indexO (by infer_instance) rfl (hS.famO 1 rfl hx2420) rfl hx2421 rfl ?_
              have f2422 := (hS.famOR 1 rfl hx2420).elt hx2421
              refine g_run rfl ?_; refine q_load rfl (Elt.boolCell f2422) rfl ?_
              refine g_run rfl ?_; refine q_not rfl rfl ?_
              cases hx2418
              exact eseq_nil ⟨hT2418, Sub.set rfl (Sub.set rfl (Sub.set rfl (Sub.set rfl (Sub.set rfl (Sub.set rfl (Sub.set rfl (Sub.set rfl (Sub.set rfl (Sub.set rfl (Sub.bool true rfl hg2418)))))))))), rfl⟩
            · intro hg2418
              refine g_skip rfl rfl rfl ?_
              refine g_skip rfl rfl rfl ?_
              refine g_skip rfl rfl rfl ?_
              refine g_skip rfl rfl rfl ?_
              refine g_skip rfl rfl rfl ?_
              refine g_skip rfl rfl rfl ?_
              refine g_skip rfl rfl rfl ?_
              refine g_skip rfl rfl rfl ?_
              refine g_skip rfl rfl rfl ?_
              refine g_skip rfl rfl rfl ?_
              exact eseq_nil ⟨rfl, Sub.set rfl (Sub.set rfl (Sub.set rfl (Sub.set rfl (Sub.set rfl (Sub.set rfl (Sub.set rfl (Sub.set rfl (Sub.set rfl (Sub.set rfl (Sub.bool false rfl hg2418))))))))))⟩
            intro wm2418 hBm2418; clear hx2418
            replace hS := hS.below hBm2418
            replace f2403 := f2403.ext hBm2418
            refine eseq_nil ?_
            refine hK2409 _ _ ?_
            refine e_cond rfl (fun hc2423 => ?_) (fun hc2423 => ?_)
            · replace ho2133 := (if_pos hc2423).symm.trans ho2133
              refine e_seq fun K2424 hK2424 => ?_
              refine e_region_draw mixed (fun _ => False) [0, 0, 2, 7, 15, 0, 32, 127, 255] [] [0, 1, 2, 3, 4, 5, 6, 7, 8] (by kernel_rfl) ?_
              refine q_move rfl rfl ?_
              refine q_field rfl rfl ?_
              refine q_load rfl (Blk.cell (hS.blk 3 rfl) rfl) rfl ?_
              obtain ⟨x2425, hx2425, ho2133⟩ := Option.of_bind ho2133
              have hax2425 := ati_nth (hS.famLen 1 rfl) hx2425
              refine q_indexO (T := Ty.raw) (by infer_instance) rfl (hS.own 0 rfl) rfl hax2425 rfl ?_
              refine q_load rfl (Elt.rawCell ((hS.own 0 rfl).elt hax2425)) rfl ?_
              refine q_field rfl rfl ?_
              refine q_load rfl (Blk.cell (hS.blk 3 rfl) rfl) rfl ?_
              obtain ⟨x2426, hx2426, ho2133⟩ := Option.of_bind ho2133
              refine q_indexO (by infer_instance) rfl (hS.famO 1 rfl hx2425) rfl hx2426 rfl ?_
              obtain ⟨x2428, hx2428, ho2133⟩ := Option.of_bind ho2133
              obtain ⟨x2429, hx2429, ho2133⟩ := Option.of_bind ho2133
              refine q_storeO (T := Ty.bool) (j := 0) rfl rfl (hS.famO 1 rfl hx2425) hx2426 hx2428 rfl rfl rfl (Enc.setL rfl) fun w2427 ho2427 hO2427 => ?_
              have hk2427 := hS.famKeptC 1 rfl hx2425 hx2426 hO2427
              replace f2403 := f2403.kept hk2427
              replace hS := hS.famCellM 1 rfl hx2425 hx2426 hx2429 ho2427 hO2427; simp only [List.set] at hS
              refine eseq_nil ?_
              refine hK2424 _ _ ?_
              refine e_region_text rfl ?_
              refine q_assign rfl rfl ?_
              refine eseq_nil ?_
              refine hK2365 _ _ ?_
              refine e_region_text rfl ?_
              refine q_move rfl rfl ?_
              refine q_addW rfl rfl rfl ?_
              refine q_assign rfl rfl ?_
              refine eseq_nil ?_
              obtain rfl := Option.some.inj ho2133
              exact ⟨m2133, _, Nat.lt_succ_self _, ⟨x2429, true, (w64 (x2250 + 1)), v2243, v2244, _, ht2133, (hS.pickB [0, 1] 4 rfl rfl), f2403, rfl⟩, Sub.cons rfl (Sub.cons rfl (Sub.cons rfl (Sub.cons rfl (Sub.nil _))))⟩
            · replace ho2133 := (if_neg (not_true hc2423)).symm.trans ho2133
              refine e_skip ?_
              refine hK2365 _ _ ?_
              refine e_region_text rfl ?_
              refine q_move rfl rfl ?_
              refine q_addW rfl rfl rfl ?_
              refine q_assign rfl rfl ?_
              refine eseq_nil ?_
              obtain rfl := Option.some.inj ho2133
              exact ⟨m2133, _, Nat.lt_succ_self _, ⟨x2245, x2249, (w64 (x2250 + 1)), v2243, v2244, _, ht2133, (hS.pickB [0, 1] 4 rfl rfl), f2403, rfl⟩, Sub.cons rfl (Sub.cons rfl (Sub.cons rfl (Sub.cons rfl (Sub.nil _))))⟩
          obtain ⟨x2367, hx2367, ho2133⟩ := Option.of_bind ho2133
          obtain ⟨x2371, hx2371, ho2133⟩ := Option.of_bind ho2133
          refine e_region_T mixed (fun k => (World.heap w2242).size ≤ k) [0, 0, 3, 7, 15, 0, 0, 96, 224, 480, 0, 0, 3103, 8191] [10, 11, 12] (QT.op 0 (QT.op 1 (QT.op 2 (QT.op 3 (QT.op 4 (QT.op 5 (QT.op 6 (QT.op 7 (QT.op 8 (QT.op 9 (QT.alt (QT.op 10 (QT.op 11 (QT.op 12 (QT.op 13 QT.fin)))) (QT.op 11 (QT.op 10 (QT.op 12 (QT.op 13 QT.fin))))))))))))))) (by kernel_rfl) ?_
          have hTX := Below.refl (World.heap w2242).size w2242
          refine t_op ?_
          refine q_move rfl rfl ?_
          refine eseq_nil ?_
          refine t_op ?_
          refine q_move rfl rfl ?_
          refine eseq_nil ?_
          refine t_op ?_
          refine q_atS (by infer_instance) rfl f2248 rfl hx2367 rfl fun b2430 o2430 hm2430 f2430 => ?_
          refine eseq_nil ?_
          refine t_op ?_
          refine q_indexC (k := 0) rfl rfl rfl rfl rfl ?_
          have f2431 := Pt2_F0 f2430
          refine eseq_nil ?_
          refine t_op ?_
          have hc2432 := Pt_open f2431
          refine q_loadAgg rfl hc2432 rfl rfl ?_ (hX := Nat.not_le.2 f2431.lt)
          refine eseq_nil ?_
          refine t_op ?_
          refine q_move rfl rfl ?_
          refine eseq_nil ?_
          refine t_op ?_
          refine q_move rfl rfl ?_
          refine eseq_nil ?_
          refine t_op ?_
          refine q_atS (by infer_instance) rfl f2248 rfl hx2371 rfl fun b2433 o2433 hm2433 f2433 => ?_
          refine eseq_nil ?_
          refine t_op ?_
          refine q_indexC (k := 1) rfl rfl rfl rfl rfl ?_
          have f2434 := Pt2_F1 f2433
          refine eseq_nil ?_
          refine t_op ?_
          have hc2435 := Pt_open f2434
          refine q_loadAgg rfl hc2435 rfl rfl ?_ (hX := Nat.not_le.2 f2434.lt)
          refine eseq_nil ?_
          refine t_alt ?_ ?_
          · skip
            refine t_op ?_
            refine q_allocB rfl fun w2436 bl2436 hg2436 hb2436 hB2436 => ?_
            have hfrbl2436 := Nat.le_trans hTX.size hg2436
            replace f2248 := f2248.ext hB2436
            replace f2430 := f2430.ext hB2436
            replace f2431 := f2431.ext hB2436
            replace f2433 := f2433.ext hB2436
            replace f2434 := f2434.ext hB2436
            replace hTX := hTX.trans (Below.mono hB2436 hTX.size)
            replace hS := hS.newBlk hB2436 hg2436 hb2436
            refine eseq_nil ?_
            refine t_op ?_
            refine q_allocB rfl fun w2438 bl2438 hg2438 hb2438 hB2438 => ?_
            have hfrbl2438 := Nat.le_trans hTX.size hg2438
            replace f2248 := f2248.ext hB2438
            replace f2430 := f2430.ext hB2438
            replace f2431 := f2431.ext hB2438
            replace f2433 := f2433.ext hB2438
            replace f2434 := f2434.ext hB2438
            replace hTX := hTX.trans (Below.mono hB2438 hTX.size)
            replace hS := hS.newBlk hB2438 hg2438 hb2438
            refine eseq_nil ?_
            refine t_op ?_
            refine q_storeAggX rfl rfl (hS.blk 1 rfl) rfl (Nat.le_of_ble_eq_true rfl) (all_cons rfl (all_cons rfl (all_nil))) rfl hfrbl2436 fun w2440 hb2440 hO2440 => ?_
            simp only [setN, List.set, List.take, List.drop] at hb2440
            replace hTX := below_relX hTX hO2440.relX hfrbl2436 hTX.size
            have hk2440 := hS.keptBlk 1 rfl hO2440
            replace f2248 := f2248.kept hk2440
            replace hS := hS.setBlk 1 rfl hb2440 hO2440; simp only [List.set] at hS
            refine eseq_nil ?_
            refine t_op ?_
            refine q_storeAgg rfl rfl (hS.blk 0 rfl) rfl (Nat.le_of_ble_eq_true rfl) (all_cons rfl (all_cons rfl (all_nil))) rfl rfl fun w2441 hb2441 hO2441 => ?_
            simp only [setN, List.set, List.take, List.drop] at hb2441
            replace hTX := below_relX hTX hO2441.relX hfrbl2438 hTX.size
            have hk2441 := hS.keptBlk 0 rfl hO2441
            replace f2248 := f2248.kept hk2441
            replace hS := hS.setBlk 0 rfl hb2441 hO2441; simp only [List.set] at hS
            refine eseq_nil ?_
            refine t_fin ?_
            exact hJt2408 x2367 x2371 bl2436 bl2438 _ _ _ ho2133 (hS.pickB [2, 3, 1, 0] 4 rfl rfl) f2248 (Sub.cons rfl (Sub.cons rfl (Sub.cons rfl (Sub.cons rfl (Sub.cons rfl (Sub.cons rfl (Sub.nil _)))))))
          · skip
            refine t_op ?_
            refine q_allocB rfl fun w2442 bl2442 hg2442 hb2442 hB2442 => ?_
            have hfrbl2442 := Nat.le_trans hTX.size hg2442
            replace f2248 := f2248.ext hB2442
            replace f2430 := f2430.ext hB2442
            replace f2431 := f2431.ext hB2442
            replace f2433 := f2433.ext hB2442
            replace f2434 := f2434.ext hB2442
            replace hTX := hTX.trans (Below.mono hB2442 hTX.size)
            replace hS := hS.newBlk hB2442 hg2442 hb2442
            refine eseq_nil ?_
            refine t_op ?_
            refine q_allocB rfl fun w2444 bl2444 hg2444 hb2444 hB2444 => ?_
            have hfrbl2444 := Nat.le_trans hTX.size hg2444
            replace f2248 := f2248.ext hB2444
            replace f2430 := f2430.ext hB2444
            replace f2431 := f2431.ext hB2444
            replace f2433 := f2433.ext hB2444
            replace f2434 := f2434.ext hB2444
            replace hTX := hTX.trans (Below.mono hB2444 hTX.size)
            replace hS := hS.newBlk hB2444 hg2444 hb2444
            refine eseq_nil ?_
            refine t_op ?_
            refine q_storeAggX rfl rfl (hS.blk 0 rfl) rfl (Nat.le_of_ble_eq_true rfl) (all_cons rfl (all_cons rfl (all_nil))) rfl hfrbl2444 fun w2446 hb2446 hO2446 => ?_
            simp only [setN, List.set, List.take, List.drop] at hb2446
            replace hTX := below_relX hTX hO2446.relX hfrbl2444 hTX.size
            have hk2446 := hS.keptBlk 0 rfl hO2446
            replace f2248 := f2248.kept hk2446
            replace hS := hS.setBlk 0 rfl hb2446 hO2446; simp only [List.set] at hS
            refine eseq_nil ?_
            refine t_op ?_
            refine q_storeAgg rfl rfl (hS.blk 1 rfl) rfl (Nat.le_of_ble_eq_true rfl) (all_cons rfl (all_cons rfl (all_nil))) rfl rfl fun w2447 hb2447 hO2447 => ?_
            simp only [setN, List.set, List.take, List.drop] at hb2447
            replace hTX := below_relX hTX hO2447.relX hfrbl2442 hTX.size
            have hk2447 := hS.keptBlk 1 rfl hO2447
            replace f2248 := f2248.kept hk2447
            replace hS := hS.setBlk 1 rfl hb2447 hO2447; simp only [List.set] at hS
            refine eseq_nil ?_
            refine t_fin ?_
            exact hJt2408 x2367 x2371 bl2444 bl2442 _ _ _ ho2133 (hS.pickB [2, 3, 0, 1] 4 rfl rfl) f2248 (Sub.cons rfl (Sub.cons rfl (Sub.cons rfl (Sub.cons rfl (Sub.cons rfl (Sub.cons rfl (Sub.nil _)))))))
        · replace ho2133 := (if_neg (not_true hc2364)).symm.trans ho2133
          refine e_exit ?_
          obtain rfl := Option.some.inj ho2133
          obtain rfl := Option.some.inj ht2133
          replace ho1429 : ref20_Reach_K4 fuel x2245 x2249 = some o1429 := ho1429
          unfold ref20_Reach_K4 at ho1429
          obtain rfl := Option.some.inj ho1429
          exact ⟨m1429, _, Nat.lt_succ_self _, ⟨x2245, x2249, v2243, v2244, _, ht1429, hS, f2248, rfl⟩, Sub.cons rfl (Sub.cons rfl (Sub.cons rfl (Sub.nil _)))⟩
      · replace ho1429 := (if_neg (not_true hc2130)).symm.trans ho1429
        refine e_exit ?_
        obtain rfl := Option.some.inj ho1429
        obtain rfl := Option.some.inj ht1429
        exact hX1429_4 x1777 v1775 v1776 _ _ _ h hS  (Sub.cons rfl (Sub.nil _))
    refine e_loop (fun m_ E_ w1375 => ∃ (x1382 : (List (List Bool))), ∃ (x1385 : Int), ∃ (v1380 : Value), ∃ (v1381 : List Value), ∃ (R1374 : Nat → Prop), iter (fun s => ref20_Reach_B3 fuel a1 s.1 s.2) m_ (x1382, x1385) = some tl1338 ∧ Sep F R R1374 w w1375 [HP.blk bl1245 [v1, v2, v3] 28, HP.own Ty.raw (fun _ => False) 92 v1380 v1381, HP.famS Ty.bool (fun _ => False) 4 v1381 x1382] ∧ IsSlice ptTy w1375 R1374 v4 a1 ∧ IsSlice Ty.int w1375 R1374 v1 a0.lens ∧ IsSlice (Ty.slice Ty.int) w1375 R1374 v2 a0.ckpts ∧ IsSlice arcTy w1375 R1374 v3 a0.arcs ∧ E_ = [(1, v4), (2, .pointer (some ⟨bl1245, 0, none⟩)), (5, v1380), (7, .int .i64 x1385)]) _ ⟨_, ⟨x1333, 0, v1331, v1332, _, ht1338, hS, f1327, f1328, f1329, f1330, rfl⟩, Sub.cons rfl (Sub.cons rfl (Sub.cons rfl (Sub.cons rfl (Sub.nil _))))⟩ ?_
    clear ht1338 hS
    rintro m1338 _ w1375 ⟨x1382, x1385, v1380, v1381, R1374, ht1338, hS, f1376, f1377, f1378, f1379, rfl⟩
    obtain ⟨m1338, rfl, o1338, ho1338, ht1338⟩ := iter_some ht1338
    replace ho1338 : ref20_Reach_B3 fuel a1 x1382 x1385 = some o1338 := ho1338
    unfold ref20_Reach_B3 at ho1338
    refine e_seq fun K2448 hK2448 => ?_
    refine e_seq fun K2449 hK2449 => ?_
    refine e_region_text rfl ?_
    refine q_move rfl rfl ?_
    refine q_move rfl rfl ?_
    refine q_lenS rfl f1376 rfl ?_
    refine q_lss rfl rfl rfl ?_
    refine eseq_nil ?_
    refine hK2449 _ _ ?_
    refine e_cond rfl (fun hc2450 => ?_) (fun hc2450 => ?_)
    · replace ho1338 := (if_pos hc2450).symm.trans ho1338
      refine e_skip ?_
      refine hK2448 _ _ ?_
      refine e_seq fun K2451 hK2451 => ?_
      refine e_block ?_
      refine e_region_draw mixed (fun _ => False) [0, 0, 0, 6, 14, 30, 63, 127, 0, 0, 768, 1792, 3840, 8191, 16383] [] [0, 1, 2, 3, 4, 5, 6, 7, 8, 9, 10, 11, 12, 13, 14] (by kernel_rfl) ?_
      refine q_move rfl rfl ?_
      refine q_move rfl rfl ?_
      refine q_move rfl rfl ?_
      obtain ⟨x2452, hx2452, ho1338⟩ := Option.of_bind ho1338
      refine q_atS (by infer_instance) rfl f1376 rfl hx2452 rfl fun b2453 o2453 hm2453 f2453 => ?_
      refine q_field rfl rfl ?_
      have f2454 := Pt_F0 f2453
      refine q_load rfl (Elt.intCell f2454) rfl ?_
      obtain ⟨x2455, hx2455, ho1338⟩ := Option.of_bind ho1338
      have hax2455 := ati_nth (hS.famLen 2 rfl) hx2455
      refine q_indexO (T := Ty.raw) (by infer_instance) rfl (hS.own 1 rfl) rfl hax2455 rfl ?_
      refine q_load rfl (Elt.rawCell ((hS.own 1 rfl).elt hax2455)) rfl ?_
      refine q_move rfl rfl ?_
      refine q_move rfl rfl ?_
      obtain ⟨x2456, hx2456, ho1338⟩ := Option.of_bind ho1338
      refine q_atS (by infer_instance) rfl f1376 rfl hx2456 rfl fun b2457 o2457 hm2457 f2457 => ?_
      refine q_field rfl rfl ?_
      have f2458 := Pt_F1 f2457
      refine q_load rfl (Elt.intCell f2458) rfl ?_
      obtain ⟨x2459, hx2459, ho1338⟩ := Option.of_bind ho1338
      refine q_indexO (by infer_instance) rfl (hS.famO 2 rfl hx2455) rfl hx2459 rfl ?_
      obtain ⟨x2461, hx2461, ho1338⟩ := Option.of_bind ho1338
      obtain ⟨x2462, hx2462, ho1338⟩ := Option.of_bind ho1338
      refine q_storeO (T := Ty.bool) (j := 0) rfl rfl (hS.famO 2 rfl hx2455) hx2459 hx2461 rfl rfl rfl (Enc.setL rfl) fun w2460 ho2460 hO2460 => ?_
      have hk2460 := hS.famKeptC 2 rfl hx2455 hx2459 hO2460
      replace f1376 := f1376.kept hk2460
      replace f1377 := f1377.kept hk2460
      replace f1378 := f1378.kept hk2460
      replace f1379 := f1379.kept hk2460
      replace hS := hS.famCellM 2 rfl hx2455 hx2459 hx2462 ho2460 hO2460; simp only [List.set] at hS
      refine eseq_nil ?_
      refine hK2451 _ _ ?_
      refine e_region_text rfl ?_
      refine q_move rfl rfl ?_
      refine q_addW rfl rfl rfl ?_
      refine q_assign rfl rfl ?_
      refine eseq_nil ?_
      obtain rfl := Option.some.inj ho1338
      exact ⟨m1338, _, Nat.lt_succ_self _, ⟨x2462, (w64 (x1385 + 1)), v1380, v1381, _, ht1338, hS, f1376, f1377, f1378, f1379, rfl⟩, Sub.cons rfl (Sub.cons rfl (Sub.cons rfl (Sub.cons rfl (Sub.nil _))))⟩
    · replace ho1338 := (if_neg (not_true hc2450)).symm.trans ho1338
      refine e_exit ?_
      obtain rfl := Option.some.inj ho1338
      obtain rfl := Option.some.inj ht1338
      exact hX1338_2 x1382 v1380 v1381 _ _ _ h hS f1377 f1378 f1379 (Sub.cons rfl (Sub.cons rfl (Sub.nil _)))
  replace hS := hS.nilRows0 Ty.bool 4 92
  refine e_loop (fun m_ E_ w1287 => ∃ (x1294 : (List (List Bool))), ∃ (x1297 : Int), ∃ (v1292 : Value), ∃ (v1293 : List Value), ∃ (R1286 : Nat → Prop), iter (fun s => ref20_Reach_B4 fuel a0 s.1 s.2) m_ (x1294, x1297) = some tl1250 ∧ Sep F R R1286 w w1287 [HP.blk bl1245 [v1, v2, v3] 28, HP.own Ty.raw (fun _ => False) 92 v1292 v1293, HP.famS Ty.bool (fun _ => False) 4 v1293 x1294] ∧ IsSlice ptTy w1287 R1286 v4 a1 ∧ IsSlice Ty.int w1287 R1286 v1 a0.lens ∧ IsSlice (Ty.slice Ty.int) w1287 R1286 v2 a0.ckpts ∧ IsSlice arcTy w1287 R1286 v3 a0.arcs ∧ E_ = [(1, v4), (2, .pointer (some ⟨bl1245, 0, none⟩)), (5, v1292), (6, .int .i64 x1297)]) _ ⟨_, ⟨([] : List (List Bool)), 0, (.slice none 0 0), ([] : List Value), _, ht1250, (hS.pickB [2, 0, 1] 3 rfl rfl), f4, f1, f2, f3, rfl⟩, Sub.cons rfl (Sub.cons rfl (Sub.cons rfl (Sub.cons rfl (Sub.nil _))))⟩ ?_
  clear ht1250 hS
  rintro m1250 _ w1287 ⟨x1294, x1297, v1292, v1293, R1286, ht1250, hS, f1288, f1289, f1290, f1291, rfl⟩
  obtain ⟨m1250, rfl, o1250, ho1250, ht1250⟩ := iter_some ht1250
  replace ho1250 : ref20_Reach_B4 fuel a0 x1294 x1297 = some o1250 := ho1250
  unfold ref20_Reach_B4 at ho1250
  refine e_seq fun K2465 hK2465 => ?_
  refine e_seq fun K2466 hK2466 => ?_
  refine e_region_text rfl ?_
  refine q_move rfl rfl ?_
  refine q_field rfl rfl ?_
  refine q_load rfl (Blk.cell (hS.blk 0 rfl) rfl) rfl ?_
  refine q_lenS rfl f1290 rfl ?_
  refine q_lss rfl rfl rfl ?_
  refine eseq_nil ?_
  refine hK2466 _ _ ?_
  refine e_cond rfl (fun hc2467 => ?_) (fun hc2467 => ?_)
  · replace ho1250 := (if_pos hc2467).symm.trans ho1250
    refine e_skip ?_
    refine hK2465 _ _ ?_
    refine e_seq fun K2468 hK2468 => ?_
    refine e_block ?_
    refine e_region_text rfl ?_
    refine q_move rfl rfl ?_
    refine q_field rfl rfl ?_
    refine q_load rfl (Blk.cell (hS.blk 0 rfl) rfl) rfl ?_
    refine q_move rfl rfl ?_
    obtain ⟨x2469, hx2469, ho1250⟩ := Option.of_bind ho1250
    refine q_atS (by infer_instance) rfl f1290 rfl hx2469 rfl fun b2470 o2470 hm2470 f2470 => ?_
    refine q_loadE rfl f2470 rfl (fun v2471 f2471 => ?_)
    refine q_lenS rfl f2471 rfl ?_
    refine q_addW rfl rfl rfl ?_
    obtain ⟨x2472, hx2472, ho1250⟩ := Option.of_bind ho1250
    refine q_makeO (T := Ty.bool) (S := (fun _ => False)) rfl rfl rfl hx2472 (fun _ h => h.elim) rfl fun w2473 v2473 ho2473 hv2473 hB2473 => ?_
    replace f1288 := f1288.ext hB2473
    replace f1289 := f1289.ext hB2473
    replace f1290 := f1290.ext hB2473
    replace f1291 := f1291.ext hB2473
    replace hS := hS.newOwnS hB2473 ho2473 hv2473 (fun _ h => h.elim)
    refine q_litO (T := Ty.raw) (S := (fun _ => False)) (cells := [[v2473]]) (ys := [v2473]) ((Parts.cons rfl (cells_one (hS.own 0 rfl).one) Parts.nil)) rfl rfl rfl rfl rfl rfl rfl (fun w1 hB => ⟨⟨rfl, (hS.own 0 rfl).one⟩, trivial⟩) (fun _ h => h.elim) rfl fun w2475 v2475 ho2475 hv2475 hB2475 => ?_
    replace f1288 := f1288.ext hB2475
    replace f1289 := f1289.ext hB2475
    replace f1290 := f1290.ext hB2475
    replace f1291 := f1291.ext hB2475
    replace hS := hS.newOwnS hB2475 ho2475 hv2475 (fun _ h => h.elim)
    replace hS := hS.pickB [1, 0, 2, 3, 4] 5 rfl rfl; simp only [List.map_cons, List.map_nil, List.getD_cons_zero, List.getD_cons_succ] at hS
    replace hS := hS.famOne
    obtain ⟨x2479, hx2479, ho1250⟩ := Option.of_bind ho1250
    obtain ⟨hcr2478, hce2478⟩ := catL_raw (hS.famLen 4 rfl) (hS.famLen 0 rfl) (snoc_cat hx2479)
    refine q_catOwn (T := Ty.raw) rfl rfl rfl rfl (hS.own 3 rfl) rfl (hS.own 1 rfl) (fun _ h _ => h.elim) hcr2478 (Nat.zero_le _) rfl (fun h => by cases h) fun v2478 w2478 hw2478 hgr2478 hnw2478 => ?_
    have hk2478 := hS.keptOwn 3 rfl hgr2478
    replace f1288 := f1288.kept hk2478
    replace f1289 := f1289.kept hk2478
    replace f1290 := f1290.kept hk2478
    replace f1291 := f1291.kept hk2478
    replace hS := hS.setOwn 3 rfl hw2478 hgr2478 hnw2478; simp only [List.set] at hS
    replace hS := hS.pickB [4, 0, 1, 2, 3] 5 rfl rfl; simp only [List.map_cons, List.map_nil, List.getD_cons_zero, List.getD_cons_succ] at hS
    replace hS := hS.famCat; rw [hce2478] at hS
    refine q_assign rfl rfl ?_
    refine eseq_nil ?_
    refine hK2468 _ _ ?_
    refine e_region_text rfl ?_
    refine q_move rfl rfl ?_
    refine q_addW rfl rfl rfl ?_
    refine q_assign rfl rfl ?_
    refine eseq_nil ?_
    obtain rfl := Option.some.inj ho1250
    exact ⟨m1250, _, Nat.lt_succ_self _, ⟨x2479, (w64 (x1297 + 1)), v2478, (v1293 ++ ([v2473])), _, ht1250, (hS.pickB [2, 3, 0] 4 rfl rfl), f1288, f1289, f1290, f1291, rfl⟩, Sub.cons rfl (Sub.cons rfl (Sub.cons rfl (Sub.cons rfl (Sub.nil _))))⟩
  · replace ho1250 := (if_neg (not_true hc2467)).symm.trans ho1250
    refine e_exit ?_
    obtain rfl := Option.some.inj ho1250
    obtain rfl := Option.some.inj ht1250
    exact hX1250_0 x1294 v1292 v1293 _ _ _ h hS f1288 f1289 f1290 f1291 (Sub.cons rfl (Sub.cons rfl (Sub.cons rfl (Sub.nil _))))
end Go.Proofs.Ytlceljfigccllaa
