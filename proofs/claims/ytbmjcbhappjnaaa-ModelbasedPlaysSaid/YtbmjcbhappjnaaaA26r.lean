/- Printed walks: A26r. -/
import Derived.Test.YtbmjcbhappjnaaaTypes
import Derived.Test.YtbmjcbhappjnaaaAcdat
import Derived.Test.YtbmjcbhappjnaaaDel
set_option linter.unusedVariables false
set_option linter.unusedSimpArgs false
namespace Go.Mine
open Go.RowKit
def ref26_Merge_K1 (fuel : Nat) (x156 : (List Int)) : Option ((List Int)) :=
  some x156
def ref26_Merge_B1 (fuel : Nat) (a1 : (List Int)) (x128 : (List Int)) (x129 : Int) : Option (((List Int) × Int) ⊕ ((List Int))) :=
  (andM (decide (x129 < (x128.length : Int))) (some (decide (x129 < (a1.length : Int))))).bind fun x163 => (if x163 = true then (ati x128 x129).bind fun x166 => (ati a1 x129).bind fun x168 => (ati x128 x129).bind fun x170 => (seti x128 x129 (max x166 x168)).bind fun x172 => some (Sum.inl (x172, (w64 (x129 + 1)))) else some (Sum.inr x128))
def ref26_Merge (fuel : Nat) (a0 : (List Int)) (a1 : (List Int)) : Option ((List Int)) :=
  (catL ([] : List Int) a0).bind fun x93 => (iter (fun s => ref26_Merge_B1 fuel a1 s.1 s.2) fuel (x93, 0)).bind (fun t => ref26_Merge_K1 fuel t)
def ref26_New_K1 (fuel : Nat) : Option (Bool) :=
  some false
def ref26_New_B1 (fuel : Nat) (a0 : (List Int)) (a1 : (List Int)) (x107 : Int) : Option ((Int) ⊕ (Unit ⊕ (Bool))) :=
  (andM (decide (x107 < (a0.length : Int))) (some (decide (x107 < (a1.length : Int))))).bind fun x136 => (if x136 = true then (ati a1 x107).bind fun x140 => (ati a0 x107).bind fun x142 => (if (decide (x142 < x140)) = true then some (Sum.inr (Sum.inr true)) else some (Sum.inl (w64 (x107 + 1)))) else some (Sum.inr (Sum.inl ())))
def ref26_New (fuel : Nat) (a0 : (List Int)) (a1 : (List Int)) : Option (Bool) :=
  (iter (fun s => ref26_New_B1 fuel a0 a1 s) fuel 0).bind (fun t => Sum.elim (fun t => ref26_New_K1 fuel) (fun t => some t) t)
def ref26_Forces (fuel : Nat) (a0 : Int) (a1 : (List Int)) (a2 : (List Int)) (a3 : Bool) (a4 : Bool) : Option (Bool) :=
  (if (a0 == 1) = true then some a4 else (if (a0 == 2) = true then some a3 else (if (a0 == 3) = true then (andM a4 ((ref26_New fuel a1 a2).bind fun r54 => some r54)).bind fun x52 => some x52 else (if (a0 == 4) = true then (andM a3 ((ref26_New fuel a1 a2).bind fun r66 => some r66)).bind fun x63 => some x63 else some false))))
def ref25_Empty_K1 (fuel : Nat) (x158 : (List Int)) (x263 : (List (List Int))) (x268 : (List (List Bool))) : Option (Hist) :=
  some (⟨(⟨x158, x263, ([] : List Arc)⟩ : Pat), ([] : List (List Int)), ([] : List (List (List Int))), x268⟩ : Hist)
def ref25_Empty_B1 (fuel : Nat) (a0 : Int) (x214 : (List (List Int))) (x219 : (List (List Bool))) (x222 : Int) : Option (((List (List Int)) × (List (List Bool)) × Int) ⊕ ((List (List Int)) × (List (List Bool)))) :=
  (if (decide (x222 < a0)) = true then (snoc x214 ([0])).bind fun x288 => (snoc x219 ([false])).bind fun x296 => some (Sum.inl (x288, x296, (w64 (x222 + 1)))) else some (Sum.inr (x214, x219)))
def ref25_Empty (fuel : Nat) (a0 : Int) : Option (Hist) :=
  (mkL a0 (0 : Int)).bind fun x158 => (iter (fun s => ref25_Empty_B1 fuel a0 s.1 s.2.1 s.2.2) fuel (([] : List (List Int)), ([] : List (List Bool)), 0)).bind (fun t => ref25_Empty_K1 fuel x158 t.1 t.2)
def ref26_run_active (fuel : Nat) (a1 : Int) (c0_0 : (List Int)) (c0_1 : (List (List Int))) (c0_2 : (List Arc)) (c0_3 : (List (List Int))) (c0_4 : (List (List (List Int)))) (c0_5 : (List (List Bool))) (c0_6 : Int) (c0_7 : (List (List Int))) (c0_8 : (List Bool)) (c0_9 : (List Ref26Flying)) : Option (Bool) :=
  (ati c0_0 a1).bind fun x33 => (ati c0_1 a1).bind fun x35 => (ati c0_1 a1).bind fun x38 => (ati x35 (w64 ((x38.length : Int) - 1))).bind fun x41 => some (decide (x41 < x33))
def ref26_run_take (fuel : Nat) (a1 : Int) (a2 : Bool) (c0_0 : (List Int)) (c0_1 : (List (List Int))) (c0_2 : (List Arc)) (c0_3 : (List (List Int))) (c0_4 : (List (List (List Int)))) (c0_5 : (List (List Bool))) (c0_6 : Int) (c0_7 : (List (List Int))) (c0_8 : (List Bool)) (c0_9 : (List Ref26Flying)) : Option ((List (List Int)) × (List (List (List Int))) × (List (List Bool)) × (List (List Int)) × (List Bool)) :=
  (ati c0_1 a1).bind fun x118 => (ati c0_0 a1).bind fun x119 => (snoc x118 x119).bind fun x124 => (seti c0_1 a1 x124).bind fun x125 => (ati x125 a1).bind fun x126 => (ati c0_4 a1).bind fun x144 => (ati c0_7 a1).bind fun x145 => (catL ([] : List Int) x145).bind fun x148 => (catL x144 ([x148])).bind fun x155 => (seti c0_4 a1 x155).bind fun x156 => (ati x156 a1).bind fun x157 => (ati c0_5 a1).bind fun x168 => (snoc x168 a2).bind fun x172 => (seti c0_5 a1 x172).bind fun x173 => (ati x173 a1).bind fun x174 => (ati c0_7 a1).bind fun x177 => (ati x177 a1).bind fun x178 => (ati x177 a1).bind fun x180 => (seti x177 a1 (w64 (x178 + 1))).bind fun x182 => (seti c0_7 a1 x182).bind fun x183 => (ati c0_8 a1).bind fun x184 => (seti c0_8 a1 false).bind fun x186 => some (x125, x156, x173, x183, x186)
def ref26_run_act_J1 (fuel : Nat) (x465 : Arc) (x434 : Ref26Flying) (c0_0 : (List Int)) (c0_2 : (List Arc)) (x462 : (List Ref26Flying)) (x501 : (List (List Int))) (x508 : (List (List (List Int)))) (x513 : (List (List Bool))) (x518 : (List (List Int))) (x523 : (List Bool)) : Option ((List Int) × (List (List Int)) × (List Arc) × (List (List (List Int))) × (List (List Bool)) × (List (List Int)) × (List Bool) × (List Ref26Flying)) :=
  (ati x518 x465.to).bind fun x534 => (ref26_Merge fuel x534 x434.vector).bind fun r536 => (ati x518 x465.to).bind fun x538 => (seti x518 x465.to r536).bind fun x540 => (ati c0_0 x465.to).bind fun x542 => (ati c0_0 x465.to).bind fun x544 => (seti c0_0 x465.to (w64 (x542 + 1))).bind fun x546 => (ati x546 x465.to).bind fun x547 => (ati c0_2 x434.arc).bind fun x549 => (seti c0_2 x434.arc ({ x549 with rcv := x547 })).bind fun x551 => some (x546, x501, x551, x508, x513, x540, x523, x462)
def ref26_run_act (fuel : Nat) (a1 : Deed) (c0_0 : (List Int)) (c0_1 : (List (List Int))) (c0_2 : (List Arc)) (c0_3 : (List (List Int))) (c0_4 : (List (List (List Int)))) (c0_5 : (List (List Bool))) (c0_6 : Int) (c0_7 : (List (List Int))) (c0_8 : (List Bool)) (c0_9 : (List Ref26Flying)) : Option ((List Int) × (List (List Int)) × (List Arc) × (List (List (List Int))) × (List (List Bool)) × (List (List Int)) × (List Bool) × (List Ref26Flying)) :=
  (if (a1.kind == 1) = true then (orM (decide (a1.proc < 0)) (some (decide ((c0_0.length : Int) ≤ a1.proc)))).bind fun x330 => (orM x330 (some (decide (a1.other < 0)))).bind fun x334 => (orM x334 (some (decide ((c0_0.length : Int) ≤ a1.other)))).bind fun x338 => (orM x338 (some (a1.other == a1.proc))).bind fun x342 => (orM x342 ((ati c0_0 a1.proc).bind fun x349 => some (decide (64 ≤ x349)))).bind fun x348 => (if x348 = true then some (c0_0, c0_1, c0_2, c0_4, c0_5, c0_7, c0_8, c0_9) else (ati c0_0 a1.proc).bind fun x353 => (ati c0_0 a1.proc).bind fun x355 => (seti c0_0 a1.proc (w64 (x353 + 1))).bind fun x357 => (ati c0_8 a1.proc).bind fun x359 => (seti c0_8 a1.proc true).bind fun x361 => (ati c0_7 a1.proc).bind fun x373 => (catL ([] : List Int) x373).bind fun x376 => (snoc c0_9 (⟨(c0_2.length : Int), x376⟩ : Ref26Flying)).bind fun x381 => (ati x357 a1.proc).bind fun x390 => (snoc c0_2 (⟨a1.proc, x390, a1.other, 0⟩ : Arc)).bind fun x395 => some (x357, c0_1, x395, c0_4, c0_5, c0_7, x361, x381)) else (if (a1.kind == 2) = true then (orM (decide (a1.other < 0)) (some (decide ((c0_9.length : Int) ≤ a1.other)))).bind fun x404 => (orM x404 ((ati c0_9 a1.other).bind fun x417 => (ati c0_2 x417.arc).bind fun x420 => (ati c0_0 x420.to).bind fun x423 => some (decide (64 ≤ x423)))).bind fun x416 => (if x416 = true then some (c0_0, c0_1, c0_2, c0_4, c0_5, c0_7, c0_8, c0_9) else (ati c0_9 a1.other).bind fun x434 => (takeL c0_9 a1.other).bind fun x455 => (dropL c0_9 (w64 (a1.other + 1))).bind fun x457 => (catL ([] : List Ref26Flying) x455).bind fun x460 => (catL x460 x457).bind fun x462 => (ati c0_2 x434.arc).bind fun x465 => (ati c0_7 x465.to).bind fun x560 => (ati c0_8 x465.to).bind fun x561 => (ref26_run_active fuel x465.to c0_0 c0_1 c0_2 c0_3 c0_4 c0_5 c0_6 c0_7 c0_8 x462).bind fun r564 => (ref26_Forces fuel c0_6 x560 x434.vector x561 r564).bind fun r566 => (if r566 = true then (ref26_run_take fuel x465.to true c0_0 c0_1 c0_2 c0_3 c0_4 c0_5 c0_6 c0_7 c0_8 x462).bind fun r569 => ref26_run_act_J1 fuel x465 x434 c0_0 c0_2 x462 r569.1 r569.2.1 r569.2.2.1 r569.2.2.2.1 r569.2.2.2.2 else ref26_run_act_J1 fuel x465 x434 c0_0 c0_2 x462 c0_1 c0_4 c0_5 c0_7 c0_8)) else (if (a1.kind == 3) = true then (andM (decide (0 ≤ a1.proc)) (some (decide (a1.proc < (c0_0.length : Int))))).bind fun x585 => (andM x585 ((ref26_run_active fuel a1.proc c0_0 c0_1 c0_2 c0_3 c0_4 c0_5 c0_6 c0_7 c0_8 c0_9).bind fun r593 => some r593)).bind fun x591 => (if x591 = true then (ref26_run_take fuel a1.proc false c0_0 c0_1 c0_2 c0_3 c0_4 c0_5 c0_6 c0_7 c0_8 c0_9).bind fun r596 => some (c0_0, r596.1, c0_2, r596.2.1, r596.2.2.1, r596.2.2.2.1, r596.2.2.2.2, c0_9) else some (c0_0, c0_1, c0_2, c0_4, c0_5, c0_7, c0_8, c0_9)) else some (c0_0, c0_1, c0_2, c0_4, c0_5, c0_7, c0_8, c0_9))))
def ref26_Play_K2 (fuel : Nat) (x1064 : (List Int)) (x1067 : (List (List Int))) (x1072 : (List Arc)) (x1075 : (List (List (List Int)))) (x1080 : (List (List Bool))) (x1085 : (List (List Int))) (x1090 : (List Bool)) (x1093 : (List Ref26Flying)) : Option (Hist × Int) :=
  some ((⟨(⟨x1064, x1067, x1072⟩ : Pat), ([] : List (List Int)), x1075, x1080⟩ : Hist), 0)
def ref26_Play_B1 (fuel : Nat) (a2 : (List Deed)) (a1 : Int) (x972 : (List Int)) (x975 : (List (List Int))) (x980 : (List Arc)) (x983 : (List (List (List Int)))) (x988 : (List (List Bool))) (x993 : (List (List Int))) (x998 : (List Bool)) (x1001 : (List Ref26Flying)) (x1002 : Int) : Option (((List Int) × (List (List Int)) × (List Arc) × (List (List (List Int))) × (List (List Bool)) × (List (List Int)) × (List Bool) × (List Ref26Flying) × Int) ⊕ ((List Int) × (List (List Int)) × (List Arc) × (List (List (List Int))) × (List (List Bool)) × (List (List Int)) × (List Bool) × (List Ref26Flying))) :=
  (if (decide (x1002 < (a2.length : Int))) = true then (ati a2 x1002).bind fun x1102 => (ref26_run_act fuel x1102 x972 x975 x980 ([] : List (List Int)) x983 x988 a1 x993 x998 x1001).bind fun r1106 => some (Sum.inl (r1106.1, r1106.2.1, r1106.2.2.1, r1106.2.2.2.1, r1106.2.2.2.2.1, r1106.2.2.2.2.2.1, r1106.2.2.2.2.2.2.1, r1106.2.2.2.2.2.2.2, (w64 (x1002 + 1)))) else some (Sum.inr (x972, x975, x980, x983, x988, x993, x998, x1001)))
def ref26_Play_K1 (fuel : Nat) (a2 : (List Deed)) (a1 : Int) (x686 : (List Int)) (x689 : (List (List Int))) (x694 : (List (List Bool))) (x699 : (List Bool)) (x881 : (List (List (List Int)))) (x888 : (List (List Int))) : Option (Hist × Int) :=
  (iter (fun s => ref26_Play_B1 fuel a2 a1 s.1 s.2.1 s.2.2.1 s.2.2.2.1 s.2.2.2.2.1 s.2.2.2.2.2.1 s.2.2.2.2.2.2.1 s.2.2.2.2.2.2.2.1 s.2.2.2.2.2.2.2.2) fuel (x686, x689, ([] : List Arc), x881, x694, x888, x699, ([] : List Ref26Flying), 0)).bind (fun t => ref26_Play_K2 fuel t.1 t.2.1 t.2.2.1 t.2.2.2.1 t.2.2.2.2.1 t.2.2.2.2.2.1 t.2.2.2.2.2.2.1 t.2.2.2.2.2.2.2)
def ref26_Play_B2 (fuel : Nat) (a0 : Int) (x794 : (List (List (List Int)))) (x801 : (List (List Int))) (x805 : Int) : Option (((List (List (List Int))) × (List (List Int)) × Int) ⊕ ((List (List (List Int))) × (List (List Int)))) :=
  (if (decide (x805 < a0)) = true then (mkL a0 (0 : Int)).bind fun x1128 => (ati x1128 x805).bind fun x1132 => (seti x1128 x805 1).bind fun x1134 => (snoc x801 x1134).bind fun x1140 => (mkL a0 (0 : Int)).bind fun x1156 => (snoc x794 ([x1156])).bind fun x1168 => some (Sum.inl (x1168, x1140, (w64 (x805 + 1)))) else some (Sum.inr (x794, x801)))
def ref26_Play_J1 (fuel : Nat) (a0 : Int) (a2 : (List Deed)) (a1 : Int) (x686 : (List Int)) (x689 : (List (List Int))) (x694 : (List (List Bool))) (x699 : (List Bool)) : Option (Hist × Int) :=
  (iter (fun s => ref26_Play_B2 fuel a0 s.1 s.2.1 s.2.2) fuel (([] : List (List (List Int))), ([] : List (List Int)), 0)).bind (fun t => ref26_Play_K1 fuel a2 a1 x686 x689 x694 x699 t.1 t.2)
def ref26_Play (fuel : Nat) (a0 : Int) (a1 : Int) (a2 : (List Deed)) : Option (Hist × Int) :=
  (orM (decide (a0 < 1)) (some (decide (5 < a0)))).bind fun x604 => (orM x604 (some (decide (a1 < 1)))).bind fun x608 => (orM x608 (some (decide (4 < a1)))).bind fun x612 => (if x612 = true then some ((⟨(⟨([] : List Int), ([] : List (List Int)), ([] : List Arc)⟩ : Pat), ([] : List (List Int)), ([] : List (List (List Int))), ([] : List (List Bool))⟩ : Hist), 3) else (if (decide (200 < (a2.length : Int))) = true then some ((⟨(⟨([] : List Int), ([] : List (List Int)), ([] : List Arc)⟩ : Pat), ([] : List (List Int)), ([] : List (List (List Int))), ([] : List (List Bool))⟩ : Hist), 4) else (ref25_Empty fuel a0).bind fun r639 => (mkL a0 false).bind fun x648 => ref26_Play_J1 fuel a0 a2 a1 r639.pat.lens r639.pat.ckpts r639.forced x648))
end Go.Mine
namespace Go.Proofs.Ytbmjcbhappjnaaa
open Go.RowKit Go.Mine
attribute [local irreducible] eseq ewp iter
theorem ref26_Merge_w {F R : Nat → Prop} {w : World} {fuel : Nat} {a0 : (List Int)} {a1 : (List Int)} {v1 : Value} {v2 : Value} {r : ((List Int))} (hS : Sep F R R w w []) (f1 : IsSlice Ty.int w R v1 a0) (f2 : IsSlice Ty.int w R v2 a1) (h : ref26_Merge fuel a0 a1 = some r) :
    Gives Try.prog 96 [v1, v2] w fun u w1 => ∃ (v88 : Value), ∃ (R1 : Nat → Prop), u = v88 ∧ Sep F R R1 w w1 [HP.own Ty.int (fun _ => False) 3 v88 r] := by
  refine fn_of Try.func96 rfl Try.ntmps96 (Nat.le_of_ble_eq_true rfl) ?_
  unfold ref26_Merge at h
  refine e_seq fun K89 hK89 => ?_
  refine e_region_text rfl ?_
  refine q_assign rfl rfl ?_
  refine eseq_nil ?_
  refine hK89 _ _ ?_
  refine e_seq fun K90 hK90 => ?_
  refine e_region_text rfl ?_
  refine q_move rfl rfl ?_
  replace hS := hS.nilOwn0 Ty.int 3
  obtain ⟨x93, hx93, h⟩ := Option.of_bind h
  refine q_catE (T := Ty.int) rfl rfl rfl rfl (hS.own 0 rfl) rfl f1 hx93 (Nat.zero_le _) rfl (fun h => by cases h) fun v92 w92 hw92 hgr92 hnw92 => ?_
  have hk92 := hS.keptOwn 0 rfl hgr92
  replace f2 := f2.kept hk92
  replace f1 := f1.kept hk92
  replace hS := hS.setOwn 0 rfl hw92 hgr92 hnw92; simp only [List.set] at hS
  refine q_assign rfl rfl ?_
  refine eseq_nil ?_
  refine hK90 _ _ ?_
  refine e_seq fun K94 hK94 => ?_
  refine e_seq fun K95 hK95 => ?_
  refine e_region_text rfl ?_
  refine q_assign rfl rfl ?_
  refine eseq_nil ?_
  refine hK95 _ _ ?_
  refine e_block ?_
  obtain ⟨tl96, ht96, h⟩ := Option.of_bind h
  have hX96_0 : ∀ (x156 : (List Int)) (v155 : Value) (R152 : Nat → Prop) (w153 : World) (E_ : Env), ref26_Merge_K1 fuel x156 = some r → Sep F R R152 w w153 [HP.own Ty.int (fun _ => False) 3 v155 x156] → Sub [(5, v155)] E_ → K94 E_ w153 := by
    intro x156 v155 R152 w153 E_ h hS  hsub
    refine hK94 _ _ (e_sub hsub ?_); clear hsub
    unfold ref26_Merge_K1 at h
    refine e_seq fun K157 hK157 => ?_
    refine e_region_text rfl ?_
    refine q_move rfl rfl ?_
    refine q_assign rfl rfl ?_
    refine eseq_nil ?_
    refine hK157 _ _ ?_
    refine e_ret ?_
    obtain rfl := Option.some.inj h
    exact ⟨_, res1 rfl rfl, v155, _, rfl, hS⟩
  refine e_loop (fun m_ E_ w124 => ∃ (x128 : (List Int)), ∃ (x129 : Int), ∃ (v127 : Value), ∃ (R123 : Nat → Prop), iter (fun s => ref26_Merge_B1 fuel a1 s.1 s.2) m_ (x128, x129) = some tl96 ∧ Sep F R R123 w w124 [HP.own Ty.int (fun _ => False) 3 v127 x128] ∧ IsSlice Ty.int w124 R123 v2 a1 ∧ E_ = [(1, v2), (5, v127), (6, .int .i64 x129)]) _ ⟨_, ⟨x93, 0, v92, _, ht96, hS, f2, rfl⟩, Sub.cons rfl (Sub.cons rfl (Sub.cons rfl (Sub.nil _)))⟩ ?_
  clear ht96 hS
  rintro m96 _ w124 ⟨x128, x129, v127, R123, ht96, hS, f125, rfl⟩
  obtain ⟨m96, rfl, o96, ho96, ht96⟩ := iter_some ht96
  replace ho96 : ref26_Merge_B1 fuel a1 x128 x129 = some o96 := ho96
  unfold ref26_Merge_B1 at ho96
  refine e_seq fun K158 hK158 => ?_
  refine e_seq fun K159 hK159 => ?_
  refine e_region_text rfl ?_
  refine q_move rfl rfl ?_
  refine q_move rfl rfl ?_
  refine q_lenS rfl (hS.isl 0 rfl) rfl ?_
  refine q_lss rfl rfl rfl ?_
  refine q_move rfl rfl ?_
  obtain ⟨x163, hx162, ho96⟩ := Option.of_bind ho96
  refine g_andM 4 hx162 rfl trivial rfl rfl ?_ ?_ ?_
  · intro hg162 hx162
    clear ho96
    have hT162 := Below.refl (World.heap w124).size w124
    refine g_run rfl ?_; refine q_move rfl rfl ?_
    refine g_run rfl ?_; refine q_move rfl rfl ?_
    refine g_run rfl ?_; refine q_lenS rfl f125 rfl ?_
    refine g_run rfl ?_; refine q_lss rfl rfl rfl ?_
    cases hx162
    exact eseq_nil ⟨hT162, Sub.set rfl (Sub.set rfl (Sub.set rfl (Sub.set rfl (Sub.bool true rfl hg162)))), rfl⟩
  · intro hg162
    refine g_skip rfl rfl rfl ?_
    refine g_skip rfl rfl rfl ?_
    refine g_skip rfl rfl rfl ?_
    refine g_skip rfl rfl rfl ?_
    exact eseq_nil ⟨rfl, Sub.set rfl (Sub.set rfl (Sub.set rfl (Sub.set rfl (Sub.bool false rfl hg162))))⟩
  intro wm162 hBm162; clear hx162
  replace hS := hS.below hBm162
  replace f125 := f125.ext hBm162
  refine eseq_nil ?_
  refine hK159 _ _ ?_
  refine e_cond rfl (fun hc164 => ?_) (fun hc164 => ?_)
  · replace ho96 := (if_pos hc164).symm.trans ho96
    refine e_skip ?_
    refine hK158 _ _ ?_
    refine e_seq fun K165 hK165 => ?_
    refine e_block ?_
    refine e_region_draw mixed (fun _ => False) [0, 0, 0, 0, 12, 28, 0, 0, 192, 448, 1020, 2047, 4095] [] [0, 1, 2, 3, 4, 5, 6, 7, 8, 9, 10, 11, 12] (by kernel_rfl) ?_
    refine q_move rfl rfl ?_
    refine q_move rfl rfl ?_
    refine q_move rfl rfl ?_
    refine q_move rfl rfl ?_
    obtain ⟨x166, hx166, ho96⟩ := Option.of_bind ho96
    refine q_indexO (by infer_instance) rfl (hS.own 0 rfl) rfl hx166 rfl ?_
    have f167 := (hS.ownR 0 rfl).elt hx166
    refine q_load rfl (Elt.intCell f167) rfl ?_
    refine q_move rfl rfl ?_
    refine q_move rfl rfl ?_
    obtain ⟨x168, hx168, ho96⟩ := Option.of_bind ho96
    refine q_atS (by infer_instance) rfl f125 rfl hx168 rfl fun b169 o169 hm169 f169 => ?_
    refine q_load rfl (Elt.intCell f169) rfl ?_
    refine q_max rfl rfl rfl ?_
    obtain ⟨x170, hx170, ho96⟩ := Option.of_bind ho96
    refine q_indexO (by infer_instance) rfl (hS.own 0 rfl) rfl hx170 rfl ?_
    obtain ⟨x172, hx172, ho96⟩ := Option.of_bind ho96
    refine q_storeO (T := Ty.int) (j := 0) rfl rfl (hS.own 0 rfl) hx170 hx172 rfl rfl rfl (Enc.setL rfl) fun w171 ho171 hO171 => ?_
    have hk171 := hS.keptO 0 rfl hx170 hO171
    replace f125 := f125.kept hk171
    replace hS := hS.putO 0 rfl hx170 ho171 hO171; simp only [List.set] at hS
    refine eseq_nil ?_
    refine hK165 _ _ ?_
    refine e_region_text rfl ?_
    refine q_move rfl rfl ?_
    refine q_addW rfl rfl rfl ?_
    refine q_assign rfl rfl ?_
    refine eseq_nil ?_
    obtain rfl := Option.some.inj ho96
    exact ⟨m96, _, Nat.lt_succ_self _, ⟨x172, (w64 (x129 + 1)), v127, _, ht96, hS, f125, rfl⟩, Sub.cons rfl (Sub.cons rfl (Sub.cons rfl (Sub.nil _)))⟩
  · replace ho96 := (if_neg (not_true hc164)).symm.trans ho96
    refine e_exit ?_
    obtain rfl := Option.some.inj ho96
    obtain rfl := Option.some.inj ht96
    exact hX96_0 x128 v127 _ _ _ h hS  (Sub.cons rfl (Sub.nil _))
theorem ref26_New_w {F R : Nat → Prop} {w : World} {fuel : Nat} {a0 : (List Int)} {a1 : (List Int)} {v1 : Value} {v2 : Value} {r : (Bool)} (hS : Sep F R R w w []) (f1 : IsSlice Ty.int w R v1 a0) (f2 : IsSlice Ty.int w R v2 a1) (h : ref26_New fuel a0 a1 = some r) :
    Gives Try.prog 127 [v1, v2] w fun u w1 => ∃ (R1 : Nat → Prop), u = .bool r ∧ Sep F R R1 w w1 [] := by
  refine fn_of Try.func127 rfl Try.ntmps127 (Nat.le_of_ble_eq_true rfl) ?_
  unfold ref26_New at h
  refine e_seq fun K75 hK75 => ?_
  refine e_region_text rfl ?_
  refine q_assign rfl rfl ?_
  refine eseq_nil ?_
  refine hK75 _ _ ?_
  refine e_seq fun K76 hK76 => ?_
  refine e_seq fun K77 hK77 => ?_
  refine e_region_text rfl ?_
  refine q_assign rfl rfl ?_
  refine eseq_nil ?_
  refine hK77 _ _ ?_
  refine e_block ?_
  obtain ⟨tl78, ht78, h⟩ := Option.of_bind h
  have hX78_0 : ∀ (R128 : Nat → Prop) (w129 : World) (E_ : Env), ref26_New_K1 fuel = some r → Sep F R R128 w w129 [] → Sub [] E_ → K76 E_ w129 := by
    intro R128 w129 E_ h hS  hsub
    refine hK76 _ _ (e_sub hsub ?_); clear hsub
    unfold ref26_New_K1 at h
    refine e_seq fun K130 hK130 => ?_
    refine e_region_text rfl ?_
    refine q_assign rfl rfl ?_
    refine eseq_nil ?_
    refine hK130 _ _ ?_
    refine e_ret ?_
    obtain rfl := Option.some.inj h
    exact ⟨_, res1 rfl rfl, _, rfl, hS⟩
  refine e_loop (fun m_ E_ w104 => ∃ (x107 : Int), ∃ (R103 : Nat → Prop), iter (fun s => ref26_New_B1 fuel a0 a1 s) m_ x107 = some tl78 ∧ Sep F R R103 w w104 [] ∧ IsSlice Ty.int w104 R103 v1 a0 ∧ IsSlice Ty.int w104 R103 v2 a1 ∧ E_ = [(0, v1), (1, v2), (5, .int .i64 x107)]) _ ⟨_, ⟨0, _, ht78, hS, f1, f2, rfl⟩, Sub.cons rfl (Sub.cons rfl (Sub.cons rfl (Sub.nil _)))⟩ ?_
  clear ht78 hS
  rintro m78 _ w104 ⟨x107, R103, ht78, hS, f105, f106, rfl⟩
  obtain ⟨m78, rfl, o78, ho78, ht78⟩ := iter_some ht78
  replace ho78 : ref26_New_B1 fuel a0 a1 x107 = some o78 := ho78
  unfold ref26_New_B1 at ho78
  refine e_seq fun K131 hK131 => ?_
  refine e_seq fun K132 hK132 => ?_
  refine e_region_text rfl ?_
  refine q_move rfl rfl ?_
  refine q_move rfl rfl ?_
  refine q_lenS rfl f105 rfl ?_
  refine q_lss rfl rfl rfl ?_
  refine q_move rfl rfl ?_
  obtain ⟨x136, hx135, ho78⟩ := Option.of_bind ho78
  refine g_andM 4 hx135 rfl trivial rfl rfl ?_ ?_ ?_
  · intro hg135 hx135
    clear ho78
    have hT135 := Below.refl (World.heap w104).size w104
    refine g_run rfl ?_; refine q_move rfl rfl ?_
    refine g_run rfl ?_; refine q_move rfl rfl ?_
    refine g_run rfl ?_; refine q_lenS rfl f106 rfl ?_
    refine g_run rfl ?_; refine q_lss rfl rfl rfl ?_
    cases hx135
    exact eseq_nil ⟨hT135, Sub.set rfl (Sub.set rfl (Sub.set rfl (Sub.set rfl (Sub.bool true rfl hg135)))), rfl⟩
  · intro hg135
    refine g_skip rfl rfl rfl ?_
    refine g_skip rfl rfl rfl ?_
    refine g_skip rfl rfl rfl ?_
    refine g_skip rfl rfl rfl ?_
    exact eseq_nil ⟨rfl, Sub.set rfl (Sub.set rfl (Sub.set rfl (Sub.set rfl (Sub.bool false rfl hg135))))⟩
  intro wm135 hBm135; clear hx135
  replace hS := hS.below hBm135
  replace f105 := f105.ext hBm135
  replace f106 := f106.ext hBm135
  refine eseq_nil ?_
  refine hK132 _ _ ?_
  refine e_cond rfl (fun hc137 => ?_) (fun hc137 => ?_)
  · replace ho78 := (if_pos hc137).symm.trans ho78
    refine e_skip ?_
    refine hK131 _ _ ?_
    refine e_seq fun K138 hK138 => ?_
    refine e_block ?_
    refine e_seq fun K139 hK139 => ?_
    refine e_region_draw mixed (fun _ => False) [0, 0, 3, 7, 0, 0, 48, 112, 255] [] [0, 1, 2, 3, 4, 5, 6, 7, 8] (by kernel_rfl) ?_
    refine q_move rfl rfl ?_
    refine q_move rfl rfl ?_
    obtain ⟨x140, hx140, ho78⟩ := Option.of_bind ho78
    refine q_atS (by infer_instance) rfl f106 rfl hx140 rfl fun b141 o141 hm141 f141 => ?_
    refine q_load rfl (Elt.intCell f141) rfl ?_
    refine q_move rfl rfl ?_
    refine q_move rfl rfl ?_
    obtain ⟨x142, hx142, ho78⟩ := Option.of_bind ho78
    refine q_atS (by infer_instance) rfl f105 rfl hx142 rfl fun b143 o143 hm143 f143 => ?_
    refine q_load rfl (Elt.intCell f143) rfl ?_
    refine q_gtr rfl rfl rfl ?_
    refine eseq_nil ?_
    refine hK139 _ _ ?_
    refine e_cond rfl (fun hc144 => ?_) (fun hc144 => ?_)
    · replace ho78 := (if_pos hc144).symm.trans ho78
      refine e_seq fun K145 hK145 => ?_
      refine e_region_text rfl ?_
      refine q_assign rfl rfl ?_
      refine eseq_nil ?_
      refine hK145 _ _ ?_
      refine e_ret ?_
      obtain rfl := Option.some.inj ho78
      obtain rfl := Option.some.inj ht78
      obtain rfl := Option.some.inj h
      exact ⟨_, res1 rfl rfl, _, rfl, hS⟩
    · replace ho78 := (if_neg (not_true hc144)).symm.trans ho78
      refine e_skip ?_
      refine hK138 _ _ ?_
      refine e_region_text rfl ?_
      refine q_move rfl rfl ?_
      refine q_addW rfl rfl rfl ?_
      refine q_assign rfl rfl ?_
      refine eseq_nil ?_
      obtain rfl := Option.some.inj ho78
      exact ⟨m78, _, Nat.lt_succ_self _, ⟨(w64 (x107 + 1)), _, ht78, hS, f105, f106, rfl⟩, Sub.cons rfl (Sub.cons rfl (Sub.cons rfl (Sub.nil _)))⟩
  · replace ho78 := (if_neg (not_true hc137)).symm.trans ho78
    refine e_exit ?_
    obtain rfl := Option.some.inj ho78
    obtain rfl := Option.some.inj ht78
    exact hX78_0  _ _ _ h hS  (Sub.nil _)
theorem ref26_Forces_w {F R : Nat → Prop} {w : World} {fuel : Nat} {a0 : Int} {a1 : (List Int)} {a2 : (List Int)} {a3 : Bool} {a4 : Bool} {v1 : Value} {v2 : Value} {r : (Bool)} (hS : Sep F R R w w []) (f1 : IsSlice Ty.int w R v1 a1) (f2 : IsSlice Ty.int w R v2 a2) (h : ref26_Forces fuel a0 a1 a2 a3 a4 = some r) :
    Gives Try.prog 93 [.int .i64 a0, v1, v2, .bool a3, .bool a4] w fun u w1 => ∃ (R1 : Nat → Prop), u = .bool r ∧ Sep F R R1 w w1 [] := by
  refine fn_of Try.func93 rfl Try.ntmps93 (Nat.le_of_ble_eq_true rfl) ?_
  unfold ref26_Forces at h
  refine e_seq fun K35 hK35 => ?_
  refine e_region_text rfl ?_
  refine q_assign rfl rfl ?_
  refine eseq_nil ?_
  refine hK35 _ _ ?_
  refine e_seq fun K36 hK36 => ?_
  refine e_seq fun K37 hK37 => ?_
  refine e_region_text rfl ?_
  refine q_move rfl rfl ?_
  refine eseq_nil ?_
  refine hK37 _ _ ?_
  refine e_block ?_
  refine e_seq fun K38 hK38 => ?_
  refine e_region_text rfl ?_
  refine q_eql rfl rfl rfl ?_
  refine q_assign rfl rfl ?_
  refine eseq_nil ?_
  refine hK38 _ _ ?_
  refine e_cond rfl (fun hc39 => ?_) (fun hc39 => ?_)
  · replace h := (if_pos hc39).symm.trans h
    refine e_seq fun K40 hK40 => ?_
    refine e_region_text rfl ?_
    refine q_move rfl rfl ?_
    refine q_assign rfl rfl ?_
    refine eseq_nil ?_
    refine hK40 _ _ ?_
    refine e_ret ?_
    obtain rfl := Option.some.inj h
    exact ⟨_, res1 rfl rfl, _, rfl, hS⟩
  · replace h := (if_neg (not_true hc39)).symm.trans h
    refine e_seq fun K41 hK41 => ?_
    refine e_region_text rfl ?_
    refine q_eql rfl rfl rfl ?_
    refine q_assign rfl rfl ?_
    refine eseq_nil ?_
    refine hK41 _ _ ?_
    refine e_cond rfl (fun hc42 => ?_) (fun hc42 => ?_)
    · replace h := (if_pos hc42).symm.trans h
      refine e_seq fun K43 hK43 => ?_
      refine e_region_text rfl ?_
      refine q_move rfl rfl ?_
      refine q_assign rfl rfl ?_
      refine eseq_nil ?_
      refine hK43 _ _ ?_
      refine e_ret ?_
      obtain rfl := Option.some.inj h
      exact ⟨_, res1 rfl rfl, _, rfl, hS⟩
    · replace h := (if_neg (not_true hc42)).symm.trans h
      refine e_seq fun K44 hK44 => ?_
      refine e_region_text rfl ?_
      refine q_eql rfl rfl rfl ?_
      refine q_assign rfl rfl ?_
      refine eseq_nil ?_
      refine hK44 _ _ ?_
      refine e_cond rfl (fun hc45 => ?_) (fun hc45 => ?_)
      · replace h := (if_pos hc45).symm.trans h
        refine e_seq fun K46 hK46 => ?_
        refine e_region_text rfl ?_
        refine q_move rfl rfl ?_
        refine q_move rfl rfl ?_
        obtain ⟨x52, hx51, h⟩ := Option.of_bind h
        refine g_andM 3 hx51 rfl trivial rfl rfl ?_ ?_ ?_
        · intro hg51 hx51
          clear h
          have hT51 := Below.refl (World.heap w).size w
          refine g_run rfl ?_; refine q_move rfl rfl ?_
          refine g_run rfl ?_; refine q_move rfl rfl ?_
          obtain ⟨r54, hr54, hx51⟩ := Option.of_bind hx51
          refine g_run rfl ?_; refine q_call rfl (ref26_New_w (Sep.enter (As := []) hS) f1 f2 hr54) rfl ?_
          rintro _ w53 ⟨R53, rfl, hC53⟩
          have hB53 : Below (World.heap w).size w w53 := hC53.stepB0
          refine ⟨fun _ => .of_below hB53, ?_⟩
          replace f1 := (f1.ext hB53).mono fun k hk _ => hC53.ro0 k hk
          replace f2 := (f2.ext hB53).mono fun k hk _ => hC53.ro0 k hk
          replace hT51 := hT51.trans (Below.mono hB53 hT51.size)
          replace hS := Sep.leave (As := []) hS hC53; simp only [List.cons_append, List.nil_append] at hS
          cases hx51
          exact eseq_nil ⟨hT51, Sub.set rfl (Sub.set rfl (Sub.set rfl (Sub.bool true rfl hg51))), rfl⟩
        · intro hg51
          refine g_skip rfl rfl rfl ?_
          refine g_skip rfl rfl rfl ?_
          refine g_skip rfl rfl rfl ?_
          exact eseq_nil ⟨rfl, Sub.set rfl (Sub.set rfl (Sub.set rfl (Sub.bool false rfl hg51)))⟩
        intro wm51 hBm51; clear hx51
        replace hS := hS.below hBm51
        refine q_assign rfl rfl ?_
        refine eseq_nil ?_
        refine hK46 _ _ ?_
        refine e_ret ?_
        obtain rfl := Option.some.inj h
        exact ⟨_, res1 rfl rfl, _, rfl, hS⟩
      · replace h := (if_neg (not_true hc45)).symm.trans h
        refine e_seq fun K55 hK55 => ?_
        refine e_region_text rfl ?_
        refine q_eql rfl rfl rfl ?_
        refine q_assign rfl rfl ?_
        refine eseq_nil ?_
        refine hK55 _ _ ?_
        refine e_cond rfl (fun hc56 => ?_) (fun hc56 => ?_)
        · replace h := (if_pos hc56).symm.trans h
          refine e_seq fun K57 hK57 => ?_
          refine e_region_text rfl ?_
          refine q_move rfl rfl ?_
          refine q_move rfl rfl ?_
          obtain ⟨x63, hx62, h⟩ := Option.of_bind h
          refine g_andM 3 hx62 rfl trivial rfl rfl ?_ ?_ ?_
          · intro hg62 hx62
            clear h
            have hT62 := Below.refl (World.heap w).size w
            refine g_run rfl ?_; refine q_move rfl rfl ?_
            refine g_run rfl ?_; refine q_move rfl rfl ?_
            obtain ⟨r66, hr66, hx62⟩ := Option.of_bind hx62
            refine g_run rfl ?_; refine q_call rfl (ref26_New_w (Sep.enter (As := []) hS) f1 f2 hr66) rfl ?_
            rintro _ w65 ⟨R65, rfl, hC65⟩
            have hB65 : Below (World.heap w).size w w65 := hC65.stepB0
            refine ⟨fun _ => .of_below hB65, ?_⟩
            replace f1 := (f1.ext hB65).mono fun k hk _ => hC65.ro0 k hk
            replace f2 := (f2.ext hB65).mono fun k hk _ => hC65.ro0 k hk
            replace hT62 := hT62.trans (Below.mono hB65 hT62.size)
            replace hS := Sep.leave (As := []) hS hC65; simp only [List.cons_append, List.nil_append] at hS
            cases hx62
            exact eseq_nil ⟨hT62, Sub.set rfl (Sub.set rfl (Sub.set rfl (Sub.bool true rfl hg62))), rfl⟩
          · intro hg62
            refine g_skip rfl rfl rfl ?_
            refine g_skip rfl rfl rfl ?_
            refine g_skip rfl rfl rfl ?_
            exact eseq_nil ⟨rfl, Sub.set rfl (Sub.set rfl (Sub.set rfl (Sub.bool false rfl hg62)))⟩
          intro wm62 hBm62; clear hx62
          replace hS := hS.below hBm62
          refine q_assign rfl rfl ?_
          refine eseq_nil ?_
          refine hK57 _ _ ?_
          refine e_ret ?_
          obtain rfl := Option.some.inj h
          exact ⟨_, res1 rfl rfl, _, rfl, hS⟩
        · replace h := (if_neg (not_true hc56)).symm.trans h
          refine e_skip ?_
          refine hK36 _ _ ?_
          refine e_seq fun K67 hK67 => ?_
          refine e_region_text rfl ?_
          refine q_assign rfl rfl ?_
          refine eseq_nil ?_
          refine hK67 _ _ ?_
          refine e_ret ?_
          obtain rfl := Option.some.inj h
          exact ⟨_, res1 rfl rfl, _, rfl, hS⟩
theorem ref25_Empty_w {F R : Nat → Prop} {w : World} {fuel : Nat} {a0 : Int} {r : (Hist)} (hS : Sep F R R w w []) (h : ref25_Empty fuel a0 = some r) :
    Gives Try.prog 48 [.int .i64 a0] w fun u w1 => ∃ (v146 : Value), ∃ (v147 : Value), ∃ (v148 : List Value), ∃ (v152 : Value), ∃ (v153 : List Value), ∃ (R1 : Nat → Prop), u = .agg #[v146, v147, .slice none 0 0, .slice none 0 0, .slice none 0 0, v152] ∧ Sep F R R1 w w1 [HP.own Ty.int (fun _ => False) 3 v146 r.pat.lens, HP.own Ty.raw (fun _ => False) 27 v147 v148, HP.famS Ty.int (fun _ => False) 3 v148 r.pat.ckpts, HP.own Ty.raw (fun _ => False) 99 v152 v153, HP.famS Ty.bool (fun _ => False) 4 v153 r.forced] := by
  refine fn_of Try.func48 rfl Try.ntmps48 (Nat.le_of_ble_eq_true rfl) ?_
  unfold ref25_Empty at h
  refine e_seq fun K154 hK154 => ?_
  refine e_region_text rfl ?_
  refine q_allocB rfl fun w155 bl155 hg155 hb155 hB155 => ?_
  replace hS := hS.newBlk hB155 hg155 hb155
  refine eseq_nil ?_
  refine hK154 _ _ ?_
  refine e_seq fun K157 hK157 => ?_
  refine e_region_text rfl ?_
  refine q_move rfl rfl ?_
  obtain ⟨x158, hx158, h⟩ := Option.of_bind h
  refine q_makeO (T := Ty.int) (S := (fun _ => False)) rfl rfl rfl hx158 (fun _ h => h.elim) rfl fun w159 v159 ho159 hv159 hB159 => ?_
  replace hS := hS.newOwnS hB159 ho159 hv159 (fun _ h => h.elim)
  refine q_build (Parts.cons rfl (cells_one (hS.own 0 rfl).one) Parts.nil) rfl rfl ?_
  refine q_build (Parts.cons rfl rfl Parts.nil) rfl rfl ?_
  refine q_allocB rfl fun w161 bl161 hg161 hb161 hB161 => ?_
  replace hS := hS.newBlk hB161 hg161 hb161
  refine q_storeAgg rfl rfl (hS.blk 0 rfl) rfl (Nat.le_of_ble_eq_true rfl) (all_cons (hS.own 1 rfl).one (all_cons rfl (all_cons rfl (all_cons rfl (all_cons rfl (all_cons rfl (all_nil))))))) rfl rfl fun w163 hb163 hO163 => ?_
  simp only [setN, List.set, List.take, List.drop] at hb163
  have hk163 := hS.keptBlk 0 rfl hO163
  replace hS := hS.setBlk 0 rfl hb163 hO163; simp only [List.set] at hS
  refine eseq_nil ?_
  refine hK157 _ _ ?_
  refine e_seq fun K164 hK164 => ?_
  refine e_seq fun K165 hK165 => ?_
  refine e_region_text rfl ?_
  refine q_assign rfl rfl ?_
  refine eseq_nil ?_
  refine hK165 _ _ ?_
  refine e_block ?_
  obtain ⟨tl166, ht166, h⟩ := Option.of_bind h
  have hX166_0 : ∀ (x263 : (List (List Int))) (x268 : (List (List Bool))) (v261 : Value) (v262 : List Value) (v266 : Value) (v267 : List Value) (R258 : Nat → Prop) (w259 : World) (E_ : Env), ref25_Empty_K1 fuel x158 x263 x268 = some r → Sep F R R258 w w259 [HP.blk bl155 [.slice none 0 0, .slice none 0 0, .slice none 0 0, .slice none 0 0, .slice none 0 0, .slice none 0 0] 35, HP.blk bl161 [v159, v261, .slice none 0 0, .slice none 0 0, .slice none 0 0, v266] 35, HP.own Ty.int (fun _ => False) 3 v159 x158, HP.own Ty.raw (fun _ => False) 27 v261 v262, HP.famS Ty.int (fun _ => False) 3 v262 x263, HP.own Ty.raw (fun _ => False) 99 v266 v267, HP.famS Ty.bool (fun _ => False) 4 v267 x268] → Sub [(2, .pointer (some ⟨bl155, 0, none⟩)), (3, .pointer (some ⟨bl161, 0, none⟩))] E_ → K164 E_ w259 := by
    intro x263 x268 v261 v262 v266 v267 R258 w259 E_ h hS  hsub
    refine hK164 _ _ (e_sub hsub ?_); clear hsub
    unfold ref25_Empty_K1 at h
    refine e_seq fun K271 hK271 => ?_
    refine e_region_text rfl ?_
    refine q_loadAgg rfl (Blk.cellsAt (hS.blk 1 rfl) 0 6 rfl) rfl rfl ?_
    refine q_storeAgg rfl rfl (hS.blk 0 rfl) rfl (Nat.le_of_ble_eq_true rfl) (all_cons (hS.own 2 rfl).one (all_cons (hS.own 3 rfl).one (all_cons rfl (all_cons rfl (all_cons rfl (all_cons (hS.own 5 rfl).one (all_nil))))))) rfl rfl fun w272 hb272 hO272 => ?_
    simp only [setN, List.set, List.take, List.drop] at hb272
    have hk272 := hS.keptBlk 0 rfl hO272
    replace hS := hS.setBlk 0 rfl hb272 hO272; simp only [List.set] at hS
    refine eseq_nil ?_
    refine hK271 _ _ ?_
    refine e_ret ?_
    obtain rfl := Option.some.inj h
    exact ⟨_, resC1 rfl rfl ((hS.blk 0 rfl).cellsAt 0 6 rfl) rfl, v159, v261, v262, v266, v267, _, rfl, (hS.pickB [2, 3, 4, 5, 6] 7 rfl rfl)⟩
  replace hS := hS.nilRows0 Ty.int 3 27
  replace hS := hS.nilRows0 Ty.bool 4 99
  refine e_loop (fun m_ E_ w210 => ∃ (x214 : (List (List Int))), ∃ (x219 : (List (List Bool))), ∃ (x222 : Int), ∃ (v212 : Value), ∃ (v213 : List Value), ∃ (v217 : Value), ∃ (v218 : List Value), ∃ (R209 : Nat → Prop), iter (fun s => ref25_Empty_B1 fuel a0 s.1 s.2.1 s.2.2) m_ (x214, x219, x222) = some tl166 ∧ Sep F R R209 w w210 [HP.blk bl155 [.slice none 0 0, .slice none 0 0, .slice none 0 0, .slice none 0 0, .slice none 0 0, .slice none 0 0] 35, HP.blk bl161 [v159, v212, .slice none 0 0, .slice none 0 0, .slice none 0 0, v217] 35, HP.own Ty.int (fun _ => False) 3 v159 x158, HP.own Ty.raw (fun _ => False) 27 v212 v213, HP.famS Ty.int (fun _ => False) 3 v213 x214, HP.own Ty.raw (fun _ => False) 99 v217 v218, HP.famS Ty.bool (fun _ => False) 4 v218 x219] ∧ E_ = [(0, .int .i64 a0), (2, .pointer (some ⟨bl155, 0, none⟩)), (3, .pointer (some ⟨bl161, 0, none⟩)), (4, .int .i64 x222)]) _ ⟨_, ⟨([] : List (List Int)), ([] : List (List Bool)), 0, (.slice none 0 0), ([] : List Value), (.slice none 0 0), ([] : List Value), _, ht166, (hS.pickB [6, 4, 5, 2, 3, 0, 1] 7 rfl rfl), rfl⟩, Sub.cons rfl (Sub.cons rfl (Sub.cons rfl (Sub.cons rfl (Sub.nil _))))⟩ ?_
  clear ht166 hS
  rintro m166 _ w210 ⟨x214, x219, x222, v212, v213, v217, v218, R209, ht166, hS, rfl⟩
  obtain ⟨m166, rfl, o166, ho166, ht166⟩ := iter_some ht166
  replace ho166 : ref25_Empty_B1 fuel a0 x214 x219 x222 = some o166 := ho166
  unfold ref25_Empty_B1 at ho166
  refine e_seq fun K277 hK277 => ?_
  refine e_seq fun K278 hK278 => ?_
  refine e_region_text rfl ?_
  refine q_move rfl rfl ?_
  refine q_move rfl rfl ?_
  refine q_lss rfl rfl rfl ?_
  refine eseq_nil ?_
  refine hK278 _ _ ?_
  refine e_cond rfl (fun hc279 => ?_) (fun hc279 => ?_)
  · replace ho166 := (if_pos hc279).symm.trans ho166
    refine e_skip ?_
    refine hK277 _ _ ?_
    refine e_seq fun K280 hK280 => ?_
    refine e_block ?_
    refine e_seq fun K281 hK281 => ?_
    refine e_region_text rfl ?_
    refine q_field rfl rfl ?_
    refine q_field rfl rfl ?_
    refine q_load rfl (Blk.cell (hS.blk 1 rfl) rfl) rfl ?_
    refine q_litO (T := Ty.int) (S := (fun _ => False)) (cells := [[.int .i64 0]]) (ys := [0]) ((Parts.cons rfl rfl Parts.nil)) rfl rfl rfl rfl rfl rfl rfl (fun w1 hB => ⟨rfl, trivial⟩) (fun _ h => h.elim) rfl fun w282 v282 ho282 hv282 hB282 => ?_
    replace hS := hS.newOwnS hB282 ho282 hv282 (fun _ h => h.elim)
    refine q_litO (T := Ty.raw) (S := (fun _ => False)) (cells := [[v282]]) (ys := [v282]) ((Parts.cons rfl (cells_one (hS.own 0 rfl).one) Parts.nil)) rfl rfl rfl rfl rfl rfl rfl (fun w1 hB => ⟨⟨rfl, (hS.own 0 rfl).one⟩, trivial⟩) (fun _ h => h.elim) rfl fun w284 v284 ho284 hv284 hB284 => ?_
    replace hS := hS.newOwnS hB284 ho284 hv284 (fun _ h => h.elim)
    replace hS := hS.pickB [1, 0, 2, 3, 4, 5, 6, 7, 8] 9 rfl rfl; simp only [List.map_cons, List.map_nil, List.getD_cons_zero, List.getD_cons_succ] at hS
    replace hS := hS.famOne
    obtain ⟨x288, hx288, ho166⟩ := Option.of_bind ho166
    obtain ⟨hcr287, hce287⟩ := catL_raw (hS.famLen 6 rfl) (hS.famLen 0 rfl) (snoc_cat hx288)
    refine q_catOwn (T := Ty.raw) rfl rfl rfl rfl (hS.own 5 rfl) rfl (hS.own 1 rfl) (fun _ h _ => h.elim) hcr287 (Nat.zero_le _) rfl (fun h => by cases h) fun v287 w287 hw287 hgr287 hnw287 => ?_
    have hk287 := hS.keptOwn 5 rfl hgr287
    replace hS := hS.setOwn 5 rfl hw287 hgr287 hnw287; simp only [List.set] at hS
    replace hS := hS.pickB [6, 0, 1, 2, 3, 4, 5, 7, 8] 9 rfl rfl; simp only [List.map_cons, List.map_nil, List.getD_cons_zero, List.getD_cons_succ] at hS
    replace hS := hS.famCat; rw [hce287] at hS
    refine q_field rfl rfl ?_
    refine q_field rfl rfl ?_
    refine q_store rfl rfl (hS.blk 3 rfl) (Nat.le_of_ble_eq_true rfl) (hS.own 5 rfl).one rfl rfl fun w289 hb289 hO289 => ?_
    have hk289 := hS.keptBlk 3 rfl hO289
    replace hS := hS.setBlk 3 rfl hb289 hO289; simp only [List.set] at hS
    refine eseq_nil ?_
    refine hK281 _ _ ?_
    refine e_region_text rfl ?_
    refine q_field rfl rfl ?_
    refine q_load rfl (Blk.cell (hS.blk 3 rfl) rfl) rfl ?_
    refine q_litO (T := Ty.bool) (S := (fun _ => False)) (cells := [[.bool false]]) (ys := [false]) ((Parts.cons rfl rfl Parts.nil)) rfl rfl rfl rfl rfl rfl rfl (fun w1 hB => ⟨rfl, trivial⟩) (fun _ h => h.elim) rfl fun w290 v290 ho290 hv290 hB290 => ?_
    replace hS := hS.newOwnS hB290 ho290 hv290 (fun _ h => h.elim)
    refine q_litO (T := Ty.raw) (S := (fun _ => False)) (cells := [[v290]]) (ys := [v290]) ((Parts.cons rfl (cells_one (hS.own 0 rfl).one) Parts.nil)) rfl rfl rfl rfl rfl rfl rfl (fun w1 hB => ⟨⟨rfl, (hS.own 0 rfl).one⟩, trivial⟩) (fun _ h => h.elim) rfl fun w292 v292 ho292 hv292 hB292 => ?_
    replace hS := hS.newOwnS hB292 ho292 hv292 (fun _ h => h.elim)
    replace hS := hS.pickB [1, 0, 2, 3, 4, 5, 6, 7, 8, 9] 10 rfl rfl; simp only [List.map_cons, List.map_nil, List.getD_cons_zero, List.getD_cons_succ] at hS
    replace hS := hS.famOne
    obtain ⟨x296, hx296, ho166⟩ := Option.of_bind ho166
    obtain ⟨hcr295, hce295⟩ := catL_raw (hS.famLen 9 rfl) (hS.famLen 0 rfl) (snoc_cat hx296)
    refine q_catOwn (T := Ty.raw) rfl rfl rfl rfl (hS.own 8 rfl) rfl (hS.own 1 rfl) (fun _ h _ => h.elim) hcr295 (Nat.zero_le _) rfl (fun h => by cases h) fun v295 w295 hw295 hgr295 hnw295 => ?_
    have hk295 := hS.keptOwn 8 rfl hgr295
    replace hS := hS.setOwn 8 rfl hw295 hgr295 hnw295; simp only [List.set] at hS
    replace hS := hS.pickB [9, 0, 1, 2, 3, 4, 5, 6, 7, 8] 10 rfl rfl; simp only [List.map_cons, List.map_nil, List.getD_cons_zero, List.getD_cons_succ] at hS
    replace hS := hS.famCat; rw [hce295] at hS
    refine q_field rfl rfl ?_
    refine q_store rfl rfl (hS.blk 5 rfl) (Nat.le_of_ble_eq_true rfl) (hS.own 8 rfl).one rfl rfl fun w297 hb297 hO297 => ?_
    have hk297 := hS.keptBlk 5 rfl hO297
    replace hS := hS.setBlk 5 rfl hb297 hO297; simp only [List.set] at hS
    refine eseq_nil ?_
    refine hK280 _ _ ?_
    refine e_region_text rfl ?_
    refine q_move rfl rfl ?_
    refine q_addW rfl rfl rfl ?_
    refine q_assign rfl rfl ?_
    refine eseq_nil ?_
    obtain rfl := Option.some.inj ho166
    exact ⟨m166, _, Nat.lt_succ_self _, ⟨x288, x296, (w64 (x222 + 1)), v287, (v213 ++ ([v282])), v295, (v218 ++ ([v290])), _, ht166, (hS.pickB [4, 5, 6, 7, 2, 8, 0] 9 rfl rfl), rfl⟩, Sub.cons rfl (Sub.cons rfl (Sub.cons rfl (Sub.cons rfl (Sub.nil _))))⟩
  · replace ho166 := (if_neg (not_true hc279)).symm.trans ho166
    refine e_exit ?_
    obtain rfl := Option.some.inj ho166
    obtain rfl := Option.some.inj ht166
    exact hX166_0 x214 x219 v212 v213 v217 v218 _ _ _ h hS  (Sub.cons rfl (Sub.cons rfl (Sub.nil _)))
theorem ref26_run_active_w {F R : Nat → Prop} {w : World} {fuel : Nat} {a1 : Int} {c0_0 : (List Int)} {c0_1 : (List (List Int))} {c0_2 : (List Arc)} {c0_3 : (List (List Int))} {c0_4 : (List (List (List Int)))} {c0_5 : (List (List Bool))} {c0_6 : Int} {c0_7 : (List (List Int))} {c0_8 : (List Bool)} {c0_9 : (List Ref26Flying)} {B0 : Nat} {v2 : Value} {v3 : Value} {v4 : Value} {v5 : Value} {v6 : Value} {v7 : Value} {v8 : Value} {v9 : Value} {v10 : Value} {r : (Bool)} (hS : Sep F R R w w []) (f1 : Lent w R B0 [v2, v3, v4, v5, v6, v7, .int .i64 c0_6, v8, v9, v10] 102) (f2 : IsSlice Ty.int w R v2 c0_0) (f3 : IsSlice (Ty.slice Ty.int) w R v3 c0_1) (f4 : IsSlice arcTy w R v4 c0_2) (f5 : IsSlice (Ty.slice Ty.int) w R v5 c0_3) (f6 : IsSlice (Ty.slice (Ty.slice Ty.int)) w R v6 c0_4) (f7 : IsSlice (Ty.slice Ty.bool) w R v7 c0_5) (f8 : IsSlice (Ty.slice Ty.int) w R v8 c0_7) (f9 : IsSlice Ty.bool w R v9 c0_8) (f10 : IsSlice ref26FlyingTy w R v10 c0_9) (h : ref26_run_active fuel a1 c0_0 c0_1 c0_2 c0_3 c0_4 c0_5 c0_6 c0_7 c0_8 c0_9 = some r) :
    Gives Try.prog 94 [.pointer (some ⟨B0, 0, none⟩), .int .i64 a1] w fun u w1 => ∃ (R1 : Nat → Prop), u = .bool r ∧ Sep F R R1 w w1 [] := by
  refine fn_of Try.func94 rfl Try.ntmps94 (Nat.le_of_ble_eq_true rfl) ?_
  unfold ref26_run_active at h
  refine e_seq fun K27 hK27 => ?_
  refine e_region_text rfl ?_
  refine q_assign rfl rfl ?_
  refine eseq_nil ?_
  refine hK27 _ _ ?_
  refine e_seq fun K28 hK28 => ?_
  refine e_region_text rfl ?_
  refine q_move rfl rfl ?_
  refine q_nilCheck rfl rfl ?_
  refine q_field rfl rfl ?_
  refine q_field rfl rfl ?_
  refine q_loadAgg rfl (Blk.cellsAt f1.blk 0 3 rfl) rfl rfl ?_
  refine q_allocB rfl fun w29 bl29 hg29 hb29 hB29 => ?_
  replace f2 := f2.ext hB29
  replace f3 := f3.ext hB29
  replace f4 := f4.ext hB29
  replace hS := hS.newBlk hB29 hg29 hb29
  refine q_storeAgg rfl rfl (hS.blk 0 rfl) rfl (Nat.le_of_ble_eq_true rfl) (all_cons f2.one (all_cons f3.one (all_cons f4.one (all_nil)))) rfl rfl fun w31 hb31 hO31 => ?_
  simp only [setN, List.set, List.take, List.drop] at hb31
  have hk31 := hS.keptBlk 0 rfl hO31
  replace f2 := f2.kept hk31
  replace f3 := f3.kept hk31
  replace f4 := f4.kept hk31
  replace hS := hS.setBlk 0 rfl hb31 hO31; simp only [List.set] at hS
  refine eseq_nil ?_
  refine hK28 _ _ ?_
  refine e_seq fun K32 hK32 => ?_
  refine e_region_draw mixed (fun _ => False) [0, 1, 0, 7, 15, 0, 32, 0, 224, 480, 0, 1024, 0, 7168, 15360, 31744, 64512, 131040, 262112, 524287, 1048575] [] [0, 1, 2, 3, 4, 5, 6, 7, 8, 9, 10, 11, 12, 13, 14, 15, 16, 17, 18, 19, 20] (by kernel_rfl) ?_
  refine q_field rfl rfl ?_
  refine q_load rfl (Blk.cell (hS.blk 0 rfl) rfl) rfl ?_
  refine q_move rfl rfl ?_
  obtain ⟨x33, hx33, h⟩ := Option.of_bind h
  refine q_atS (by infer_instance) rfl f2 rfl hx33 rfl fun b34 o34 hm34 f34 => ?_
  refine q_load rfl (Elt.intCell f34) rfl ?_
  refine q_field rfl rfl ?_
  refine q_load rfl (Blk.cell (hS.blk 0 rfl) rfl) rfl ?_
  refine q_move rfl rfl ?_
  obtain ⟨x35, hx35, h⟩ := Option.of_bind h
  refine q_atS (by infer_instance) rfl f3 rfl hx35 rfl fun b36 o36 hm36 f36 => ?_
  refine q_loadE rfl f36 rfl (fun v37 f37 => ?_)
  refine q_field rfl rfl ?_
  refine q_load rfl (Blk.cell (hS.blk 0 rfl) rfl) rfl ?_
  refine q_move rfl rfl ?_
  obtain ⟨x38, hx38, h⟩ := Option.of_bind h
  refine q_atS (by infer_instance) rfl f3 rfl hx38 rfl fun b39 o39 hm39 f39 => ?_
  refine q_loadE rfl f39 rfl (fun v40 f40 => ?_)
  refine q_lenS rfl f40 rfl ?_
  refine q_subW rfl rfl rfl ?_
  obtain ⟨x41, hx41, h⟩ := Option.of_bind h
  refine q_atS (by infer_instance) rfl f37 rfl hx41 rfl fun b42 o42 hm42 f42 => ?_
  refine q_load rfl (Elt.intCell f42) rfl ?_
  refine q_gtr rfl rfl rfl ?_
  refine q_assign rfl rfl ?_
  refine eseq_nil ?_
  refine hK32 _ _ ?_
  refine e_ret ?_
  obtain rfl := Option.some.inj h
  exact ⟨_, res1 rfl rfl, _, rfl, (hS.pickB [] 1 rfl rfl)⟩
theorem ref26_run_take_w {F R : Nat → Prop} {w : World} {fuel : Nat} {a1 : Int} {a2 : Bool} {c0_0 : (List Int)} {c0_1 : (List (List Int))} {c0_2 : (List Arc)} {c0_3 : (List (List Int))} {c0_4 : (List (List (List Int)))} {c0_5 : (List (List Bool))} {c0_6 : Int} {c0_7 : (List (List Int))} {c0_8 : (List Bool)} {c0_9 : (List Ref26Flying)} {B0 : Nat} {v2 : Value} {v3 : Value} {v4 : List Value} {v5 : Value} {v6 : Value} {v7 : Value} {v8 : List Value} {v9 : Value} {v10 : List Value} {v11 : Value} {v12 : List Value} {v13 : Value} {v14 : Value} {r : ((List (List Int)) × (List (List (List Int))) × (List (List Bool)) × (List (List Int)) × (List Bool))} (hS : Sep F R R w w [HP.blk B0 [v2, v3, v5, v6, v7, v9, .int .i64 c0_6, v11, v13, v14] 102, HP.own Ty.int (fun _ => False) 3 v2 c0_0, HP.own Ty.raw (fun _ => False) 27 v3 v4, HP.famS Ty.int (fun _ => False) 3 v4 c0_1, HP.own arcTy (fun _ => False) 107 v5 c0_2, HP.own Ty.raw (fun _ => False) 28 v7 v8, HP.famS (Ty.slice Ty.int) R 27 v8 c0_4, HP.own Ty.raw (fun _ => False) 99 v9 v10, HP.famS Ty.bool (fun _ => False) 4 v10 c0_5, HP.own Ty.raw (fun _ => False) 27 v11 v12, HP.famS Ty.int (fun _ => False) 3 v12 c0_7, HP.own Ty.bool (fun _ => False) 4 v13 c0_8, HP.own ref26FlyingTy R 155 v14 c0_9]) (f6 : IsSlice (Ty.slice Ty.int) w R v6 c0_3) (h : ref26_run_take fuel a1 a2 c0_0 c0_1 c0_2 c0_3 c0_4 c0_5 c0_6 c0_7 c0_8 c0_9 = some r) :
    Gives Try.prog 95 [.pointer (some ⟨B0, 0, none⟩), .int .i64 a1, .bool a2] w fun u w1 => ∃ (v97 : Value), ∃ (v98 : List Value), ∃ (v99 : Value), ∃ (v100 : List Value), ∃ (v101 : Value), ∃ (v102 : List Value), ∃ (v103 : Value), ∃ (v104 : List Value), ∃ (v105 : Value), ∃ (R1 : Nat → Prop), u = .tuple #[] ∧ Sep F R R1 w w1 [HP.blk B0 [v2, v97, v5, v6, v99, v101, .int .i64 c0_6, v103, v105, v14] 102, HP.own Ty.int (fun _ => False) 3 v2 c0_0, HP.own Ty.raw (fun _ => False) 27 v97 v98, HP.famS Ty.int (fun _ => False) 3 v98 r.1, HP.own arcTy (fun _ => False) 107 v5 c0_2, HP.own Ty.raw (fun _ => False) 28 v99 v100, HP.famS (Ty.slice Ty.int) R1 27 v100 r.2.1, HP.own Ty.raw (fun _ => False) 99 v101 v102, HP.famS Ty.bool (fun _ => False) 4 v102 r.2.2.1, HP.own Ty.raw (fun _ => False) 27 v103 v104, HP.famS Ty.int (fun _ => False) 3 v104 r.2.2.2.1, HP.own Ty.bool (fun _ => False) 4 v105 r.2.2.2.2, HP.own ref26FlyingTy R1 155 v14 c0_9] := by
  refine fn_of Try.func95 rfl Try.ntmps95 (Nat.le_of_ble_eq_true rfl) ?_
  unfold ref26_run_take at h
  refine e_seq fun K106 hK106 => ?_
  refine e_region_text rfl ?_
  refine q_move rfl rfl ?_
  refine q_nilCheck rfl rfl ?_
  refine q_field rfl rfl ?_
  refine q_field rfl rfl ?_
  refine q_assign rfl rfl ?_
  refine eseq_nil ?_
  refine hK106 _ _ ?_
  refine e_seq fun K107 hK107 => ?_
  refine e_region_draw mixed (fun k => (nth v4 (a1).toNat).ownBlock = some k) [0, 1, 3, 7, 0, 0, 32, 96, 224, 0, 992, 2016, 0, 4096, 12288, 28672, 0, 126976, 258048, 520192, 1048544, 2097151, 4194303] [19, 20] [0, 1, 2, 3, 4, 5, 6, 7, 8, 9, 10, 11, 12, 13, 14, 15, 16, 17, 18, 19, 20, 21, 22] (by kernel_rfl) ?_
  refine q_move rfl rfl ?_
  refine q_nilCheck rfl rfl ?_
  refine q_field rfl rfl ?_
  refine q_load rfl (Blk.cell (hS.blk 0 rfl) rfl) rfl ?_ (hX := fun hx_ => hS.apart 0 3 rfl rfl (by decide) _ rfl (hS.famRowFoot 3 rfl _ _ hx_))
  refine q_move rfl rfl ?_
  refine q_move rfl rfl ?_
  refine q_nilCheck rfl rfl ?_
  refine q_field rfl rfl ?_
  refine q_load rfl (Blk.cell (hS.blk 0 rfl) rfl) rfl ?_ (hX := fun hx_ => hS.apart 0 3 rfl rfl (by decide) _ rfl (hS.famRowFoot 3 rfl _ _ hx_))
  refine q_move rfl rfl ?_
  obtain ⟨x118, hx118, h⟩ := Option.of_bind h
  have hax118 := ati_nth (hS.famLen 3 rfl) hx118
  refine q_indexO (T := Ty.raw) (by infer_instance) rfl (hS.own 2 rfl) rfl hax118 rfl ?_
  refine q_load rfl (Elt.rawCell ((hS.own 2 rfl).elt hax118)) rfl ?_ (hX := fun hx_ => hS.apart 2 3 rfl rfl (by decide) _ ((hS.own 2 rfl).vblk hax118) (hS.famRowFoot 3 rfl _ _ hx_))
  refine q_move rfl rfl ?_
  refine q_nilCheck rfl rfl ?_
  refine q_field rfl rfl ?_
  refine q_load rfl (Blk.cell (hS.blk 0 rfl) rfl) rfl ?_ (hX := fun hx_ => hS.apart 0 3 rfl rfl (by decide) _ rfl (hS.famRowFoot 3 rfl _ _ hx_))
  refine q_move rfl rfl ?_
  obtain ⟨x119, hx119, h⟩ := Option.of_bind h
  refine q_indexO (by infer_instance) rfl (hS.own 1 rfl) rfl hx119 rfl ?_
  have f120 := (hS.ownR 1 rfl).elt hx119
  refine q_load rfl (Elt.intCell f120) rfl ?_ (hX := fun hx_ => hS.apart 1 3 rfl rfl (by decide) _ ((hS.own 1 rfl).vblk hx119) (hS.famRowFoot 3 rfl _ _ hx_))
  refine q_litO (T := Ty.int) (S := (fun _ => False)) (cells := [[.int .i64 x119]]) (ys := [x119]) ((Parts.cons rfl rfl Parts.nil)) rfl rfl rfl rfl rfl rfl rfl (fun w1 hB => ⟨rfl, trivial⟩) (fun _ h => h.elim) rfl fun w121 v121 ho121 hv121 hB121 => ?_
  replace f6 := f6.ext hB121
  replace hS := hS.newOwnS hB121 ho121 hv121 (fun _ h => h.elim)
  obtain ⟨x124, hx124, h⟩ := Option.of_bind h
  obtain ⟨x125, hx125, h⟩ := Option.of_bind h
  refine q_catOwn (T := Ty.int) rfl rfl rfl rfl (hS.famO 4 rfl hx118) rfl (hS.own 0 rfl) (fun _ h _ => h.elim) (snoc_cat hx124) (Nat.zero_le _) rfl (fun _ k hk => hk) fun v123 w123 hw123 hgr123 hnw123 => ?_
  have hk123 := hS.famKeptM 4 rfl hx118 hgr123
  replace f6 := f6.kept hk123
  replace hS := hS.famSetM 4 rfl hx118 hx125 hw123 hgr123 hnw123; simp only [List.set] at hS
  obtain ⟨x126, hx126, h⟩ := Option.of_bind h
  have hax126 := ati_nth (show v4.length = _ by simpa using hS.famLen 4 rfl) hx126
  refine q_indexO (T := Ty.raw) (by infer_instance) rfl (hS.own 3 rfl) rfl hax126 rfl ?_
  refine q_storeO (T := Ty.raw) (j := 0) rfl rfl (hS.own 3 rfl) hax126 (seti_ok hax126) rfl hw123.one rfl (rawSet hw123.one) fun w127 ho127 hO127 => ?_
  have hk127 := hS.keptO 3 rfl hax126 hO127
  replace f6 := f6.kept hk127
  replace hS := hS.putO 3 rfl hax126 ho127 hO127; simp only [List.set] at hS
  refine eseq_nil ?_
  refine hK107 _ _ ?_
  refine e_seq fun K128 hK128 => ?_
  refine e_region_draw mixed (fun k => (nth v8 (a1).toNat).ownBlock = some k) [0, 1, 3, 7, 15, 0, 0, 64, 192, 448, 960, 0, 4032, 8128, 0, 16384, 49152, 114688, 0, 507904, 1032192, 2080768, 4177920, 8388544, 16777215, 33554431] [21, 22, 23] [0, 1, 2, 3, 4, 5, 6, 7, 8, 9, 10, 11, 12, 13, 14, 15, 16, 17, 18, 19, 20, 21, 22, 23, 24, 25] (by kernel_rfl) ?_
  refine q_move rfl rfl ?_
  refine q_nilCheck rfl rfl ?_
  refine q_field rfl rfl ?_
  refine q_field rfl rfl ?_
  refine q_load rfl (Blk.cell (hS.blk 1 rfl) rfl) rfl ?_ (hX := fun hx_ => hS.apart 1 7 rfl rfl (by decide) _ rfl (hS.famRowFoot 7 rfl _ _ hx_))
  refine q_move rfl rfl ?_
  refine q_move rfl rfl ?_
  refine q_nilCheck rfl rfl ?_
  refine q_field rfl rfl ?_
  refine q_field rfl rfl ?_
  refine q_load rfl (Blk.cell (hS.blk 1 rfl) rfl) rfl ?_ (hX := fun hx_ => hS.apart 1 7 rfl rfl (by decide) _ rfl (hS.famRowFoot 7 rfl _ _ hx_))
  refine q_move rfl rfl ?_
  obtain ⟨x144, hx144, h⟩ := Option.of_bind h
  have hax144 := ati_nth (hS.famLen 7 rfl) hx144
  refine q_indexO (T := Ty.raw) (by infer_instance) rfl (hS.own 6 rfl) rfl hax144 rfl ?_
  refine q_load rfl (Elt.rawCell ((hS.own 6 rfl).elt hax144)) rfl ?_ (hX := fun hx_ => hS.apart 6 7 rfl rfl (by decide) _ ((hS.own 6 rfl).vblk hax144) (hS.famRowFoot 7 rfl _ _ hx_))
  refine q_move rfl rfl ?_
  refine q_nilCheck rfl rfl ?_
  refine q_field rfl rfl ?_
  refine q_load rfl (Blk.cell (hS.blk 1 rfl) rfl) rfl ?_ (hX := fun hx_ => hS.apart 1 7 rfl rfl (by decide) _ rfl (hS.famRowFoot 7 rfl _ _ hx_))
  refine q_move rfl rfl ?_
  obtain ⟨x145, hx145, h⟩ := Option.of_bind h
  have hax145 := ati_nth (hS.famLen 11 rfl) hx145
  refine q_indexO (T := Ty.raw) (by infer_instance) rfl (hS.own 10 rfl) rfl hax145 rfl ?_
  refine q_load rfl (Elt.rawCell ((hS.own 10 rfl).elt hax145)) rfl ?_ (hX := fun hx_ => hS.apart 10 7 rfl rfl (by decide) _ ((hS.own 10 rfl).vblk hax145) (hS.famRowFoot 7 rfl _ _ hx_))
  replace hS := hS.nilOwn0 Ty.int 3
  obtain ⟨x148, hx148, h⟩ := Option.of_bind h
  refine q_catE (T := Ty.int) rfl rfl rfl rfl (hS.own 0 rfl) rfl (hS.famI 12 rfl hx145) hx148 (Nat.zero_le _) rfl (fun _ k hk => by cases hk) fun v147 w147 hw147 hgr147 hnw147 => ?_
  have hk147 := hS.keptOwn 0 rfl hgr147
  replace f6 := f6.kept hk147
  replace hS := hS.setOwn 0 rfl hw147 hgr147 hnw147; simp only [List.set] at hS
  refine q_litO (T := Ty.raw) (S := (fun _ => False)) (cells := [[v147]]) (ys := [v147]) ((Parts.cons rfl (cells_one (hS.own 0 rfl).one) Parts.nil)) rfl rfl rfl rfl rfl rfl rfl (fun w1 hB => ⟨⟨rfl, (hS.own 0 rfl).one⟩, trivial⟩) (fun _ h => h.elim) rfl fun w149 v149 ho149 hv149 hB149 => ?_
  replace f6 := f6.ext hB149
  replace hS := hS.newOwnS hB149 ho149 hv149 (fun _ h => h.elim)
  replace hS := hS.pickB [1, 0, 2, 3, 4, 5, 6, 7, 8, 9, 10, 11, 12, 13, 14, 15] 16 rfl rfl; simp only [List.map_cons, List.map_nil, List.getD_cons_zero, List.getD_cons_succ] at hS
  replace hS := hS.famOne
  replace hS := hS.pickB [1, 0, 2, 3, 4, 5, 6, 7, 8, 9, 10, 11, 12, 13, 14, 15] 16 rfl rfl; simp only [List.map_cons, List.map_nil, List.getD_cons_zero, List.getD_cons_succ] at hS
  obtain ⟨R153, hS, hm153⟩ := hS.rowsFreeze
  replace f6 := f6.mono fun k hk _ => hm153 k hk
  replace hS := hS.famMono 8 rfl; simp only [List.set] at hS
  obtain ⟨x155, hx155, h⟩ := Option.of_bind h
  obtain ⟨x156, hx156, h⟩ := Option.of_bind h
  refine q_catOwn (T := (Ty.slice Ty.int)) rfl rfl rfl rfl (hS.famO 8 rfl hx144) rfl (hS.own 0 rfl) (hS.famOff 8 rfl hx144) hx155 (Nat.zero_le _) rfl (fun _ k hk => hk) fun v152 w152 hw152 hgr152 hnw152 => ?_
  have hk152 := hS.famKeptM 8 rfl hx144 hgr152
  replace f6 := f6.kept hk152
  replace hS := hS.famSetM 8 rfl hx144 hx156 hw152 hgr152 hnw152; simp only [List.set] at hS
  obtain ⟨x157, hx157, h⟩ := Option.of_bind h
  have hax157 := ati_nth (show v8.length = _ by simpa using hS.famLen 8 rfl) hx157
  refine q_indexO (T := Ty.raw) (by infer_instance) rfl (hS.own 7 rfl) rfl hax157 rfl ?_
  refine q_storeO (T := Ty.raw) (j := 0) rfl rfl (hS.own 7 rfl) hax157 (seti_ok hax157) rfl hw152.one rfl (rawSet hw152.one) fun w158 ho158 hO158 => ?_
  have hk158 := hS.keptO 7 rfl hax157 hO158
  replace f6 := f6.kept hk158
  replace hS := hS.putO 7 rfl hax157 ho158 hO158; simp only [List.set] at hS
  refine eseq_nil ?_
  refine hK128 _ _ ?_
  refine e_seq fun K159 hK159 => ?_
  refine e_region_draw mixed (fun k => (nth v10 (a1).toNat).ownBlock = some k) [0, 1, 3, 7, 15, 0, 0, 64, 192, 448, 960, 0, 4032, 8128, 0, 16384, 65472, 131071, 262143] [15, 16] [0, 1, 2, 3, 4, 5, 6, 7, 8, 9, 10, 11, 12, 13, 14, 15, 16, 17, 18] (by kernel_rfl) ?_
  refine q_move rfl rfl ?_
  refine q_nilCheck rfl rfl ?_
  refine q_field rfl rfl ?_
  refine q_field rfl rfl ?_
  refine q_load rfl (Blk.cell (hS.blk 2 rfl) rfl) rfl ?_ (hX := fun hx_ => hS.apart 2 10 rfl rfl (by decide) _ rfl (hS.famRowFoot 10 rfl _ _ hx_))
  refine q_move rfl rfl ?_
  refine q_move rfl rfl ?_
  refine q_nilCheck rfl rfl ?_
  refine q_field rfl rfl ?_
  refine q_field rfl rfl ?_
  refine q_load rfl (Blk.cell (hS.blk 2 rfl) rfl) rfl ?_ (hX := fun hx_ => hS.apart 2 10 rfl rfl (by decide) _ rfl (hS.famRowFoot 10 rfl _ _ hx_))
  refine q_move rfl rfl ?_
  obtain ⟨x168, hx168, h⟩ := Option.of_bind h
  have hax168 := ati_nth (hS.famLen 10 rfl) hx168
  refine q_indexO (T := Ty.raw) (by infer_instance) rfl (hS.own 9 rfl) rfl hax168 rfl ?_
  refine q_load rfl (Elt.rawCell ((hS.own 9 rfl).elt hax168)) rfl ?_ (hX := fun hx_ => hS.apart 9 10 rfl rfl (by decide) _ ((hS.own 9 rfl).vblk hax168) (hS.famRowFoot 10 rfl _ _ hx_))
  refine q_move rfl rfl ?_
  refine q_litO (T := Ty.bool) (S := (fun _ => False)) (cells := [[.bool a2]]) (ys := [a2]) ((Parts.cons rfl rfl Parts.nil)) rfl rfl rfl rfl rfl rfl rfl (fun w1 hB => ⟨rfl, trivial⟩) (fun _ h => h.elim) rfl fun w169 v169 ho169 hv169 hB169 => ?_
  replace f6 := f6.ext hB169
  replace hS := hS.newOwnS hB169 ho169 hv169 (fun _ h => h.elim)
  obtain ⟨x172, hx172, h⟩ := Option.of_bind h
  obtain ⟨x173, hx173, h⟩ := Option.of_bind h
  refine q_catOwn (T := Ty.bool) rfl rfl rfl rfl (hS.famO 11 rfl hx168) rfl (hS.own 0 rfl) (fun _ h _ => h.elim) (snoc_cat hx172) (Nat.zero_le _) rfl (fun _ k hk => hk) fun v171 w171 hw171 hgr171 hnw171 => ?_
  have hk171 := hS.famKeptM 11 rfl hx168 hgr171
  replace f6 := f6.kept hk171
  replace hS := hS.famSetM 11 rfl hx168 hx173 hw171 hgr171 hnw171; simp only [List.set] at hS
  obtain ⟨x174, hx174, h⟩ := Option.of_bind h
  have hax174 := ati_nth (show v10.length = _ by simpa using hS.famLen 11 rfl) hx174
  refine q_indexO (T := Ty.raw) (by infer_instance) rfl (hS.own 10 rfl) rfl hax174 rfl ?_
  refine q_storeO (T := Ty.raw) (j := 0) rfl rfl (hS.own 10 rfl) hax174 (seti_ok hax174) rfl hw171.one rfl (rawSet hw171.one) fun w175 ho175 hO175 => ?_
  have hk175 := hS.keptO 10 rfl hax174 hO175
  replace f6 := f6.kept hk175
  replace hS := hS.putO 10 rfl hax174 ho175 hO175; simp only [List.set] at hS
  refine eseq_nil ?_
  refine hK159 _ _ ?_
  refine e_seq fun K176 hK176 => ?_
  refine e_region_text rfl ?_
  refine q_move rfl rfl ?_
  refine q_nilCheck rfl rfl ?_
  refine q_field rfl rfl ?_
  refine q_load rfl (Blk.cell (hS.blk 3 rfl) rfl) rfl ?_
  refine q_move rfl rfl ?_
  obtain ⟨x177, hx177, h⟩ := Option.of_bind h
  have hax177 := ati_nth (hS.famLen 13 rfl) hx177
  refine q_indexO (T := Ty.raw) (by infer_instance) rfl (hS.own 12 rfl) rfl hax177 rfl ?_
  refine q_load rfl (Elt.rawCell ((hS.own 12 rfl).elt hax177)) rfl ?_
  refine q_move rfl rfl ?_
  obtain ⟨x178, hx178, h⟩ := Option.of_bind h
  refine q_indexO (by infer_instance) rfl (hS.famO 13 rfl hx177) rfl hx178 rfl ?_
  have f179 := (hS.famOR 13 rfl hx177).elt hx178
  refine q_load rfl (Elt.intCell f179) rfl ?_
  refine q_addW rfl rfl rfl ?_
  obtain ⟨x180, hx180, h⟩ := Option.of_bind h
  refine q_indexO (by infer_instance) rfl (hS.famO 13 rfl hx177) rfl hx180 rfl ?_
  obtain ⟨x182, hx182, h⟩ := Option.of_bind h
  obtain ⟨x183, hx183, h⟩ := Option.of_bind h
  refine q_storeO (T := Ty.int) (j := 0) rfl rfl (hS.famO 13 rfl hx177) hx180 hx182 rfl rfl rfl (Enc.setL rfl) fun w181 ho181 hO181 => ?_
  have hk181 := hS.famKeptC 13 rfl hx177 hx180 hO181
  replace f6 := f6.kept hk181
  replace hS := hS.famCellM 13 rfl hx177 hx180 hx183 ho181 hO181; simp only [List.set] at hS
  have hr181 := ati_seti_same hx183
  refine eseq_nil ?_
  refine hK176 _ _ ?_
  refine e_region_text rfl ?_
  refine q_move rfl rfl ?_
  refine q_nilCheck rfl rfl ?_
  refine q_field rfl rfl ?_
  refine q_load rfl (Blk.cell (hS.blk 3 rfl) rfl) rfl ?_
  refine q_move rfl rfl ?_
  obtain ⟨x184, hx184, h⟩ := Option.of_bind h
  refine q_indexO (by infer_instance) rfl (hS.own 14 rfl) rfl hx184 rfl ?_
  obtain ⟨x186, hx186, h⟩ := Option.of_bind h
  refine q_storeO (T := Ty.bool) (j := 0) rfl rfl (hS.own 14 rfl) hx184 hx186 rfl rfl rfl (Enc.setL rfl) fun w185 ho185 hO185 => ?_
  have hk185 := hS.keptO 14 rfl hx184 hO185
  replace f6 := f6.kept hk185
  replace hS := hS.putO 14 rfl hx184 ho185 hO185; simp only [List.set] at hS
  refine eseq_nil ?_
  obtain rfl := Option.some.inj h
  replace hS := hS.ownMono 15 rfl; simp only [List.set] at hS
  exact ⟨_, res0 rfl, v3, (v4.set (a1).toNat v123), v7, (v8.set (a1).toNat v152), v9, (v10.set (a1).toNat v171), v11, v12, v13, _, rfl, (hS.pickB [3, 4, 5, 6, 7, 8, 9, 10, 11, 12, 13, 14, 15] 16 rfl rfl)⟩
theorem ref26_run_act_w {F R : Nat → Prop} {w : World} {fuel : Nat} {a1 : Deed} {c0_0 : (List Int)} {c0_1 : (List (List Int))} {c0_2 : (List Arc)} {c0_3 : (List (List Int))} {c0_4 : (List (List (List Int)))} {c0_5 : (List (List Bool))} {c0_6 : Int} {c0_7 : (List (List Int))} {c0_8 : (List Bool)} {c0_9 : (List Ref26Flying)} {B0 : Nat} {v2 : Value} {v3 : Value} {v4 : List Value} {v5 : Value} {v6 : Value} {v7 : Value} {v8 : List Value} {v9 : Value} {v10 : List Value} {v11 : Value} {v12 : List Value} {v13 : Value} {v14 : Value} {r : ((List Int) × (List (List Int)) × (List Arc) × (List (List (List Int))) × (List (List Bool)) × (List (List Int)) × (List Bool) × (List Ref26Flying))} (hS : Sep F R R w w [HP.blk B0 [v2, v3, v5, v6, v7, v9, .int .i64 c0_6, v11, v13, v14] 102, HP.own Ty.int (fun _ => False) 3 v2 c0_0, HP.own Ty.raw (fun _ => False) 27 v3 v4, HP.famS Ty.int (fun _ => False) 3 v4 c0_1, HP.own arcTy (fun _ => False) 107 v5 c0_2, HP.own Ty.raw (fun _ => False) 28 v7 v8, HP.famS (Ty.slice Ty.int) R 27 v8 c0_4, HP.own Ty.raw (fun _ => False) 99 v9 v10, HP.famS Ty.bool (fun _ => False) 4 v10 c0_5, HP.own Ty.raw (fun _ => False) 27 v11 v12, HP.famS Ty.int (fun _ => False) 3 v12 c0_7, HP.own Ty.bool (fun _ => False) 4 v13 c0_8, HP.own ref26FlyingTy R 155 v14 c0_9]) (f6 : IsSlice (Ty.slice Ty.int) w R v6 c0_3) (h : ref26_run_act fuel a1 c0_0 c0_1 c0_2 c0_3 c0_4 c0_5 c0_6 c0_7 c0_8 c0_9 = some r) :
    Gives Try.prog 49 [.pointer (some ⟨B0, 0, none⟩), .agg #[.int .i64 a1.kind, .int .i64 a1.proc, .int .i64 a1.other]] w fun u w1 => ∃ (v305 : Value), ∃ (v306 : Value), ∃ (v307 : List Value), ∃ (v308 : Value), ∃ (v309 : Value), ∃ (v310 : List Value), ∃ (v311 : Value), ∃ (v312 : List Value), ∃ (v313 : Value), ∃ (v314 : List Value), ∃ (v315 : Value), ∃ (v316 : Value), ∃ (R1 : Nat → Prop), u = .tuple #[] ∧ Sep F R R1 w w1 [HP.blk B0 [v305, v306, v308, v6, v309, v311, .int .i64 c0_6, v313, v315, v316] 102, HP.own Ty.int (fun _ => False) 3 v305 r.1, HP.own Ty.raw (fun _ => False) 27 v306 v307, HP.famS Ty.int (fun _ => False) 3 v307 r.2.1, HP.own arcTy (fun _ => False) 107 v308 r.2.2.1, HP.own Ty.raw (fun _ => False) 28 v309 v310, HP.famS (Ty.slice Ty.int) R1 27 v310 r.2.2.2.1, HP.own Ty.raw (fun _ => False) 99 v311 v312, HP.famS Ty.bool (fun _ => False) 4 v312 r.2.2.2.2.1, HP.own Ty.raw (fun _ => False) 27 v313 v314, HP.famS Ty.int (fun _ => False) 3 v314 r.2.2.2.2.2.1, HP.own Ty.bool (fun _ => False) 4 v315 r.2.2.2.2.2.2.1, HP.own ref26FlyingTy R1 155 v316 r.2.2.2.2.2.2.2] := by
  refine fn_of Try.func49 rfl Try.ntmps49 (Nat.le_of_ble_eq_true rfl) ?_
  unfold ref26_run_act at h
  refine e_seq fun K317 hK317 => ?_
  refine e_region_text rfl ?_
  refine q_boxB rfl rfl rfl fun w318 bl318 hg318 hb318 hB318 => ?_
  replace f6 := f6.ext hB318
  replace hS := hS.newBlk hB318 hg318 hb318
  refine eseq_nil ?_
  refine hK317 _ _ ?_
  refine e_seq fun K320 hK320 => ?_
  refine e_region_text rfl ?_
  refine q_move rfl rfl ?_
  refine q_nilCheck rfl rfl ?_
  refine q_field rfl rfl ?_
  refine q_field rfl rfl ?_
  refine q_assign rfl rfl ?_
  refine eseq_nil ?_
  refine hK320 _ _ ?_
  refine e_seq fun K321 hK321 => ?_
  refine e_region_text rfl ?_
  refine q_move rfl rfl ?_
  refine q_nilCheck rfl rfl ?_
  refine q_field rfl rfl ?_
  refine q_load rfl (Blk.cell (hS.blk 1 rfl) rfl) rfl ?_
  refine q_lenS rfl (hS.isl 2 rfl) rfl ?_
  refine q_assign rfl rfl ?_
  refine eseq_nil ?_
  refine hK321 _ _ ?_
  refine e_seq fun K322 hK322 => ?_
  refine e_region_text rfl ?_
  refine q_field rfl rfl ?_
  refine q_load rfl (Blk.cell (hS.blk 0 rfl) rfl) rfl ?_
  refine eseq_nil ?_
  refine hK322 _ _ ?_
  refine e_block ?_
  refine e_seq fun K323 hK323 => ?_
  refine e_region_text rfl ?_
  refine q_eql rfl rfl rfl ?_
  refine q_assign rfl rfl ?_
  refine eseq_nil ?_
  refine hK323 _ _ ?_
  refine e_cond rfl (fun hc324 => ?_) (fun hc324 => ?_)
  · replace h := (if_pos hc324).symm.trans h
    refine e_seq fun K325 hK325 => ?_
    refine e_seq fun K326 hK326 => ?_
    refine e_region_draw mixed (fun _ => False) [0, 1, 3, 7, 15, 31, 15, 127, 255, 511, 1023, 2047, 4095, 8191, 16383, 32767, 65535, 32767, 262143, 524287, 1048575, 2097151, 4194303, 2097151, 10485759, 33554431, 67108863, 134217727, 268435455, 536870911, 1073741823, 2147483647, 268435455, 4563402751, 17179869183, 34359738367, 68719476735, 137438953471] [] [0, 1, 2, 3, 4, 5, 6, 7, 8, 9, 10, 11, 12, 13, 14, 15, 16, 17, 18, 19, 20, 21, 22, 23, 24, 25, 26, 27, 28, 29, 30, 31, 32, 33, 34, 35, 36, 37] (by kernel_rfl) ?_
    refine q_field rfl rfl ?_
    refine q_load rfl (Blk.cell (hS.blk 0 rfl) rfl) rfl ?_
    refine q_lss rfl rfl rfl ?_
    refine q_move rfl rfl ?_
    obtain ⟨x330, hx329, h⟩ := Option.of_bind h
    refine g_orM 4 hx329 rfl trivial rfl rfl ?_ ?_ ?_
    · intro hg329
      refine g_skip rfl rfl rfl ?_
      refine g_skip rfl rfl rfl ?_
      refine g_skip rfl rfl rfl ?_
      refine g_skip rfl rfl rfl ?_
      exact eseq_nil ⟨rfl, Sub.set rfl (Sub.set rfl (Sub.set rfl (Sub.set rfl (Sub.bool true rfl hg329))))⟩
    · intro hg329 hx329
      clear h
      have hT329 := Below.refl (World.heap w318).size w318
      refine g_run rfl ?_; refine q_field rfl rfl ?_
      refine g_run rfl ?_; refine q_load rfl (Blk.cell (hS.blk 0 rfl) rfl) rfl ?_
      refine g_run rfl ?_; refine q_move rfl rfl ?_
      refine g_run rfl ?_; refine q_geq rfl rfl rfl ?_
      cases hx329
      exact eseq_nil ⟨hT329, Sub.set rfl (Sub.set rfl (Sub.set rfl (Sub.set rfl (Sub.bool false rfl hg329)))), rfl⟩
    intro wm329 hBm329; clear hx329
    replace hS := hS.below hBm329
    replace f6 := f6.ext hBm329
    refine q_move rfl rfl ?_
    obtain ⟨x334, hx333, h⟩ := Option.of_bind h
    refine g_orM 3 hx333 rfl trivial rfl rfl ?_ ?_ ?_
    · intro hg333
      refine g_skip rfl rfl rfl ?_
      refine g_skip rfl rfl rfl ?_
      refine g_skip rfl rfl rfl ?_
      exact eseq_nil ⟨rfl, Sub.set rfl (Sub.set rfl (Sub.set rfl (Sub.bool true rfl hg333)))⟩
    · intro hg333 hx333
      clear h
      have hT333 := Below.refl (World.heap wm329).size wm329
      refine g_run rfl ?_; refine q_field rfl rfl ?_
      refine g_run rfl ?_; refine q_load rfl (Blk.cell (hS.blk 0 rfl) rfl) rfl ?_
      refine g_run rfl ?_; refine q_lss rfl rfl rfl ?_
      cases hx333
      exact eseq_nil ⟨hT333, Sub.set rfl (Sub.set rfl (Sub.set rfl (Sub.bool false rfl hg333))), rfl⟩
    intro wm333 hBm333; clear hx333
    replace hS := hS.below hBm333
    replace f6 := f6.ext hBm333
    refine q_move rfl rfl ?_
    obtain ⟨x338, hx337, h⟩ := Option.of_bind h
    refine g_orM 4 hx337 rfl trivial rfl rfl ?_ ?_ ?_
    · intro hg337
      refine g_skip rfl rfl rfl ?_
      refine g_skip rfl rfl rfl ?_
      refine g_skip rfl rfl rfl ?_
      refine g_skip rfl rfl rfl ?_
      exact eseq_nil ⟨rfl, Sub.set rfl (Sub.set rfl (Sub.set rfl (Sub.set rfl (Sub.bool true rfl hg337))))⟩
    · intro hg337 hx337
      clear h
      have hT337 := Below.refl (World.heap wm333).size wm333
      refine g_run rfl ?_; refine q_field rfl rfl ?_
      refine g_run rfl ?_; refine q_load rfl (Blk.cell (hS.blk 0 rfl) rfl) rfl ?_
      refine g_run rfl ?_; refine q_move rfl rfl ?_
      refine g_run rfl ?_; refine q_geq rfl rfl rfl ?_
      cases hx337
      exact eseq_nil ⟨hT337, Sub.set rfl (Sub.set rfl (Sub.set rfl (Sub.set rfl (Sub.bool false rfl hg337)))), rfl⟩
    intro wm337 hBm337; clear hx337
    replace hS := hS.below hBm337
    replace f6 := f6.ext hBm337
    refine q_move rfl rfl ?_
    obtain ⟨x342, hx341, h⟩ := Option.of_bind h
    refine g_orM 5 hx341 rfl trivial rfl rfl ?_ ?_ ?_
    · intro hg341
      refine g_skip rfl rfl rfl ?_
      refine g_skip rfl rfl rfl ?_
      refine g_skip rfl rfl rfl ?_
      refine g_skip rfl rfl rfl ?_
      refine g_skip rfl rfl rfl ?_
      exact eseq_nil ⟨rfl, Sub.set rfl (Sub.set rfl (Sub.set rfl (Sub.set rfl (Sub.set rfl (Sub.bool true rfl hg341)))))⟩
    · intro hg341 hx341
      clear h
      have hT341 := Below.refl (World.heap wm337).size wm337
      refine g_run rfl ?_; refine q_field rfl rfl ?_
      refine g_run rfl ?_; refine q_load rfl (Blk.cell (hS.blk 0 rfl) rfl) rfl ?_
      refine g_run rfl ?_; refine q_field rfl rfl ?_
      refine g_run rfl ?_; refine q_load rfl (Blk.cell (hS.blk 0 rfl) rfl) rfl ?_
      refine g_run rfl ?_; refine q_eql rfl rfl rfl ?_
      cases hx341
      exact eseq_nil ⟨hT341, Sub.set rfl (Sub.set rfl (Sub.set rfl (Sub.set rfl (Sub.set rfl (Sub.bool false rfl hg341))))), rfl⟩
    intro wm341 hBm341; clear hx341
    replace hS := hS.below hBm341
    replace f6 := f6.ext hBm341
    refine q_move rfl rfl ?_
    obtain ⟨x348, hx347, h⟩ := Option.of_bind h
    refine g_orM 9 hx347 rfl trivial rfl rfl ?_ ?_ ?_
    · intro hg347
      refine g_skip rfl rfl rfl ?_
      refine g_skip rfl rfl rfl ?_
      refine g_skip rfl rfl rfl ?_
      refine g_skip rfl rfl rfl ?_
      refine g_skip rfl rfl rfl ?_
      refine g_skip rfl rfl rfl ?_
      refine g_skip rfl rfl rfl ?_
      refine g_skip rfl rfl rfl ?_
      refine g_skip rfl rfl rfl ?_
      exact eseq_nil ⟨rfl, Sub.set rfl (Sub.set rfl (Sub.set rfl (Sub.set rfl (Sub.set rfl (Sub.set rfl (Sub.set rfl (Sub.set rfl (Sub.set rfl (Sub.bool true rfl hg347)))))))))⟩
    · intro hg347 hx347
      clear h
      have hT347 := Below.refl (World.heap wm341).size wm341
      refine g_run rfl ?_; refine q_move rfl rfl ?_
      refine g_run rfl ?_; refine q_nilCheck rfl rfl ?_
      refine g_run rfl ?_; refine q_field rfl rfl ?_
      refine g_run rfl ?_; refine q_load rfl (Blk.cell (hS.blk 1 rfl) rfl) rfl ?_
      refine g_run rfl ?_; refine q_field rfl rfl ?_
      refine g_run rfl ?_; refine q_load rfl (Blk.cell (hS.blk 0 rfl) rfl) rfl ?_
      obtain ⟨x349, hx349, hx347⟩ := Option.of_bind hx347
      refine g_run rfl ?_; refine q_indexO (by infer_instance) rfl (hS.own 2 rfl) rfl hx349 rfl ?_
      have f350 := (hS.ownR 2 rfl).elt hx349
      refine g_run rfl ?_; refine q_load rfl (Elt.intCell f350) rfl ?_
      refine g_run rfl ?_; refine q_geq rfl rfl rfl ?_
      cases hx347
      exact eseq_nil ⟨hT347, Sub.set rfl (Sub.set rfl (Sub.set rfl (Sub.set rfl (Sub.set rfl (Sub.set rfl (Sub.set rfl (Sub.set rfl (Sub.set rfl (Sub.bool false rfl hg347))))))))), rfl⟩
    intro wm347 hBm347; clear hx347
    replace hS := hS.below hBm347
    replace f6 := f6.ext hBm347
    refine eseq_nil ?_
    refine hK326 _ _ ?_
    refine e_cond rfl (fun hc351 => ?_) (fun hc351 => ?_)
    · replace h := (if_pos hc351).symm.trans h
      refine e_ret ?_
      obtain rfl := Option.some.inj h
      exact ⟨_, res0 rfl, v2, v3, v4, v5, v7, v8, v9, v10, v11, v12, v13, v14, _, rfl, (hS.pickB [1, 2, 3, 4, 5, 6, 7, 8, 9, 10, 11, 12, 13] 14 rfl rfl)⟩
    · replace h := (if_neg (not_true hc351)).symm.trans h
      refine e_skip ?_
      refine hK325 _ _ ?_
      refine e_seq fun K352 hK352 => ?_
      refine e_region_draw mixed (fun _ => False) [0, 1, 3, 7, 0, 16, 63, 127, 255, 511, 1023] [] [0, 1, 2, 3, 4, 5, 6, 7, 8, 9, 10] (by kernel_rfl) ?_
      refine q_move rfl rfl ?_
      refine q_nilCheck rfl rfl ?_
      refine q_field rfl rfl ?_
      refine q_load rfl (Blk.cell (hS.blk 1 rfl) rfl) rfl ?_
      refine q_field rfl rfl ?_
      refine q_load rfl (Blk.cell (hS.blk 0 rfl) rfl) rfl ?_
      obtain ⟨x353, hx353, h⟩ := Option.of_bind h
      refine q_indexO (by infer_instance) rfl (hS.own 2 rfl) rfl hx353 rfl ?_
      have f354 := (hS.ownR 2 rfl).elt hx353
      refine q_load rfl (Elt.intCell f354) rfl ?_
      refine q_addW rfl rfl rfl ?_
      obtain ⟨x355, hx355, h⟩ := Option.of_bind h
      refine q_indexO (by infer_instance) rfl (hS.own 2 rfl) rfl hx355 rfl ?_
      obtain ⟨x357, hx357, h⟩ := Option.of_bind h
      refine q_storeO (T := Ty.int) (j := 0) rfl rfl (hS.own 2 rfl) hx355 hx357 rfl rfl rfl (Enc.setL rfl) fun w356 ho356 hO356 => ?_
      have hk356 := hS.keptO 2 rfl hx355 hO356
      replace f6 := f6.kept hk356
      replace hS := hS.putO 2 rfl hx355 ho356 hO356; simp only [List.set] at hS
      refine eseq_nil ?_
      refine hK352 _ _ ?_
      refine e_seq fun K358 hK358 => ?_
      refine e_region_draw mixed (fun _ => False) [0, 1, 3, 7, 0, 16, 63, 127] [] [0, 1, 2, 3, 4, 5, 6, 7] (by kernel_rfl) ?_
      refine q_move rfl rfl ?_
      refine q_nilCheck rfl rfl ?_
      refine q_field rfl rfl ?_
      refine q_load rfl (Blk.cell (hS.blk 1 rfl) rfl) rfl ?_
      refine q_field rfl rfl ?_
      refine q_load rfl (Blk.cell (hS.blk 0 rfl) rfl) rfl ?_
      obtain ⟨x359, hx359, h⟩ := Option.of_bind h
      refine q_indexO (by infer_instance) rfl (hS.own 12 rfl) rfl hx359 rfl ?_
      obtain ⟨x361, hx361, h⟩ := Option.of_bind h
      refine q_storeO (T := Ty.bool) (j := 0) rfl rfl (hS.own 12 rfl) hx359 hx361 rfl rfl rfl (Enc.setL rfl) fun w360 ho360 hO360 => ?_
      have hk360 := hS.keptO 12 rfl hx359 hO360
      replace f6 := f6.kept hk360
      replace hS := hS.putO 12 rfl hx359 ho360 hO360; simp only [List.set] at hS
      refine eseq_nil ?_
      refine hK358 _ _ ?_
      refine e_seq fun K362 hK362 => ?_
      refine e_region_draw mixed (fun _ => False) [0, 0, 2, 6, 14, 0, 32, 96, 224, 480, 0, 1024, 3072, 7168, 0, 16384, 64512, 130048, 261120, 524256, 1048544, 2097150, 4194303, 8388607, 16777215] [18, 20] [0, 1, 2, 3, 4, 5, 6, 7, 8, 9, 10, 11, 12, 13, 14, 15, 16, 17, 18, 19, 20, 21, 22, 23, 24] (by kernel_rfl) ?_
      refine q_move rfl rfl ?_
      refine q_move rfl rfl ?_
      refine q_nilCheck rfl rfl ?_
      refine q_field rfl rfl ?_
      refine q_load rfl (Blk.cell (hS.blk 1 rfl) rfl) rfl ?_
      refine q_move rfl rfl ?_
      refine q_nilCheck rfl rfl ?_
      refine q_field rfl rfl ?_
      refine q_load rfl (Blk.cell (hS.blk 1 rfl) rfl) rfl ?_
      refine q_lenS rfl (hS.isl 5 rfl) rfl ?_
      refine q_move rfl rfl ?_
      refine q_nilCheck rfl rfl ?_
      refine q_field rfl rfl ?_
      refine q_load rfl (Blk.cell (hS.blk 1 rfl) rfl) rfl ?_
      refine q_field rfl rfl ?_
      refine q_load rfl (Blk.cell (hS.blk 0 rfl) rfl) rfl ?_
      obtain ⟨x373, hx373, h⟩ := Option.of_bind h
      have hax373 := ati_nth (hS.famLen 11 rfl) hx373
      refine q_indexO (T := Ty.raw) (by infer_instance) rfl (hS.own 10 rfl) rfl hax373 rfl ?_
      refine q_load rfl (Elt.rawCell ((hS.own 10 rfl).elt hax373)) rfl ?_
      replace hS := hS.nilOwn0 Ty.int 3
      obtain ⟨x376, hx376, h⟩ := Option.of_bind h
      refine q_catE (T := Ty.int) rfl rfl rfl rfl (hS.own 0 rfl) rfl (hS.famI 12 rfl hx373) hx376 (Nat.zero_le _) rfl (fun _ k hk => by cases hk) fun v375 w375 hw375 hgr375 hnw375 => ?_
      have hk375 := hS.keptOwn 0 rfl hgr375
      replace f6 := f6.kept hk375
      replace hS := hS.setOwn 0 rfl hw375 hgr375 hnw375; simp only [List.set] at hS
      refine q_build (Parts.cons rfl rfl (Parts.cons rfl (cells_one (hS.own 0 rfl).one) Parts.nil)) rfl rfl ?_
      obtain ⟨R378, hS, hm378, f378⟩ := hS.freezeOwn 0 rfl; simp only [List.eraseIdx] at hS
      replace f6 := f6.mono fun k hk _ => hm378 k hk
      refine q_litO (T := ref26FlyingTy) (S := R378) (cells := [[.int .i64 (c0_2.length : Int), v375]]) (ys := [(⟨(c0_2.length : Int), x376⟩ : Ref26Flying)]) ((Parts.cons rfl rfl Parts.nil)) rfl rfl rfl rfl rfl rfl rfl (fun w1 hB => ⟨⟨[_], _, rfl, rfl, ⟨_, rfl, f378.ext hB⟩⟩, trivial⟩) hS.ro rfl fun w377 v377 ho377 hv377 hB377 => ?_
      replace f6 := f6.ext hB377
      replace f378 := f378.ext hB377
      replace hS := hS.newOwnS hB377 ho377 hv377 (fun _ h => h)
      replace hS := hS.ownMono 14 rfl; simp only [List.set] at hS
      obtain ⟨x381, hx381, h⟩ := Option.of_bind h
      refine q_catOwn (T := ref26FlyingTy) rfl rfl rfl rfl (hS.own 14 rfl) rfl (hS.own 0 rfl) (hS.ownOff 14 rfl) (snoc_cat hx381) (Nat.zero_le _) rfl (fun h => by cases h) fun v380 w380 hw380 hgr380 hnw380 => ?_
      have hk380 := hS.keptOwn 14 rfl hgr380
      replace f6 := f6.kept hk380
      replace hS := hS.setOwn 14 rfl hw380 hgr380 hnw380; simp only [List.set] at hS
      refine q_nilCheck rfl rfl ?_
      refine q_field rfl rfl ?_
      refine q_store rfl rfl (hS.blk 2 rfl) (Nat.le_of_ble_eq_true rfl) (hS.own 14 rfl).one rfl rfl fun w382 hb382 hO382 => ?_
      have hk382 := hS.keptBlk 2 rfl hO382
      replace f6 := f6.kept hk382
      replace hS := hS.setBlk 2 rfl hb382 hO382; simp only [List.set] at hS
      refine eseq_nil ?_
      refine hK362 _ _ ?_
      refine e_region_draw mixed (fun _ => False) [0, 0, 2, 6, 14, 0, 32, 0, 128, 384, 896, 0, 2048, 8064, 16256, 0, 32768, 131040, 262112, 524286, 1048575, 2097151, 4194303] [18] [0, 1, 2, 3, 4, 5, 6, 7, 8, 9, 10, 11, 12, 13, 14, 15, 16, 17, 18, 19, 20, 21, 22] (by kernel_rfl) ?_
      refine q_move rfl rfl ?_
      refine q_move rfl rfl ?_
      refine q_nilCheck rfl rfl ?_
      refine q_field rfl rfl ?_
      refine q_load rfl (Blk.cell (hS.blk 2 rfl) rfl) rfl ?_
      refine q_field rfl rfl ?_
      refine q_load rfl (Blk.cell (hS.blk 1 rfl) rfl) rfl ?_
      refine q_move rfl rfl ?_
      refine q_nilCheck rfl rfl ?_
      refine q_field rfl rfl ?_
      refine q_load rfl (Blk.cell (hS.blk 2 rfl) rfl) rfl ?_
      refine q_field rfl rfl ?_
      refine q_load rfl (Blk.cell (hS.blk 1 rfl) rfl) rfl ?_
      obtain ⟨x390, hx390, h⟩ := Option.of_bind h
      refine q_indexO (by infer_instance) rfl (hS.own 3 rfl) rfl hx390 rfl ?_
      have f391 := (hS.ownR 3 rfl).elt hx390
      refine q_load rfl (Elt.intCell f391) rfl ?_
      refine q_field rfl rfl ?_
      refine q_load rfl (Blk.cell (hS.blk 1 rfl) rfl) rfl ?_
      refine q_build (Parts.cons rfl rfl (Parts.cons rfl rfl (Parts.cons rfl rfl Parts.nil))) rfl rfl ?_
      refine q_litO (T := arcTy) (S := (fun _ => False)) (cells := [[.int .i64 a1.proc, .int .i64 x390, .int .i64 a1.other, .int .i64 0]]) (ys := [(⟨a1.proc, x390, a1.other, 0⟩ : Arc)]) ((Parts.cons rfl rfl Parts.nil)) rfl rfl rfl rfl rfl rfl rfl (fun w1 hB => ⟨⟨[_], _, rfl, rfl, ⟨[_], _, rfl, rfl, ⟨[_], _, rfl, rfl, rfl⟩⟩⟩, trivial⟩) (fun _ h => h.elim) rfl fun w392 v392 ho392 hv392 hB392 => ?_
      replace f6 := f6.ext hB392
      replace hS := hS.newOwnS hB392 ho392 hv392 (fun _ h => h.elim)
      obtain ⟨x395, hx395, h⟩ := Option.of_bind h
      refine q_catOwn (T := arcTy) rfl rfl rfl rfl (hS.own 7 rfl) rfl (hS.own 0 rfl) (fun _ h _ => h.elim) (snoc_cat hx395) (Nat.zero_le _) rfl (fun h => by cases h) fun v394 w394 hw394 hgr394 hnw394 => ?_
      have hk394 := hS.keptOwn 7 rfl hgr394
      replace f6 := f6.kept hk394
      replace hS := hS.setOwn 7 rfl hw394 hgr394 hnw394; simp only [List.set] at hS
      refine q_nilCheck rfl rfl ?_
      refine q_field rfl rfl ?_
      refine q_store rfl rfl (hS.blk 3 rfl) (Nat.le_of_ble_eq_true rfl) (hS.own 7 rfl).one rfl rfl fun w396 hb396 hO396 => ?_
      have hk396 := hS.keptBlk 3 rfl hO396
      replace f6 := f6.kept hk396
      replace hS := hS.setBlk 3 rfl hb396 hO396; simp only [List.set] at hS
      refine eseq_nil ?_
      obtain rfl := Option.some.inj h
      replace hS := hS.famMono 9 rfl; simp only [List.set] at hS
      exact ⟨_, res0 rfl, v2, v3, v4, v394, v7, v8, v9, v10, v11, v12, v13, v380, _, rfl, (hS.pickB [3, 4, 5, 6, 7, 8, 9, 10, 11, 12, 13, 14, 15] 16 rfl rfl)⟩
  · replace h := (if_neg (not_true hc324)).symm.trans h
    refine e_seq fun K397 hK397 => ?_
    refine e_region_text rfl ?_
    refine q_eql rfl rfl rfl ?_
    refine q_assign rfl rfl ?_
    refine eseq_nil ?_
    refine hK397 _ _ ?_
    refine e_cond rfl (fun hc398 => ?_) (fun hc398 => ?_)
    · replace h := (if_pos hc398).symm.trans h
      refine e_seq fun K399 hK399 => ?_
      refine e_seq fun K400 hK400 => ?_
      refine e_region_draw mixed (fun _ => False) [0, 1, 3, 7, 15, 31, 15, 79, 207, 463, 975, 2047, 4095, 8191, 16383, 32767, 65535, 131071, 16383, 278527, 802815, 1851391, 16383, 4210687, 12599295, 29376511, 16383, 67125247, 264257535, 532692991, 1069563903, 2147237887, 4294721535, 8589688831, 17179869183, 34359738367, 68719476735, 137438953471] [] [0, 1, 2, 3, 4, 5, 6, 7, 8, 9, 10, 11, 12, 13, 14, 15, 16, 17, 18, 19, 20, 21, 22, 23, 24, 25, 26, 27, 28, 29, 30, 31, 32, 33, 34, 35, 36, 37] (by kernel_rfl) ?_
      refine q_field rfl rfl ?_
      refine q_load rfl (Blk.cell (hS.blk 0 rfl) rfl) rfl ?_
      refine q_lss rfl rfl rfl ?_
      refine q_move rfl rfl ?_
      obtain ⟨x404, hx403, h⟩ := Option.of_bind h
      refine g_orM 8 hx403 rfl trivial rfl rfl ?_ ?_ ?_
      · intro hg403
        refine g_skip rfl rfl rfl ?_
        refine g_skip rfl rfl rfl ?_
        refine g_skip rfl rfl rfl ?_
        refine g_skip rfl rfl rfl ?_
        refine g_skip rfl rfl rfl ?_
        refine g_skip rfl rfl rfl ?_
        refine g_skip rfl rfl rfl ?_
        refine g_skip rfl rfl rfl ?_
        exact eseq_nil ⟨rfl, Sub.set rfl (Sub.set rfl (Sub.set rfl (Sub.set rfl (Sub.set rfl (Sub.set rfl (Sub.set rfl (Sub.set rfl (Sub.bool true rfl hg403))))))))⟩
      · intro hg403 hx403
        clear h
        have hT403 := Below.refl (World.heap w318).size w318
        refine g_run rfl ?_; refine q_field rfl rfl ?_
        refine g_run rfl ?_; refine q_load rfl (Blk.cell (hS.blk 0 rfl) rfl) rfl ?_
        refine g_run rfl ?_; refine q_move rfl rfl ?_
        refine g_run rfl ?_; refine q_nilCheck rfl rfl ?_
        refine g_run rfl ?_; refine q_field rfl rfl ?_
        refine g_run rfl ?_; refine q_load rfl (Blk.cell (hS.blk 1 rfl) rfl) rfl ?_
        refine g_run rfl ?_; refine q_lenS rfl (hS.isl 13 rfl) rfl ?_
        refine g_run rfl ?_; refine q_geq rfl rfl rfl ?_
        cases hx403
        exact eseq_nil ⟨hT403, Sub.set rfl (Sub.set rfl (Sub.set rfl (Sub.set rfl (Sub.set rfl (Sub.set rfl (Sub.set rfl (Sub.set rfl (Sub.bool false rfl hg403)))))))), rfl⟩
      intro wm403 hBm403; clear hx403
      replace hS := hS.below hBm403
      replace f6 := f6.ext hBm403
      refine q_move rfl rfl ?_
      obtain ⟨x416, hx415, h⟩ := Option.of_bind h
      refine g_orM 23 hx415 rfl trivial rfl rfl ?_ ?_ ?_
      · intro hg415
        refine g_skip rfl rfl rfl ?_
        refine g_skip rfl rfl rfl ?_
        refine g_skip rfl rfl rfl ?_
        refine g_skip rfl rfl rfl ?_
        refine g_skip rfl rfl rfl ?_
        refine g_skip rfl rfl rfl ?_
        refine g_skip rfl rfl rfl ?_
        refine g_skip rfl rfl rfl ?_
        refine g_skip rfl rfl rfl ?_
        refine g_skip rfl rfl rfl ?_
        refine g_skip rfl rfl rfl ?_
        refine g_skip rfl rfl rfl ?_
        refine g_skip rfl rfl rfl ?_
        refine g_skip rfl rfl rfl ?_
        refine g_skip rfl rfl rfl ?_
        refine g_skip rfl rfl rfl ?_
        refine g_skip rfl rfl rfl ?_
        refine g_skip rfl rfl rfl ?_
        refine g_skip rfl rfl rfl ?_
        refine g_skip rfl rfl rfl ?_
        refine g_skip rfl rfl rfl ?_
        refine g_skip rfl rfl rfl ?_
        refine g_skip rfl rfl rfl ?_
        exact eseq_nil ⟨rfl, Sub.set rfl (Sub.set rfl (Sub.set rfl (Sub.set rfl (Sub.set rfl (Sub.set rfl (Sub.set rfl (Sub.set rfl (Sub.set rfl (Sub.set rfl (Sub.set rfl (Sub.set rfl (Sub.set rfl (Sub.set rfl (Sub.set rfl (Sub.set rfl (Sub.set rfl (Sub.set rfl (Sub.set rfl (Sub.set rfl (Sub.set rfl (Sub.set rfl (Sub.set rfl (Sub.bool true rfl hg415)))))))))))))))))))))))⟩
      · intro hg415 hx415
        clear h
        have hT415 := Below.refl (World.heap wm403).size wm403
        refine g_run rfl ?_; refine q_move rfl rfl ?_
        refine g_run rfl ?_; refine q_nilCheck rfl rfl ?_
        refine g_run rfl ?_; refine q_field rfl rfl ?_
        refine g_run rfl ?_; refine q_load rfl (Blk.cell (hS.blk 1 rfl) rfl) rfl ?_
        refine g_run rfl ?_; refine q_move rfl rfl ?_
        refine g_run rfl ?_; refine q_nilCheck rfl rfl ?_
        refine g_run rfl ?_; refine q_field rfl rfl ?_
        refine g_run rfl ?_; refine q_load rfl (Blk.cell (hS.blk 1 rfl) rfl) rfl ?_
        refine g_run rfl ?_; refine q_move rfl rfl ?_
        refine g_run rfl ?_; refine q_nilCheck rfl rfl ?_
        refine g_run rfl ?_; refine q_field rfl rfl ?_
        refine g_run rfl ?_; refine q_load rfl (Blk.cell (hS.blk 1 rfl) rfl) rfl ?_
        refine g_run rfl ?_; refine q_field rfl rfl ?_
        refine g_run rfl ?_; refine q_load rfl (Blk.cell (hS.blk 0 rfl) rfl) rfl ?_
        obtain ⟨x417, hx417, hx415⟩ := Option.of_bind hx415
        refine g_run rfl ?_; refine q_indexO (by infer_instance) rfl (hS.own 13 rfl) rfl hx417 rfl ?_
        refine g_run rfl ?_; refine q_field rfl rfl ?_
        have f418 := (hS.ownR 13 rfl).elt hx417
        have f419 := Ref26Flying_F0 f418
        refine g_run rfl ?_; refine q_load rfl (Elt.intCell f419) rfl ?_
        obtain ⟨x420, hx420, hx415⟩ := Option.of_bind hx415
        refine g_run rfl ?_; refine q_indexO (by infer_instance) rfl (hS.own 5 rfl) rfl hx420 rfl ?_
        refine g_run rfl ?_; refine q_field rfl rfl ?_
        have f421 := (hS.ownR 5 rfl).elt hx420
        have f422 := Arc_F2 f421
        refine g_run rfl ?_; refine q_load rfl (Elt.intCell f422) rfl ?_
        obtain ⟨x423, hx423, hx415⟩ := Option.of_bind hx415
        refine g_run rfl ?_; refine q_indexO (by infer_instance) rfl (hS.own 2 rfl) rfl hx423 rfl ?_
        have f424 := (hS.ownR 2 rfl).elt hx423
        refine g_run rfl ?_; refine q_load rfl (Elt.intCell f424) rfl ?_
        refine g_run rfl ?_; refine q_geq rfl rfl rfl ?_
        cases hx415
        exact eseq_nil ⟨hT415, Sub.set rfl (Sub.set rfl (Sub.set rfl (Sub.set rfl (Sub.set rfl (Sub.set rfl (Sub.set rfl (Sub.set rfl (Sub.set rfl (Sub.set rfl (Sub.set rfl (Sub.set rfl (Sub.set rfl (Sub.set rfl (Sub.set rfl (Sub.set rfl (Sub.set rfl (Sub.set rfl (Sub.set rfl (Sub.set rfl (Sub.set rfl (Sub.set rfl (Sub.set rfl (Sub.bool false rfl hg415))))))))))))))))))))))), rfl⟩
      intro wm415 hBm415; clear hx415
      replace hS := hS.below hBm415
      replace f6 := f6.ext hBm415
      refine eseq_nil ?_
      refine hK400 _ _ ?_
      refine e_cond rfl (fun hc425 => ?_) (fun hc425 => ?_)
      · replace h := (if_pos hc425).symm.trans h
        refine e_ret ?_
        obtain rfl := Option.some.inj h
        exact ⟨_, res0 rfl, v2, v3, v4, v5, v7, v8, v9, v10, v11, v12, v13, v14, _, rfl, (hS.pickB [1, 2, 3, 4, 5, 6, 7, 8, 9, 10, 11, 12, 13] 14 rfl rfl)⟩
      · replace h := (if_neg (not_true hc425)).symm.trans h
        refine e_skip ?_
        refine hK399 _ _ ?_
        refine e_seq fun K426 hK426 => ?_
        refine e_region_draw mixed (fun _ => False) [0, 1, 3, 7, 0, 16, 63, 127, 0, 511] [8] [0, 1, 2, 3, 4, 5, 6, 7, 8, 9] (by kernel_rfl) ?_
        refine q_move rfl rfl ?_
        refine q_nilCheck rfl rfl ?_
        refine q_field rfl rfl ?_
        refine q_load rfl (Blk.cell (hS.blk 1 rfl) rfl) rfl ?_
        refine q_field rfl rfl ?_
        refine q_load rfl (Blk.cell (hS.blk 0 rfl) rfl) rfl ?_
        obtain ⟨x434, hx434, h⟩ := Option.of_bind h
        refine q_indexO (by infer_instance) rfl (hS.own 13 rfl) rfl hx434 rfl ?_
        have f435 := (hS.ownR 13 rfl).elt hx434
        obtain ⟨v436, hc437, f436⟩ := Ref26Flying_open f435
        refine q_loadAgg rfl hc437 rfl rfl ?_
        refine q_allocB rfl fun w438 bl438 hg438 hb438 hB438 => ?_
        replace f6 := f6.ext hB438
        replace f436 := f436.ext hB438
        replace hS := hS.newBlk hB438 hg438 hb438
        refine q_storeAgg rfl rfl (hS.blk 0 rfl) rfl (Nat.le_of_ble_eq_true rfl) (all_cons rfl (all_cons f436.one (all_nil))) rfl rfl fun w440 hb440 hO440 => ?_
        simp only [setN, List.set, List.take, List.drop] at hb440
        have hk440 := hS.keptBlk 0 rfl hO440
        replace f6 := f6.kept hk440
        replace f436 := f436.kept hk440
        replace hS := hS.setBlk 0 rfl hb440 hO440; simp only [List.set] at hS
        refine eseq_nil ?_
        refine hK426 _ _ ?_
        refine e_seq fun K441 hK441 => ?_
        refine e_region_draw mixed (fun _ => False) [0, 0, 2, 6, 14, 0, 32, 126, 254, 0, 512, 1536, 3584, 0, 8192, 24576, 65024, 131070, 262143, 524287, 1048575] [8] [0, 1, 2, 3, 4, 5, 6, 7, 9, 10, 11, 12, 13, 14, 15, 16, 8, 17, 18, 19, 20] (by kernel_rfl) ?_
        refine q_move rfl rfl ?_
        refine q_move rfl rfl ?_
        refine q_nilCheck rfl rfl ?_
        refine q_field rfl rfl ?_
        refine q_load rfl (Blk.cell (hS.blk 2 rfl) rfl) rfl ?_
        refine q_field rfl rfl ?_
        refine q_load rfl (Blk.cell (hS.blk 1 rfl) rfl) rfl ?_
        obtain ⟨R453, hS, hm453, f453⟩ := hS.freezeOwn 14 rfl; simp only [List.eraseIdx] at hS
        replace f6 := f6.mono fun k hk _ => hm453 k hk
        replace f436 := f436.mono fun k hk _ => hm453 k hk
        obtain ⟨x455, hx455, h⟩ := Option.of_bind h
        refine q_takeS (by infer_instance) rfl f453 rfl hx455 rfl fun v454 f454 => ?_
        refine q_move rfl rfl ?_
        refine q_nilCheck rfl rfl ?_
        refine q_field rfl rfl ?_
        refine q_load rfl (Blk.cell (hS.blk 2 rfl) rfl) rfl ?_
        refine q_field rfl rfl ?_
        refine q_load rfl (Blk.cell (hS.blk 1 rfl) rfl) rfl ?_
        refine q_addW rfl rfl rfl ?_
        obtain ⟨x457, hx457, h⟩ := Option.of_bind h
        refine q_dropS (by infer_instance) rfl f453 rfl hx457 rfl fun v456 f456 => ?_
        replace hS := hS.nilOwn ref26FlyingTy 155
        obtain ⟨x460, hx460, h⟩ := Option.of_bind h
        refine q_catO (T := ref26FlyingTy) rfl rfl rfl rfl (hS.own 0 rfl) rfl f454 (hS.ownOff 0 rfl) hx460 (Nat.zero_le _) rfl (fun _ k hk => by cases hk) fun v459 w459 hw459 hgr459 hnw459 => ?_
        have hk459 := hS.keptOwn 0 rfl hgr459
        replace f6 := f6.kept hk459
        replace f453 := f453.kept hk459
        replace f436 := f436.kept hk459
        replace f454 := f454.kept hk459
        replace f456 := f456.kept hk459
        replace hS := hS.setOwn 0 rfl hw459 hgr459 hnw459; simp only [List.set] at hS
        obtain ⟨x462, hx462, h⟩ := Option.of_bind h
        refine q_catO (T := ref26FlyingTy) rfl rfl rfl rfl (hS.own 0 rfl) rfl f456 (hS.ownOff 0 rfl) hx462 (Nat.zero_le _) rfl (fun h => by cases h) fun v461 w461 hw461 hgr461 hnw461 => ?_
        have hk461 := hS.keptOwn 0 rfl hgr461
        replace f6 := f6.kept hk461
        replace f453 := f453.kept hk461
        replace f436 := f436.kept hk461
        replace f456 := f456.kept hk461
        replace hS := hS.setOwn 0 rfl hw461 hgr461 hnw461; simp only [List.set] at hS
        refine q_nilCheck rfl rfl ?_
        refine q_field rfl rfl ?_
        refine q_store rfl rfl (hS.blk 3 rfl) (Nat.le_of_ble_eq_true rfl) (hS.own 0 rfl).one rfl rfl fun w463 hb463 hO463 => ?_
        have hk463 := hS.keptBlk 3 rfl hO463
        replace f6 := f6.kept hk463
        replace f436 := f436.kept hk463
        replace hS := hS.setBlk 3 rfl hb463 hO463; simp only [List.set] at hS
        refine eseq_nil ?_
        refine hK441 _ _ ?_
        refine e_seq fun K464 hK464 => ?_
        refine e_region_draw mixed (fun _ => False) [0, 1, 3, 7, 0, 16, 63, 127, 255, 511] [] [0, 1, 2, 3, 4, 5, 6, 7, 8, 9] (by kernel_rfl) ?_
        refine q_move rfl rfl ?_
        refine q_nilCheck rfl rfl ?_
        refine q_field rfl rfl ?_
        refine q_load rfl (Blk.cell (hS.blk 3 rfl) rfl) rfl ?_
        refine q_field rfl rfl ?_
        refine q_load rfl (Blk.cell (hS.blk 1 rfl) rfl) rfl ?_
        obtain ⟨x465, hx465, h⟩ := Option.of_bind h
        refine q_indexO (by infer_instance) rfl (hS.own 7 rfl) rfl hx465 rfl ?_
        refine q_field rfl rfl ?_
        have f466 := (hS.ownR 7 rfl).elt hx465
        have f467 := Arc_F2 f466
        refine q_load rfl (Elt.intCell f467) rfl ?_
        refine q_assign rfl rfl ?_
        refine eseq_nil ?_
        refine hK464 _ _ ?_
        refine e_seq fun K468 hK468 => ?_
        have hJ468 : ∀ (x501 : (List (List Int))) (x508 : (List (List (List Int)))) (x513 : (List (List Bool))) (x518 : (List (List Int))) (x523 : (List Bool)) (v499 : Value) (v500 : List Value) (v506 : Value) (v507 : List Value) (v511 : Value) (v512 : List Value) (v516 : Value) (v517 : List Value) (v522 : Value) (R496 : Nat → Prop) (w497 : World) (E_ : Env), ref26_run_act_J1 fuel x465 x434 c0_0 c0_2 x462 x501 x508 x513 x518 x523 = some r → Sep F R R496 w w497 [HP.blk B0 [v2, v499, v5, v6, v506, v511, .int .i64 c0_6, v516, v522, v461] 102, HP.own Ty.int (fun _ => False) 3 v2 c0_0, HP.own Ty.raw (fun _ => False) 27 v499 v500, HP.famS Ty.int (fun _ => False) 3 v500 x501, HP.own arcTy (fun _ => False) 107 v5 c0_2, HP.own Ty.raw (fun _ => False) 28 v506 v507, HP.famS (Ty.slice Ty.int) R496 27 v507 x508, HP.own Ty.raw (fun _ => False) 99 v511 v512, HP.famS Ty.bool (fun _ => False) 4 v512 x513, HP.own Ty.raw (fun _ => False) 27 v516 v517, HP.famS Ty.int (fun _ => False) 3 v517 x518, HP.own Ty.bool (fun _ => False) 4 v522 x523, HP.own ref26FlyingTy R496 155 v461 x462, HP.blk bl438 [.int .i64 x434.arc, v436] 155] → IsSlice (Ty.slice Ty.int) w497 R496 v6 c0_3 → IsSlice Ty.int w497 R496 v436 x434.vector → Sub [(0, .pointer (some ⟨B0, 0, none⟩)), (4, .pointer (some ⟨B0, 0, none⟩)), (6, .pointer (some ⟨bl438, 0, none⟩)), (7, .int .i64 x465.to)] E_ → K468 E_ w497 := by
          intro x501 x508 x513 x518 x523 v499 v500 v506 v507 v511 v512 v516 v517 v522 R496 w497 E_ h hS f505 f525 hsub
          refine hK468 _ _ (e_sub hsub ?_); clear hsub
          unfold ref26_run_act_J1 at h
          refine e_seq fun K526 hK526 => ?_
          refine e_region_draw mixed (fun _ => False) [0, 1, 3, 7, 0, 0, 32, 96, 224, 0, 992, 2016, 0, 4096, 16352, 32767, 65535] [14] [0, 1, 2, 3, 4, 5, 6, 7, 8, 9, 10, 11, 12, 13, 14, 15, 16] (by kernel_rfl) ?_
          refine q_move rfl rfl ?_
          refine q_nilCheck rfl rfl ?_
          refine q_field rfl rfl ?_
          refine q_load rfl (Blk.cell (hS.blk 0 rfl) rfl) rfl ?_
          refine q_move rfl rfl ?_
          refine q_move rfl rfl ?_
          refine q_nilCheck rfl rfl ?_
          refine q_field rfl rfl ?_
          refine q_load rfl (Blk.cell (hS.blk 0 rfl) rfl) rfl ?_
          refine q_move rfl rfl ?_
          obtain ⟨x534, hx534, h⟩ := Option.of_bind h
          have hax534 := ati_nth (hS.famLen 10 rfl) hx534
          refine q_indexO (T := Ty.raw) (by infer_instance) rfl (hS.own 9 rfl) rfl hax534 rfl ?_
          refine q_load rfl (Elt.rawCell ((hS.own 9 rfl).elt hax534)) rfl ?_
          refine q_field rfl rfl ?_
          refine q_load rfl (Blk.cell (hS.blk 13 rfl) rfl) rfl ?_
          obtain ⟨r536, hr536, h⟩ := Option.of_bind h
          refine q_call rfl (ref26_Merge_w (Sep.all w497) ((hS.famI 10 rfl hx534)).old (f525).old hr536) rfl ?_
          rintro v537 w535 ⟨_, R535, rfl, hC535⟩
          have hB535 : Below (World.heap w497).size w497 w535 := hC535.stepBF
          refine ⟨fun _ => .of_below hB535, ?_⟩
          replace f505 := f505.ext hB535
          replace f525 := f525.ext hB535
          replace hS := hS.newOwnS hB535 (hC535.own 0 rfl) (hC535.fresh 0 rfl) (fun _ h => h.elim)
          obtain ⟨x538, hx538, h⟩ := Option.of_bind h
          have hax538 := ati_nth (hS.famLen 11 rfl) hx538
          refine q_indexO (T := Ty.raw) (by infer_instance) rfl (hS.own 10 rfl) rfl hax538 rfl ?_
          obtain ⟨x540, hx540, h⟩ := Option.of_bind h
          replace hS := hS.pickB [11, 0, 1, 2, 3, 4, 5, 6, 7, 8, 9, 10, 12, 13, 14] 15 rfl rfl; simp only [List.map_cons, List.map_nil, List.getD_cons_zero, List.getD_cons_succ] at hS
          have hone539 := (hS.own 1 rfl).one
          replace hS := hS.famTake hx538 hx540
          refine q_storeO (T := Ty.raw) (j := 0) rfl rfl (hS.own 10 rfl) hax538 (seti_ok hax538) rfl hone539 rfl (rawSet hone539) fun w539 ho539 hO539 => ?_
          have hk539 := hS.keptO 10 rfl hax538 hO539
          replace f505 := f505.kept hk539
          replace f525 := f525.kept hk539
          replace hS := hS.putO 10 rfl hax538 ho539 hO539; simp only [List.set] at hS
          refine eseq_nil ?_
          refine hK526 _ _ ?_
          refine e_seq fun K541 hK541 => ?_
          refine e_region_text rfl ?_
          refine q_move rfl rfl ?_
          refine q_nilCheck rfl rfl ?_
          refine q_field rfl rfl ?_
          refine q_load rfl (Blk.cell (hS.blk 1 rfl) rfl) rfl ?_
          refine q_move rfl rfl ?_
          obtain ⟨x542, hx542, h⟩ := Option.of_bind h
          refine q_indexO (by infer_instance) rfl (hS.own 2 rfl) rfl hx542 rfl ?_
          have f543 := (hS.ownR 2 rfl).elt hx542
          refine q_load rfl (Elt.intCell f543) rfl ?_
          refine q_addW rfl rfl rfl ?_
          obtain ⟨x544, hx544, h⟩ := Option.of_bind h
          refine q_indexO (by infer_instance) rfl (hS.own 2 rfl) rfl hx544 rfl ?_
          obtain ⟨x546, hx546, h⟩ := Option.of_bind h
          refine q_storeO (T := Ty.int) (j := 0) rfl rfl (hS.own 2 rfl) hx544 hx546 rfl rfl rfl (Enc.setL rfl) fun w545 ho545 hO545 => ?_
          have hk545 := hS.keptO 2 rfl hx544 hO545
          replace f505 := f505.kept hk545
          replace f525 := f525.kept hk545
          replace hS := hS.putO 2 rfl hx544 ho545 hO545; simp only [List.set] at hS
          refine eseq_nil ?_
          refine hK541 _ _ ?_
          refine e_region_draw mixed (fun _ => False) [0, 1, 3, 7, 0, 16, 0, 64, 192, 448, 0, 1984, 4032, 8191, 16383, 32767] [] [0, 1, 2, 3, 4, 5, 6, 7, 8, 9, 10, 11, 12, 13, 14, 15] (by kernel_rfl) ?_
          refine q_move rfl rfl ?_
          refine q_nilCheck rfl rfl ?_
          refine q_field rfl rfl ?_
          refine q_load rfl (Blk.cell (hS.blk 1 rfl) rfl) rfl ?_
          refine q_field rfl rfl ?_
          refine q_load rfl (Blk.cell (hS.blk 13 rfl) rfl) rfl ?_
          refine q_move rfl rfl ?_
          refine q_nilCheck rfl rfl ?_
          refine q_field rfl rfl ?_
          refine q_load rfl (Blk.cell (hS.blk 1 rfl) rfl) rfl ?_
          refine q_move rfl rfl ?_
          obtain ⟨x547, hx547, h⟩ := Option.of_bind h
          refine q_indexO (by infer_instance) rfl (hS.own 2 rfl) rfl hx547 rfl ?_
          have f548 := (hS.ownR 2 rfl).elt hx547
          refine q_load rfl (Elt.intCell f548) rfl ?_
          obtain ⟨x549, hx549, h⟩ := Option.of_bind h
          refine q_indexO (by infer_instance) rfl (hS.own 5 rfl) rfl hx549 rfl ?_
          refine q_field rfl rfl ?_
          obtain ⟨x551, hx551, h⟩ := Option.of_bind h
          refine q_storeO (T := arcTy) (j := 3) rfl rfl (hS.own 5 rfl) hx549 hx551 rfl rfl rfl (Enc.setL rfl) fun w550 ho550 hO550 => ?_
          have hk550 := hS.keptO 5 rfl hx549 hO550
          replace f505 := f505.kept hk550
          replace hS := hS.putO 5 rfl hx549 ho550 hO550; simp only [List.set] at hS
          refine eseq_nil ?_
          obtain rfl := Option.some.inj h
          exact ⟨_, res0 rfl, v2, v499, v500, v5, v506, v507, v511, v512, v516, (v517.set (x465.to).toNat v537), v522, v461, _, rfl, (hS.pickB [1, 2, 3, 4, 5, 6, 7, 8, 9, 10, 0, 11, 12] 14 rfl rfl)⟩
        refine e_seq fun K552 hK552 => ?_
        refine e_region_draw mixed (fun _ => False) [0, 1, 3, 7, 0, 16, 48, 112, 0, 496, 1008, 0, 2048, 0, 8192, 24576, 57344, 0, 253952, 516096, 0, 0, 3145728, 8388607] [22] [0, 1, 2, 3, 4, 5, 6, 7, 8, 9, 10, 11, 12, 13, 14, 15, 16, 17, 18, 19, 20, 21, 22, 23] (by kernel_rfl) ?_
        refine q_move rfl rfl ?_
        refine q_nilCheck rfl rfl ?_
        refine q_field rfl rfl ?_
        refine q_load rfl (Blk.cell (hS.blk 3 rfl) rfl) rfl ?_
        refine q_move rfl rfl ?_
        refine q_nilCheck rfl rfl ?_
        refine q_field rfl rfl ?_
        refine q_load rfl (Blk.cell (hS.blk 3 rfl) rfl) rfl ?_
        refine q_move rfl rfl ?_
        obtain ⟨x560, hx560, h⟩ := Option.of_bind h
        have hax560 := ati_nth (hS.famLen 13 rfl) hx560
        refine q_indexO (T := Ty.raw) (by infer_instance) rfl (hS.own 12 rfl) rfl hax560 rfl ?_
        refine q_load rfl (Elt.rawCell ((hS.own 12 rfl).elt hax560)) rfl ?_
        refine q_field rfl rfl ?_
        refine q_load rfl (Blk.cell (hS.blk 1 rfl) rfl) rfl ?_
        refine q_move rfl rfl ?_
        refine q_nilCheck rfl rfl ?_
        refine q_field rfl rfl ?_
        refine q_load rfl (Blk.cell (hS.blk 3 rfl) rfl) rfl ?_
        refine q_move rfl rfl ?_
        obtain ⟨x561, hx561, h⟩ := Option.of_bind h
        refine q_indexO (by infer_instance) rfl (hS.own 14 rfl) rfl hx561 rfl ?_
        have f562 := (hS.ownR 14 rfl).elt hx561
        refine q_load rfl (Elt.boolCell f562) rfl ?_
        refine q_move rfl rfl ?_
        refine q_move rfl rfl ?_
        obtain ⟨r564, hr564, h⟩ := Option.of_bind h
        refine q_call rfl (ref26_run_active_w (Sep.all w463) (Lent.of (hS.blk 3 rfl)) ((hS.isl 4 rfl)).old ((hS.rowsI 5 6 rfl rfl (by decide))).old ((hS.isl 7 rfl)).old (f6).old ((hS.rowsI 8 9 rfl rfl (by decide))).old ((hS.rowsI 10 11 rfl rfl (by decide))).old ((hS.rowsI 12 13 rfl rfl (by decide))).old ((hS.isl 14 rfl)).old ((hS.isl 0 rfl)).old hr564) rfl ?_
        rintro _ w563 ⟨R563, rfl, hC563⟩
        have hB563 : Below (World.heap w463).size w463 w563 := hC563.stepBF
        refine ⟨fun _ => .of_below hB563, ?_⟩
        replace f6 := f6.ext hB563
        replace f436 := f436.ext hB563
        replace hS := hS.below hB563
        obtain ⟨r566, hr566, h⟩ := Option.of_bind h
        refine q_call rfl (ref26_Forces_w (Sep.all w563) ((hS.famI 13 rfl hx560)).old (f436).old hr566) rfl ?_
        rintro _ w565 ⟨R565, rfl, hC565⟩
        have hB565 : Below (World.heap w563).size w563 w565 := hC565.stepBF
        refine ⟨fun _ => .of_below hB565, ?_⟩
        replace f6 := f6.ext hB565
        replace f436 := f436.ext hB565
        replace hS := hS.below hB565
        refine eseq_nil ?_
        refine hK552 _ _ ?_
        refine e_cond rfl (fun hc567 => ?_) (fun hc567 => ?_)
        · replace h := (if_pos hc567).symm.trans h
          refine e_region_text rfl ?_
          refine q_move rfl rfl ?_
          refine q_move rfl rfl ?_
          replace hS := hS.famMono 9 rfl; simp only [List.set] at hS
          obtain ⟨r569, hr569, h⟩ := Option.of_bind h
          replace hS := hS.pickB [3, 4, 5, 6, 7, 8, 9, 10, 11, 12, 13, 14, 0, 1, 2] 15 rfl rfl; simp only [List.map_cons, List.map_nil, List.getD_cons_zero, List.getD_cons_succ] at hS
          refine q_call rfl (ref26_run_take_w (Sep.enter (As := [_, _, _, _, _, _, _, _, _, _, _, _, _]) hS) f6 hr569) rfl ?_
          rintro _ w568 ⟨v570, v571, v572, v573, v574, v575, v576, v577, v578, R568, rfl, hC568⟩
          refine ⟨(fun h => by cases h), ?_⟩
          have hk568 := hC568.keptR (Sep.offFeet (As := [_, _, _, _, _, _, _, _, _, _, _, _, _]) hS)
          replace f6 := (f6.kept hk568).mono fun k hk _ => hC568.ro0 k hk
          replace f436 := (f436.kept hk568).mono fun k hk _ => hC568.ro0 k hk
          replace hS := Sep.leave (As := [_, _, _, _, _, _, _, _, _, _, _, _, _]) hS hC568; simp only [List.cons_append, List.nil_append] at hS
          refine eseq_nil ?_
          replace hS := hS.ownMono 12 rfl; simp only [List.set] at hS
          exact hJ468 r569.1 r569.2.1 r569.2.2.1 r569.2.2.2.1 r569.2.2.2.2 v570 v571 v572 v573 v574 v575 v576 v577 v578 _ _ _ h (hS.pickB [0, 1, 2, 3, 4, 5, 6, 7, 8, 9, 10, 11, 12, 13] 15 rfl rfl) f6 f436 (Sub.cons rfl (Sub.cons rfl (Sub.cons rfl (Sub.cons rfl (Sub.nil _)))))
        · replace h := (if_neg (not_true hc567)).symm.trans h
          refine e_skip ?_
          replace hS := hS.famMono 9 rfl; simp only [List.set] at hS
          exact hJ468 c0_1 c0_4 c0_5 c0_7 c0_8 v3 v4 v7 v8 v9 v10 v11 v12 v13 _ _ _ h (hS.pickB [3, 4, 5, 6, 7, 8, 9, 10, 11, 12, 13, 14, 0, 1] 15 rfl rfl) f6 f436 (Sub.cons rfl (Sub.cons rfl (Sub.cons rfl (Sub.cons rfl (Sub.nil _)))))
    · replace h := (if_neg (not_true hc398)).symm.trans h
      refine e_seq fun K579 hK579 => ?_
      refine e_region_text rfl ?_
      refine q_eql rfl rfl rfl ?_
      refine q_assign rfl rfl ?_
      refine eseq_nil ?_
      refine hK579 _ _ ?_
      refine e_cond rfl (fun hc580 => ?_) (fun hc580 => ?_)
      · replace h := (if_pos hc580).symm.trans h
        refine e_seq fun K581 hK581 => ?_
        refine e_region_text rfl ?_
        refine q_field rfl rfl ?_
        refine q_load rfl (Blk.cell (hS.blk 0 rfl) rfl) rfl ?_
        refine q_geq rfl rfl rfl ?_
        refine q_move rfl rfl ?_
        obtain ⟨x585, hx584, h⟩ := Option.of_bind h
        refine g_andM 4 hx584 rfl trivial rfl rfl ?_ ?_ ?_
        · intro hg584 hx584
          clear h
          have hT584 := Below.refl (World.heap w318).size w318
          refine g_run rfl ?_; refine q_field rfl rfl ?_
          refine g_run rfl ?_; refine q_load rfl (Blk.cell (hS.blk 0 rfl) rfl) rfl ?_
          refine g_run rfl ?_; refine q_move rfl rfl ?_
          refine g_run rfl ?_; refine q_lss rfl rfl rfl ?_
          cases hx584
          exact eseq_nil ⟨hT584, Sub.set rfl (Sub.set rfl (Sub.set rfl (Sub.set rfl (Sub.bool true rfl hg584)))), rfl⟩
        · intro hg584
          refine g_skip rfl rfl rfl ?_
          refine g_skip rfl rfl rfl ?_
          refine g_skip rfl rfl rfl ?_
          refine g_skip rfl rfl rfl ?_
          exact eseq_nil ⟨rfl, Sub.set rfl (Sub.set rfl (Sub.set rfl (Sub.set rfl (Sub.bool false rfl hg584))))⟩
        intro wm584 hBm584; clear hx584
        replace hS := hS.below hBm584
        replace f6 := f6.ext hBm584
        refine q_move rfl rfl ?_
        obtain ⟨x591, hx590, h⟩ := Option.of_bind h
        refine g_andM 4 hx590 rfl trivial rfl rfl ?_ ?_ ?_
        · intro hg590 hx590
          clear h
          have hT590 := Below.refl (World.heap wm584).size wm584
          refine g_run rfl ?_; refine q_move rfl rfl ?_
          refine g_run rfl ?_; refine q_field rfl rfl ?_
          refine g_run rfl ?_; refine q_load rfl (Blk.cell (hS.blk 0 rfl) rfl) rfl ?_
          obtain ⟨r593, hr593, hx590⟩ := Option.of_bind hx590
          refine g_run rfl ?_; refine q_call rfl (ref26_run_active_w (Sep.all wm584) (Lent.of (hS.blk 1 rfl)) ((hS.isl 2 rfl)).old ((hS.rowsI 3 4 rfl rfl (by decide))).old ((hS.isl 5 rfl)).old (f6).old ((hS.rowsI 6 7 rfl rfl (by decide))).old ((hS.rowsI 8 9 rfl rfl (by decide))).old ((hS.rowsI 10 11 rfl rfl (by decide))).old ((hS.isl 12 rfl)).old ((hS.isl 13 rfl)).old hr593) rfl ?_
          rintro _ w592 ⟨R592, rfl, hC592⟩
          have hB592 : Below (World.heap wm584).size wm584 w592 := hC592.stepBF
          refine ⟨fun _ => .of_below hB592, ?_⟩
          replace f6 := f6.ext hB592
          replace hT590 := hT590.trans (Below.mono hB592 hT590.size)
          replace hS := hS.below hB592
          cases hx590
          exact eseq_nil ⟨hT590, Sub.set rfl (Sub.set rfl (Sub.set rfl (Sub.set rfl (Sub.bool true rfl hg590)))), rfl⟩
        · intro hg590
          refine g_skip rfl rfl rfl ?_
          refine g_skip rfl rfl rfl ?_
          refine g_skip rfl rfl rfl ?_
          refine g_skip rfl rfl rfl ?_
          exact eseq_nil ⟨rfl, Sub.set rfl (Sub.set rfl (Sub.set rfl (Sub.set rfl (Sub.bool false rfl hg590))))⟩
        intro wm590 hBm590; clear hx590
        replace hS := hS.below hBm590
        replace f6 := f6.ext hBm590
        refine eseq_nil ?_
        refine hK581 _ _ ?_
        refine e_cond rfl (fun hc594 => ?_) (fun hc594 => ?_)
        · replace h := (if_pos hc594).symm.trans h
          refine e_region_text rfl ?_
          refine q_move rfl rfl ?_
          refine q_field rfl rfl ?_
          refine q_load rfl (Blk.cell (hS.blk 0 rfl) rfl) rfl ?_
          obtain ⟨r596, hr596, h⟩ := Option.of_bind h
          replace hS := hS.pickB [1, 2, 3, 4, 5, 6, 7, 8, 9, 10, 11, 12, 13, 0] 14 rfl rfl; simp only [List.map_cons, List.map_nil, List.getD_cons_zero, List.getD_cons_succ] at hS
          refine q_call rfl (ref26_run_take_w (Sep.enter (As := [_, _, _, _, _, _, _, _, _, _, _, _, _]) hS) f6 hr596) rfl ?_
          rintro _ w595 ⟨v597, v598, v599, v600, v601, v602, v603, v604, v605, R595, rfl, hC595⟩
          refine ⟨(fun h => by cases h), ?_⟩
          have hk595 := hC595.keptR (Sep.offFeet (As := [_, _, _, _, _, _, _, _, _, _, _, _, _]) hS)
          replace f6 := (f6.kept hk595).mono fun k hk _ => hC595.ro0 k hk
          replace hS := Sep.leave (As := [_, _, _, _, _, _, _, _, _, _, _, _, _]) hS hC595; simp only [List.cons_append, List.nil_append] at hS
          refine eseq_nil ?_
          obtain rfl := Option.some.inj h
          replace hS := hS.ownMono 12 rfl; simp only [List.set] at hS
          exact ⟨_, res0 rfl, v2, v597, v598, v5, v599, v600, v601, v602, v603, v604, v605, v14, _, rfl, (hS.pickB [0, 1, 2, 3, 4, 5, 6, 7, 8, 9, 10, 11, 12] 14 rfl rfl)⟩
        · replace h := (if_neg (not_true hc594)).symm.trans h
          refine e_skip ?_
          obtain rfl := Option.some.inj h
          exact ⟨_, res0 rfl, v2, v3, v4, v5, v7, v8, v9, v10, v11, v12, v13, v14, _, rfl, (hS.pickB [1, 2, 3, 4, 5, 6, 7, 8, 9, 10, 11, 12, 13] 14 rfl rfl)⟩
      · replace h := (if_neg (not_true hc580)).symm.trans h
        refine e_skip ?_
        obtain rfl := Option.some.inj h
        exact ⟨_, res0 rfl, v2, v3, v4, v5, v7, v8, v9, v10, v11, v12, v13, v14, _, rfl, (hS.pickB [1, 2, 3, 4, 5, 6, 7, 8, 9, 10, 11, 12, 13] 14 rfl rfl)⟩
theorem ref26_Play_w {F R : Nat → Prop} {w : World} {fuel : Nat} {a0 : Int} {a1 : Int} {a2 : (List Deed)} {v1 : Value} {r : (Hist × Int)} (hS : Sep F R R w w []) (f1 : IsSlice deedTy w R v1 a2) (h : ref26_Play fuel a0 a1 a2 = some r) :
    Gives Try.prog 15 [.int .i64 a0, .int .i64 a1, v1] w fun u w1 => ∃ (v587 : Value), ∃ (v588 : Value), ∃ (v589 : List Value), ∃ (v590 : Value), ∃ (v592 : Value), ∃ (v593 : List Value), ∃ (v594 : Value), ∃ (v595 : List Value), ∃ (R1 : Nat → Prop), u = .tuple #[.agg #[v587, v588, v590, .slice none 0 0, v592, v594], .int .i64 r.2] ∧ Sep F R R1 w w1 [HP.own Ty.int (fun _ => False) 3 v587 r.1.pat.lens, HP.own Ty.raw (fun _ => False) 27 v588 v589, HP.famS Ty.int (fun _ => False) 3 v589 r.1.pat.ckpts, HP.own arcTy (fun _ => False) 107 v590 r.1.pat.arcs, HP.own Ty.raw (fun _ => False) 28 v592 v593, HP.famS (Ty.slice Ty.int) R1 27 v593 r.1.vecs, HP.own Ty.raw (fun _ => False) 99 v594 v595, HP.famS Ty.bool (fun _ => False) 4 v595 r.1.forced] := by
  refine fn_of Try.func15 rfl Try.ntmps15 (Nat.le_of_ble_eq_true rfl) ?_
  unfold ref26_Play at h
  refine e_seq fun K596 hK596 => ?_
  refine e_region_text rfl ?_
  refine q_allocB rfl fun w597 bl597 hg597 hb597 hB597 => ?_
  replace f1 := f1.ext hB597
  replace hS := hS.newBlk hB597 hg597 hb597
  refine q_assign rfl rfl ?_
  refine eseq_nil ?_
  refine hK596 _ _ ?_
  refine e_seq fun K599 hK599 => ?_
  refine e_seq fun K600 hK600 => ?_
  refine e_region_text rfl ?_
  refine q_move rfl rfl ?_
  refine q_lss rfl rfl rfl ?_
  refine q_move rfl rfl ?_
  obtain ⟨x604, hx603, h⟩ := Option.of_bind h
  refine g_orM 2 hx603 rfl trivial rfl rfl ?_ ?_ ?_
  · intro hg603
    refine g_skip rfl rfl rfl ?_
    refine g_skip rfl rfl rfl ?_
    exact eseq_nil ⟨rfl, Sub.set rfl (Sub.set rfl (Sub.bool true rfl hg603))⟩
  · intro hg603 hx603
    clear h
    have hT603 := Below.refl (World.heap w597).size w597
    refine g_run rfl ?_; refine q_move rfl rfl ?_
    refine g_run rfl ?_; refine q_gtr rfl rfl rfl ?_
    cases hx603
    exact eseq_nil ⟨hT603, Sub.set rfl (Sub.set rfl (Sub.bool false rfl hg603)), rfl⟩
  intro wm603 hBm603; clear hx603
  replace hS := hS.below hBm603
  replace f1 := f1.ext hBm603
  refine q_move rfl rfl ?_
  obtain ⟨x608, hx607, h⟩ := Option.of_bind h
  refine g_orM 2 hx607 rfl trivial rfl rfl ?_ ?_ ?_
  · intro hg607
    refine g_skip rfl rfl rfl ?_
    refine g_skip rfl rfl rfl ?_
    exact eseq_nil ⟨rfl, Sub.set rfl (Sub.set rfl (Sub.bool true rfl hg607))⟩
  · intro hg607 hx607
    clear h
    have hT607 := Below.refl (World.heap wm603).size wm603
    refine g_run rfl ?_; refine q_move rfl rfl ?_
    refine g_run rfl ?_; refine q_lss rfl rfl rfl ?_
    cases hx607
    exact eseq_nil ⟨hT607, Sub.set rfl (Sub.set rfl (Sub.bool false rfl hg607)), rfl⟩
  intro wm607 hBm607; clear hx607
  replace hS := hS.below hBm607
  replace f1 := f1.ext hBm607
  refine q_move rfl rfl ?_
  obtain ⟨x612, hx611, h⟩ := Option.of_bind h
  refine g_orM 2 hx611 rfl trivial rfl rfl ?_ ?_ ?_
  · intro hg611
    refine g_skip rfl rfl rfl ?_
    refine g_skip rfl rfl rfl ?_
    exact eseq_nil ⟨rfl, Sub.set rfl (Sub.set rfl (Sub.bool true rfl hg611))⟩
  · intro hg611 hx611
    clear h
    have hT611 := Below.refl (World.heap wm607).size wm607
    refine g_run rfl ?_; refine q_move rfl rfl ?_
    refine g_run rfl ?_; refine q_gtr rfl rfl rfl ?_
    cases hx611
    exact eseq_nil ⟨hT611, Sub.set rfl (Sub.set rfl (Sub.bool false rfl hg611)), rfl⟩
  intro wm611 hBm611; clear hx611
  replace hS := hS.below hBm611
  replace f1 := f1.ext hBm611
  refine eseq_nil ?_
  refine hK600 _ _ ?_
  refine e_cond rfl (fun hc613 => ?_) (fun hc613 => ?_)
  · replace h := (if_pos hc613).symm.trans h
    refine e_seq fun K614 hK614 => ?_
    refine e_region_text rfl ?_
    refine q_build Parts.nil rfl rfl ?_
    refine q_storeAgg rfl rfl (hS.blk 0 rfl) rfl (Nat.le_of_ble_eq_true rfl) (all_cons rfl (all_cons rfl (all_cons rfl (all_cons rfl (all_cons rfl (all_cons rfl (all_nil))))))) rfl rfl fun w615 hb615 hO615 => ?_
    simp only [setN, List.set, List.take, List.drop] at hb615
    have hk615 := hS.keptBlk 0 rfl hO615
    replace hS := hS.setBlk 0 rfl hb615 hO615; simp only [List.set] at hS
    refine q_assign rfl rfl ?_
    refine eseq_nil ?_
    refine hK614 _ _ ?_
    refine e_ret ?_
    replace hS := hS.nilOwn0 Ty.int 3
    replace hS := hS.nilRows0 Ty.int 3 27
    replace hS := hS.nilOwn0 arcTy 107
    replace hS := hS.nilRows (Ty.slice Ty.int) 27 28
    replace hS := hS.nilRows0 Ty.bool 4 99
    obtain rfl := Option.some.inj h
    exact ⟨_, resCT rfl rfl ((hS.blk 8 rfl).cellsAt 0 6 rfl) rfl rfl, (.slice none 0 0), (.slice none 0 0), ([] : List Value), (.slice none 0 0), (.slice none 0 0), ([] : List Value), (.slice none 0 0), ([] : List Value), _, rfl, (hS.pickB [7, 5, 6, 4, 2, 3, 0, 1] 9 rfl rfl)⟩
  · replace h := (if_neg (not_true hc613)).symm.trans h
    refine e_skip ?_
    refine hK599 _ _ ?_
    refine e_seq fun K624 hK624 => ?_
    refine e_seq fun K625 hK625 => ?_
    refine e_region_text rfl ?_
    refine q_move rfl rfl ?_
    refine q_lenS rfl f1 rfl ?_
    refine q_gtr rfl rfl rfl ?_
    refine eseq_nil ?_
    refine hK625 _ _ ?_
    refine e_cond rfl (fun hc626 => ?_) (fun hc626 => ?_)
    · replace h := (if_pos hc626).symm.trans h
      refine e_seq fun K627 hK627 => ?_
      refine e_region_text rfl ?_
      refine q_build Parts.nil rfl rfl ?_
      refine q_storeAgg rfl rfl (hS.blk 0 rfl) rfl (Nat.le_of_ble_eq_true rfl) (all_cons rfl (all_cons rfl (all_cons rfl (all_cons rfl (all_cons rfl (all_cons rfl (all_nil))))))) rfl rfl fun w628 hb628 hO628 => ?_
      simp only [setN, List.set, List.take, List.drop] at hb628
      have hk628 := hS.keptBlk 0 rfl hO628
      replace hS := hS.setBlk 0 rfl hb628 hO628; simp only [List.set] at hS
      refine q_assign rfl rfl ?_
      refine eseq_nil ?_
      refine hK627 _ _ ?_
      refine e_ret ?_
      replace hS := hS.nilOwn0 Ty.int 3
      replace hS := hS.nilRows0 Ty.int 3 27
      replace hS := hS.nilOwn0 arcTy 107
      replace hS := hS.nilRows (Ty.slice Ty.int) 27 28
      replace hS := hS.nilRows0 Ty.bool 4 99
      obtain rfl := Option.some.inj h
      exact ⟨_, resCT rfl rfl ((hS.blk 8 rfl).cellsAt 0 6 rfl) rfl rfl, (.slice none 0 0), (.slice none 0 0), ([] : List Value), (.slice none 0 0), (.slice none 0 0), ([] : List Value), (.slice none 0 0), ([] : List Value), _, rfl, (hS.pickB [7, 5, 6, 4, 2, 3, 0, 1] 9 rfl rfl)⟩
    · replace h := (if_neg (not_true hc626)).symm.trans h
      refine e_skip ?_
      refine hK624 _ _ ?_
      refine e_seq fun K637 hK637 => ?_
      have hJt700 : ∀ (x686 : (List Int)) (x689 : (List (List Int))) (x694 : (List (List Bool))) (x699 : (List Bool)) (B683 : Nat) (v685 : Value) (v687 : Value) (v688 : List Value) (v692 : Value) (v693 : List Value) (v698 : Value) (R679 : Nat → Prop) (w680 : World) (E_ : Env), ref26_Play_J1 fuel a0 a2 a1 x686 x689 x694 x699 = some r → Sep F R R679 w w680 [HP.blk bl597 [.slice none 0 0, .slice none 0 0, .slice none 0 0, .slice none 0 0, .slice none 0 0, .slice none 0 0] 35, HP.blk B683 [v685, v687, .slice none 0 0, .slice none 0 0, .slice none 0 0, v692, .int .i64 a1, .slice none 0 0, v698, .slice none 0 0] 102, HP.own Ty.int (fun _ => False) 3 v685 x686, HP.own Ty.raw (fun _ => False) 27 v687 v688, HP.famS Ty.int (fun _ => False) 3 v688 x689, HP.own Ty.raw (fun _ => False) 99 v692 v693, HP.famS Ty.bool (fun _ => False) 4 v693 x694, HP.own Ty.bool (fun _ => False) 4 v698 x699] → IsSlice deedTy w680 R679 v1 a2 → Sub [(0, .int .i64 a0), (2, v1), (6, .pointer (some ⟨bl597, 0, none⟩)), (8, .pointer (some ⟨B683, 0, none⟩))] E_ → K637 E_ w680 := by
        intro x686 x689 x694 x699 B683 v685 v687 v688 v692 v693 v698 R679 w680 E_ h hS f681 hsub
        refine hK637 _ _ (e_sub hsub ?_); clear hsub
        unfold ref26_Play_J1 at h
        refine e_seq fun K701 hK701 => ?_
        refine e_seq fun K702 hK702 => ?_
        refine e_region_text rfl ?_
        refine q_assign rfl rfl ?_
        refine eseq_nil ?_
        refine hK702 _ _ ?_
        refine e_block ?_
        obtain ⟨tl703, ht703, h⟩ := Option.of_bind h
        have hX703_0 : ∀ (x881 : (List (List (List Int)))) (x888 : (List (List Int))) (v879 : Value) (v880 : List Value) (v886 : Value) (v887 : List Value) (R873 : Nat → Prop) (w874 : World) (E_ : Env), ref26_Play_K1 fuel a2 a1 x686 x689 x694 x699 x881 x888 = some r → Sep F R R873 w w874 [HP.blk bl597 [.slice none 0 0, .slice none 0 0, .slice none 0 0, .slice none 0 0, .slice none 0 0, .slice none 0 0] 35, HP.blk B683 [v685, v687, .slice none 0 0, .slice none 0 0, v879, v692, .int .i64 a1, v886, v698, .slice none 0 0] 102, HP.own Ty.int (fun _ => False) 3 v685 x686, HP.own Ty.raw (fun _ => False) 27 v687 v688, HP.famS Ty.int (fun _ => False) 3 v688 x689, HP.own Ty.raw (fun _ => False) 28 v879 v880, HP.famS (Ty.slice Ty.int) R873 27 v880 x881, HP.own Ty.raw (fun _ => False) 99 v692 v693, HP.famS Ty.bool (fun _ => False) 4 v693 x694, HP.own Ty.raw (fun _ => False) 27 v886 v887, HP.famS Ty.int (fun _ => False) 3 v887 x888, HP.own Ty.bool (fun _ => False) 4 v698 x699] → IsSlice deedTy w874 R873 v1 a2 → Sub [(2, v1), (6, .pointer (some ⟨bl597, 0, none⟩)), (8, .pointer (some ⟨B683, 0, none⟩))] E_ → K701 E_ w874 := by
          intro x881 x888 v879 v880 v886 v887 R873 w874 E_ h hS f875 hsub
          refine hK701 _ _ (e_sub hsub ?_); clear hsub
          unfold ref26_Play_K1 at h
          refine e_seq fun K892 hK892 => ?_
          refine e_seq fun K893 hK893 => ?_
          refine e_region_text rfl ?_
          refine q_assign rfl rfl ?_
          refine eseq_nil ?_
          refine hK893 _ _ ?_
          refine e_block ?_
          obtain ⟨tl894, ht894, h⟩ := Option.of_bind h
          have hX894_2 : ∀ (x1064 : (List Int)) (x1067 : (List (List Int))) (x1072 : (List Arc)) (x1075 : (List (List (List Int)))) (x1080 : (List (List Bool))) (x1085 : (List (List Int))) (x1090 : (List Bool)) (x1093 : (List Ref26Flying)) (v1063 : Value) (v1065 : Value) (v1066 : List Value) (v1071 : Value) (v1073 : Value) (v1074 : List Value) (v1078 : Value) (v1079 : List Value) (v1083 : Value) (v1084 : List Value) (v1089 : Value) (v1092 : Value) (R1060 : Nat → Prop) (w1061 : World) (E_ : Env), ref26_Play_K2 fuel x1064 x1067 x1072 x1075 x1080 x1085 x1090 x1093 = some r → Sep F R R1060 w w1061 [HP.blk bl597 [.slice none 0 0, .slice none 0 0, .slice none 0 0, .slice none 0 0, .slice none 0 0, .slice none 0 0] 35, HP.blk B683 [v1063, v1065, v1071, .slice none 0 0, v1073, v1078, .int .i64 a1, v1083, v1089, v1092] 102, HP.own Ty.int (fun _ => False) 3 v1063 x1064, HP.own Ty.raw (fun _ => False) 27 v1065 v1066, HP.famS Ty.int (fun _ => False) 3 v1066 x1067, HP.own arcTy (fun _ => False) 107 v1071 x1072, HP.own Ty.raw (fun _ => False) 28 v1073 v1074, HP.famS (Ty.slice Ty.int) R1060 27 v1074 x1075, HP.own Ty.raw (fun _ => False) 99 v1078 v1079, HP.famS Ty.bool (fun _ => False) 4 v1079 x1080, HP.own Ty.raw (fun _ => False) 27 v1083 v1084, HP.famS Ty.int (fun _ => False) 3 v1084 x1085, HP.own Ty.bool (fun _ => False) 4 v1089 x1090, HP.own ref26FlyingTy R1060 155 v1092 x1093] → Sub [(6, .pointer (some ⟨bl597, 0, none⟩)), (8, .pointer (some ⟨B683, 0, none⟩))] E_ → K892 E_ w1061 := by
            intro x1064 x1067 x1072 x1075 x1080 x1085 x1090 x1093 v1063 v1065 v1066 v1071 v1073 v1074 v1078 v1079 v1083 v1084 v1089 v1092 R1060 w1061 E_ h hS  hsub
            refine hK892 _ _ (e_sub hsub ?_); clear hsub
            unfold ref26_Play_K2 at h
            refine e_seq fun K1094 hK1094 => ?_
            refine e_region_text rfl ?_
            refine q_move rfl rfl ?_
            refine q_nilCheck rfl rfl ?_
            refine q_field rfl rfl ?_
            refine q_loadAgg rfl (Blk.cellsAt (hS.blk 1 rfl) 0 6 rfl) rfl rfl ?_
            refine q_storeAgg rfl rfl (hS.blk 0 rfl) rfl (Nat.le_of_ble_eq_true rfl) (all_cons (hS.own 2 rfl).one (all_cons (hS.own 3 rfl).one (all_cons (hS.own 5 rfl).one (all_cons rfl (all_cons (hS.own 6 rfl).one (all_cons (hS.own 8 rfl).one (all_nil))))))) rfl rfl fun w1095 hb1095 hO1095 => ?_
            simp only [setN, List.set, List.take, List.drop] at hb1095
            have hk1095 := hS.keptBlk 0 rfl hO1095
            replace hS := hS.setBlk 0 rfl hb1095 hO1095; simp only [List.set] at hS
            refine q_assign rfl rfl ?_
            refine eseq_nil ?_
            refine hK1094 _ _ ?_
            refine e_ret ?_
            obtain rfl := Option.some.inj h
            exact ⟨_, resCT rfl rfl ((hS.blk 0 rfl).cellsAt 0 6 rfl) rfl rfl, v1063, v1065, v1066, v1071, v1073, v1074, v1078, v1079, _, rfl, (hS.pickB [2, 3, 4, 5, 6, 7, 8, 9] 14 rfl rfl)⟩
          replace hS := hS.nilOwn0 arcTy 107
          replace hS := hS.nilOwn ref26FlyingTy 155
          refine e_loop (fun m_ E_ w968 => ∃ (x972 : (List Int)), ∃ (x975 : (List (List Int))), ∃ (x980 : (List Arc)), ∃ (x983 : (List (List (List Int)))), ∃ (x988 : (List (List Bool))), ∃ (x993 : (List (List Int))), ∃ (x998 : (List Bool)), ∃ (x1001 : (List Ref26Flying)), ∃ (x1002 : Int), ∃ (v971 : Value), ∃ (v973 : Value), ∃ (v974 : List Value), ∃ (v979 : Value), ∃ (v981 : Value), ∃ (v982 : List Value), ∃ (v986 : Value), ∃ (v987 : List Value), ∃ (v991 : Value), ∃ (v992 : List Value), ∃ (v997 : Value), ∃ (v1000 : Value), ∃ (R967 : Nat → Prop), iter (fun s => ref26_Play_B1 fuel a2 a1 s.1 s.2.1 s.2.2.1 s.2.2.2.1 s.2.2.2.2.1 s.2.2.2.2.2.1 s.2.2.2.2.2.2.1 s.2.2.2.2.2.2.2.1 s.2.2.2.2.2.2.2.2) m_ (x972, x975, x980, x983, x988, x993, x998, x1001, x1002) = some tl894 ∧ Sep F R R967 w w968 [HP.blk bl597 [.slice none 0 0, .slice none 0 0, .slice none 0 0, .slice none 0 0, .slice none 0 0, .slice none 0 0] 35, HP.blk B683 [v971, v973, v979, .slice none 0 0, v981, v986, .int .i64 a1, v991, v997, v1000] 102, HP.own Ty.int (fun _ => False) 3 v971 x972, HP.own Ty.raw (fun _ => False) 27 v973 v974, HP.famS Ty.int (fun _ => False) 3 v974 x975, HP.own arcTy (fun _ => False) 107 v979 x980, HP.own Ty.raw (fun _ => False) 28 v981 v982, HP.famS (Ty.slice Ty.int) R967 27 v982 x983, HP.own Ty.raw (fun _ => False) 99 v986 v987, HP.famS Ty.bool (fun _ => False) 4 v987 x988, HP.own Ty.raw (fun _ => False) 27 v991 v992, HP.famS Ty.int (fun _ => False) 3 v992 x993, HP.own Ty.bool (fun _ => False) 4 v997 x998, HP.own ref26FlyingTy R967 155 v1000 x1001] ∧ IsSlice deedTy w968 R967 v1 a2 ∧ E_ = [(2, v1), (6, .pointer (some ⟨bl597, 0, none⟩)), (8, .pointer (some ⟨B683, 0, none⟩)), (11, .int .i64 x1002)]) _ ⟨_, ⟨x686, x689, ([] : List Arc), x881, x694, x888, x699, ([] : List Ref26Flying), 0, v685, v687, v688, (.slice none 0 0), v879, v880, v692, v693, v886, v887, v698, (.slice none 0 0), _, ht894, (hS.pickB [2, 3, 4, 5, 6, 1, 7, 8, 9, 10, 11, 12, 13, 0] 14 rfl rfl), f875, rfl⟩, Sub.cons rfl (Sub.cons rfl (Sub.cons rfl (Sub.cons rfl (Sub.nil _))))⟩ ?_
          clear ht894 hS
          rintro m894 _ w968 ⟨x972, x975, x980, x983, x988, x993, x998, x1001, x1002, v971, v973, v974, v979, v981, v982, v986, v987, v991, v992, v997, v1000, R967, ht894, hS, f969, rfl⟩
          obtain ⟨m894, rfl, o894, ho894, ht894⟩ := iter_some ht894
          replace ho894 : ref26_Play_B1 fuel a2 a1 x972 x975 x980 x983 x988 x993 x998 x1001 x1002 = some o894 := ho894
          unfold ref26_Play_B1 at ho894
          refine e_seq fun K1098 hK1098 => ?_
          refine e_seq fun K1099 hK1099 => ?_
          refine e_region_text rfl ?_
          refine q_move rfl rfl ?_
          refine q_move rfl rfl ?_
          refine q_lenS rfl f969 rfl ?_
          refine q_lss rfl rfl rfl ?_
          refine eseq_nil ?_
          refine hK1099 _ _ ?_
          refine e_cond rfl (fun hc1100 => ?_) (fun hc1100 => ?_)
          · replace ho894 := (if_pos hc1100).symm.trans ho894
            refine e_skip ?_
            refine hK1098 _ _ ?_
            refine e_seq fun K1101 hK1101 => ?_
            refine e_block ?_
            refine e_region_text rfl ?_
            refine q_move rfl rfl ?_
            refine q_move rfl rfl ?_
            refine q_move rfl rfl ?_
            obtain ⟨x1102, hx1102, ho894⟩ := Option.of_bind ho894
            refine q_atS (by infer_instance) rfl f969 rfl hx1102 rfl fun b1103 o1103 hm1103 f1103 => ?_
            have hc1104 := Deed_open f1103
            refine q_loadAgg rfl hc1104 rfl rfl ?_
            obtain ⟨r1106, hr1106, ho894⟩ := Option.of_bind ho894
            replace hS := hS.pickB [1, 2, 3, 4, 5, 6, 7, 8, 9, 10, 11, 12, 13, 0] 14 rfl rfl; simp only [List.map_cons, List.map_nil, List.getD_cons_zero, List.getD_cons_succ] at hS
            refine q_call rfl (ref26_run_act_w (a1 := x1102) (Sep.enter (As := [_, _, _, _, _, _, _, _, _, _, _, _, _]) hS) (IsSlice.nil _ _ _) hr1106) rfl ?_
            rintro _ w1105 ⟨v1107, v1108, v1109, v1110, v1111, v1112, v1113, v1114, v1115, v1116, v1117, v1118, R1105, rfl, hC1105⟩
            refine ⟨(fun h => by cases h), ?_⟩
            have hk1105 := hC1105.keptR (Sep.offFeet (As := [_, _, _, _, _, _, _, _, _, _, _, _, _]) hS)
            replace f969 := (f969.kept hk1105).mono fun k hk _ => hC1105.ro0 k hk
            replace hS := Sep.leave (As := [_, _, _, _, _, _, _, _, _, _, _, _, _]) hS hC1105; simp only [List.cons_append, List.nil_append] at hS
            refine eseq_nil ?_
            refine hK1101 _ _ ?_
            refine e_region_text rfl ?_
            refine q_move rfl rfl ?_
            refine q_addW rfl rfl rfl ?_
            refine q_assign rfl rfl ?_
            refine eseq_nil ?_
            obtain rfl := Option.some.inj ho894
            exact ⟨m894, _, Nat.lt_succ_self _, ⟨r1106.1, r1106.2.1, r1106.2.2.1, r1106.2.2.2.1, r1106.2.2.2.2.1, r1106.2.2.2.2.2.1, r1106.2.2.2.2.2.2.1, r1106.2.2.2.2.2.2.2, (w64 (x1002 + 1)), v1107, v1108, v1109, v1110, v1111, v1112, v1113, v1114, v1115, v1116, v1117, v1118, _, ht894, (hS.pickB [13, 0, 1, 2, 3, 4, 5, 6, 7, 8, 9, 10, 11, 12] 14 rfl rfl), f969, rfl⟩, Sub.cons rfl (Sub.cons rfl (Sub.cons rfl (Sub.cons rfl (Sub.nil _))))⟩
          · replace ho894 := (if_neg (not_true hc1100)).symm.trans ho894
            refine e_exit ?_
            obtain rfl := Option.some.inj ho894
            obtain rfl := Option.some.inj ht894
            exact hX894_2 x972 x975 x980 x983 x988 x993 x998 x1001 v971 v973 v974 v979 v981 v982 v986 v987 v991 v992 v997 v1000 _ _ _ h hS  (Sub.cons rfl (Sub.cons rfl (Sub.nil _)))
        replace hS := hS.nilRows (Ty.slice Ty.int) 27 28
        replace hS := hS.nilRows0 Ty.int 3 27
        refine e_loop (fun m_ E_ w787 => ∃ (x794 : (List (List (List Int)))), ∃ (x801 : (List (List Int))), ∃ (x805 : Int), ∃ (v792 : Value), ∃ (v793 : List Value), ∃ (v799 : Value), ∃ (v800 : List Value), ∃ (R786 : Nat → Prop), iter (fun s => ref26_Play_B2 fuel a0 s.1 s.2.1 s.2.2) m_ (x794, x801, x805) = some tl703 ∧ Sep F R R786 w w787 [HP.blk bl597 [.slice none 0 0, .slice none 0 0, .slice none 0 0, .slice none 0 0, .slice none 0 0, .slice none 0 0] 35, HP.blk B683 [v685, v687, .slice none 0 0, .slice none 0 0, v792, v692, .int .i64 a1, v799, v698, .slice none 0 0] 102, HP.own Ty.int (fun _ => False) 3 v685 x686, HP.own Ty.raw (fun _ => False) 27 v687 v688, HP.famS Ty.int (fun _ => False) 3 v688 x689, HP.own Ty.raw (fun _ => False) 28 v792 v793, HP.famS (Ty.slice Ty.int) R786 27 v793 x794, HP.own Ty.raw (fun _ => False) 99 v692 v693, HP.famS Ty.bool (fun _ => False) 4 v693 x694, HP.own Ty.raw (fun _ => False) 27 v799 v800, HP.famS Ty.int (fun _ => False) 3 v800 x801, HP.own Ty.bool (fun _ => False) 4 v698 x699] ∧ IsSlice deedTy w787 R786 v1 a2 ∧ E_ = [(0, .int .i64 a0), (2, v1), (6, .pointer (some ⟨bl597, 0, none⟩)), (8, .pointer (some ⟨B683, 0, none⟩)), (9, .int .i64 x805)]) _ ⟨_, ⟨([] : List (List (List Int))), ([] : List (List Int)), 0, (.slice none 0 0), ([] : List Value), (.slice none 0 0), ([] : List Value), _, ht703, (hS.pickB [4, 5, 6, 7, 8, 2, 3, 9, 10, 0, 1, 11] 12 rfl rfl), f681, rfl⟩, Sub.cons rfl (Sub.cons rfl (Sub.cons rfl (Sub.cons rfl (Sub.cons rfl (Sub.nil _)))))⟩ ?_
        clear ht703 hS
        rintro m703 _ w787 ⟨x794, x801, x805, v792, v793, v799, v800, R786, ht703, hS, f788, rfl⟩
        obtain ⟨m703, rfl, o703, ho703, ht703⟩ := iter_some ht703
        replace ho703 : ref26_Play_B2 fuel a0 x794 x801 x805 = some o703 := ho703
        unfold ref26_Play_B2 at ho703
        refine e_seq fun K1123 hK1123 => ?_
        refine e_seq fun K1124 hK1124 => ?_
        refine e_region_text rfl ?_
        refine q_move rfl rfl ?_
        refine q_move rfl rfl ?_
        refine q_lss rfl rfl rfl ?_
        refine eseq_nil ?_
        refine hK1124 _ _ ?_
        refine e_cond rfl (fun hc1125 => ?_) (fun hc1125 => ?_)
        · replace ho703 := (if_pos hc1125).symm.trans ho703
          refine e_skip ?_
          refine hK1123 _ _ ?_
          refine e_seq fun K1126 hK1126 => ?_
          refine e_block ?_
          refine e_seq fun K1127 hK1127 => ?_
          refine e_region_text rfl ?_
          refine q_move rfl rfl ?_
          obtain ⟨x1128, hx1128, ho703⟩ := Option.of_bind ho703
          refine q_makeO (T := Ty.int) (S := (fun _ => False)) rfl rfl rfl hx1128 (fun _ h => h.elim) rfl fun w1129 v1129 ho1129 hv1129 hB1129 => ?_
          replace f788 := f788.ext hB1129
          replace hS := hS.newOwnS hB1129 ho1129 hv1129 (fun _ h => h.elim)
          refine q_assign rfl rfl ?_
          refine eseq_nil ?_
          refine hK1127 _ _ ?_
          refine e_seq fun K1131 hK1131 => ?_
          refine e_region_text rfl ?_
          refine q_move rfl rfl ?_
          refine q_move rfl rfl ?_
          obtain ⟨x1132, hx1132, ho703⟩ := Option.of_bind ho703
          refine q_indexO (by infer_instance) rfl (hS.own 0 rfl) rfl hx1132 rfl ?_
          obtain ⟨x1134, hx1134, ho703⟩ := Option.of_bind ho703
          refine q_storeO (T := Ty.int) (j := 0) rfl rfl (hS.own 0 rfl) hx1132 hx1134 rfl rfl rfl (Enc.setL rfl) fun w1133 ho1133 hO1133 => ?_
          have hk1133 := hS.keptO 0 rfl hx1132 hO1133
          replace f788 := f788.kept hk1133
          replace hS := hS.putO 0 rfl hx1132 ho1133 hO1133; simp only [List.set] at hS
          refine eseq_nil ?_
          refine hK1131 _ _ ?_
          refine e_seq fun K1135 hK1135 => ?_
          refine e_region_text rfl ?_
          refine q_move rfl rfl ?_
          refine q_move rfl rfl ?_
          refine q_nilCheck rfl rfl ?_
          refine q_field rfl rfl ?_
          refine q_load rfl (Blk.cell (hS.blk 2 rfl) rfl) rfl ?_
          refine q_move rfl rfl ?_
          refine q_litO (T := Ty.raw) (S := (fun _ => False)) (cells := [[v1129]]) (ys := [v1129]) ((Parts.cons rfl (cells_one (hS.own 0 rfl).one) Parts.nil)) rfl rfl rfl rfl rfl rfl rfl (fun w1 hB => ⟨⟨rfl, (hS.own 0 rfl).one⟩, trivial⟩) (fun _ h => h.elim) rfl fun w1136 v1136 ho1136 hv1136 hB1136 => ?_
          replace f788 := f788.ext hB1136
          replace hS := hS.newOwnS hB1136 ho1136 hv1136 (fun _ h => h.elim)
          replace hS := hS.pickB [1, 0, 2, 3, 4, 5, 6, 7, 8, 9, 10, 11, 12, 13] 14 rfl rfl; simp only [List.map_cons, List.map_nil, List.getD_cons_zero, List.getD_cons_succ] at hS
          replace hS := hS.famOne
          obtain ⟨x1140, hx1140, ho703⟩ := Option.of_bind ho703
          obtain ⟨hcr1139, hce1139⟩ := catL_raw (hS.famLen 12 rfl) (hS.famLen 0 rfl) (snoc_cat hx1140)
          refine q_catOwn (T := Ty.raw) rfl rfl rfl rfl (hS.own 11 rfl) rfl (hS.own 1 rfl) (fun _ h _ => h.elim) hcr1139 (Nat.zero_le _) rfl (fun h => by cases h) fun v1139 w1139 hw1139 hgr1139 hnw1139 => ?_
          have hk1139 := hS.keptOwn 11 rfl hgr1139
          replace f788 := f788.kept hk1139
          replace hS := hS.setOwn 11 rfl hw1139 hgr1139 hnw1139; simp only [List.set] at hS
          replace hS := hS.pickB [12, 0, 1, 2, 3, 4, 5, 6, 7, 8, 9, 10, 11, 13] 14 rfl rfl; simp only [List.map_cons, List.map_nil, List.getD_cons_zero, List.getD_cons_succ] at hS
          replace hS := hS.famCat; rw [hce1139] at hS
          refine q_nilCheck rfl rfl ?_
          refine q_field rfl rfl ?_
          refine q_store rfl rfl (hS.blk 3 rfl) (Nat.le_of_ble_eq_true rfl) (hS.own 11 rfl).one rfl rfl fun w1141 hb1141 hO1141 => ?_
          have hk1141 := hS.keptBlk 3 rfl hO1141
          replace f788 := f788.kept hk1141
          replace hS := hS.setBlk 3 rfl hb1141 hO1141; simp only [List.set] at hS
          refine eseq_nil ?_
          refine hK1135 _ _ ?_
          refine e_region_draw mixed (fun _ => False) [0, 0, 2, 6, 14, 30, 0, 64, 192, 448, 1022, 2047, 4095, 8191, 16383] [7, 8, 9] [0, 1, 2, 3, 4, 5, 6, 7, 8, 9, 10, 11, 12, 13, 14] (by kernel_rfl) ?_
          refine q_move rfl rfl ?_
          refine q_move rfl rfl ?_
          refine q_nilCheck rfl rfl ?_
          refine q_field rfl rfl ?_
          refine q_field rfl rfl ?_
          refine q_load rfl (Blk.cell (hS.blk 3 rfl) rfl) rfl ?_
          refine q_move rfl rfl ?_
          obtain ⟨x1156, hx1156, ho703⟩ := Option.of_bind ho703
          refine q_makeO (T := Ty.int) (S := (fun _ => False)) rfl rfl rfl hx1156 (fun _ h => h.elim) rfl fun w1157 v1157 ho1157 hv1157 hB1157 => ?_
          replace f788 := f788.ext hB1157
          replace hS := hS.newOwnS hB1157 ho1157 hv1157 (fun _ h => h.elim)
          refine q_litO (T := Ty.raw) (S := (fun _ => False)) (cells := [[v1157]]) (ys := [v1157]) ((Parts.cons rfl (cells_one (hS.own 0 rfl).one) Parts.nil)) rfl rfl rfl rfl rfl rfl rfl (fun w1 hB => ⟨⟨rfl, (hS.own 0 rfl).one⟩, trivial⟩) (fun _ h => h.elim) rfl fun w1159 v1159 ho1159 hv1159 hB1159 => ?_
          replace f788 := f788.ext hB1159
          replace hS := hS.newOwnS hB1159 ho1159 hv1159 (fun _ h => h.elim)
          replace hS := hS.pickB [1, 0, 2, 3, 4, 5, 6, 7, 8, 9, 10, 11, 12, 13, 14] 15 rfl rfl; simp only [List.map_cons, List.map_nil, List.getD_cons_zero, List.getD_cons_succ] at hS
          replace hS := hS.famOne
          replace hS := hS.pickB [1, 0, 2, 3, 4, 5, 6, 7, 8, 9, 10, 11, 12, 13, 14] 15 rfl rfl; simp only [List.map_cons, List.map_nil, List.getD_cons_zero, List.getD_cons_succ] at hS
          obtain ⟨R1163, hS, hm1163⟩ := hS.rowsFreeze
          replace f788 := f788.mono fun k hk _ => hm1163 k hk
          refine q_litO (T := Ty.raw) (S := (fun _ => False)) (cells := [[v1159]]) (ys := [v1159]) ((Parts.cons rfl (cells_one (hS.own 0 rfl).one) Parts.nil)) rfl rfl rfl rfl rfl rfl rfl (fun w1 hB => ⟨⟨rfl, (hS.own 0 rfl).one⟩, trivial⟩) (fun _ h => h.elim) rfl fun w1162 v1162 ho1162 hv1162 hB1162 => ?_
          replace f788 := f788.ext hB1162
          replace hS := hS.newOwnS hB1162 ho1162 hv1162 (fun _ h => h.elim)
          replace hS := hS.pickB [1, 0, 2, 3, 4, 5, 6, 7, 8, 9, 10, 11, 12, 13, 14] 15 rfl rfl; simp only [List.map_cons, List.map_nil, List.getD_cons_zero, List.getD_cons_succ] at hS
          replace hS := hS.famOne
          replace hS := hS.famMono 10 rfl; simp only [List.set] at hS
          obtain ⟨x1168, hx1168, ho703⟩ := Option.of_bind ho703
          obtain ⟨hcr1167, hce1167⟩ := catL_raw (hS.famLen 10 rfl) (hS.famLen 0 rfl) (snoc_cat hx1168)
          refine q_catOwn (T := Ty.raw) rfl rfl rfl rfl (hS.own 9 rfl) rfl (hS.own 1 rfl) (fun _ h _ => h.elim) hcr1167 (Nat.zero_le _) rfl (fun h => by cases h) fun v1167 w1167 hw1167 hgr1167 hnw1167 => ?_
          have hk1167 := hS.keptOwn 9 rfl hgr1167
          replace f788 := f788.kept hk1167
          replace hS := hS.setOwn 9 rfl hw1167 hgr1167 hnw1167; simp only [List.set] at hS
          replace hS := hS.pickB [10, 0, 1, 2, 3, 4, 5, 6, 7, 8, 9, 11, 12, 13, 14] 15 rfl rfl; simp only [List.map_cons, List.map_nil, List.getD_cons_zero, List.getD_cons_succ] at hS
          replace hS := hS.famCat; rw [hce1167] at hS
          refine q_nilCheck rfl rfl ?_
          refine q_field rfl rfl ?_
          refine q_field rfl rfl ?_
          refine q_store rfl rfl (hS.blk 5 rfl) (Nat.le_of_ble_eq_true rfl) (hS.own 9 rfl).one rfl rfl fun w1169 hb1169 hO1169 => ?_
          have hk1169 := hS.keptBlk 5 rfl hO1169
          replace f788 := f788.kept hk1169
          replace hS := hS.setBlk 5 rfl hb1169 hO1169; simp only [List.set] at hS
          refine eseq_nil ?_
          refine hK1126 _ _ ?_
          refine e_region_text rfl ?_
          refine q_move rfl rfl ?_
          refine q_addW rfl rfl rfl ?_
          refine q_assign rfl rfl ?_
          refine eseq_nil ?_
          obtain rfl := Option.some.inj ho703
          exact ⟨m703, _, Nat.lt_succ_self _, ⟨x1168, x1140, (w64 (x805 + 1)), v1167, (v793 ++ ([v1159])), v1139, (v800 ++ ([v1129])), _, ht703, (hS.pickB [4, 5, 6, 7, 8, 9, 0, 10, 11, 12, 2, 13] 14 rfl rfl), f788, rfl⟩, Sub.cons rfl (Sub.cons rfl (Sub.cons rfl (Sub.cons rfl (Sub.cons rfl (Sub.nil _)))))⟩
        · replace ho703 := (if_neg (not_true hc1125)).symm.trans ho703
          refine e_exit ?_
          obtain rfl := Option.some.inj ho703
          obtain rfl := Option.some.inj ht703
          exact hX703_0 x794 x801 v792 v793 v799 v800 _ _ _ h hS f788 (Sub.cons rfl (Sub.cons rfl (Sub.cons rfl (Sub.nil _))))
      obtain ⟨r639, hr639, h⟩ := Option.of_bind h
      obtain ⟨x648, hx648, h⟩ := Option.of_bind h
      refine e_region_T mixed (fun _ => False) [0, 1, 0, 0, 8, 31, 63, 127] [] (QT.op 0 (QT.op 2 (QT.op 3 (QT.alt (QT.op 1 (QT.op 4 (QT.op 5 (QT.op 6 (QT.op 7 QT.fin))))) (QT.op 4 (QT.op 1 (QT.op 5 (QT.op 6 (QT.op 7 QT.fin))))))))) (by kernel_rfl) ?_
      refine t_op ?_
      refine q_move rfl rfl ?_
      refine eseq_nil ?_
      refine t_op ?_
      refine q_move rfl rfl ?_
      refine eseq_nil ?_
      refine t_op ?_
      refine q_move rfl rfl ?_
      refine eseq_nil ?_
      refine t_alt ?_ ?_
      · skip
        refine t_op ?_
        refine q_call rfl (ref25_Empty_w (Sep.enter (As := []) hS)  hr639) rfl ?_
        rintro _ w1170 ⟨v1171, v1172, v1173, v1177, v1178, R1170, rfl, hC1170⟩
        have hB1170 : Below (World.heap wm611).size wm611 w1170 := hC1170.stepB0
        refine ⟨fun _ => .of_below hB1170, ?_⟩
        replace f1 := (f1.ext hB1170).mono fun k hk _ => hC1170.ro0 k hk
        replace hS := Sep.leave (As := []) hS hC1170; simp only [List.cons_append, List.nil_append] at hS
        refine eseq_nil ?_
        refine t_op ?_
        refine q_makeO (T := Ty.bool) (S := (fun _ => False)) rfl rfl rfl hx648 (fun _ h => h.elim) rfl fun w1179 v1179 ho1179 hv1179 hB1179 => ?_
        replace f1 := f1.ext hB1179
        replace hS := hS.newOwnS hB1179 ho1179 hv1179 (fun _ h => h.elim)
        refine eseq_nil ?_
        refine t_op ?_
        refine q_build (Parts.cons rfl rfl (Parts.cons rfl rfl (Parts.cons rfl (cells_one (hS.own 0 rfl).one) Parts.nil))) rfl rfl ?_
        refine eseq_nil ?_
        refine t_op ?_
        refine q_boxB rfl rfl rfl fun w1181 bl1181 hg1181 hb1181 hB1181 => ?_
        replace f1 := f1.ext hB1181
        replace hS := hS.newBlk hB1181 hg1181 hb1181
        refine eseq_nil ?_
        refine t_op ?_
        refine q_assign rfl rfl ?_
        refine eseq_nil ?_
        refine t_fin ?_
        exact hJt700 r639.pat.lens r639.pat.ckpts r639.forced x648 bl1181 v1171 v1172 v1173 v1177 v1178 v1179 _ _ _ h (hS.pickB [7, 0, 2, 3, 4, 5, 6, 1] 8 rfl rfl) f1 (Sub.cons rfl (Sub.cons rfl (Sub.cons rfl (Sub.cons rfl (Sub.nil _)))))
      · skip
        refine t_op ?_
        refine q_makeO (T := Ty.bool) (S := (fun _ => False)) rfl rfl rfl hx648 (fun _ h => h.elim) rfl fun w1183 v1183 ho1183 hv1183 hB1183 => ?_
        replace f1 := f1.ext hB1183
        replace hS := hS.newOwnS hB1183 ho1183 hv1183 (fun _ h => h.elim)
        refine eseq_nil ?_
        refine t_op ?_
        refine q_call rfl (ref25_Empty_w (Sep.enter (As := []) hS)  hr639) rfl ?_
        rintro _ w1185 ⟨v1186, v1187, v1188, v1192, v1193, R1185, rfl, hC1185⟩
        have hB1185 : Below (World.heap w1183).size w1183 w1185 := hC1185.stepB0
        refine ⟨fun _ => .of_below hB1185, ?_⟩
        replace f1 := (f1.ext hB1185).mono fun k hk _ => hC1185.ro0 k hk
        replace hS := Sep.leave (As := []) hS hC1185; simp only [List.cons_append, List.nil_append] at hS
        refine eseq_nil ?_
        refine t_op ?_
        refine q_build (Parts.cons rfl rfl (Parts.cons rfl rfl (Parts.cons rfl (cells_one (hS.own 5 rfl).one) Parts.nil))) rfl rfl ?_
        refine eseq_nil ?_
        refine t_op ?_
        refine q_boxB rfl rfl rfl fun w1194 bl1194 hg1194 hb1194 hB1194 => ?_
        replace f1 := f1.ext hB1194
        replace hS := hS.newBlk hB1194 hg1194 hb1194
        refine eseq_nil ?_
        refine t_op ?_
        refine q_assign rfl rfl ?_
        refine eseq_nil ?_
        refine t_fin ?_
        exact hJt700 r639.pat.lens r639.pat.ckpts r639.forced x648 bl1194 v1186 v1187 v1188 v1192 v1193 v1183 _ _ _ h (hS.pickB [7, 0, 1, 2, 3, 4, 5, 6] 8 rfl rfl) f1 (Sub.cons rfl (Sub.cons rfl (Sub.cons rfl (Sub.cons rfl (Sub.nil _)))))
end Go.Proofs.Ytbmjcbhappjnaaa
