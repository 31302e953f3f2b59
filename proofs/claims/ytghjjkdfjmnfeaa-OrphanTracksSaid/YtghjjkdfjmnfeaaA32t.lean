/- Printed walks: A32t. -/
import Derived.Test.YtghjjkdfjmnfeaaA32r
import Derived.Test.YtghjjkdfjmnfeaaA32l
set_option linter.unusedVariables false
set_option linter.unusedSimpArgs false
namespace Go.Mine
open Go.RowKit
def ref32_Full_K1 (fuel : Nat) (x130 : (List Int)) : Option ((List Int)) :=
  some x130
def ref32_Full_B1 (fuel : Nat) (a0 : (List (List Evt))) (x106 : (List Int)) (x107 : Int) : Option (((List Int) × Int) ⊕ ((List Int))) :=
  (if (decide (x107 < (a0.length : Int))) = true then (ati a0 x107).bind fun x137 => (snoc x106 (x137.length : Int)).bind fun x143 => some (Sum.inl (x143, (w64 (x107 + 1)))) else some (Sum.inr x106))
def ref32_Full (fuel : Nat) (a0 : (List (List Evt))) : Option ((List Int)) :=
  (iter (fun s => ref32_Full_B1 fuel a0 s.1 s.2) fuel (([] : List Int), 0)).bind (fun t => ref32_Full_K1 fuel t)
def ref32_Track_K3 (fuel : Nat) (x2455 : (List (List (List Lab)))) : Option ((List (List (List Lab))) × Bool) :=
  some (x2455, true)
def ref32_Track_B1 (fuel : Nat) (a0 : (List (List Evt))) (x2455 : (List (List (List Lab)))) (x2488 : Int) : Option ((Int) ⊕ (Unit ⊕ ((List (List (List Lab))) × Bool))) :=
  (if (decide (x2488 < (a0.length : Int))) = true then (ati x2455 x2488).bind fun x2516 => (ati a0 x2488).bind fun x2517 => (if (decide ((x2516.length : Int) ≤ (x2517.length : Int))) = true then some (Sum.inr (Sum.inr (([] : List (List (List Lab))), false))) else some (Sum.inl (w64 (x2488 + 1)))) else some (Sum.inr (Sum.inl ())))
def ref32_Track_K2 (fuel : Nat) (a0 : (List (List Evt))) (x2455 : (List (List (List Lab)))) : Option ((List (List (List Lab))) × Bool) :=
  (iter (fun s => ref32_Track_B1 fuel a0 x2455 s) fuel 0).bind (fun t => Sum.elim (fun t => ref32_Track_K3 fuel x2455) (fun t => some t) t)
def ref32_Track_K4 (fuel : Nat) (x2856 : (List (List (List Lab)))) (x2859 : Bool) : Option (((List (List (List Lab))) × Bool) ⊕ ((List (List (List Lab))))) :=
  some (Sum.inl (x2856, x2859))
def ref32_Track_J1 (fuel : Nat) (x2746 : (List (List (List Lab)))) (x2750 : Int) (x2917 : (List Lab)) : Option (((List (List (List Lab))) × Bool × Int) ⊕ ((List (List (List Lab))) × Bool)) :=
  (ati x2746 x2750).bind fun x2918 => (catL x2918 ([x2917])).bind fun x2925 => (seti x2746 x2750 x2925).bind fun x2926 => (ati x2926 x2750).bind fun x2927 => some (Sum.inl (x2926, true, (w64 (x2750 + 1))))
def ref32_Track_B3 (fuel : Nat) (a0 : (List (List Evt))) (x2746 : (List (List (List Lab)))) (x2749 : Bool) (x2750 : Int) : Option (((List (List (List Lab))) × Bool × Int) ⊕ ((List (List (List Lab))) × Bool)) :=
  (if (decide (x2750 < (a0.length : Int))) = true then (ati x2746 x2750).bind fun x2865 => (ati a0 x2750).bind fun x2868 => (if (decide ((x2868.length : Int) < (x2865.length : Int))) = true then some (Sum.inl (x2746, x2749, (w64 (x2750 + 1)))) else (ati a0 x2750).bind fun x2873 => (ati x2873 (w64 ((x2865.length : Int) - 1))).bind fun x2876 => (andM (x2876.kind == 1) ((ati x2746 x2876.frm).bind fun x2886 => some (decide ((x2886.length : Int) ≤ x2876.sent.index)))).bind fun x2885 => (if x2885 = true then some (Sum.inl (x2746, x2749, (w64 (x2750 + 1)))) else (ati x2746 x2750).bind fun x2889 => (ati x2889 (w64 ((x2865.length : Int) - 1))).bind fun x2890 => (catL ([] : List Lab) x2890).bind fun x2895 => (ati x2895 x2750).bind fun x2897 => (seti x2895 x2750 (⟨x2876.inc, (x2865.length : Int)⟩ : Lab)).bind fun x2899 => (if (x2876.kind == 1) = true then (ati x2746 x2876.frm).bind fun x2931 => (ati x2931 x2876.sent.index).bind fun x2932 => (ref32_Merge fuel x2899 x2932).bind fun r2936 => ref32_Track_J1 fuel x2746 x2750 r2936 else ref32_Track_J1 fuel x2746 x2750 x2899))) else some (Sum.inr (x2746, x2749)))
def ref32_Track_B2 (fuel : Nat) (a0 : (List (List Evt))) (x2014 : (List (List (List Lab)))) (x2017 : Bool) : Option (((List (List (List Lab))) × Bool) ⊕ ((List (List (List Lab))))) :=
  (if x2017 = true then (iter (fun s => ref32_Track_B3 fuel a0 s.1 s.2.1 s.2.2) fuel (x2014, false, 0)).bind (fun t => ref32_Track_K4 fuel t.1 t.2) else some (Sum.inr x2014))
def ref32_Track_K1 (fuel : Nat) (a0 : (List (List Evt))) (x1566 : (List (List (List Lab)))) : Option ((List (List (List Lab))) × Bool) :=
  (iter (fun s => ref32_Track_B2 fuel a0 s.1 s.2) fuel (x1566, true)).bind (fun t => ref32_Track_K2 fuel a0 t)
def ref32_Track_B4 (fuel : Nat) (a0 : (List (List Evt))) (x1531 : (List (List (List Lab)))) (x1534 : Int) : Option (((List (List (List Lab))) × Int) ⊕ ((List (List (List Lab))))) :=
  (if (decide (x1534 < (a0.length : Int))) = true then (mkL (a0.length : Int) (⟨(0 : Int), (0 : Int)⟩ : Lab)).bind fun x2944 => (snoc x1531 ([x2944])).bind fun x2956 => some (Sum.inl (x2956, (w64 (x1534 + 1)))) else some (Sum.inr x1531))
def ref32_Track (fuel : Nat) (a0 : (List (List Evt))) : Option ((List (List (List Lab))) × Bool) :=
  (ref32_Full fuel a0).bind fun r1483 => (ref32_Consistent fuel a0 r1483).bind fun r1486 => (if (!r1486) = true then some (([] : List (List (List Lab))), false) else (iter (fun s => ref32_Track_B4 fuel a0 s.1 s.2) fuel (([] : List (List (List Lab))), 0)).bind (fun t => ref32_Track_K1 fuel a0 t))
def ref32_SameVectors_K1 (fuel : Nat) : Option (Bool) :=
  some true
def ref32_SameVectors_K2 (fuel : Nat) (x499 : Int) : Option ((Int) ⊕ (Unit ⊕ (Bool))) :=
  some (Sum.inl (w64 (x499 + 1)))
def ref32_SameVectors_B2 (fuel : Nat) (a0 : (List (List (List Lab)))) (x499 : Int) (a1 : (List (List (List Lab)))) (x672 : Int) : Option ((Int) ⊕ (Unit ⊕ (Bool))) :=
  (ati a0 x499).bind fun x708 => (if (decide (x672 < (x708.length : Int))) = true then (ati a0 x499).bind fun x714 => (ati x714 x672).bind fun x717 => (ati a1 x499).bind fun x720 => (ati x720 x672).bind fun x723 => (ref32_SameLabels fuel x717 x723).bind fun r727 => (if (!r727) = true then some (Sum.inr (Sum.inr false)) else some (Sum.inl (w64 (x672 + 1)))) else some (Sum.inr (Sum.inl ())))
def ref32_SameVectors_B1 (fuel : Nat) (a0 : (List (List (List Lab)))) (a1 : (List (List (List Lab)))) (x499 : Int) : Option ((Int) ⊕ (Unit ⊕ (Bool))) :=
  (if (decide (x499 < (a0.length : Int))) = true then (ati a0 x499).bind fun x625 => (ati a1 x499).bind fun x628 => (if ((x625.length : Int) != (x628.length : Int)) = true then some (Sum.inr (Sum.inr false)) else (iter (fun s => ref32_SameVectors_B2 fuel a0 x499 a1 s) fuel 0).bind (fun t => Sum.elim (fun t => ref32_SameVectors_K2 fuel x499) (fun t => some (Sum.inr (Sum.inr t))) t)) else some (Sum.inr (Sum.inl ())))
def ref32_SameVectors (fuel : Nat) (a0 : (List (List (List Lab)))) (a1 : (List (List (List Lab)))) : Option (Bool) :=
  (if ((a0.length : Int) != (a1.length : Int)) = true then some false else (iter (fun s => ref32_SameVectors_B1 fuel a0 a1 s) fuel 0).bind (fun t => Sum.elim (fun t => ref32_SameVectors_K1 fuel) (fun t => some t) t))
def ref16_sameInts_K1 (fuel : Nat) : Option (Bool) :=
  some true
def ref16_sameInts_B1 (fuel : Nat) (a0 : (List Int)) (a1 : (List Int)) (x99 : Int) : Option ((Int) ⊕ (Unit ⊕ (Bool))) :=
  (if (decide (x99 < (a0.length : Int))) = true then (ati a0 x99).bind fun x124 => (ati a1 x99).bind fun x126 => (if (x124 != x126) = true then some (Sum.inr (Sum.inr false)) else some (Sum.inl (w64 (x99 + 1)))) else some (Sum.inr (Sum.inl ())))
def ref16_sameInts (fuel : Nat) (a0 : (List Int)) (a1 : (List Int)) : Option (Bool) :=
  (if ((a0.length : Int) != (a1.length : Int)) = true then some false else (iter (fun s => ref16_sameInts_B1 fuel a0 a1 s) fuel 0).bind (fun t => Sum.elim (fun t => ref16_sameInts_K1 fuel) (fun t => some t) t))
def ref16_Same_K2 (fuel : Nat) : Option (Bool) :=
  some true
def ref16_Same_B1 (fuel : Nat) (a0 : Pat) (a1 : Pat) (x326 : Int) : Option ((Int) ⊕ (Unit ⊕ (Bool))) :=
  (if (decide (x326 < (a0.arcs.length : Int))) = true then (ati a0.arcs x326).bind fun x357 => (ati a1.arcs x326).bind fun x360 => (if (!((x357.fr == x360.fr) && ((x357.ix == x360.ix) && ((x357.to == x360.to) && ((x357.rcv == x360.rcv) && true))))) = true then some (Sum.inr (Sum.inr false)) else some (Sum.inl (w64 (x326 + 1)))) else some (Sum.inr (Sum.inl ())))
def ref16_Same_K1 (fuel : Nat) (a0 : Pat) (a1 : Pat) : Option (Bool) :=
  (iter (fun s => ref16_Same_B1 fuel a0 a1 s) fuel 0).bind (fun t => Sum.elim (fun t => ref16_Same_K2 fuel) (fun t => some t) t)
def ref16_Same_B2 (fuel : Nat) (a0 : Pat) (a1 : Pat) (x252 : Int) : Option ((Int) ⊕ (Unit ⊕ (Bool))) :=
  (if (decide (x252 < (a0.ckpts.length : Int))) = true then (ati a0.ckpts x252).bind fun x370 => (ati a1.ckpts x252).bind fun x373 => (ref16_sameInts fuel x370 x373).bind fun r377 => (if (!r377) = true then some (Sum.inr (Sum.inr false)) else some (Sum.inl (w64 (x252 + 1)))) else some (Sum.inr (Sum.inl ())))
def ref16_Same (fuel : Nat) (a0 : Pat) (a1 : Pat) : Option (Bool) :=
  (ref16_sameInts fuel a0.lens a1.lens).bind fun r202 => (orM (!r202) (some ((a0.ckpts.length : Int) != (a1.ckpts.length : Int)))).bind fun x204 => (orM x204 (some ((a0.arcs.length : Int) != (a1.arcs.length : Int)))).bind fun x206 => (if x206 = true then some false else (iter (fun s => ref16_Same_B2 fuel a0 a1 s) fuel 0).bind (fun t => Sum.elim (fun t => ref16_Same_K1 fuel a0 a1) (fun t => some t) t))
def orphan_Pattern_K1 (fuel : Nat) (r464 : ((List Int))) (a1 : (List (List Int))) (x760 : (List Arc)) : Option (Pat × Bool) :=
  some ((⟨r464, a1, x760⟩ : Pat), true)
def orphan_Pattern_K2 (fuel : Nat) (x619 : Int) (x869 : (List Arc)) : Option (((List Arc) × Int) ⊕ ((List Arc))) :=
  some (Sum.inl (x869, (w64 (x619 + 1))))
def orphan_Pattern_B2 (fuel : Nat) (x769 : (List Evt)) (x619 : Int) (x823 : (List Arc)) (x826 : Int) : Option (((List Arc) × Int) ⊕ ((List Arc))) :=
  (if (decide (x826 < (x769.length : Int))) = true then (ati x769 x826).bind fun x876 => (if (x876.kind == 1) = true then (snoc x823 (⟨x876.frm, x876.sent.index, x619, w64 (x826 + 1)⟩ : Arc)).bind fun x887 => some (Sum.inl (x887, (w64 (x826 + 1)))) else some (Sum.inl (x823, (w64 (x826 + 1))))) else some (Sum.inr x823))
def orphan_Pattern_B1 (fuel : Nat) (a0 : (List (List Evt))) (x617 : (List Arc)) (x619 : Int) : Option (((List Arc) × Int) ⊕ ((List Arc))) :=
  (if (decide (x619 < (a0.length : Int))) = true then (ati a0 x619).bind fun x769 => (iter (fun s => orphan_Pattern_B2 fuel x769 x619 s.1 s.2) fuel (x617, 0)).bind (fun t => orphan_Pattern_K2 fuel x619 t) else some (Sum.inr x617))
def orphan_Pattern (fuel : Nat) (a0 : (List (List Evt))) (a1 : (List (List Int))) : Option (Pat × Bool) :=
  (orphan_all fuel a0).bind fun r453 => (orphan_Consistent fuel a0 r453).bind fun r456 => (if (!r456) = true then some ((⟨([] : List Int), ([] : List (List Int)), ([] : List Arc)⟩ : Pat), false) else (orphan_all fuel a0).bind fun r464 => (iter (fun s => orphan_Pattern_B1 fuel a0 s.1 s.2) fuel (([] : List Arc), 0)).bind (fun t => orphan_Pattern_K1 fuel r464 a1 t))
def ref32_Pattern_K2 (fuel : Nat) (r657 : ((List Int))) (x769 : (List (List Int))) (x1098 : (List Arc)) : Option (Pat × Bool) :=
  some ((⟨r657, x769, x1098⟩ : Pat), true)
def ref32_Pattern_K3 (fuel : Nat) (x940 : Int) (x1217 : (List Arc)) : Option (((List Arc) × Int) ⊕ ((List Arc))) :=
  some (Sum.inl (x1217, (w64 (x940 + 1))))
def ref32_Pattern_B2 (fuel : Nat) (a0 : (List (List Evt))) (x940 : Int) (x1165 : (List Arc)) (x1166 : Int) : Option (((List Arc) × Int) ⊕ ((List Arc))) :=
  (ati a0 x940).bind fun x1220 => (if (decide (x1166 < (x1220.length : Int))) = true then (ati a0 x940).bind fun x1226 => (ati x1226 x1166).bind fun x1229 => (if (x1229.kind == 1) = true then (snoc x1165 (⟨x1229.frm, x1229.sent.index, x940, w64 (x1166 + 1)⟩ : Arc)).bind fun x1240 => some (Sum.inl (x1240, (w64 (x1166 + 1)))) else some (Sum.inl (x1165, (w64 (x1166 + 1))))) else some (Sum.inr x1165))
def ref32_Pattern_B1 (fuel : Nat) (a0 : (List (List Evt))) (x939 : (List Arc)) (x940 : Int) : Option (((List Arc) × Int) ⊕ ((List Arc))) :=
  (if (decide (x940 < (a0.length : Int))) = true then (iter (fun s => ref32_Pattern_B2 fuel a0 x940 s.1 s.2) fuel (x939, 0)).bind (fun t => ref32_Pattern_K3 fuel x940 t) else some (Sum.inr x939))
def ref32_Pattern_K1 (fuel : Nat) (a0 : (List (List Evt))) (r657 : ((List Int))) (x769 : (List (List Int))) : Option (Pat × Bool) :=
  (iter (fun s => ref32_Pattern_B1 fuel a0 s.1 s.2) fuel (([] : List Arc), 0)).bind (fun t => ref32_Pattern_K2 fuel r657 x769 t)
def ref32_Pattern_B3 (fuel : Nat) (a1 : (List (List Int))) (x720 : (List (List Int))) (x723 : Int) : Option (((List (List Int)) × Int) ⊕ ((List (List Int)))) :=
  (if (decide (x723 < (a1.length : Int))) = true then (ati a1 x723).bind fun x1260 => (catL ([] : List Int) x1260).bind fun x1265 => (snoc x720 x1265).bind fun x1270 => some (Sum.inl (x1270, (w64 (x723 + 1)))) else some (Sum.inr x720))
def ref32_Pattern (fuel : Nat) (a0 : (List (List Evt))) (a1 : (List (List Int))) : Option (Pat × Bool) :=
  (ref32_Full fuel a0).bind fun r644 => (ref32_Consistent fuel a0 r644).bind fun r647 => (if (!r647) = true then some ((⟨([] : List Int), ([] : List (List Int)), ([] : List Arc)⟩ : Pat), false) else (ref32_Full fuel a0).bind fun r657 => (iter (fun s => ref32_Pattern_B3 fuel a1 s.1 s.2) fuel (([] : List (List Int)), 0)).bind (fun t => ref32_Pattern_K1 fuel a0 r657 t))
def law32_OrphanTracks_K1 (fuel : Nat) (a0 : (List (List Evt))) (a2 : (List Int)) (a1 : (List (List Int))) (x229 : Int) : Option (Bool) :=
  (law32_awake fuel).bind fun r233 => (orM (!r233) ((law32_size fuel a0).bind fun r237 => some (decide (100 < r237)))).bind fun x235 => (orM x235 (some (decide (100 < x229)))).bind fun x239 => (if x239 = true then (law32_size fuel a0).bind fun r243 => (orM (decide (100 < r243)) (some (decide (100 < x229)))).bind fun x245 => some x245 else (law32_scene fuel a2).bind fun r248 => (Track fuel a0).bind fun r254 => (ref32_Track fuel a0).bind fun r259 => (Track fuel r248.1).bind fun r267 => (ref32_Track fuel r248.1).bind fun r272 => (orphan_Pattern fuel a0 a1).bind fun r277 => (ref32_Pattern fuel a0 a1).bind fun r286 => (orphan_Pattern fuel r248.1 a1).bind fun r296 => (ref32_Pattern fuel r248.1 a1).bind fun r305 => (andM (r254.2 == r259.2) (some (r267.2 == r272.2))).bind fun x315 => (andM x315 (some (r277.2 == r286.2))).bind fun x317 => (andM x317 (some (r296.2 == r305.2))).bind fun x319 => (andM x319 ((ref32_SameVectors fuel r254.1 r259.1).bind fun r323 => some r323)).bind fun x321 => (andM x321 ((ref32_SameVectors fuel r267.1 r272.1).bind fun r327 => some r327)).bind fun x325 => (andM x325 ((ref16_Same fuel (⟨r277.1.lens, r277.1.ckpts, r277.1.arcs⟩ : Pat) (⟨r286.1.lens, r286.1.ckpts, r286.1.arcs⟩ : Pat)).bind fun r331 => some r331)).bind fun x329 => (andM x329 ((ref16_Same fuel (⟨r296.1.lens, r296.1.ckpts, r296.1.arcs⟩ : Pat) (⟨r305.1.lens, r305.1.ckpts, r305.1.arcs⟩ : Pat)).bind fun r335 => some r335)).bind fun x333 => some x333)
def law32_OrphanTracks_B1 (fuel : Nat) (a1 : (List (List Int))) (x206 : Int) (x207 : Int) : Option ((Int × Int) ⊕ (Int)) :=
  (andM (decide (x207 < (a1.length : Int))) (some (decide (x206 ≤ 100)))).bind fun x339 => (if x339 = true then (ati a1 x207).bind fun x342 => some (Sum.inl ((w64 (x206 + (x342.length : Int))), (w64 (x207 + 1)))) else some (Sum.inr x206))
def law32_OrphanTracks (fuel : Nat) (a0 : (List (List Evt))) (a1 : (List (List Int))) (a2 : (List Int)) : Option (Bool) :=
  (iter (fun s => law32_OrphanTracks_B1 fuel a1 s.1 s.2) fuel ((a1.length : Int), 0)).bind (fun t => law32_OrphanTracks_K1 fuel a0 a2 a1 t)
end Go.Mine
namespace Go.Proofs.Ytghjjkdfjmnfeaa
open Go.RowKit Go.Mine
attribute [local irreducible] eseq ewp iter
theorem ref32_Full_w {F R : Nat → Prop} {w : World} {fuel : Nat} {a0 : (List (List Evt))} {v1 : Value} {r : ((List Int))} (hS : Sep F R R w w []) (f1 : IsSlice (Ty.slice evtTy) w R v1 a0) (h : ref32_Full fuel a0 = some r) :
    Gives Try.prog 59 [v1] w fun u w1 => ∃ (v73 : Value), ∃ (R1 : Nat → Prop), u = v73 ∧ Sep F R R1 w w1 [HP.own Ty.int (fun _ => False) 3 v73 r] := by
  refine fn_of Try.func59 rfl Try.ntmps59 (Nat.le_of_ble_eq_true rfl) ?_
  unfold ref32_Full at h
  refine e_seq fun K74 hK74 => ?_
  refine e_region_text rfl ?_
  refine q_assign rfl rfl ?_
  refine eseq_nil ?_
  refine hK74 _ _ ?_
  refine e_seq fun K75 hK75 => ?_
  refine e_region_text rfl ?_
  refine q_assign rfl rfl ?_
  refine eseq_nil ?_
  refine hK75 _ _ ?_
  refine e_seq fun K76 hK76 => ?_
  refine e_seq fun K77 hK77 => ?_
  refine e_region_text rfl ?_
  refine q_assign rfl rfl ?_
  refine eseq_nil ?_
  refine hK77 _ _ ?_
  refine e_block ?_
  obtain ⟨tl78, ht78, h⟩ := Option.of_bind h
  have hX78_0 : ∀ (x130 : (List Int)) (v129 : Value) (R126 : Nat → Prop) (w127 : World) (E_ : Env), ref32_Full_K1 fuel x130 = some r → Sep F R R126 w w127 [HP.own Ty.int (fun _ => False) 3 v129 x130] → Sub [(3, v129)] E_ → K76 E_ w127 := by
    intro x130 v129 R126 w127 E_ h hS  hsub
    refine hK76 _ _ (e_sub hsub ?_); clear hsub
    unfold ref32_Full_K1 at h
    refine e_seq fun K131 hK131 => ?_
    refine e_region_text rfl ?_
    refine q_move rfl rfl ?_
    refine q_assign rfl rfl ?_
    refine eseq_nil ?_
    refine hK131 _ _ ?_
    refine e_ret ?_
    obtain rfl := Option.some.inj h
    exact ⟨_, res1 rfl rfl, v129, _, rfl, hS⟩
  replace hS := hS.nilOwn0 Ty.int 3
  refine e_loop (fun m_ E_ w102 => ∃ (x106 : (List Int)), ∃ (x107 : Int), ∃ (v105 : Value), ∃ (R101 : Nat → Prop), iter (fun s => ref32_Full_B1 fuel a0 s.1 s.2) m_ (x106, x107) = some tl78 ∧ Sep F R R101 w w102 [HP.own Ty.int (fun _ => False) 3 v105 x106] ∧ IsSlice (Ty.slice evtTy) w102 R101 v1 a0 ∧ E_ = [(0, v1), (3, v105), (4, .int .i64 x107)]) _ ⟨_, ⟨([] : List Int), 0, (.slice none 0 0), _, ht78, hS, f1, rfl⟩, Sub.cons rfl (Sub.cons rfl (Sub.cons rfl (Sub.nil _)))⟩ ?_
  clear ht78 hS
  rintro m78 _ w102 ⟨x106, x107, v105, R101, ht78, hS, f103, rfl⟩
  obtain ⟨m78, rfl, o78, ho78, ht78⟩ := iter_some ht78
  replace ho78 : ref32_Full_B1 fuel a0 x106 x107 = some o78 := ho78
  unfold ref32_Full_B1 at ho78
  refine e_seq fun K133 hK133 => ?_
  refine e_seq fun K134 hK134 => ?_
  refine e_region_text rfl ?_
  refine q_move rfl rfl ?_
  refine q_move rfl rfl ?_
  refine q_lenS rfl f103 rfl ?_
  refine q_lss rfl rfl rfl ?_
  refine eseq_nil ?_
  refine hK134 _ _ ?_
  refine e_cond rfl (fun hc135 => ?_) (fun hc135 => ?_)
  · replace ho78 := (if_pos hc135).symm.trans ho78
    refine e_skip ?_
    refine hK133 _ _ ?_
    refine e_seq fun K136 hK136 => ?_
    refine e_block ?_
    refine e_region_text rfl ?_
    refine q_move rfl rfl ?_
    refine q_move rfl rfl ?_
    refine q_move rfl rfl ?_
    obtain ⟨x137, hx137, ho78⟩ := Option.of_bind ho78
    refine q_atS (by infer_instance) rfl f103 rfl hx137 rfl fun b138 o138 hm138 f138 => ?_
    refine q_loadE rfl f138 rfl (fun v139 f139 => ?_)
    refine q_lenS rfl f139 rfl ?_
    refine q_litO (T := Ty.int) (S := (fun _ => False)) (cells := [[.int .i64 (x137.length : Int)]]) (ys := [(x137.length : Int)]) ((Parts.cons rfl rfl Parts.nil)) rfl rfl rfl rfl rfl rfl rfl (fun w1 hB => ⟨rfl, trivial⟩) (fun _ h => h.elim) rfl fun w140 v140 ho140 hv140 hB140 => ?_
    replace f103 := f103.ext hB140
    replace hS := hS.newOwnS hB140 ho140 hv140 (fun _ h => h.elim)
    obtain ⟨x143, hx143, ho78⟩ := Option.of_bind ho78
    refine q_catOwn (T := Ty.int) rfl rfl rfl rfl (hS.own 1 rfl) rfl (hS.own 0 rfl) (fun _ h _ => h.elim) (snoc_cat hx143) (Nat.zero_le _) rfl (fun h => by cases h) fun v142 w142 hw142 hgr142 hnw142 => ?_
    have hk142 := hS.keptOwn 1 rfl hgr142
    replace f103 := f103.kept hk142
    replace hS := hS.setOwn 1 rfl hw142 hgr142 hnw142; simp only [List.set] at hS
    refine q_assign rfl rfl ?_
    refine eseq_nil ?_
    refine hK136 _ _ ?_
    refine e_region_text rfl ?_
    refine q_move rfl rfl ?_
    refine q_addW rfl rfl rfl ?_
    refine q_assign rfl rfl ?_
    refine eseq_nil ?_
    obtain rfl := Option.some.inj ho78
    exact ⟨m78, _, Nat.lt_succ_self _, ⟨x143, (w64 (x107 + 1)), v142, _, ht78, (hS.pickB [1] 2 rfl rfl), f103, rfl⟩, Sub.cons rfl (Sub.cons rfl (Sub.cons rfl (Sub.nil _)))⟩
  · replace ho78 := (if_neg (not_true hc135)).symm.trans ho78
    refine e_exit ?_
    obtain rfl := Option.some.inj ho78
    obtain rfl := Option.some.inj ht78
    exact hX78_0 x106 v105 _ _ _ h hS  (Sub.cons rfl (Sub.nil _))
theorem ref32_Track_w {F R : Nat → Prop} {w : World} {fuel : Nat} {a0 : (List (List Evt))} {v1 : Value} {r : ((List (List (List Lab))) × Bool)} (hS : Sep F R R w w []) (f1 : IsSlice (Ty.slice evtTy) w R v1 a0) (h : ref32_Track fuel a0 = some r) :
    Gives Try.prog 30 [v1] w fun u w1 => ∃ (v1477 : Value), ∃ (v1478 : List Value), ∃ (R1 : Nat → Prop), u = .tuple #[v1477, .bool r.2] ∧ Sep F R R1 w w1 [HP.own Ty.raw (fun _ => False) 67 v1477 v1478, HP.famS (Ty.slice labTy) R1 22 v1478 r.1] := by
  refine fn_of Try.func30 rfl Try.ntmps30 (Nat.le_of_ble_eq_true rfl) ?_
  unfold ref32_Track at h
  refine e_seq fun K1479 hK1479 => ?_
  refine e_region_text rfl ?_
  refine q_assign rfl rfl ?_
  refine q_assign rfl rfl ?_
  refine eseq_nil ?_
  refine hK1479 _ _ ?_
  refine e_seq fun K1480 hK1480 => ?_
  refine e_seq fun K1481 hK1481 => ?_
  refine e_region_text rfl ?_
  refine q_move rfl rfl ?_
  refine q_move rfl rfl ?_
  obtain ⟨r1483, hr1483, h⟩ := Option.of_bind h
  refine q_call rfl (ref32_Full_w (Sep.enter (As := []) hS) f1 hr1483) rfl ?_
  rintro v1484 w1482 ⟨_, R1482, rfl, hC1482⟩
  have hB1482 : Below (World.heap w).size w w1482 := hC1482.stepB0
  refine ⟨fun _ => .of_below hB1482, ?_⟩
  replace f1 := (f1.ext hB1482).mono fun k hk _ => hC1482.ro0 k hk
  replace hS := Sep.leave (As := []) hS hC1482; simp only [List.cons_append, List.nil_append] at hS
  obtain ⟨r1486, hr1486, h⟩ := Option.of_bind h
  refine q_call rfl (ref32_Consistent_w (Sep.all w1482) (f1).old ((hS.isl 0 rfl)).old hr1486) rfl ?_
  rintro _ w1485 ⟨R1485, rfl, hC1485⟩
  have hB1485 : Below (World.heap w1482).size w1482 w1485 := hC1485.stepBF
  refine ⟨fun _ => .of_below hB1485, ?_⟩
  replace f1 := f1.ext hB1485
  replace hS := hS.below hB1485
  refine q_not rfl rfl ?_
  refine eseq_nil ?_
  refine hK1481 _ _ ?_
  refine e_cond rfl (fun hc1487 => ?_) (fun hc1487 => ?_)
  · replace h := (if_pos hc1487).symm.trans h
    refine e_seq fun K1488 hK1488 => ?_
    refine e_region_text rfl ?_
    refine q_assign rfl rfl ?_
    refine q_assign rfl rfl ?_
    refine eseq_nil ?_
    refine hK1488 _ _ ?_
    refine e_ret ?_
    replace hS := hS.nilRows (Ty.slice labTy) 22 67
    obtain rfl := Option.some.inj h
    exact ⟨_, res2 rfl rfl rfl, (.slice none 0 0), ([] : List Value), _, rfl, (hS.pickB [0, 1] 3 rfl rfl)⟩
  · replace h := (if_neg (not_true hc1487)).symm.trans h
    refine e_skip ?_
    refine hK1480 _ _ ?_
    refine e_seq fun K1491 hK1491 => ?_
    refine e_region_text rfl ?_
    refine q_assign rfl rfl ?_
    refine eseq_nil ?_
    refine hK1491 _ _ ?_
    refine e_seq fun K1492 hK1492 => ?_
    refine e_seq fun K1493 hK1493 => ?_
    refine e_region_text rfl ?_
    refine q_assign rfl rfl ?_
    refine eseq_nil ?_
    refine hK1493 _ _ ?_
    refine e_block ?_
    obtain ⟨tl1494, ht1494, h⟩ := Option.of_bind h
    have hX1494_0 : ∀ (x1566 : (List (List (List Lab)))) (v1564 : Value) (v1565 : List Value) (R1561 : Nat → Prop) (w1562 : World) (E_ : Env), ref32_Track_K1 fuel a0 x1566 = some r → Sep F R R1561 w w1562 [HP.own Ty.raw (fun _ => False) 67 v1564 v1565, HP.famS (Ty.slice labTy) R1561 22 v1565 x1566] → IsSlice (Ty.slice evtTy) w1562 R1561 v1 a0 → Sub [(0, v1), (4, v1564)] E_ → K1492 E_ w1562 := by
      intro x1566 v1564 v1565 R1561 w1562 E_ h hS f1563 hsub
      refine hK1492 _ _ (e_sub hsub ?_); clear hsub
      unfold ref32_Track_K1 at h
      refine e_seq fun K1569 hK1569 => ?_
      refine e_seq fun K1570 hK1570 => ?_
      refine e_region_text rfl ?_
      refine q_assign rfl rfl ?_
      refine eseq_nil ?_
      refine hK1570 _ _ ?_
      refine e_block ?_
      obtain ⟨tl1571, ht1571, h⟩ := Option.of_bind h
      have hX1571_2 : ∀ (x2455 : (List (List (List Lab)))) (v2453 : Value) (v2454 : List Value) (R2450 : Nat → Prop) (w2451 : World) (E_ : Env), ref32_Track_K2 fuel a0 x2455 = some r → Sep F R R2450 w w2451 [HP.own Ty.raw (fun _ => False) 67 v2453 v2454, HP.famS (Ty.slice labTy) R2450 22 v2454 x2455] → IsSlice (Ty.slice evtTy) w2451 R2450 v1 a0 → Sub [(0, v1), (4, v2453)] E_ → K1569 E_ w2451 := by
        intro x2455 v2453 v2454 R2450 w2451 E_ h hS f2452 hsub
        refine hK1569 _ _ (e_sub hsub ?_); clear hsub
        unfold ref32_Track_K2 at h
        refine e_seq fun K2458 hK2458 => ?_
        refine e_seq fun K2459 hK2459 => ?_
        refine e_region_text rfl ?_
        refine q_assign rfl rfl ?_
        refine eseq_nil ?_
        refine hK2459 _ _ ?_
        refine e_block ?_
        obtain ⟨tl2460, ht2460, h⟩ := Option.of_bind h
        have hX2460_6 : ∀ (R2506 : Nat → Prop) (w2507 : World) (E_ : Env), ref32_Track_K3 fuel x2455 = some r → Sep F R R2506 w w2507 [HP.own Ty.raw (fun _ => False) 67 v2453 v2454, HP.famS (Ty.slice labTy) R2506 22 v2454 x2455] → Sub [(4, v2453)] E_ → K2458 E_ w2507 := by
          intro R2506 w2507 E_ h hS  hsub
          refine hK2458 _ _ (e_sub hsub ?_); clear hsub
          unfold ref32_Track_K3 at h
          refine e_seq fun K2510 hK2510 => ?_
          refine e_region_text rfl ?_
          refine q_move rfl rfl ?_
          refine q_assign rfl rfl ?_
          refine q_assign rfl rfl ?_
          refine eseq_nil ?_
          refine hK2510 _ _ ?_
          refine e_ret ?_
          obtain rfl := Option.some.inj h
          exact ⟨_, res2 rfl rfl rfl, v2453, v2454, _, rfl, hS⟩
        refine e_loop (fun m_ E_ w2484 => ∃ (x2488 : Int), ∃ (R2483 : Nat → Prop), iter (fun s => ref32_Track_B1 fuel a0 x2455 s) m_ x2488 = some tl2460 ∧ Sep F R R2483 w w2484 [HP.own Ty.raw (fun _ => False) 67 v2453 v2454, HP.famS (Ty.slice labTy) R2483 22 v2454 x2455] ∧ IsSlice (Ty.slice evtTy) w2484 R2483 v1 a0 ∧ E_ = [(0, v1), (4, v2453), (11, .int .i64 x2488)]) _ ⟨_, ⟨0, _, ht2460, hS, f2452, rfl⟩, Sub.cons rfl (Sub.cons rfl (Sub.cons rfl (Sub.nil _)))⟩ ?_
        clear ht2460 hS
        rintro m2460 _ w2484 ⟨x2488, R2483, ht2460, hS, f2485, rfl⟩
        obtain ⟨m2460, rfl, o2460, ho2460, ht2460⟩ := iter_some ht2460
        replace ho2460 : ref32_Track_B1 fuel a0 x2455 x2488 = some o2460 := ho2460
        unfold ref32_Track_B1 at ho2460
        refine e_seq fun K2511 hK2511 => ?_
        refine e_seq fun K2512 hK2512 => ?_
        refine e_region_text rfl ?_
        refine q_move rfl rfl ?_
        refine q_move rfl rfl ?_
        refine q_lenS rfl f2485 rfl ?_
        refine q_lss rfl rfl rfl ?_
        refine eseq_nil ?_
        refine hK2512 _ _ ?_
        refine e_cond rfl (fun hc2513 => ?_) (fun hc2513 => ?_)
        · replace ho2460 := (if_pos hc2513).symm.trans ho2460
          refine e_skip ?_
          refine hK2511 _ _ ?_
          refine e_seq fun K2514 hK2514 => ?_
          refine e_block ?_
          refine e_seq fun K2515 hK2515 => ?_
          refine e_region_draw mixed (fun _ => False) [0, 0, 3, 7, 15, 0, 0, 96, 224, 480, 1023] [] [0, 1, 2, 3, 4, 5, 6, 7, 8, 9, 10] (by kernel_rfl) ?_
          refine q_move rfl rfl ?_
          refine q_move rfl rfl ?_
          obtain ⟨x2516, hx2516, ho2460⟩ := Option.of_bind ho2460
          have hax2516 := ati_nth (hS.famLen 1 rfl) hx2516
          refine q_indexO (T := Ty.raw) (by infer_instance) rfl (hS.own 0 rfl) rfl hax2516 rfl ?_
          refine q_load rfl (Elt.rawCell ((hS.own 0 rfl).elt hax2516)) rfl ?_
          refine q_lenS rfl (hS.famI 1 rfl hx2516) rfl ?_
          refine q_move rfl rfl ?_
          refine q_move rfl rfl ?_
          obtain ⟨x2517, hx2517, ho2460⟩ := Option.of_bind ho2460
          refine q_atS (by infer_instance) rfl f2485 rfl hx2517 rfl fun b2518 o2518 hm2518 f2518 => ?_
          refine q_loadE rfl f2518 rfl (fun v2519 f2519 => ?_)
          refine q_lenS rfl f2519 rfl ?_
          refine q_leq rfl rfl rfl ?_
          refine eseq_nil ?_
          refine hK2515 _ _ ?_
          refine e_cond rfl (fun hc2520 => ?_) (fun hc2520 => ?_)
          · replace ho2460 := (if_pos hc2520).symm.trans ho2460
            refine e_seq fun K2521 hK2521 => ?_
            refine e_region_text rfl ?_
            refine q_assign rfl rfl ?_
            refine q_assign rfl rfl ?_
            refine eseq_nil ?_
            refine hK2521 _ _ ?_
            refine e_ret ?_
            replace hS := hS.nilRows (Ty.slice labTy) 22 67
            obtain rfl := Option.some.inj ho2460
            obtain rfl := Option.some.inj ht2460
            obtain rfl := Option.some.inj h
            exact ⟨_, res2 rfl rfl rfl, (.slice none 0 0), ([] : List Value), _, rfl, (hS.pickB [0, 1] 4 rfl rfl)⟩
          · replace ho2460 := (if_neg (not_true hc2520)).symm.trans ho2460
            refine e_skip ?_
            refine hK2514 _ _ ?_
            refine e_region_text rfl ?_
            refine q_move rfl rfl ?_
            refine q_addW rfl rfl rfl ?_
            refine q_assign rfl rfl ?_
            refine eseq_nil ?_
            obtain rfl := Option.some.inj ho2460
            exact ⟨m2460, _, Nat.lt_succ_self _, ⟨(w64 (x2488 + 1)), _, ht2460, hS, f2485, rfl⟩, Sub.cons rfl (Sub.cons rfl (Sub.cons rfl (Sub.nil _)))⟩
        · replace ho2460 := (if_neg (not_true hc2513)).symm.trans ho2460
          refine e_exit ?_
          obtain rfl := Option.some.inj ho2460
          obtain rfl := Option.some.inj ht2460
          exact hX2460_6  _ _ _ h hS  (Sub.cons rfl (Sub.nil _))
      refine e_loop (fun m_ E_ w2010 => ∃ (x2014 : (List (List (List Lab)))), ∃ (x2017 : Bool), ∃ (v2012 : Value), ∃ (v2013 : List Value), ∃ (R2009 : Nat → Prop), iter (fun s => ref32_Track_B2 fuel a0 s.1 s.2) m_ (x2014, x2017) = some tl1571 ∧ Sep F R R2009 w w2010 [HP.own Ty.raw (fun _ => False) 67 v2012 v2013, HP.famS (Ty.slice labTy) R2009 22 v2013 x2014] ∧ IsSlice (Ty.slice evtTy) w2010 R2009 v1 a0 ∧ E_ = [(0, v1), (4, v2012), (6, .bool x2017)]) _ ⟨_, ⟨x1566, true, v1564, v1565, _, ht1571, hS, f1563, rfl⟩, Sub.cons rfl (Sub.cons rfl (Sub.cons rfl (Sub.nil _)))⟩ ?_
      clear ht1571 hS
      rintro m1571 _ w2010 ⟨x2014, x2017, v2012, v2013, R2009, ht1571, hS, f2011, rfl⟩
      obtain ⟨m1571, rfl, o1571, ho1571, ht1571⟩ := iter_some ht1571
      replace ho1571 : ref32_Track_B2 fuel a0 x2014 x2017 = some o1571 := ho1571
      unfold ref32_Track_B2 at ho1571
      refine e_seq fun K2524 hK2524 => ?_
      refine e_seq fun K2525 hK2525 => ?_
      refine e_region_text rfl ?_
      refine q_move rfl rfl ?_
      refine eseq_nil ?_
      refine hK2525 _ _ ?_
      refine e_cond rfl (fun hc2526 => ?_) (fun hc2526 => ?_)
      · replace ho1571 := (if_pos hc2526).symm.trans ho1571
        refine e_skip ?_
        refine hK2524 _ _ ?_
        refine e_block ?_
        refine e_seq fun K2527 hK2527 => ?_
        refine e_region_text rfl ?_
        refine q_assign rfl rfl ?_
        refine eseq_nil ?_
        refine hK2527 _ _ ?_
        refine e_seq fun K2528 hK2528 => ?_
        refine e_region_text rfl ?_
        refine q_assign rfl rfl ?_
        refine eseq_nil ?_
        refine hK2528 _ _ ?_
        refine e_block ?_
        obtain ⟨tl2529, ht2529, ho1571⟩ := Option.of_bind ho1571
        refine e_loop (fun m_ E_ w2742 => ∃ (x2746 : (List (List (List Lab)))), ∃ (x2749 : Bool), ∃ (x2750 : Int), ∃ (v2744 : Value), ∃ (v2745 : List Value), ∃ (R2741 : Nat → Prop), iter (fun s => ref32_Track_B3 fuel a0 s.1 s.2.1 s.2.2) m_ (x2746, x2749, x2750) = some tl2529 ∧ Sep F R R2741 w w2742 [HP.own Ty.raw (fun _ => False) 67 v2744 v2745, HP.famS (Ty.slice labTy) R2741 22 v2745 x2746] ∧ IsSlice (Ty.slice evtTy) w2742 R2741 v1 a0 ∧ E_ = [(0, v1), (4, v2744), (6, .bool x2749), (7, .int .i64 x2750)]) _ ⟨_, ⟨x2014, false, 0, v2012, v2013, _, ht2529, hS, f2011, rfl⟩, Sub.cons rfl (Sub.cons rfl (Sub.cons rfl (Sub.cons rfl (Sub.nil _))))⟩ ?_
        clear ht2529 hS
        rintro m2529 _ w2742 ⟨x2746, x2749, x2750, v2744, v2745, R2741, ht2529, hS, f2743, rfl⟩
        obtain ⟨m2529, rfl, o2529, ho2529, ht2529⟩ := iter_some ht2529
        replace ho2529 : ref32_Track_B3 fuel a0 x2746 x2749 x2750 = some o2529 := ho2529
        unfold ref32_Track_B3 at ho2529
        refine e_seq fun K2860 hK2860 => ?_
        refine e_seq fun K2861 hK2861 => ?_
        refine e_region_text rfl ?_
        refine q_move rfl rfl ?_
        refine q_move rfl rfl ?_
        refine q_lenS rfl f2743 rfl ?_
        refine q_lss rfl rfl rfl ?_
        refine eseq_nil ?_
        refine hK2861 _ _ ?_
        refine e_cond rfl (fun hc2862 => ?_) (fun hc2862 => ?_)
        · replace ho2529 := (if_pos hc2862).symm.trans ho2529
          refine e_skip ?_
          refine hK2860 _ _ ?_
          refine e_seq fun K2863 hK2863 => ?_
          refine e_block ?_
          refine e_seq fun K2864 hK2864 => ?_
          refine e_region_text rfl ?_
          refine q_move rfl rfl ?_
          refine q_move rfl rfl ?_
          obtain ⟨x2865, hx2865, ho2529⟩ := Option.of_bind ho2529
          have hax2865 := ati_nth (hS.famLen 1 rfl) hx2865
          refine q_indexO (T := Ty.raw) (by infer_instance) rfl (hS.own 0 rfl) rfl hax2865 rfl ?_
          refine q_load rfl (Elt.rawCell ((hS.own 0 rfl).elt hax2865)) rfl ?_
          refine q_lenS rfl (hS.famI 1 rfl hx2865) rfl ?_
          refine q_assign rfl rfl ?_
          refine eseq_nil ?_
          refine hK2864 _ _ ?_
          refine e_seq fun K2866 hK2866 => ?_
          refine e_seq fun K2867 hK2867 => ?_
          refine e_region_text rfl ?_
          refine q_move rfl rfl ?_
          refine q_move rfl rfl ?_
          refine q_move rfl rfl ?_
          obtain ⟨x2868, hx2868, ho2529⟩ := Option.of_bind ho2529
          refine q_atS (by infer_instance) rfl f2743 rfl hx2868 rfl fun b2869 o2869 hm2869 f2869 => ?_
          refine q_loadE rfl f2869 rfl (fun v2870 f2870 => ?_)
          refine q_lenS rfl f2870 rfl ?_
          refine q_gtr rfl rfl rfl ?_
          refine eseq_nil ?_
          refine hK2867 _ _ ?_
          refine e_cond rfl (fun hc2871 => ?_) (fun hc2871 => ?_)
          · replace ho2529 := (if_pos hc2871).symm.trans ho2529
            refine e_exit ?_
            refine hK2863 _ _ ?_
            refine e_region_text rfl ?_
            refine q_move rfl rfl ?_
            refine q_addW rfl rfl rfl ?_
            refine q_assign rfl rfl ?_
            refine eseq_nil ?_
            obtain rfl := Option.some.inj ho2529
            exact ⟨m2529, _, Nat.lt_succ_self _, ⟨x2746, x2749, (w64 (x2750 + 1)), v2744, v2745, _, ht2529, hS, f2743, rfl⟩, Sub.cons rfl (Sub.cons rfl (Sub.cons rfl (Sub.cons rfl (Sub.nil _))))⟩
          · replace ho2529 := (if_neg (not_true hc2871)).symm.trans ho2529
            refine e_skip ?_
            refine hK2866 _ _ ?_
            refine e_seq fun K2872 hK2872 => ?_
            refine e_region_text rfl ?_
            refine q_move rfl rfl ?_
            refine q_move rfl rfl ?_
            obtain ⟨x2873, hx2873, ho2529⟩ := Option.of_bind ho2529
            refine q_atS (by infer_instance) rfl f2743 rfl hx2873 rfl fun b2874 o2874 hm2874 f2874 => ?_
            refine q_loadE rfl f2874 rfl (fun v2875 f2875 => ?_)
            refine q_move rfl rfl ?_
            refine q_subW rfl rfl rfl ?_
            obtain ⟨x2876, hx2876, ho2529⟩ := Option.of_bind ho2529
            refine q_atS (by infer_instance) rfl f2875 rfl hx2876 rfl fun b2877 o2877 hm2877 f2877 => ?_
            have hc2878 := Evt_open f2877
            refine q_loadAgg rfl hc2878 rfl rfl ?_
            refine q_allocB rfl fun w2879 bl2879 hg2879 hb2879 hB2879 => ?_
            replace f2743 := f2743.ext hB2879
            replace hS := hS.newBlk hB2879 hg2879 hb2879
            refine q_storeAgg rfl rfl (hS.blk 0 rfl) rfl (Nat.le_of_ble_eq_true rfl) (all_cons rfl (all_cons rfl (all_cons rfl (all_cons rfl (all_cons rfl (all_cons rfl (all_cons rfl (all_nil)))))))) rfl rfl fun w2881 hb2881 hO2881 => ?_
            simp only [setN, List.set, List.take, List.drop] at hb2881
            have hk2881 := hS.keptBlk 0 rfl hO2881
            replace f2743 := f2743.kept hk2881
            replace hS := hS.setBlk 0 rfl hb2881 hO2881; simp only [List.set] at hS
            refine eseq_nil ?_
            refine hK2872 _ _ ?_
            refine e_seq fun K2882 hK2882 => ?_
            refine e_seq fun K2883 hK2883 => ?_
            refine e_region_draw mixed (fun _ => False) [0, 1, 3, 7, 15, 31, 63, 15, 15, 271, 911, 1935, 3983, 8191, 16383] [] [0, 1, 2, 3, 4, 5, 6, 7, 8, 9, 10, 11, 12, 13, 14] (by kernel_rfl) ?_
            refine q_field rfl rfl ?_
            refine q_load rfl (Blk.cell (hS.blk 0 rfl) rfl) rfl ?_
            refine q_eql rfl rfl rfl ?_
            refine q_move rfl rfl ?_
            obtain ⟨x2885, hx2884, ho2529⟩ := Option.of_bind ho2529
            refine g_andM 10 hx2884 rfl trivial rfl rfl ?_ ?_ ?_
            · intro hg2884 hx2884
              clear ho2529
              have hT2884 := Below.refl (World.heap w2881).size w2881
              refine g_run rfl ?_; refine q_field rfl rfl ?_
              refine g_run rfl ?_; refine q_field rfl rfl ?_
              refine g_run rfl ?_; refine q_load rfl (Blk.cell (hS.blk 0 rfl) rfl) rfl ?_
              refine g_run rfl ?_; refine q_move rfl rfl ?_
              refine g_run rfl ?_; refine q_field rfl rfl ?_
              refine g_run rfl ?_; refine q_load rfl (Blk.cell (hS.blk 0 rfl) rfl) rfl ?_
              obtain ⟨x2886, hx2886, hx2884⟩ := Option.of_bind hx2884
              have hax2886 := ati_nth (hS.famLen 2 rfl) hx2886
              refine g_run rfl ?_; refine q_indexO (T := Ty.raw) (by infer_instance) rfl (hS.own 1 rfl) rfl hax2886 rfl ?_
              refine g_run rfl ?_; refine q_load rfl (Elt.rawCell ((hS.own 1 rfl).elt hax2886)) rfl ?_
              refine g_run rfl ?_; refine q_lenS rfl (hS.famI 2 rfl hx2886) rfl ?_
              refine g_run rfl ?_; refine q_geq rfl rfl rfl ?_
              cases hx2884
              exact eseq_nil ⟨hT2884, Sub.set rfl (Sub.set rfl (Sub.set rfl (Sub.set rfl (Sub.set rfl (Sub.set rfl (Sub.set rfl (Sub.set rfl (Sub.set rfl (Sub.set rfl (Sub.bool true rfl hg2884)))))))))), rfl⟩
            · intro hg2884
              refine g_skip rfl rfl rfl ?_
              refine g_skip rfl rfl rfl ?_
              refine g_skip rfl rfl rfl ?_
              refine g_skip rfl rfl rfl ?_
              refine g_skip rfl rfl rfl ?_
              refine g_skip rfl rfl rfl ?_
              refine g_skip rfl rfl rfl ?_
              refine g_skip rfl rfl rfl ?_
              refine g_skip rfl rfl rfl ?_
              refine g_skip rfl rfl rfl ?_
              exact eseq_nil ⟨rfl, Sub.set rfl (Sub.set rfl (Sub.set rfl (Sub.set rfl (Sub.set rfl (Sub.set rfl (Sub.set rfl (Sub.set rfl (Sub.set rfl (Sub.set rfl (Sub.bool false rfl hg2884))))))))))⟩
            intro wm2884 hBm2884; clear hx2884
            replace hS := hS.below hBm2884
            replace f2743 := f2743.ext hBm2884
            refine eseq_nil ?_
            refine hK2883 _ _ ?_
            refine e_cond rfl (fun hc2887 => ?_) (fun hc2887 => ?_)
            · replace ho2529 := (if_pos hc2887).symm.trans ho2529
              refine e_exit ?_
              refine hK2863 _ _ ?_
              refine e_region_text rfl ?_
              refine q_move rfl rfl ?_
              refine q_addW rfl rfl rfl ?_
              refine q_assign rfl rfl ?_
              refine eseq_nil ?_
              obtain rfl := Option.some.inj ho2529
              exact ⟨m2529, _, Nat.lt_succ_self _, ⟨x2746, x2749, (w64 (x2750 + 1)), v2744, v2745, _, ht2529, (hS.pickB [1, 2] 3 rfl rfl), f2743, rfl⟩, Sub.cons rfl (Sub.cons rfl (Sub.cons rfl (Sub.cons rfl (Sub.nil _))))⟩
            · replace ho2529 := (if_neg (not_true hc2887)).symm.trans ho2529
              refine e_skip ?_
              refine hK2882 _ _ ?_
              refine e_seq fun K2888 hK2888 => ?_
              refine e_region_text rfl ?_
              refine q_move rfl rfl ?_
              refine q_move rfl rfl ?_
              obtain ⟨x2889, hx2889, ho2529⟩ := Option.of_bind ho2529
              have hax2889 := ati_nth (hS.famLen 2 rfl) hx2889
              refine q_indexO (T := Ty.raw) (by infer_instance) rfl (hS.own 1 rfl) rfl hax2889 rfl ?_
              refine q_load rfl (Elt.rawCell ((hS.own 1 rfl).elt hax2889)) rfl ?_
              refine q_move rfl rfl ?_
              refine q_subW rfl rfl rfl ?_
              obtain ⟨x2890, hx2890, ho2529⟩ := Option.of_bind ho2529
              refine q_indexO (by infer_instance) rfl (hS.famO 2 rfl hx2889) rfl hx2890 rfl ?_
              have f2891 := (hS.famOR 2 rfl hx2889).elt hx2890
              refine q_loadE rfl f2891 rfl (fun v2892 f2892 => ?_)
              replace hS := hS.nilOwn0 labTy 29
              obtain ⟨x2895, hx2895, ho2529⟩ := Option.of_bind ho2529
              refine q_catE (T := labTy) rfl rfl rfl rfl (hS.own 0 rfl) rfl f2892 hx2895 (Nat.zero_le _) rfl (fun h => by cases h) fun v2894 w2894 hw2894 hgr2894 hnw2894 => ?_
              have hk2894 := hS.keptOwn 0 rfl hgr2894
              replace f2743 := f2743.kept hk2894
              replace f2892 := f2892.kept hk2894
              replace hS := hS.setOwn 0 rfl hw2894 hgr2894 hnw2894; simp only [List.set] at hS
              refine q_assign rfl rfl ?_
              refine eseq_nil ?_
              refine hK2888 _ _ ?_
              refine e_seq fun K2896 hK2896 => ?_
              refine e_region_text rfl ?_
              refine q_move rfl rfl ?_
              refine q_move rfl rfl ?_
              refine q_field rfl rfl ?_
              refine q_load rfl (Blk.cell (hS.blk 1 rfl) rfl) rfl ?_
              refine q_move rfl rfl ?_
              refine q_build (Parts.cons rfl rfl (Parts.cons rfl rfl Parts.nil)) rfl rfl ?_
              obtain ⟨x2897, hx2897, ho2529⟩ := Option.of_bind ho2529
              refine q_indexO (by infer_instance) rfl (hS.own 0 rfl) rfl hx2897 rfl ?_
              obtain ⟨x2899, hx2899, ho2529⟩ := Option.of_bind ho2529
              refine q_storeOA (T := labTy) (j := 0) rfl rfl (hS.own 0 rfl) hx2897 hx2899 rfl rfl (all_cons rfl (all_cons rfl (all_nil))) rfl (Enc.setNL rfl) fun w2898 ho2898 hO2898 => ?_
              have hk2898 := hS.keptO 0 rfl hx2897 hO2898
              replace f2743 := f2743.kept hk2898
              replace hS := hS.putO 0 rfl hx2897 ho2898 hO2898; simp only [List.set] at hS
              refine eseq_nil ?_
              refine hK2896 _ _ ?_
              refine e_seq fun K2900 hK2900 => ?_
              have hJ2900 : ∀ (x2917 : (List Lab)) (v2916 : Value) (R2910 : Nat → Prop) (w2911 : World) (E_ : Env), ref32_Track_J1 fuel x2746 x2750 x2917 = some o2529 → Sep F R R2910 w w2911 [HP.own Ty.raw (fun _ => False) 67 v2744 v2745, HP.famS (Ty.slice labTy) R2910 22 v2745 x2746, HP.own labTy (fun _ => False) 29 v2916 x2917] → IsSlice (Ty.slice evtTy) w2911 R2910 v1 a0 → Sub [(0, v1), (4, v2744), (7, .int .i64 x2750), (10, v2916)] E_ → K2900 E_ w2911 := by
                intro x2917 v2916 R2910 w2911 E_ ho2529 hS f2912 hsub
                refine hK2900 _ _ (e_sub hsub ?_); clear hsub
                unfold ref32_Track_J1 at ho2529
                refine e_region_text rfl ?_
                refine q_move rfl rfl ?_
                refine q_move rfl rfl ?_
                refine q_move rfl rfl ?_
                refine q_move rfl rfl ?_
                obtain ⟨x2918, hx2918, ho2529⟩ := Option.of_bind ho2529
                have hax2918 := ati_nth (hS.famLen 1 rfl) hx2918
                refine q_indexO (T := Ty.raw) (by infer_instance) rfl (hS.own 0 rfl) rfl hax2918 rfl ?_
                refine q_load rfl (Elt.rawCell ((hS.own 0 rfl).elt hax2918)) rfl ?_
                refine q_move rfl rfl ?_
                refine q_litO (T := Ty.raw) (S := (fun _ => False)) (cells := [[v2916]]) (ys := [v2916]) ((Parts.cons rfl (cells_one (hS.own 2 rfl).one) Parts.nil)) rfl rfl rfl rfl rfl rfl rfl (fun w1 hB => ⟨⟨rfl, (hS.own 2 rfl).one⟩, trivial⟩) (fun _ h => h.elim) rfl fun w2919 v2919 ho2919 hv2919 hB2919 => ?_
                replace f2912 := f2912.ext hB2919
                replace hS := hS.newOwnS hB2919 ho2919 hv2919 (fun _ h => h.elim)
                replace hS := hS.pickB [3, 0, 1, 2] 4 rfl rfl; simp only [List.map_cons, List.map_nil, List.getD_cons_zero, List.getD_cons_succ] at hS
                replace hS := hS.famOne
                replace hS := hS.pickB [1, 0, 2, 3] 4 rfl rfl; simp only [List.map_cons, List.map_nil, List.getD_cons_zero, List.getD_cons_succ] at hS
                obtain ⟨R2923, hS, hm2923⟩ := hS.rowsFreeze
                replace f2912 := f2912.mono fun k hk _ => hm2923 k hk
                replace hS := hS.famMono 2 rfl; simp only [List.set] at hS
                obtain ⟨x2925, hx2925, ho2529⟩ := Option.of_bind ho2529
                obtain ⟨x2926, hx2926, ho2529⟩ := Option.of_bind ho2529
                refine q_catOwn (T := (Ty.slice labTy)) rfl rfl rfl rfl (hS.famO 2 rfl hx2918) rfl (hS.own 0 rfl) (hS.famOff 2 rfl hx2918) hx2925 (Nat.zero_le _) rfl (fun h => by cases h) fun v2922 w2922 hw2922 hgr2922 hnw2922 => ?_
                have hk2922 := hS.famKeptM 2 rfl hx2918 hgr2922
                replace f2912 := f2912.kept hk2922
                replace hS := hS.famSetM 2 rfl hx2918 hx2926 hw2922 hgr2922 hnw2922; simp only [List.set] at hS
                obtain ⟨x2927, hx2927, ho2529⟩ := Option.of_bind ho2529
                have hax2927 := ati_nth (by simpa using hS.famLen 2 rfl) hx2927
                refine q_indexO (T := Ty.raw) (by infer_instance) rfl (hS.own 1 rfl) rfl hax2927 rfl ?_
                refine q_storeO (T := Ty.raw) (j := 0) rfl rfl (hS.own 1 rfl) hax2927 (seti_ok hax2927) rfl hw2922.one rfl (rawSet hw2922.one) fun w2928 ho2928 hO2928 => ?_
                have hk2928 := hS.keptO 1 rfl hax2927 hO2928
                replace f2912 := f2912.kept hk2928
                replace hS := hS.putO 1 rfl hax2927 ho2928 hO2928; simp only [List.set] at hS
                refine q_assign rfl rfl ?_
                refine eseq_nil ?_
                refine hK2863 _ _ ?_
                refine e_region_text rfl ?_
                refine q_move rfl rfl ?_
                refine q_addW rfl rfl rfl ?_
                refine q_assign rfl rfl ?_
                refine eseq_nil ?_
                obtain rfl := Option.some.inj ho2529
                exact ⟨m2529, _, Nat.lt_succ_self _, ⟨x2926, true, (w64 (x2750 + 1)), v2744, (v2745.set (x2750).toNat v2922), _, ht2529, (hS.pickB [1, 2] 3 rfl rfl), f2912, rfl⟩, Sub.cons rfl (Sub.cons rfl (Sub.cons rfl (Sub.cons rfl (Sub.nil _))))⟩
              refine e_seq fun K2929 hK2929 => ?_
              refine e_region_text rfl ?_
              refine q_field rfl rfl ?_
              refine q_load rfl (Blk.cell (hS.blk 1 rfl) rfl) rfl ?_
              refine q_eql rfl rfl rfl ?_
              refine eseq_nil ?_
              refine hK2929 _ _ ?_
              refine e_cond rfl (fun hc2930 => ?_) (fun hc2930 => ?_)
              · replace ho2529 := (if_pos hc2930).symm.trans ho2529
                refine e_region_draw mixed (fun _ => False) [0, 0, 0, 4, 14, 30, 0, 64, 192, 510, 1022, 2047, 4095] [] [0, 1, 2, 3, 4, 5, 6, 7, 8, 9, 10, 11, 12] (by kernel_rfl) ?_
                refine q_move rfl rfl ?_
                refine q_move rfl rfl ?_
                refine q_field rfl rfl ?_
                refine q_load rfl (Blk.cell (hS.blk 1 rfl) rfl) rfl ?_
                obtain ⟨x2931, hx2931, ho2529⟩ := Option.of_bind ho2529
                have hax2931 := ati_nth (hS.famLen 3 rfl) hx2931
                refine q_indexO (T := Ty.raw) (by infer_instance) rfl (hS.own 2 rfl) rfl hax2931 rfl ?_
                refine q_load rfl (Elt.rawCell ((hS.own 2 rfl).elt hax2931)) rfl ?_
                refine q_field rfl rfl ?_
                refine q_field rfl rfl ?_
                refine q_load rfl (Blk.cell (hS.blk 1 rfl) rfl) rfl ?_
                obtain ⟨x2932, hx2932, ho2529⟩ := Option.of_bind ho2529
                refine q_indexO (by infer_instance) rfl (hS.famO 3 rfl hx2931) rfl hx2932 rfl ?_
                have f2933 := (hS.famOR 3 rfl hx2931).elt hx2932
                refine q_loadE rfl f2933 rfl (fun v2934 f2934 => ?_)
                obtain ⟨r2936, hr2936, ho2529⟩ := Option.of_bind ho2529
                refine q_call rfl (ref32_Merge_w (Sep.all w2898) ((hS.isl 0 rfl)).old (f2934).old hr2936) rfl ?_
                rintro v2937 w2935 ⟨_, R2935, rfl, hC2935⟩
                have hB2935 : Below (World.heap w2898).size w2898 w2935 := hC2935.stepBF
                refine ⟨fun _ => .of_below hB2935, ?_⟩
                replace f2743 := f2743.ext hB2935
                replace f2934 := f2934.ext hB2935
                replace hS := hS.newOwnS hB2935 (hC2935.own 0 rfl) (hC2935.fresh 0 rfl) (fun _ h => h.elim)
                refine q_assign rfl rfl ?_
                refine eseq_nil ?_
                exact hJ2900 r2936 v2937 _ _ _ ho2529 (hS.pickB [3, 4, 0] 5 rfl rfl) f2743 (Sub.cons rfl (Sub.cons rfl (Sub.cons rfl (Sub.cons rfl (Sub.nil _)))))
              · replace ho2529 := (if_neg (not_true hc2930)).symm.trans ho2529
                refine e_skip ?_
                exact hJ2900 x2899 v2894 _ _ _ ho2529 (hS.pickB [2, 3, 0] 4 rfl rfl) f2743 (Sub.cons rfl (Sub.cons rfl (Sub.cons rfl (Sub.cons rfl (Sub.nil _)))))
        · replace ho2529 := (if_neg (not_true hc2862)).symm.trans ho2529
          refine e_exit ?_
          obtain rfl := Option.some.inj ho2529
          obtain rfl := Option.some.inj ht2529
          replace ho1571 : ref32_Track_K4 fuel x2746 x2749 = some o1571 := ho1571
          unfold ref32_Track_K4 at ho1571
          obtain rfl := Option.some.inj ho1571
          exact ⟨m1571, _, Nat.lt_succ_self _, ⟨x2746, x2749, v2744, v2745, _, ht1571, hS, f2743, rfl⟩, Sub.cons rfl (Sub.cons rfl (Sub.cons rfl (Sub.nil _)))⟩
      · replace ho1571 := (if_neg (not_true hc2526)).symm.trans ho1571
        refine e_exit ?_
        obtain rfl := Option.some.inj ho1571
        obtain rfl := Option.some.inj ht1571
        exact hX1571_2 x2014 v2012 v2013 _ _ _ h hS f2011 (Sub.cons rfl (Sub.cons rfl (Sub.nil _)))
    replace hS := hS.nilRows (Ty.slice labTy) 22 67
    refine e_loop (fun m_ E_ w1527 => ∃ (x1531 : (List (List (List Lab)))), ∃ (x1534 : Int), ∃ (v1529 : Value), ∃ (v1530 : List Value), ∃ (R1526 : Nat → Prop), iter (fun s => ref32_Track_B4 fuel a0 s.1 s.2) m_ (x1531, x1534) = some tl1494 ∧ Sep F R R1526 w w1527 [HP.own Ty.raw (fun _ => False) 67 v1529 v1530, HP.famS (Ty.slice labTy) R1526 22 v1530 x1531] ∧ IsSlice (Ty.slice evtTy) w1527 R1526 v1 a0 ∧ E_ = [(0, v1), (4, v1529), (5, .int .i64 x1534)]) _ ⟨_, ⟨([] : List (List (List Lab))), 0, (.slice none 0 0), ([] : List Value), _, ht1494, (hS.pickB [0, 1] 3 rfl rfl), f1, rfl⟩, Sub.cons rfl (Sub.cons rfl (Sub.cons rfl (Sub.nil _)))⟩ ?_
    clear ht1494 hS
    rintro m1494 _ w1527 ⟨x1531, x1534, v1529, v1530, R1526, ht1494, hS, f1528, rfl⟩
    obtain ⟨m1494, rfl, o1494, ho1494, ht1494⟩ := iter_some ht1494
    replace ho1494 : ref32_Track_B4 fuel a0 x1531 x1534 = some o1494 := ho1494
    unfold ref32_Track_B4 at ho1494
    refine e_seq fun K2940 hK2940 => ?_
    refine e_seq fun K2941 hK2941 => ?_
    refine e_region_text rfl ?_
    refine q_move rfl rfl ?_
    refine q_move rfl rfl ?_
    refine q_lenS rfl f1528 rfl ?_
    refine q_lss rfl rfl rfl ?_
    refine eseq_nil ?_
    refine hK2941 _ _ ?_
    refine e_cond rfl (fun hc2942 => ?_) (fun hc2942 => ?_)
    · replace ho1494 := (if_pos hc2942).symm.trans ho1494
      refine e_skip ?_
      refine hK2940 _ _ ?_
      refine e_seq fun K2943 hK2943 => ?_
      refine e_block ?_
      refine e_region_text rfl ?_
      refine q_move rfl rfl ?_
      refine q_move rfl rfl ?_
      refine q_lenS rfl f1528 rfl ?_
      obtain ⟨x2944, hx2944, ho1494⟩ := Option.of_bind ho1494
      refine q_makeO (T := labTy) (S := (fun _ => False)) rfl rfl rfl hx2944 (fun _ h => h.elim) rfl fun w2945 v2945 ho2945 hv2945 hB2945 => ?_
      replace f1528 := f1528.ext hB2945
      replace hS := hS.newOwnS hB2945 ho2945 hv2945 (fun _ h => h.elim)
      refine q_litO (T := Ty.raw) (S := (fun _ => False)) (cells := [[v2945]]) (ys := [v2945]) ((Parts.cons rfl (cells_one (hS.own 0 rfl).one) Parts.nil)) rfl rfl rfl rfl rfl rfl rfl (fun w1 hB => ⟨⟨rfl, (hS.own 0 rfl).one⟩, trivial⟩) (fun _ h => h.elim) rfl fun w2947 v2947 ho2947 hv2947 hB2947 => ?_
      replace f1528 := f1528.ext hB2947
      replace hS := hS.newOwnS hB2947 ho2947 hv2947 (fun _ h => h.elim)
      replace hS := hS.pickB [1, 0, 2, 3] 4 rfl rfl; simp only [List.map_cons, List.map_nil, List.getD_cons_zero, List.getD_cons_succ] at hS
      replace hS := hS.famOne
      replace hS := hS.pickB [1, 0, 2, 3] 4 rfl rfl; simp only [List.map_cons, List.map_nil, List.getD_cons_zero, List.getD_cons_succ] at hS
      obtain ⟨R2951, hS, hm2951⟩ := hS.rowsFreeze
      replace f1528 := f1528.mono fun k hk _ => hm2951 k hk
      refine q_litO (T := Ty.raw) (S := (fun _ => False)) (cells := [[v2947]]) (ys := [v2947]) ((Parts.cons rfl (cells_one (hS.own 0 rfl).one) Parts.nil)) rfl rfl rfl rfl rfl rfl rfl (fun w1 hB => ⟨⟨rfl, (hS.own 0 rfl).one⟩, trivial⟩) (fun _ h => h.elim) rfl fun w2950 v2950 ho2950 hv2950 hB2950 => ?_
      replace f1528 := f1528.ext hB2950
      replace hS := hS.newOwnS hB2950 ho2950 hv2950 (fun _ h => h.elim)
      replace hS := hS.pickB [1, 0, 2, 3] 4 rfl rfl; simp only [List.map_cons, List.map_nil, List.getD_cons_zero, List.getD_cons_succ] at hS
      replace hS := hS.famOne
      replace hS := hS.famMono 3 rfl; simp only [List.set] at hS
      obtain ⟨x2956, hx2956, ho1494⟩ := Option.of_bind ho1494
      obtain ⟨hcr2955, hce2955⟩ := catL_raw (hS.famLen 3 rfl) (hS.famLen 0 rfl) (snoc_cat hx2956)
      refine q_catOwn (T := Ty.raw) rfl rfl rfl rfl (hS.own 2 rfl) rfl (hS.own 1 rfl) (fun _ h _ => h.elim) hcr2955 (Nat.zero_le _) rfl (fun h => by cases h) fun v2955 w2955 hw2955 hgr2955 hnw2955 => ?_
      have hk2955 := hS.keptOwn 2 rfl hgr2955
      replace f1528 := f1528.kept hk2955
      replace hS := hS.setOwn 2 rfl hw2955 hgr2955 hnw2955; simp only [List.set] at hS
      replace hS := hS.pickB [3, 0, 1, 2] 4 rfl rfl; simp only [List.map_cons, List.map_nil, List.getD_cons_zero, List.getD_cons_succ] at hS
      replace hS := hS.famCat; rw [hce2955] at hS
      refine q_assign rfl rfl ?_
      refine eseq_nil ?_
      refine hK2943 _ _ ?_
      refine e_region_text rfl ?_
      refine q_move rfl rfl ?_
      refine q_addW rfl rfl rfl ?_
      refine q_assign rfl rfl ?_
      refine eseq_nil ?_
      obtain rfl := Option.some.inj ho1494
      exact ⟨m1494, _, Nat.lt_succ_self _, ⟨x2956, (w64 (x1534 + 1)), v2955, (v1530 ++ ([v2947])), _, ht1494, (hS.pickB [2, 0] 3 rfl rfl), f1528, rfl⟩, Sub.cons rfl (Sub.cons rfl (Sub.cons rfl (Sub.nil _)))⟩
    · replace ho1494 := (if_neg (not_true hc2942)).symm.trans ho1494
      refine e_exit ?_
      obtain rfl := Option.some.inj ho1494
      obtain rfl := Option.some.inj ht1494
      exact hX1494_0 x1531 v1529 v1530 _ _ _ h hS f1528 (Sub.cons rfl (Sub.cons rfl (Sub.nil _)))
theorem ref32_SameVectors_w {F R : Nat → Prop} {w : World} {fuel : Nat} {a0 : (List (List (List Lab)))} {a1 : (List (List (List Lab)))} {v1 : Value} {v2 : Value} {r : (Bool)} (hS : Sep F R R w w []) (f1 : IsSlice (Ty.slice (Ty.slice labTy)) w R v1 a0) (f2 : IsSlice (Ty.slice (Ty.slice labTy)) w R v2 a1) (h : ref32_SameVectors fuel a0 a1 = some r) :
    Gives Try.prog 33 [v1, v2] w fun u w1 => ∃ (R1 : Nat → Prop), u = .bool r ∧ Sep F R R1 w w1 [] := by
  refine fn_of Try.func33 rfl Try.ntmps33 (Nat.le_of_ble_eq_true rfl) ?_
  unfold ref32_SameVectors at h
  refine e_seq fun K367 hK367 => ?_
  refine e_region_text rfl ?_
  refine q_assign rfl rfl ?_
  refine eseq_nil ?_
  refine hK367 _ _ ?_
  refine e_seq fun K368 hK368 => ?_
  refine e_seq fun K369 hK369 => ?_
  refine e_region_text rfl ?_
  refine q_move rfl rfl ?_
  refine q_lenS rfl f1 rfl ?_
  refine q_move rfl rfl ?_
  refine q_lenS rfl f2 rfl ?_
  refine q_neq rfl rfl rfl ?_
  refine eseq_nil ?_
  refine hK369 _ _ ?_
  refine e_cond rfl (fun hc370 => ?_) (fun hc370 => ?_)
  · replace h := (if_pos hc370).symm.trans h
    refine e_seq fun K371 hK371 => ?_
    refine e_region_text rfl ?_
    refine q_assign rfl rfl ?_
    refine eseq_nil ?_
    refine hK371 _ _ ?_
    refine e_ret ?_
    obtain rfl := Option.some.inj h
    exact ⟨_, res1 rfl rfl, _, rfl, hS⟩
  · replace h := (if_neg (not_true hc370)).symm.trans h
    refine e_skip ?_
    refine hK368 _ _ ?_
    refine e_seq fun K372 hK372 => ?_
    refine e_seq fun K373 hK373 => ?_
    refine e_region_text rfl ?_
    refine q_assign rfl rfl ?_
    refine eseq_nil ?_
    refine hK373 _ _ ?_
    refine e_block ?_
    obtain ⟨tl374, ht374, h⟩ := Option.of_bind h
    have hX374_0 : ∀ (R616 : Nat → Prop) (w617 : World) (E_ : Env), ref32_SameVectors_K1 fuel = some r → Sep F R R616 w w617 [] → Sub [] E_ → K372 E_ w617 := by
      intro R616 w617 E_ h hS  hsub
      refine hK372 _ _ (e_sub hsub ?_); clear hsub
      unfold ref32_SameVectors_K1 at h
      refine e_seq fun K618 hK618 => ?_
      refine e_region_text rfl ?_
      refine q_assign rfl rfl ?_
      refine eseq_nil ?_
      refine hK618 _ _ ?_
      refine e_ret ?_
      obtain rfl := Option.some.inj h
      exact ⟨_, res1 rfl rfl, _, rfl, hS⟩
    refine e_loop (fun m_ E_ w496 => ∃ (x499 : Int), ∃ (R495 : Nat → Prop), iter (fun s => ref32_SameVectors_B1 fuel a0 a1 s) m_ x499 = some tl374 ∧ Sep F R R495 w w496 [] ∧ IsSlice (Ty.slice (Ty.slice labTy)) w496 R495 v1 a0 ∧ IsSlice (Ty.slice (Ty.slice labTy)) w496 R495 v2 a1 ∧ E_ = [(0, v1), (1, v2), (5, .int .i64 x499)]) _ ⟨_, ⟨0, _, ht374, hS, f1, f2, rfl⟩, Sub.cons rfl (Sub.cons rfl (Sub.cons rfl (Sub.nil _)))⟩ ?_
    clear ht374 hS
    rintro m374 _ w496 ⟨x499, R495, ht374, hS, f497, f498, rfl⟩
    obtain ⟨m374, rfl, o374, ho374, ht374⟩ := iter_some ht374
    replace ho374 : ref32_SameVectors_B1 fuel a0 a1 x499 = some o374 := ho374
    unfold ref32_SameVectors_B1 at ho374
    refine e_seq fun K619 hK619 => ?_
    refine e_seq fun K620 hK620 => ?_
    refine e_region_text rfl ?_
    refine q_move rfl rfl ?_
    refine q_move rfl rfl ?_
    refine q_lenS rfl f497 rfl ?_
    refine q_lss rfl rfl rfl ?_
    refine eseq_nil ?_
    refine hK620 _ _ ?_
    refine e_cond rfl (fun hc621 => ?_) (fun hc621 => ?_)
    · replace ho374 := (if_pos hc621).symm.trans ho374
      refine e_skip ?_
      refine hK619 _ _ ?_
      refine e_seq fun K622 hK622 => ?_
      refine e_block ?_
      refine e_seq fun K623 hK623 => ?_
      refine e_seq fun K624 hK624 => ?_
      refine e_region_draw mixed (fun _ => False) [0, 0, 3, 7, 15, 0, 0, 96, 224, 480, 1023] [] [0, 1, 2, 3, 4, 5, 6, 7, 8, 9, 10] (by kernel_rfl) ?_
      refine q_move rfl rfl ?_
      refine q_move rfl rfl ?_
      obtain ⟨x625, hx625, ho374⟩ := Option.of_bind ho374
      refine q_atS (by infer_instance) rfl f497 rfl hx625 rfl fun b626 o626 hm626 f626 => ?_
      refine q_loadE rfl f626 rfl (fun v627 f627 => ?_)
      refine q_lenS rfl f627 rfl ?_
      refine q_move rfl rfl ?_
      refine q_move rfl rfl ?_
      obtain ⟨x628, hx628, ho374⟩ := Option.of_bind ho374
      refine q_atS (by infer_instance) rfl f498 rfl hx628 rfl fun b629 o629 hm629 f629 => ?_
      refine q_loadE rfl f629 rfl (fun v630 f630 => ?_)
      refine q_lenS rfl f630 rfl ?_
      refine q_neq rfl rfl rfl ?_
      refine eseq_nil ?_
      refine hK624 _ _ ?_
      refine e_cond rfl (fun hc631 => ?_) (fun hc631 => ?_)
      · replace ho374 := (if_pos hc631).symm.trans ho374
        refine e_seq fun K632 hK632 => ?_
        refine e_region_text rfl ?_
        refine q_assign rfl rfl ?_
        refine eseq_nil ?_
        refine hK632 _ _ ?_
        refine e_ret ?_
        obtain rfl := Option.some.inj ho374
        obtain rfl := Option.some.inj ht374
        obtain rfl := Option.some.inj h
        exact ⟨_, res1 rfl rfl, _, rfl, hS⟩
      · replace ho374 := (if_neg (not_true hc631)).symm.trans ho374
        refine e_skip ?_
        refine hK623 _ _ ?_
        refine e_seq fun K633 hK633 => ?_
        refine e_region_text rfl ?_
        refine q_assign rfl rfl ?_
        refine eseq_nil ?_
        refine hK633 _ _ ?_
        refine e_block ?_
        obtain ⟨tl634, ht634, ho374⟩ := Option.of_bind ho374
        have hX634_2 : ∀ (R702 : Nat → Prop) (w703 : World) (E_ : Env), ref32_SameVectors_K2 fuel x499 = some o374 → Sep F R R702 w w703 [] → IsSlice (Ty.slice (Ty.slice labTy)) w703 R702 v1 a0 → IsSlice (Ty.slice (Ty.slice labTy)) w703 R702 v2 a1 → Sub [(0, v1), (1, v2), (5, .int .i64 x499)] E_ → K622 E_ w703 := by
          intro R702 w703 E_ ho374 hS f704 f705 hsub
          refine hK622 _ _ (e_sub hsub ?_); clear hsub
          unfold ref32_SameVectors_K2 at ho374
          refine e_region_text rfl ?_
          refine q_move rfl rfl ?_
          refine q_addW rfl rfl rfl ?_
          refine q_assign rfl rfl ?_
          refine eseq_nil ?_
          obtain rfl := Option.some.inj ho374
          exact ⟨m374, _, Nat.lt_succ_self _, ⟨(w64 (x499 + 1)), _, ht374, hS, f704, f705, rfl⟩, Sub.cons rfl (Sub.cons rfl (Sub.cons rfl (Sub.nil _)))⟩
        refine e_loop (fun m_ E_ w669 => ∃ (x672 : Int), ∃ (R668 : Nat → Prop), iter (fun s => ref32_SameVectors_B2 fuel a0 x499 a1 s) m_ x672 = some tl634 ∧ Sep F R R668 w w669 [] ∧ IsSlice (Ty.slice (Ty.slice labTy)) w669 R668 v1 a0 ∧ IsSlice (Ty.slice (Ty.slice labTy)) w669 R668 v2 a1 ∧ E_ = [(0, v1), (1, v2), (5, .int .i64 x499), (6, .int .i64 x672)]) _ ⟨_, ⟨0, _, ht634, hS, f497, f498, rfl⟩, Sub.cons rfl (Sub.cons rfl (Sub.cons rfl (Sub.cons rfl (Sub.nil _))))⟩ ?_
        clear ht634 hS
        rintro m634 _ w669 ⟨x672, R668, ht634, hS, f670, f671, rfl⟩
        obtain ⟨m634, rfl, o634, ho634, ht634⟩ := iter_some ht634
        replace ho634 : ref32_SameVectors_B2 fuel a0 x499 a1 x672 = some o634 := ho634
        unfold ref32_SameVectors_B2 at ho634
        refine e_seq fun K706 hK706 => ?_
        refine e_seq fun K707 hK707 => ?_
        refine e_region_text rfl ?_
        refine q_move rfl rfl ?_
        refine q_move rfl rfl ?_
        refine q_move rfl rfl ?_
        obtain ⟨x708, hx708, ho634⟩ := Option.of_bind ho634
        refine q_atS (by infer_instance) rfl f670 rfl hx708 rfl fun b709 o709 hm709 f709 => ?_
        refine q_loadE rfl f709 rfl (fun v710 f710 => ?_)
        refine q_lenS rfl f710 rfl ?_
        refine q_lss rfl rfl rfl ?_
        refine eseq_nil ?_
        refine hK707 _ _ ?_
        refine e_cond rfl (fun hc711 => ?_) (fun hc711 => ?_)
        · replace ho634 := (if_pos hc711).symm.trans ho634
          refine e_skip ?_
          refine hK706 _ _ ?_
          refine e_seq fun K712 hK712 => ?_
          refine e_block ?_
          refine e_seq fun K713 hK713 => ?_
          refine e_region_draw mixed (fun _ => False) [0, 0, 3, 7, 0, 31, 63, 0, 0, 384, 896, 0, 3968, 8064, 16383, 32767] [] [0, 1, 2, 3, 4, 5, 6, 7, 8, 9, 10, 11, 12, 13, 14, 15] (by kernel_rfl) ?_
          refine q_move rfl rfl ?_
          refine q_move rfl rfl ?_
          obtain ⟨x714, hx714, ho634⟩ := Option.of_bind ho634
          refine q_atS (by infer_instance) rfl f670 rfl hx714 rfl fun b715 o715 hm715 f715 => ?_
          refine q_loadE rfl f715 rfl (fun v716 f716 => ?_)
          refine q_move rfl rfl ?_
          obtain ⟨x717, hx717, ho634⟩ := Option.of_bind ho634
          refine q_atS (by infer_instance) rfl f716 rfl hx717 rfl fun b718 o718 hm718 f718 => ?_
          refine q_loadE rfl f718 rfl (fun v719 f719 => ?_)
          refine q_move rfl rfl ?_
          refine q_move rfl rfl ?_
          obtain ⟨x720, hx720, ho634⟩ := Option.of_bind ho634
          refine q_atS (by infer_instance) rfl f671 rfl hx720 rfl fun b721 o721 hm721 f721 => ?_
          refine q_loadE rfl f721 rfl (fun v722 f722 => ?_)
          refine q_move rfl rfl ?_
          obtain ⟨x723, hx723, ho634⟩ := Option.of_bind ho634
          refine q_atS (by infer_instance) rfl f722 rfl hx723 rfl fun b724 o724 hm724 f724 => ?_
          refine q_loadE rfl f724 rfl (fun v725 f725 => ?_)
          obtain ⟨r727, hr727, ho634⟩ := Option.of_bind ho634
          refine q_call rfl (ref32_SameLabels_w (Sep.enter (As := []) hS) f719 f725 hr727) rfl ?_
          rintro _ w726 ⟨R726, rfl, hC726⟩
          have hB726 : Below (World.heap w669).size w669 w726 := hC726.stepB0
          refine ⟨fun _ => .of_below hB726, ?_⟩
          replace f670 := (f670.ext hB726).mono fun k hk _ => hC726.ro0 k hk
          replace f671 := (f671.ext hB726).mono fun k hk _ => hC726.ro0 k hk
          replace f719 := (f719.ext hB726).mono fun k hk _ => hC726.ro0 k hk
          replace f725 := (f725.ext hB726).mono fun k hk _ => hC726.ro0 k hk
          replace hS := Sep.leave (As := []) hS hC726; simp only [List.cons_append, List.nil_append] at hS
          refine q_not rfl rfl ?_
          refine eseq_nil ?_
          refine hK713 _ _ ?_
          refine e_cond rfl (fun hc728 => ?_) (fun hc728 => ?_)
          · replace ho634 := (if_pos hc728).symm.trans ho634
            refine e_seq fun K729 hK729 => ?_
            refine e_region_text rfl ?_
            refine q_assign rfl rfl ?_
            refine eseq_nil ?_
            refine hK729 _ _ ?_
            refine e_ret ?_
            obtain rfl := Option.some.inj ho634
            obtain rfl := Option.some.inj ht634
            obtain rfl := Option.some.inj ho374
            obtain rfl := Option.some.inj ht374
            obtain rfl := Option.some.inj h
            exact ⟨_, res1 rfl rfl, _, rfl, hS⟩
          · replace ho634 := (if_neg (not_true hc728)).symm.trans ho634
            refine e_skip ?_
            refine hK712 _ _ ?_
            refine e_region_text rfl ?_
            refine q_move rfl rfl ?_
            refine q_addW rfl rfl rfl ?_
            refine q_assign rfl rfl ?_
            refine eseq_nil ?_
            obtain rfl := Option.some.inj ho634
            exact ⟨m634, _, Nat.lt_succ_self _, ⟨(w64 (x672 + 1)), _, ht634, hS, f670, f671, rfl⟩, Sub.cons rfl (Sub.cons rfl (Sub.cons rfl (Sub.cons rfl (Sub.nil _))))⟩
        · replace ho634 := (if_neg (not_true hc711)).symm.trans ho634
          refine e_exit ?_
          obtain rfl := Option.some.inj ho634
          obtain rfl := Option.some.inj ht634
          exact hX634_2  _ _ _ ho374 hS f670 f671 (Sub.cons rfl (Sub.cons rfl (Sub.cons rfl (Sub.nil _))))
    · replace ho374 := (if_neg (not_true hc621)).symm.trans ho374
      refine e_exit ?_
      obtain rfl := Option.some.inj ho374
      obtain rfl := Option.some.inj ht374
      exact hX374_0  _ _ _ h hS  (Sub.nil _)
theorem ref16_sameInts_w {F R : Nat → Prop} {w : World} {fuel : Nat} {a0 : (List Int)} {a1 : (List Int)} {v1 : Value} {v2 : Value} {r : (Bool)} (hS : Sep F R R w w []) (f1 : IsSlice Ty.int w R v1 a0) (f2 : IsSlice Ty.int w R v2 a1) (h : ref16_sameInts fuel a0 a1 = some r) :
    Gives Try.prog 60 [v1, v2] w fun u w1 => ∃ (R1 : Nat → Prop), u = .bool r ∧ Sep F R R1 w w1 [] := by
  refine fn_of Try.func60 rfl Try.ntmps60 (Nat.le_of_ble_eq_true rfl) ?_
  unfold ref16_sameInts at h
  refine e_seq fun K67 hK67 => ?_
  refine e_region_text rfl ?_
  refine q_assign rfl rfl ?_
  refine eseq_nil ?_
  refine hK67 _ _ ?_
  refine e_seq fun K68 hK68 => ?_
  refine e_seq fun K69 hK69 => ?_
  refine e_region_text rfl ?_
  refine q_move rfl rfl ?_
  refine q_lenS rfl f1 rfl ?_
  refine q_move rfl rfl ?_
  refine q_lenS rfl f2 rfl ?_
  refine q_neq rfl rfl rfl ?_
  refine eseq_nil ?_
  refine hK69 _ _ ?_
  refine e_cond rfl (fun hc70 => ?_) (fun hc70 => ?_)
  · replace h := (if_pos hc70).symm.trans h
    refine e_seq fun K71 hK71 => ?_
    refine e_region_text rfl ?_
    refine q_assign rfl rfl ?_
    refine eseq_nil ?_
    refine hK71 _ _ ?_
    refine e_ret ?_
    obtain rfl := Option.some.inj h
    exact ⟨_, res1 rfl rfl, _, rfl, hS⟩
  · replace h := (if_neg (not_true hc70)).symm.trans h
    refine e_skip ?_
    refine hK68 _ _ ?_
    refine e_seq fun K72 hK72 => ?_
    refine e_seq fun K73 hK73 => ?_
    refine e_region_text rfl ?_
    refine q_assign rfl rfl ?_
    refine eseq_nil ?_
    refine hK73 _ _ ?_
    refine e_block ?_
    obtain ⟨tl74, ht74, h⟩ := Option.of_bind h
    have hX74_0 : ∀ (R116 : Nat → Prop) (w117 : World) (E_ : Env), ref16_sameInts_K1 fuel = some r → Sep F R R116 w w117 [] → Sub [] E_ → K72 E_ w117 := by
      intro R116 w117 E_ h hS  hsub
      refine hK72 _ _ (e_sub hsub ?_); clear hsub
      unfold ref16_sameInts_K1 at h
      refine e_seq fun K118 hK118 => ?_
      refine e_region_text rfl ?_
      refine q_assign rfl rfl ?_
      refine eseq_nil ?_
      refine hK118 _ _ ?_
      refine e_ret ?_
      obtain rfl := Option.some.inj h
      exact ⟨_, res1 rfl rfl, _, rfl, hS⟩
    refine e_loop (fun m_ E_ w96 => ∃ (x99 : Int), ∃ (R95 : Nat → Prop), iter (fun s => ref16_sameInts_B1 fuel a0 a1 s) m_ x99 = some tl74 ∧ Sep F R R95 w w96 [] ∧ IsSlice Ty.int w96 R95 v1 a0 ∧ IsSlice Ty.int w96 R95 v2 a1 ∧ E_ = [(0, v1), (1, v2), (5, .int .i64 x99)]) _ ⟨_, ⟨0, _, ht74, hS, f1, f2, rfl⟩, Sub.cons rfl (Sub.cons rfl (Sub.cons rfl (Sub.nil _)))⟩ ?_
    clear ht74 hS
    rintro m74 _ w96 ⟨x99, R95, ht74, hS, f97, f98, rfl⟩
    obtain ⟨m74, rfl, o74, ho74, ht74⟩ := iter_some ht74
    replace ho74 : ref16_sameInts_B1 fuel a0 a1 x99 = some o74 := ho74
    unfold ref16_sameInts_B1 at ho74
    refine e_seq fun K119 hK119 => ?_
    refine e_seq fun K120 hK120 => ?_
    refine e_region_text rfl ?_
    refine q_move rfl rfl ?_
    refine q_move rfl rfl ?_
    refine q_lenS rfl f97 rfl ?_
    refine q_lss rfl rfl rfl ?_
    refine eseq_nil ?_
    refine hK120 _ _ ?_
    refine e_cond rfl (fun hc121 => ?_) (fun hc121 => ?_)
    · replace ho74 := (if_pos hc121).symm.trans ho74
      refine e_skip ?_
      refine hK119 _ _ ?_
      refine e_seq fun K122 hK122 => ?_
      refine e_block ?_
      refine e_seq fun K123 hK123 => ?_
      refine e_region_draw mixed (fun _ => False) [0, 0, 3, 7, 0, 0, 48, 112, 255] [] [0, 1, 2, 3, 4, 5, 6, 7, 8] (by kernel_rfl) ?_
      refine q_move rfl rfl ?_
      refine q_move rfl rfl ?_
      obtain ⟨x124, hx124, ho74⟩ := Option.of_bind ho74
      refine q_atS (by infer_instance) rfl f97 rfl hx124 rfl fun b125 o125 hm125 f125 => ?_
      refine q_load rfl (Elt.intCell f125) rfl ?_
      refine q_move rfl rfl ?_
      refine q_move rfl rfl ?_
      obtain ⟨x126, hx126, ho74⟩ := Option.of_bind ho74
      refine q_atS (by infer_instance) rfl f98 rfl hx126 rfl fun b127 o127 hm127 f127 => ?_
      refine q_load rfl (Elt.intCell f127) rfl ?_
      refine q_neq rfl rfl rfl ?_
      refine eseq_nil ?_
      refine hK123 _ _ ?_
      refine e_cond rfl (fun hc128 => ?_) (fun hc128 => ?_)
      · replace ho74 := (if_pos hc128).symm.trans ho74
        refine e_seq fun K129 hK129 => ?_
        refine e_region_text rfl ?_
        refine q_assign rfl rfl ?_
        refine eseq_nil ?_
        refine hK129 _ _ ?_
        refine e_ret ?_
        obtain rfl := Option.some.inj ho74
        obtain rfl := Option.some.inj ht74
        obtain rfl := Option.some.inj h
        exact ⟨_, res1 rfl rfl, _, rfl, hS⟩
      · replace ho74 := (if_neg (not_true hc128)).symm.trans ho74
        refine e_skip ?_
        refine hK122 _ _ ?_
        refine e_region_text rfl ?_
        refine q_move rfl rfl ?_
        refine q_addW rfl rfl rfl ?_
        refine q_assign rfl rfl ?_
        refine eseq_nil ?_
        obtain rfl := Option.some.inj ho74
        exact ⟨m74, _, Nat.lt_succ_self _, ⟨(w64 (x99 + 1)), _, ht74, hS, f97, f98, rfl⟩, Sub.cons rfl (Sub.cons rfl (Sub.cons rfl (Sub.nil _)))⟩
    · replace ho74 := (if_neg (not_true hc121)).symm.trans ho74
      refine e_exit ?_
      obtain rfl := Option.some.inj ho74
      obtain rfl := Option.some.inj ht74
      exact hX74_0  _ _ _ h hS  (Sub.nil _)
theorem ref16_Same_w {F R : Nat → Prop} {w : World} {fuel : Nat} {a0 : Pat} {a1 : Pat} {v1 : Value} {v2 : Value} {v3 : Value} {v4 : Value} {v5 : Value} {v6 : Value} {r : (Bool)} (hS : Sep F R R w w []) (f1 : IsSlice Ty.int w R v1 a0.lens) (f2 : IsSlice (Ty.slice Ty.int) w R v2 a0.ckpts) (f3 : IsSlice arcTy w R v3 a0.arcs) (f4 : IsSlice Ty.int w R v4 a1.lens) (f5 : IsSlice (Ty.slice Ty.int) w R v5 a1.ckpts) (f6 : IsSlice arcTy w R v6 a1.arcs) (h : ref16_Same fuel a0 a1 = some r) :
    Gives Try.prog 34 [.agg #[v1, v2, v3], .agg #[v4, v5, v6]] w fun u w1 => ∃ (R1 : Nat → Prop), u = .bool r ∧ Sep F R R1 w w1 [] := by
  refine fn_of Try.func34 rfl Try.ntmps34 (Nat.le_of_ble_eq_true rfl) ?_
  unfold ref16_Same at h
  refine e_seq fun K194 hK194 => ?_
  refine e_region_text rfl ?_
  refine q_boxB rfl rfl rfl fun w195 bl195 hg195 hb195 hB195 => ?_
  replace f1 := f1.ext hB195
  replace f2 := f2.ext hB195
  replace f3 := f3.ext hB195
  replace f4 := f4.ext hB195
  replace f5 := f5.ext hB195
  replace f6 := f6.ext hB195
  replace hS := hS.newBlk hB195 hg195 hb195
  refine q_boxB rfl rfl rfl fun w197 bl197 hg197 hb197 hB197 => ?_
  replace f4 := f4.ext hB197
  replace f5 := f5.ext hB197
  replace f6 := f6.ext hB197
  replace f1 := f1.ext hB197
  replace f2 := f2.ext hB197
  replace f3 := f3.ext hB197
  replace hS := hS.newBlk hB197 hg197 hb197
  refine q_assign rfl rfl ?_
  refine eseq_nil ?_
  refine hK194 _ _ ?_
  refine e_seq fun K199 hK199 => ?_
  refine e_seq fun K200 hK200 => ?_
  refine e_region_text rfl ?_
  refine q_field rfl rfl ?_
  refine q_load rfl (Blk.cell (hS.blk 1 rfl) rfl) rfl ?_
  refine q_field rfl rfl ?_
  refine q_load rfl (Blk.cell (hS.blk 0 rfl) rfl) rfl ?_
  obtain ⟨r202, hr202, h⟩ := Option.of_bind h
  refine q_call rfl (ref16_sameInts_w (Sep.enter (As := []) hS) f1 f4 hr202) rfl ?_
  rintro _ w201 ⟨R201, rfl, hC201⟩
  have hB201 : Below (World.heap w197).size w197 w201 := hC201.stepB0
  refine ⟨fun _ => .of_below hB201, ?_⟩
  replace f1 := (f1.ext hB201).mono fun k hk _ => hC201.ro0 k hk
  replace f2 := (f2.ext hB201).mono fun k hk _ => hC201.ro0 k hk
  replace f3 := (f3.ext hB201).mono fun k hk _ => hC201.ro0 k hk
  replace f4 := (f4.ext hB201).mono fun k hk _ => hC201.ro0 k hk
  replace f5 := (f5.ext hB201).mono fun k hk _ => hC201.ro0 k hk
  replace f6 := (f6.ext hB201).mono fun k hk _ => hC201.ro0 k hk
  replace hS := Sep.leave (As := []) hS hC201; simp only [List.cons_append, List.nil_append] at hS
  refine q_not rfl rfl ?_
  refine q_move rfl rfl ?_
  obtain ⟨x204, hx203, h⟩ := Option.of_bind h
  refine g_orM 7 hx203 rfl trivial rfl rfl ?_ ?_ ?_
  · intro hg203
    refine g_skip rfl rfl rfl ?_
    refine g_skip rfl rfl rfl ?_
    refine g_skip rfl rfl rfl ?_
    refine g_skip rfl rfl rfl ?_
    refine g_skip rfl rfl rfl ?_
    refine g_skip rfl rfl rfl ?_
    refine g_skip rfl rfl rfl ?_
    exact eseq_nil ⟨rfl, Sub.set rfl (Sub.set rfl (Sub.set rfl (Sub.set rfl (Sub.set rfl (Sub.set rfl (Sub.set rfl (Sub.bool true rfl hg203)))))))⟩
  · intro hg203 hx203
    clear h
    have hT203 := Below.refl (World.heap w201).size w201
    refine g_run rfl ?_; refine q_field rfl rfl ?_
    refine g_run rfl ?_; refine q_load rfl (Blk.cell (hS.blk 1 rfl) rfl) rfl ?_
    refine g_run rfl ?_; refine q_lenS rfl f2 rfl ?_
    refine g_run rfl ?_; refine q_field rfl rfl ?_
    refine g_run rfl ?_; refine q_load rfl (Blk.cell (hS.blk 0 rfl) rfl) rfl ?_
    refine g_run rfl ?_; refine q_lenS rfl f5 rfl ?_
    refine g_run rfl ?_; refine q_neq rfl rfl rfl ?_
    cases hx203
    exact eseq_nil ⟨hT203, Sub.set rfl (Sub.set rfl (Sub.set rfl (Sub.set rfl (Sub.set rfl (Sub.set rfl (Sub.set rfl (Sub.bool false rfl hg203))))))), rfl⟩
  intro wm203 hBm203; clear hx203
  replace hS := hS.below hBm203
  replace f1 := f1.ext hBm203
  replace f2 := f2.ext hBm203
  replace f3 := f3.ext hBm203
  replace f4 := f4.ext hBm203
  replace f5 := f5.ext hBm203
  replace f6 := f6.ext hBm203
  refine q_move rfl rfl ?_
  obtain ⟨x206, hx205, h⟩ := Option.of_bind h
  refine g_orM 7 hx205 rfl trivial rfl rfl ?_ ?_ ?_
  · intro hg205
    refine g_skip rfl rfl rfl ?_
    refine g_skip rfl rfl rfl ?_
    refine g_skip rfl rfl rfl ?_
    refine g_skip rfl rfl rfl ?_
    refine g_skip rfl rfl rfl ?_
    refine g_skip rfl rfl rfl ?_
    refine g_skip rfl rfl rfl ?_
    exact eseq_nil ⟨rfl, Sub.set rfl (Sub.set rfl (Sub.set rfl (Sub.set rfl (Sub.set rfl (Sub.set rfl (Sub.set rfl (Sub.bool true rfl hg205)))))))⟩
  · intro hg205 hx205
    clear h
    have hT205 := Below.refl (World.heap wm203).size wm203
    refine g_run rfl ?_; refine q_field rfl rfl ?_
    refine g_run rfl ?_; refine q_load rfl (Blk.cell (hS.blk 1 rfl) rfl) rfl ?_
    refine g_run rfl ?_; refine q_lenS rfl f3 rfl ?_
    refine g_run rfl ?_; refine q_field rfl rfl ?_
    refine g_run rfl ?_; refine q_load rfl (Blk.cell (hS.blk 0 rfl) rfl) rfl ?_
    refine g_run rfl ?_; refine q_lenS rfl f6 rfl ?_
    refine g_run rfl ?_; refine q_neq rfl rfl rfl ?_
    cases hx205
    exact eseq_nil ⟨hT205, Sub.set rfl (Sub.set rfl (Sub.set rfl (Sub.set rfl (Sub.set rfl (Sub.set rfl (Sub.set rfl (Sub.bool false rfl hg205))))))), rfl⟩
  intro wm205 hBm205; clear hx205
  replace hS := hS.below hBm205
  replace f1 := f1.ext hBm205
  replace f2 := f2.ext hBm205
  replace f3 := f3.ext hBm205
  replace f4 := f4.ext hBm205
  replace f5 := f5.ext hBm205
  replace f6 := f6.ext hBm205
  refine eseq_nil ?_
  refine hK200 _ _ ?_
  refine e_cond rfl (fun hc207 => ?_) (fun hc207 => ?_)
  · replace h := (if_pos hc207).symm.trans h
    refine e_seq fun K208 hK208 => ?_
    refine e_region_text rfl ?_
    refine q_assign rfl rfl ?_
    refine eseq_nil ?_
    refine hK208 _ _ ?_
    refine e_ret ?_
    obtain rfl := Option.some.inj h
    exact ⟨_, res1 rfl rfl, _, rfl, (hS.pickB [] 2 rfl rfl)⟩
  · replace h := (if_neg (not_true hc207)).symm.trans h
    refine e_skip ?_
    refine hK199 _ _ ?_
    refine e_seq fun K209 hK209 => ?_
    refine e_seq fun K210 hK210 => ?_
    refine e_region_text rfl ?_
    refine q_assign rfl rfl ?_
    refine eseq_nil ?_
    refine hK210 _ _ ?_
    refine e_block ?_
    obtain ⟨tl211, ht211, h⟩ := Option.of_bind h
    have hX211_0 : ∀ (R277 : Nat → Prop) (w278 : World) (E_ : Env), ref16_Same_K1 fuel a0 a1 = some r → Sep F R R277 w w278 [HP.blk bl195 [v1, v2, v3] 46, HP.blk bl197 [v4, v5, v6] 46] → IsSlice Ty.int w278 R277 v1 a0.lens → IsSlice (Ty.slice Ty.int) w278 R277 v2 a0.ckpts → IsSlice arcTy w278 R277 v3 a0.arcs → IsSlice Ty.int w278 R277 v4 a1.lens → IsSlice (Ty.slice Ty.int) w278 R277 v5 a1.ckpts → IsSlice arcTy w278 R277 v6 a1.arcs → Sub [(2, .pointer (some ⟨bl195, 0, none⟩)), (3, .pointer (some ⟨bl197, 0, none⟩))] E_ → K209 E_ w278 := by
      intro R277 w278 E_ h hS f279 f280 f281 f282 f283 f284 hsub
      refine hK209 _ _ (e_sub hsub ?_); clear hsub
      unfold ref16_Same_K1 at h
      refine e_seq fun K285 hK285 => ?_
      refine e_seq fun K286 hK286 => ?_
      refine e_region_text rfl ?_
      refine q_assign rfl rfl ?_
      refine eseq_nil ?_
      refine hK286 _ _ ?_
      refine e_block ?_
      obtain ⟨tl287, ht287, h⟩ := Option.of_bind h
      have hX287_2 : ∀ (R349 : Nat → Prop) (w350 : World) (E_ : Env), ref16_Same_K2 fuel = some r → Sep F R R349 w w350 [] → Sub [] E_ → K285 E_ w350 := by
        intro R349 w350 E_ h hS  hsub
        refine hK285 _ _ (e_sub hsub ?_); clear hsub
        unfold ref16_Same_K2 at h
        refine e_seq fun K351 hK351 => ?_
        refine e_region_text rfl ?_
        refine q_assign rfl rfl ?_
        refine eseq_nil ?_
        refine hK351 _ _ ?_
        refine e_ret ?_
        obtain rfl := Option.some.inj h
        exact ⟨_, res1 rfl rfl, _, rfl, hS⟩
      refine e_loop (fun m_ E_ w319 => ∃ (x326 : Int), ∃ (R318 : Nat → Prop), iter (fun s => ref16_Same_B1 fuel a0 a1 s) m_ x326 = some tl287 ∧ Sep F R R318 w w319 [HP.blk bl195 [v1, v2, v3] 46, HP.blk bl197 [v4, v5, v6] 46] ∧ IsSlice Ty.int w319 R318 v1 a0.lens ∧ IsSlice (Ty.slice Ty.int) w319 R318 v2 a0.ckpts ∧ IsSlice arcTy w319 R318 v3 a0.arcs ∧ IsSlice Ty.int w319 R318 v4 a1.lens ∧ IsSlice (Ty.slice Ty.int) w319 R318 v5 a1.ckpts ∧ IsSlice arcTy w319 R318 v6 a1.arcs ∧ E_ = [(2, .pointer (some ⟨bl195, 0, none⟩)), (3, .pointer (some ⟨bl197, 0, none⟩)), (6, .int .i64 x326)]) _ ⟨_, ⟨0, _, ht287, hS, f279, f280, f281, f282, f283, f284, rfl⟩, Sub.cons rfl (Sub.cons rfl (Sub.cons rfl (Sub.nil _)))⟩ ?_
      clear ht287 hS
      rintro m287 _ w319 ⟨x326, R318, ht287, hS, f320, f321, f322, f323, f324, f325, rfl⟩
      obtain ⟨m287, rfl, o287, ho287, ht287⟩ := iter_some ht287
      replace ho287 : ref16_Same_B1 fuel a0 a1 x326 = some o287 := ho287
      unfold ref16_Same_B1 at ho287
      refine e_seq fun K352 hK352 => ?_
      refine e_seq fun K353 hK353 => ?_
      refine e_region_text rfl ?_
      refine q_move rfl rfl ?_
      refine q_field rfl rfl ?_
      refine q_load rfl (Blk.cell (hS.blk 0 rfl) rfl) rfl ?_
      refine q_lenS rfl f322 rfl ?_
      refine q_lss rfl rfl rfl ?_
      refine eseq_nil ?_
      refine hK353 _ _ ?_
      refine e_cond rfl (fun hc354 => ?_) (fun hc354 => ?_)
      · replace ho287 := (if_pos hc354).symm.trans ho287
        refine e_skip ?_
        refine hK352 _ _ ?_
        refine e_seq fun K355 hK355 => ?_
        refine e_block ?_
        refine e_seq fun K356 hK356 => ?_
        refine e_region_draw mixed (fun _ => False) [0, 1, 0, 7, 15, 0, 32, 0, 224, 480, 1023] [] [0, 1, 2, 3, 4, 5, 6, 7, 8, 9, 10] (by kernel_rfl) ?_
        refine q_field rfl rfl ?_
        refine q_load rfl (Blk.cell (hS.blk 0 rfl) rfl) rfl ?_
        refine q_move rfl rfl ?_
        obtain ⟨x357, hx357, ho287⟩ := Option.of_bind ho287
        refine q_atS (by infer_instance) rfl f322 rfl hx357 rfl fun b358 o358 hm358 f358 => ?_
        have hc359 := Arc_open f358
        refine q_loadAgg rfl hc359 rfl rfl ?_
        refine q_field rfl rfl ?_
        refine q_load rfl (Blk.cell (hS.blk 1 rfl) rfl) rfl ?_
        refine q_move rfl rfl ?_
        obtain ⟨x360, hx360, ho287⟩ := Option.of_bind ho287
        refine q_atS (by infer_instance) rfl f325 rfl hx360 rfl fun b361 o361 hm361 f361 => ?_
        have hc362 := Arc_open f361
        refine q_loadAgg rfl hc362 rfl rfl ?_
        refine q_neqA eqT88 (by kernel_rfl) rfl rfl rfl ?_
        refine eseq_nil ?_
        refine hK356 _ _ ?_
        refine e_cond rfl (fun hc363 => ?_) (fun hc363 => ?_)
        · replace ho287 := (if_pos hc363).symm.trans ho287
          refine e_seq fun K364 hK364 => ?_
          refine e_region_text rfl ?_
          refine q_assign rfl rfl ?_
          refine eseq_nil ?_
          refine hK364 _ _ ?_
          refine e_ret ?_
          obtain rfl := Option.some.inj ho287
          obtain rfl := Option.some.inj ht287
          obtain rfl := Option.some.inj h
          exact ⟨_, res1 rfl rfl, _, rfl, (hS.pickB [] 2 rfl rfl)⟩
        · replace ho287 := (if_neg (not_true hc363)).symm.trans ho287
          refine e_skip ?_
          refine hK355 _ _ ?_
          refine e_region_text rfl ?_
          refine q_move rfl rfl ?_
          refine q_addW rfl rfl rfl ?_
          refine q_assign rfl rfl ?_
          refine eseq_nil ?_
          obtain rfl := Option.some.inj ho287
          exact ⟨m287, _, Nat.lt_succ_self _, ⟨(w64 (x326 + 1)), _, ht287, hS, f320, f321, f322, f323, f324, f325, rfl⟩, Sub.cons rfl (Sub.cons rfl (Sub.cons rfl (Sub.nil _)))⟩
      · replace ho287 := (if_neg (not_true hc354)).symm.trans ho287
        refine e_exit ?_
        obtain rfl := Option.some.inj ho287
        obtain rfl := Option.some.inj ht287
        exact hX287_2  _ _ _ h (hS.pickB [] 2 rfl rfl)  (Sub.nil _)
    refine e_loop (fun m_ E_ w245 => ∃ (x252 : Int), ∃ (R244 : Nat → Prop), iter (fun s => ref16_Same_B2 fuel a0 a1 s) m_ x252 = some tl211 ∧ Sep F R R244 w w245 [HP.blk bl195 [v1, v2, v3] 46, HP.blk bl197 [v4, v5, v6] 46] ∧ IsSlice Ty.int w245 R244 v1 a0.lens ∧ IsSlice (Ty.slice Ty.int) w245 R244 v2 a0.ckpts ∧ IsSlice arcTy w245 R244 v3 a0.arcs ∧ IsSlice Ty.int w245 R244 v4 a1.lens ∧ IsSlice (Ty.slice Ty.int) w245 R244 v5 a1.ckpts ∧ IsSlice arcTy w245 R244 v6 a1.arcs ∧ E_ = [(2, .pointer (some ⟨bl195, 0, none⟩)), (3, .pointer (some ⟨bl197, 0, none⟩)), (5, .int .i64 x252)]) _ ⟨_, ⟨0, _, ht211, (hS.pickB [1, 0] 2 rfl rfl), f1, f2, f3, f4, f5, f6, rfl⟩, Sub.cons rfl (Sub.cons rfl (Sub.cons rfl (Sub.nil _)))⟩ ?_
    clear ht211 hS
    rintro m211 _ w245 ⟨x252, R244, ht211, hS, f246, f247, f248, f249, f250, f251, rfl⟩
    obtain ⟨m211, rfl, o211, ho211, ht211⟩ := iter_some ht211
    replace ho211 : ref16_Same_B2 fuel a0 a1 x252 = some o211 := ho211
    unfold ref16_Same_B2 at ho211
    refine e_seq fun K365 hK365 => ?_
    refine e_seq fun K366 hK366 => ?_
    refine e_region_text rfl ?_
    refine q_move rfl rfl ?_
    refine q_field rfl rfl ?_
    refine q_load rfl (Blk.cell (hS.blk 0 rfl) rfl) rfl ?_
    refine q_lenS rfl f247 rfl ?_
    refine q_lss rfl rfl rfl ?_
    refine eseq_nil ?_
    refine hK366 _ _ ?_
    refine e_cond rfl (fun hc367 => ?_) (fun hc367 => ?_)
    · replace ho211 := (if_pos hc367).symm.trans ho211
      refine e_skip ?_
      refine hK365 _ _ ?_
      refine e_seq fun K368 hK368 => ?_
      refine e_block ?_
      refine e_seq fun K369 hK369 => ?_
      refine e_region_draw mixed (fun _ => False) [0, 1, 0, 7, 15, 0, 32, 0, 224, 480, 1023, 2047] [] [0, 1, 2, 3, 4, 5, 6, 7, 8, 9, 10, 11] (by kernel_rfl) ?_
      refine q_field rfl rfl ?_
      refine q_load rfl (Blk.cell (hS.blk 0 rfl) rfl) rfl ?_
      refine q_move rfl rfl ?_
      obtain ⟨x370, hx370, ho211⟩ := Option.of_bind ho211
      refine q_atS (by infer_instance) rfl f247 rfl hx370 rfl fun b371 o371 hm371 f371 => ?_
      refine q_loadE rfl f371 rfl (fun v372 f372 => ?_)
      refine q_field rfl rfl ?_
      refine q_load rfl (Blk.cell (hS.blk 1 rfl) rfl) rfl ?_
      refine q_move rfl rfl ?_
      obtain ⟨x373, hx373, ho211⟩ := Option.of_bind ho211
      refine q_atS (by infer_instance) rfl f250 rfl hx373 rfl fun b374 o374 hm374 f374 => ?_
      refine q_loadE rfl f374 rfl (fun v375 f375 => ?_)
      obtain ⟨r377, hr377, ho211⟩ := Option.of_bind ho211
      refine q_call rfl (ref16_sameInts_w (Sep.enter (As := []) hS) f372 f375 hr377) rfl ?_
      rintro _ w376 ⟨R376, rfl, hC376⟩
      have hB376 : Below (World.heap w245).size w245 w376 := hC376.stepB0
      refine ⟨fun _ => .of_below hB376, ?_⟩
      replace f246 := (f246.ext hB376).mono fun k hk _ => hC376.ro0 k hk
      replace f247 := (f247.ext hB376).mono fun k hk _ => hC376.ro0 k hk
      replace f248 := (f248.ext hB376).mono fun k hk _ => hC376.ro0 k hk
      replace f249 := (f249.ext hB376).mono fun k hk _ => hC376.ro0 k hk
      replace f250 := (f250.ext hB376).mono fun k hk _ => hC376.ro0 k hk
      replace f251 := (f251.ext hB376).mono fun k hk _ => hC376.ro0 k hk
      replace f372 := (f372.ext hB376).mono fun k hk _ => hC376.ro0 k hk
      replace f375 := (f375.ext hB376).mono fun k hk _ => hC376.ro0 k hk
      replace hS := Sep.leave (As := []) hS hC376; simp only [List.cons_append, List.nil_append] at hS
      refine q_not rfl rfl ?_
      refine eseq_nil ?_
      refine hK369 _ _ ?_
      refine e_cond rfl (fun hc378 => ?_) (fun hc378 => ?_)
      · replace ho211 := (if_pos hc378).symm.trans ho211
        refine e_seq fun K379 hK379 => ?_
        refine e_region_text rfl ?_
        refine q_assign rfl rfl ?_
        refine eseq_nil ?_
        refine hK379 _ _ ?_
        refine e_ret ?_
        obtain rfl := Option.some.inj ho211
        obtain rfl := Option.some.inj ht211
        obtain rfl := Option.some.inj h
        exact ⟨_, res1 rfl rfl, _, rfl, (hS.pickB [] 2 rfl rfl)⟩
      · replace ho211 := (if_neg (not_true hc378)).symm.trans ho211
        refine e_skip ?_
        refine hK368 _ _ ?_
        refine e_region_text rfl ?_
        refine q_move rfl rfl ?_
        refine q_addW rfl rfl rfl ?_
        refine q_assign rfl rfl ?_
        refine eseq_nil ?_
        obtain rfl := Option.some.inj ho211
        exact ⟨m211, _, Nat.lt_succ_self _, ⟨(w64 (x252 + 1)), _, ht211, hS, f246, f247, f248, f249, f250, f251, rfl⟩, Sub.cons rfl (Sub.cons rfl (Sub.cons rfl (Sub.nil _)))⟩
    · replace ho211 := (if_neg (not_true hc367)).symm.trans ho211
      refine e_exit ?_
      obtain rfl := Option.some.inj ho211
      obtain rfl := Option.some.inj ht211
      exact hX211_0  _ _ _ h hS f246 f247 f248 f249 f250 f251 (Sub.cons rfl (Sub.cons rfl (Sub.nil _)))
theorem orphan_Pattern_w {F R : Nat → Prop} {w : World} {fuel : Nat} {a0 : (List (List Evt))} {a1 : (List (List Int))} {v1 : Value} {v2 : Value} {r : (Pat × Bool)} (hS : Sep F R R w w []) (f1 : IsSlice (Ty.slice evtTy) w R v1 a0) (f2 : IsSlice (Ty.slice Ty.int) w R v2 a1) (h : orphan_Pattern fuel a0 a1 = some r) :
    Gives Try.prog 31 [v1, v2] w fun u w1 => ∃ (v444 : Value), ∃ (v445 : Value), ∃ (v446 : Value), ∃ (R1 : Nat → Prop), u = .tuple #[.agg #[v444, v445, v446], .bool r.2] ∧ Sep F R R1 w w1 [HP.own Ty.int (fun _ => False) 3 v444 r.1.lens, HP.own arcTy (fun _ => False) 88 v446 r.1.arcs] ∧ IsSlice (Ty.slice Ty.int) w1 R1 v445 r.1.ckpts := by
  refine fn_of Try.func31 rfl Try.ntmps31 (Nat.le_of_ble_eq_true rfl) ?_
  unfold orphan_Pattern at h
  refine e_seq fun K447 hK447 => ?_
  refine e_region_text rfl ?_
  refine q_allocB rfl fun w448 bl448 hg448 hb448 hB448 => ?_
  replace f1 := f1.ext hB448
  replace f2 := f2.ext hB448
  replace hS := hS.newBlk hB448 hg448 hb448
  refine q_assign rfl rfl ?_
  refine eseq_nil ?_
  refine hK447 _ _ ?_
  refine e_seq fun K450 hK450 => ?_
  refine e_seq fun K451 hK451 => ?_
  refine e_region_text rfl ?_
  refine q_move rfl rfl ?_
  refine q_move rfl rfl ?_
  obtain ⟨r453, hr453, h⟩ := Option.of_bind h
  refine q_call rfl (orphan_all_w (Sep.enter (As := []) hS) f1 hr453) rfl ?_
  rintro v454 w452 ⟨_, R452, rfl, hC452⟩
  have hB452 : Below (World.heap w448).size w448 w452 := hC452.stepB0
  refine ⟨fun _ => .of_below hB452, ?_⟩
  replace f1 := (f1.ext hB452).mono fun k hk _ => hC452.ro0 k hk
  replace f2 := (f2.ext hB452).mono fun k hk _ => hC452.ro0 k hk
  replace hS := Sep.leave (As := []) hS hC452; simp only [List.cons_append, List.nil_append] at hS
  obtain ⟨r456, hr456, h⟩ := Option.of_bind h
  refine q_call rfl (orphan_Consistent_w (Sep.all w452) (f1).old ((hS.isl 0 rfl)).old hr456) rfl ?_
  rintro _ w455 ⟨R455, rfl, hC455⟩
  have hB455 : Below (World.heap w452).size w452 w455 := hC455.stepBF
  refine ⟨fun _ => .of_below hB455, ?_⟩
  replace f1 := f1.ext hB455
  replace f2 := f2.ext hB455
  replace hS := hS.below hB455
  refine q_not rfl rfl ?_
  refine eseq_nil ?_
  refine hK451 _ _ ?_
  refine e_cond rfl (fun hc457 => ?_) (fun hc457 => ?_)
  · replace h := (if_pos hc457).symm.trans h
    refine e_seq fun K458 hK458 => ?_
    refine e_region_text rfl ?_
    refine q_build Parts.nil rfl rfl ?_
    refine q_storeAgg rfl rfl (hS.blk 1 rfl) rfl (Nat.le_of_ble_eq_true rfl) (all_cons rfl (all_cons rfl (all_cons rfl (all_nil)))) rfl rfl fun w459 hb459 hO459 => ?_
    simp only [setN, List.set, List.take, List.drop] at hb459
    have hk459 := hS.keptBlk 1 rfl hO459
    replace hS := hS.setBlk 1 rfl hb459 hO459; simp only [List.set] at hS
    refine q_assign rfl rfl ?_
    refine eseq_nil ?_
    refine hK458 _ _ ?_
    refine e_ret ?_
    replace hS := hS.nilOwn0 Ty.int 3
    replace hS := hS.nilOwn0 arcTy 88
    obtain rfl := Option.some.inj h
    exact ⟨_, resCT rfl rfl ((hS.blk 3 rfl).cellsAt 0 3 rfl) rfl rfl, (.slice none 0 0), (.slice none 0 0), (.slice none 0 0), _, rfl, (hS.pickB [1, 0] 4 rfl rfl), (IsSlice.nil _ _ _)⟩
  · replace h := (if_neg (not_true hc457)).symm.trans h
    refine e_skip ?_
    refine hK450 _ _ ?_
    refine e_seq fun K462 hK462 => ?_
    refine e_region_text rfl ?_
    refine q_move rfl rfl ?_
    obtain ⟨r464, hr464, h⟩ := Option.of_bind h
    refine q_call rfl (orphan_all_w (Sep.enter (As := []) hS) f1 hr464) rfl ?_
    rintro v465 w463 ⟨_, R463, rfl, hC463⟩
    have hB463 : Below (World.heap w455).size w455 w463 := hC463.stepB0
    refine ⟨fun _ => .of_below hB463, ?_⟩
    replace f1 := (f1.ext hB463).mono fun k hk _ => hC463.ro0 k hk
    replace f2 := (f2.ext hB463).mono fun k hk _ => hC463.ro0 k hk
    replace hS := Sep.leave (As := []) hS hC463; simp only [List.cons_append, List.nil_append] at hS
    refine q_move rfl rfl ?_
    refine q_build (Parts.cons rfl (cells_one (hS.own 0 rfl).one) (Parts.cons rfl (cells_one f2.one) Parts.nil)) rfl rfl ?_
    refine q_allocB rfl fun w466 bl466 hg466 hb466 hB466 => ?_
    replace f1 := f1.ext hB466
    replace f2 := f2.ext hB466
    replace hS := hS.newBlk hB466 hg466 hb466
    refine q_storeAgg rfl rfl (hS.blk 0 rfl) rfl (Nat.le_of_ble_eq_true rfl) (all_cons (hS.own 1 rfl).one (all_cons f2.one (all_cons rfl (all_nil)))) rfl rfl fun w468 hb468 hO468 => ?_
    simp only [setN, List.set, List.take, List.drop] at hb468
    have hk468 := hS.keptBlk 0 rfl hO468
    replace f1 := f1.kept hk468
    replace f2 := f2.kept hk468
    replace hS := hS.setBlk 0 rfl hb468 hO468; simp only [List.set] at hS
    refine eseq_nil ?_
    refine hK462 _ _ ?_
    refine e_seq fun K469 hK469 => ?_
    refine e_seq fun K470 hK470 => ?_
    refine e_region_text rfl ?_
    refine q_move rfl rfl ?_
    refine q_lenS rfl f1 rfl ?_
    refine q_move rfl rfl ?_
    refine eseq_nil ?_
    refine hK470 _ _ ?_
    refine e_block ?_
    obtain ⟨tl471, ht471, h⟩ := Option.of_bind h
    have hX471_0 : ∀ (x760 : (List Arc)) (v759 : Value) (R754 : Nat → Prop) (w755 : World) (E_ : Env), orphan_Pattern_K1 fuel r464 a1 x760 = some r → Sep F R R754 w w755 [HP.blk bl448 [.slice none 0 0, .slice none 0 0, .slice none 0 0] 46, HP.blk bl466 [v465, v2, v759] 46, HP.own Ty.int (fun _ => False) 3 v465 r464, HP.own arcTy (fun _ => False) 88 v759 x760] → IsSlice (Ty.slice Ty.int) w755 R754 v2 a1 → Sub [(4, .pointer (some ⟨bl448, 0, none⟩)), (6, .pointer (some ⟨bl466, 0, none⟩))] E_ → K469 E_ w755 := by
      intro x760 v759 R754 w755 E_ h hS f757 hsub
      refine hK469 _ _ (e_sub hsub ?_); clear hsub
      unfold orphan_Pattern_K1 at h
      refine e_seq fun K761 hK761 => ?_
      refine e_region_text rfl ?_
      refine q_loadAgg rfl (Blk.cellsAt (hS.blk 1 rfl) 0 3 rfl) rfl rfl ?_
      refine q_storeAgg rfl rfl (hS.blk 0 rfl) rfl (Nat.le_of_ble_eq_true rfl) (all_cons (hS.own 2 rfl).one (all_cons f757.one (all_cons (hS.own 3 rfl).one (all_nil)))) rfl rfl fun w762 hb762 hO762 => ?_
      simp only [setN, List.set, List.take, List.drop] at hb762
      have hk762 := hS.keptBlk 0 rfl hO762
      replace f757 := f757.kept hk762
      replace hS := hS.setBlk 0 rfl hb762 hO762; simp only [List.set] at hS
      refine q_assign rfl rfl ?_
      refine eseq_nil ?_
      refine hK761 _ _ ?_
      refine e_ret ?_
      obtain rfl := Option.some.inj h
      exact ⟨_, resCT rfl rfl ((hS.blk 0 rfl).cellsAt 0 3 rfl) rfl rfl, v465, v2, v759, _, rfl, (hS.pickB [2, 3] 4 rfl rfl), f757⟩
    replace hS := hS.nilOwn0 arcTy 88
    refine e_loop (fun m_ E_ w612 => ∃ (x617 : (List Arc)), ∃ (x619 : Int), ∃ (v616 : Value), ∃ (R611 : Nat → Prop), iter (fun s => orphan_Pattern_B1 fuel a0 s.1 s.2) m_ (x617, x619) = some tl471 ∧ Sep F R R611 w w612 [HP.blk bl448 [.slice none 0 0, .slice none 0 0, .slice none 0 0] 46, HP.blk bl466 [v465, v2, v616] 46, HP.own Ty.int (fun _ => False) 3 v465 r464, HP.own arcTy (fun _ => False) 88 v616 x617] ∧ IsSlice (Ty.slice Ty.int) w612 R611 v2 a1 ∧ IsSlice (Ty.slice evtTy) w612 R611 v1 a0 ∧ E_ = [(4, .pointer (some ⟨bl448, 0, none⟩)), (6, .pointer (some ⟨bl466, 0, none⟩)), (21, v1), (22, .int .i64 (a0.length : Int)), (23, .int .i64 x619)]) _ ⟨_, ⟨([] : List Arc), 0, (.slice none 0 0), _, ht471, (hS.pickB [4, 1, 2, 0] 5 rfl rfl), f2, f1, rfl⟩, Sub.cons rfl (Sub.cons rfl (Sub.cons rfl (Sub.cons rfl (Sub.cons rfl (Sub.nil _)))))⟩ ?_
    clear ht471 hS
    rintro m471 _ w612 ⟨x617, x619, v616, R611, ht471, hS, f614, f618, rfl⟩
    obtain ⟨m471, rfl, o471, ho471, ht471⟩ := iter_some ht471
    replace ho471 : orphan_Pattern_B1 fuel a0 x617 x619 = some o471 := ho471
    unfold orphan_Pattern_B1 at ho471
    refine e_seq fun K764 hK764 => ?_
    refine e_region_text rfl ?_
    refine q_lss rfl rfl rfl ?_
    refine eseq_nil ?_
    refine hK764 _ _ ?_
    refine e_seq fun K765 hK765 => ?_
    refine e_cond rfl (fun hc766 => ?_) (fun hc766 => ?_)
    · replace ho471 := (if_pos hc766).symm.trans ho471
      refine e_skip ?_
      refine hK765 _ _ ?_
      refine e_seq fun K767 hK767 => ?_
      refine e_block ?_
      refine e_seq fun K768 hK768 => ?_
      refine e_region_text rfl ?_
      refine q_move rfl rfl ?_
      obtain ⟨x769, hx769, ho471⟩ := Option.of_bind ho471
      refine q_atS (by infer_instance) rfl f618 rfl hx769 rfl fun b770 o770 hm770 f770 => ?_
      refine q_loadE rfl f770 rfl (fun v771 f771 => ?_)
      refine q_assign rfl rfl ?_
      refine q_assign rfl rfl ?_
      refine eseq_nil ?_
      refine hK768 _ _ ?_
      refine e_seq fun K772 hK772 => ?_
      refine e_region_text rfl ?_
      refine q_move rfl rfl ?_
      refine q_lenS rfl f771 rfl ?_
      refine q_move rfl rfl ?_
      refine eseq_nil ?_
      refine hK772 _ _ ?_
      refine e_block ?_
      obtain ⟨tl773, ht773, ho471⟩ := Option.of_bind ho471
      have hX773_2 : ∀ (x869 : (List Arc)) (v868 : Value) (R863 : Nat → Prop) (w864 : World) (E_ : Env), orphan_Pattern_K2 fuel x619 x869 = some o471 → Sep F R R863 w w864 [HP.blk bl448 [.slice none 0 0, .slice none 0 0, .slice none 0 0] 46, HP.blk bl466 [v465, v2, v868] 46, HP.own Ty.int (fun _ => False) 3 v465 r464, HP.own arcTy (fun _ => False) 88 v868 x869] → IsSlice (Ty.slice Ty.int) w864 R863 v2 a1 → IsSlice (Ty.slice evtTy) w864 R863 v1 a0 → Sub [(4, .pointer (some ⟨bl448, 0, none⟩)), (6, .pointer (some ⟨bl466, 0, none⟩)), (21, v1), (22, .int .i64 (a0.length : Int)), (23, .int .i64 x619)] E_ → K767 E_ w864 := by
        intro x869 v868 R863 w864 E_ ho471 hS f866 f870 hsub
        refine hK767 _ _ (e_sub hsub ?_); clear hsub
        unfold orphan_Pattern_K2 at ho471
        refine e_region_text rfl ?_
        refine q_addW rfl rfl rfl ?_
        refine q_move rfl rfl ?_
        refine eseq_nil ?_
        obtain rfl := Option.some.inj ho471
        exact ⟨m471, _, Nat.lt_succ_self _, ⟨x869, (w64 (x619 + 1)), v868, _, ht471, hS, f866, f870, rfl⟩, Sub.cons rfl (Sub.cons rfl (Sub.cons rfl (Sub.cons rfl (Sub.cons rfl (Sub.nil _)))))⟩
      refine e_loop (fun m_ E_ w818 => ∃ (x823 : (List Arc)), ∃ (x826 : Int), ∃ (v822 : Value), ∃ (R817 : Nat → Prop), iter (fun s => orphan_Pattern_B2 fuel x769 x619 s.1 s.2) m_ (x823, x826) = some tl773 ∧ Sep F R R817 w w818 [HP.blk bl448 [.slice none 0 0, .slice none 0 0, .slice none 0 0] 46, HP.blk bl466 [v465, v2, v822] 46, HP.own Ty.int (fun _ => False) 3 v465 r464, HP.own arcTy (fun _ => False) 88 v822 x823] ∧ IsSlice (Ty.slice Ty.int) w818 R817 v2 a1 ∧ IsSlice (Ty.slice evtTy) w818 R817 v1 a0 ∧ IsSlice evtTy w818 R817 v771 x769 ∧ E_ = [(4, .pointer (some ⟨bl448, 0, none⟩)), (6, .pointer (some ⟨bl466, 0, none⟩)), (7, .int .i64 x619), (21, v1), (22, .int .i64 (a0.length : Int)), (23, .int .i64 x619), (28, v771), (29, .int .i64 (x769.length : Int)), (30, .int .i64 x826)]) _ ⟨_, ⟨x617, 0, v616, _, ht773, hS, f614, f618, f771, rfl⟩, Sub.cons rfl (Sub.cons rfl (Sub.cons rfl (Sub.cons rfl (Sub.cons rfl (Sub.cons rfl (Sub.cons rfl (Sub.cons rfl (Sub.cons rfl (Sub.nil _)))))))))⟩ ?_
      clear ht773 hS
      rintro m773 _ w818 ⟨x823, x826, v822, R817, ht773, hS, f820, f824, f825, rfl⟩
      obtain ⟨m773, rfl, o773, ho773, ht773⟩ := iter_some ht773
      replace ho773 : orphan_Pattern_B2 fuel x769 x619 x823 x826 = some o773 := ho773
      unfold orphan_Pattern_B2 at ho773
      refine e_seq fun K871 hK871 => ?_
      refine e_region_text rfl ?_
      refine q_lss rfl rfl rfl ?_
      refine eseq_nil ?_
      refine hK871 _ _ ?_
      refine e_seq fun K872 hK872 => ?_
      refine e_cond rfl (fun hc873 => ?_) (fun hc873 => ?_)
      · replace ho773 := (if_pos hc873).symm.trans ho773
        refine e_skip ?_
        refine hK872 _ _ ?_
        refine e_seq fun K874 hK874 => ?_
        refine e_block ?_
        refine e_seq fun K875 hK875 => ?_
        refine e_region_text rfl ?_
        refine q_move rfl rfl ?_
        obtain ⟨x876, hx876, ho773⟩ := Option.of_bind ho773
        refine q_atS (by infer_instance) rfl f825 rfl hx876 rfl fun b877 o877 hm877 f877 => ?_
        have hc878 := Evt_open f877
        refine q_loadAgg rfl hc878 rfl rfl ?_
        refine q_allocB rfl fun w879 bl879 hg879 hb879 hB879 => ?_
        replace f820 := f820.ext hB879
        replace f824 := f824.ext hB879
        replace f825 := f825.ext hB879
        replace hS := hS.newBlk hB879 hg879 hb879
        refine q_assign rfl rfl ?_
        refine q_storeAgg rfl rfl (hS.blk 0 rfl) rfl (Nat.le_of_ble_eq_true rfl) (all_cons rfl (all_cons rfl (all_cons rfl (all_cons rfl (all_cons rfl (all_cons rfl (all_cons rfl (all_nil)))))))) rfl rfl fun w881 hb881 hO881 => ?_
        simp only [setN, List.set, List.take, List.drop] at hb881
        have hk881 := hS.keptBlk 0 rfl hO881
        replace f820 := f820.kept hk881
        replace f824 := f824.kept hk881
        replace f825 := f825.kept hk881
        replace hS := hS.setBlk 0 rfl hb881 hO881; simp only [List.set] at hS
        refine eseq_nil ?_
        refine hK875 _ _ ?_
        refine e_seq fun K882 hK882 => ?_
        refine e_region_text rfl ?_
        refine q_field rfl rfl ?_
        refine q_load rfl (Blk.cell (hS.blk 0 rfl) rfl) rfl ?_
        refine q_eql rfl rfl rfl ?_
        refine eseq_nil ?_
        refine hK882 _ _ ?_
        refine e_cond rfl (fun hc883 => ?_) (fun hc883 => ?_)
        · replace ho773 := (if_pos hc883).symm.trans ho773
          refine e_region_text rfl ?_
          refine q_field rfl rfl ?_
          refine q_load rfl (Blk.cell (hS.blk 2 rfl) rfl) rfl ?_
          refine q_field rfl rfl ?_
          refine q_load rfl (Blk.cell (hS.blk 0 rfl) rfl) rfl ?_
          refine q_field rfl rfl ?_
          refine q_field rfl rfl ?_
          refine q_load rfl (Blk.cell (hS.blk 0 rfl) rfl) rfl ?_
          refine q_move rfl rfl ?_
          refine q_move rfl rfl ?_
          refine q_addW rfl rfl rfl ?_
          refine q_build (Parts.cons rfl rfl (Parts.cons rfl rfl (Parts.cons rfl rfl (Parts.cons rfl rfl Parts.nil)))) rfl rfl ?_
          refine q_litO (T := arcTy) (S := (fun _ => False)) (cells := [[.int .i64 x876.frm, .int .i64 x876.sent.index, .int .i64 x619, .int .i64 (w64 (x826 + 1))]]) (ys := [(⟨x876.frm, x876.sent.index, x619, w64 (x826 + 1)⟩ : Arc)]) ((Parts.cons rfl rfl Parts.nil)) rfl rfl rfl rfl rfl rfl rfl (fun w1 hB => ⟨⟨[_], _, rfl, rfl, ⟨[_], _, rfl, rfl, ⟨[_], _, rfl, rfl, rfl⟩⟩⟩, trivial⟩) (fun _ h => h.elim) rfl fun w884 v884 ho884 hv884 hB884 => ?_
          replace f820 := f820.ext hB884
          replace f824 := f824.ext hB884
          replace f825 := f825.ext hB884
          replace hS := hS.newOwnS hB884 ho884 hv884 (fun _ h => h.elim)
          obtain ⟨x887, hx887, ho773⟩ := Option.of_bind ho773
          refine q_catOwn (T := arcTy) rfl rfl rfl rfl (hS.own 5 rfl) rfl (hS.own 0 rfl) (fun _ h _ => h.elim) (snoc_cat hx887) (Nat.zero_le _) rfl (fun h => by cases h) fun v886 w886 hw886 hgr886 hnw886 => ?_
          have hk886 := hS.keptOwn 5 rfl hgr886
          replace f820 := f820.kept hk886
          replace f824 := f824.kept hk886
          replace f825 := f825.kept hk886
          replace hS := hS.setOwn 5 rfl hw886 hgr886 hnw886; simp only [List.set] at hS
          refine q_field rfl rfl ?_
          refine q_store rfl rfl (hS.blk 3 rfl) (Nat.le_of_ble_eq_true rfl) (hS.own 5 rfl).one rfl rfl fun w888 hb888 hO888 => ?_
          have hk888 := hS.keptBlk 3 rfl hO888
          replace f820 := f820.kept hk888
          replace f824 := f824.kept hk888
          replace f825 := f825.kept hk888
          replace hS := hS.setBlk 3 rfl hb888 hO888; simp only [List.set] at hS
          refine eseq_nil ?_
          refine hK874 _ _ ?_
          refine e_region_text rfl ?_
          refine q_addW rfl rfl rfl ?_
          refine q_move rfl rfl ?_
          refine eseq_nil ?_
          obtain rfl := Option.some.inj ho773
          exact ⟨m773, _, Nat.lt_succ_self _, ⟨x887, (w64 (x826 + 1)), v886, _, ht773, (hS.pickB [2, 3, 4, 5] 6 rfl rfl), f820, f824, f825, rfl⟩, Sub.cons rfl (Sub.cons rfl (Sub.cons rfl (Sub.cons rfl (Sub.cons rfl (Sub.cons rfl (Sub.cons rfl (Sub.cons rfl (Sub.cons rfl (Sub.nil _)))))))))⟩
        · replace ho773 := (if_neg (not_true hc883)).symm.trans ho773
          refine e_skip ?_
          refine hK874 _ _ ?_
          refine e_region_text rfl ?_
          refine q_addW rfl rfl rfl ?_
          refine q_move rfl rfl ?_
          refine eseq_nil ?_
          obtain rfl := Option.some.inj ho773
          exact ⟨m773, _, Nat.lt_succ_self _, ⟨x823, (w64 (x826 + 1)), v822, _, ht773, (hS.pickB [1, 2, 3, 4] 5 rfl rfl), f820, f824, f825, rfl⟩, Sub.cons rfl (Sub.cons rfl (Sub.cons rfl (Sub.cons rfl (Sub.cons rfl (Sub.cons rfl (Sub.cons rfl (Sub.cons rfl (Sub.cons rfl (Sub.nil _)))))))))⟩
      · replace ho773 := (if_neg (not_true hc873)).symm.trans ho773
        refine e_exit ?_
        obtain rfl := Option.some.inj ho773
        obtain rfl := Option.some.inj ht773
        exact hX773_2 x823 v822 _ _ _ ho471 hS f820 f824 (Sub.cons rfl (Sub.cons rfl (Sub.cons rfl (Sub.cons rfl (Sub.cons rfl (Sub.nil _))))))
    · replace ho471 := (if_neg (not_true hc766)).symm.trans ho471
      refine e_exit ?_
      obtain rfl := Option.some.inj ho471
      obtain rfl := Option.some.inj ht471
      exact hX471_0 x617 v616 _ _ _ h hS f614 (Sub.cons rfl (Sub.cons rfl (Sub.nil _)))
theorem ref32_Pattern_w {F R : Nat → Prop} {w : World} {fuel : Nat} {a0 : (List (List Evt))} {a1 : (List (List Int))} {v1 : Value} {v2 : Value} {r : (Pat × Bool)} (hS : Sep F R R w w []) (f1 : IsSlice (Ty.slice evtTy) w R v1 a0) (f2 : IsSlice (Ty.slice Ty.int) w R v2 a1) (h : ref32_Pattern fuel a0 a1 = some r) :
    Gives Try.prog 32 [v1, v2] w fun u w1 => ∃ (v634 : Value), ∃ (v635 : Value), ∃ (v636 : List Value), ∃ (v637 : Value), ∃ (R1 : Nat → Prop), u = .tuple #[.agg #[v634, v635, v637], .bool r.2] ∧ Sep F R R1 w w1 [HP.own Ty.int (fun _ => False) 3 v634 r.1.lens, HP.own Ty.raw (fun _ => False) 35 v635 v636, HP.famS Ty.int (fun _ => False) 3 v636 r.1.ckpts, HP.own arcTy (fun _ => False) 88 v637 r.1.arcs] := by
  refine fn_of Try.func32 rfl Try.ntmps32 (Nat.le_of_ble_eq_true rfl) ?_
  unfold ref32_Pattern at h
  refine e_seq fun K638 hK638 => ?_
  refine e_region_text rfl ?_
  refine q_allocB rfl fun w639 bl639 hg639 hb639 hB639 => ?_
  replace f1 := f1.ext hB639
  replace f2 := f2.ext hB639
  replace hS := hS.newBlk hB639 hg639 hb639
  refine q_assign rfl rfl ?_
  refine eseq_nil ?_
  refine hK638 _ _ ?_
  refine e_seq fun K641 hK641 => ?_
  refine e_seq fun K642 hK642 => ?_
  refine e_region_text rfl ?_
  refine q_move rfl rfl ?_
  refine q_move rfl rfl ?_
  obtain ⟨r644, hr644, h⟩ := Option.of_bind h
  refine q_call rfl (ref32_Full_w (Sep.enter (As := []) hS) f1 hr644) rfl ?_
  rintro v645 w643 ⟨_, R643, rfl, hC643⟩
  have hB643 : Below (World.heap w639).size w639 w643 := hC643.stepB0
  refine ⟨fun _ => .of_below hB643, ?_⟩
  replace f1 := (f1.ext hB643).mono fun k hk _ => hC643.ro0 k hk
  replace f2 := (f2.ext hB643).mono fun k hk _ => hC643.ro0 k hk
  replace hS := Sep.leave (As := []) hS hC643; simp only [List.cons_append, List.nil_append] at hS
  obtain ⟨r647, hr647, h⟩ := Option.of_bind h
  refine q_call rfl (ref32_Consistent_w (Sep.all w643) (f1).old ((hS.isl 0 rfl)).old hr647) rfl ?_
  rintro _ w646 ⟨R646, rfl, hC646⟩
  have hB646 : Below (World.heap w643).size w643 w646 := hC646.stepBF
  refine ⟨fun _ => .of_below hB646, ?_⟩
  replace f1 := f1.ext hB646
  replace f2 := f2.ext hB646
  replace hS := hS.below hB646
  refine q_not rfl rfl ?_
  refine eseq_nil ?_
  refine hK642 _ _ ?_
  refine e_cond rfl (fun hc648 => ?_) (fun hc648 => ?_)
  · replace h := (if_pos hc648).symm.trans h
    refine e_seq fun K649 hK649 => ?_
    refine e_region_text rfl ?_
    refine q_build Parts.nil rfl rfl ?_
    refine q_storeAgg rfl rfl (hS.blk 1 rfl) rfl (Nat.le_of_ble_eq_true rfl) (all_cons rfl (all_cons rfl (all_cons rfl (all_nil)))) rfl rfl fun w650 hb650 hO650 => ?_
    simp only [setN, List.set, List.take, List.drop] at hb650
    have hk650 := hS.keptBlk 1 rfl hO650
    replace hS := hS.setBlk 1 rfl hb650 hO650; simp only [List.set] at hS
    refine q_assign rfl rfl ?_
    refine eseq_nil ?_
    refine hK649 _ _ ?_
    refine e_ret ?_
    replace hS := hS.nilOwn0 Ty.int 3
    replace hS := hS.nilRows0 Ty.int 3 35
    replace hS := hS.nilOwn0 arcTy 88
    obtain rfl := Option.some.inj h
    exact ⟨_, resCT rfl rfl ((hS.blk 5 rfl).cellsAt 0 3 rfl) rfl rfl, (.slice none 0 0), (.slice none 0 0), ([] : List Value), (.slice none 0 0), _, rfl, (hS.pickB [3, 1, 2, 0] 6 rfl rfl)⟩
  · replace h := (if_neg (not_true hc648)).symm.trans h
    refine e_skip ?_
    refine hK641 _ _ ?_
    refine e_seq fun K655 hK655 => ?_
    refine e_region_text rfl ?_
    refine q_move rfl rfl ?_
    obtain ⟨r657, hr657, h⟩ := Option.of_bind h
    refine q_call rfl (ref32_Full_w (Sep.enter (As := []) hS) f1 hr657) rfl ?_
    rintro v658 w656 ⟨_, R656, rfl, hC656⟩
    have hB656 : Below (World.heap w646).size w646 w656 := hC656.stepB0
    refine ⟨fun _ => .of_below hB656, ?_⟩
    replace f1 := (f1.ext hB656).mono fun k hk _ => hC656.ro0 k hk
    replace f2 := (f2.ext hB656).mono fun k hk _ => hC656.ro0 k hk
    replace hS := Sep.leave (As := []) hS hC656; simp only [List.cons_append, List.nil_append] at hS
    refine q_build (Parts.cons rfl (cells_one (hS.own 0 rfl).one) Parts.nil) rfl rfl ?_
    refine q_allocB rfl fun w659 bl659 hg659 hb659 hB659 => ?_
    replace f1 := f1.ext hB659
    replace f2 := f2.ext hB659
    replace hS := hS.newBlk hB659 hg659 hb659
    refine q_storeAgg rfl rfl (hS.blk 0 rfl) rfl (Nat.le_of_ble_eq_true rfl) (all_cons (hS.own 1 rfl).one (all_cons rfl (all_cons rfl (all_nil)))) rfl rfl fun w661 hb661 hO661 => ?_
    simp only [setN, List.set, List.take, List.drop] at hb661
    have hk661 := hS.keptBlk 0 rfl hO661
    replace f1 := f1.kept hk661
    replace f2 := f2.kept hk661
    replace hS := hS.setBlk 0 rfl hb661 hO661; simp only [List.set] at hS
    refine eseq_nil ?_
    refine hK655 _ _ ?_
    refine e_seq fun K662 hK662 => ?_
    refine e_seq fun K663 hK663 => ?_
    refine e_region_text rfl ?_
    refine q_assign rfl rfl ?_
    refine eseq_nil ?_
    refine hK663 _ _ ?_
    refine e_block ?_
    obtain ⟨tl664, ht664, h⟩ := Option.of_bind h
    have hX664_0 : ∀ (x769 : (List (List Int))) (v767 : Value) (v768 : List Value) (R763 : Nat → Prop) (w764 : World) (E_ : Env), ref32_Pattern_K1 fuel a0 r657 x769 = some r → Sep F R R763 w w764 [HP.blk bl639 [.slice none 0 0, .slice none 0 0, .slice none 0 0] 46, HP.blk bl659 [v658, v767, .slice none 0 0] 46, HP.own Ty.int (fun _ => False) 3 v658 r657, HP.own Ty.raw (fun _ => False) 35 v767 v768, HP.famS Ty.int (fun _ => False) 3 v768 x769] → IsSlice (Ty.slice evtTy) w764 R763 v1 a0 → Sub [(0, v1), (4, .pointer (some ⟨bl639, 0, none⟩)), (6, .pointer (some ⟨bl659, 0, none⟩))] E_ → K662 E_ w764 := by
      intro x769 v767 v768 R763 w764 E_ h hS f765 hsub
      refine hK662 _ _ (e_sub hsub ?_); clear hsub
      unfold ref32_Pattern_K1 at h
      refine e_seq fun K772 hK772 => ?_
      refine e_seq fun K773 hK773 => ?_
      refine e_region_text rfl ?_
      refine q_assign rfl rfl ?_
      refine eseq_nil ?_
      refine hK773 _ _ ?_
      refine e_block ?_
      obtain ⟨tl774, ht774, h⟩ := Option.of_bind h
      have hX774_2 : ∀ (x1098 : (List Arc)) (v1097 : Value) (R1091 : Nat → Prop) (w1092 : World) (E_ : Env), ref32_Pattern_K2 fuel r657 x769 x1098 = some r → Sep F R R1091 w w1092 [HP.blk bl639 [.slice none 0 0, .slice none 0 0, .slice none 0 0] 46, HP.blk bl659 [v658, v767, v1097] 46, HP.own Ty.int (fun _ => False) 3 v658 r657, HP.own Ty.raw (fun _ => False) 35 v767 v768, HP.famS Ty.int (fun _ => False) 3 v768 x769, HP.own arcTy (fun _ => False) 88 v1097 x1098] → Sub [(4, .pointer (some ⟨bl639, 0, none⟩)), (6, .pointer (some ⟨bl659, 0, none⟩))] E_ → K772 E_ w1092 := by
        intro x1098 v1097 R1091 w1092 E_ h hS  hsub
        refine hK772 _ _ (e_sub hsub ?_); clear hsub
        unfold ref32_Pattern_K2 at h
        refine e_seq fun K1099 hK1099 => ?_
        refine e_region_text rfl ?_
        refine q_loadAgg rfl (Blk.cellsAt (hS.blk 1 rfl) 0 3 rfl) rfl rfl ?_
        refine q_storeAgg rfl rfl (hS.blk 0 rfl) rfl (Nat.le_of_ble_eq_true rfl) (all_cons (hS.own 2 rfl).one (all_cons (hS.own 3 rfl).one (all_cons (hS.own 5 rfl).one (all_nil)))) rfl rfl fun w1100 hb1100 hO1100 => ?_
        simp only [setN, List.set, List.take, List.drop] at hb1100
        have hk1100 := hS.keptBlk 0 rfl hO1100
        replace hS := hS.setBlk 0 rfl hb1100 hO1100; simp only [List.set] at hS
        refine q_assign rfl rfl ?_
        refine eseq_nil ?_
        refine hK1099 _ _ ?_
        refine e_ret ?_
        obtain rfl := Option.some.inj h
        exact ⟨_, resCT rfl rfl ((hS.blk 0 rfl).cellsAt 0 3 rfl) rfl rfl, v658, v767, v768, v1097, _, rfl, (hS.pickB [2, 3, 4, 5] 6 rfl rfl)⟩
      replace hS := hS.nilOwn0 arcTy 88
      refine e_loop (fun m_ E_ w932 => ∃ (x939 : (List Arc)), ∃ (x940 : Int), ∃ (v938 : Value), ∃ (R931 : Nat → Prop), iter (fun s => ref32_Pattern_B1 fuel a0 s.1 s.2) m_ (x939, x940) = some tl774 ∧ Sep F R R931 w w932 [HP.blk bl639 [.slice none 0 0, .slice none 0 0, .slice none 0 0] 46, HP.blk bl659 [v658, v767, v938] 46, HP.own Ty.int (fun _ => False) 3 v658 r657, HP.own Ty.raw (fun _ => False) 35 v767 v768, HP.famS Ty.int (fun _ => False) 3 v768 x769, HP.own arcTy (fun _ => False) 88 v938 x939] ∧ IsSlice (Ty.slice evtTy) w932 R931 v1 a0 ∧ E_ = [(0, v1), (4, .pointer (some ⟨bl639, 0, none⟩)), (6, .pointer (some ⟨bl659, 0, none⟩)), (8, .int .i64 x940)]) _ ⟨_, ⟨([] : List Arc), 0, (.slice none 0 0), _, ht774, (hS.pickB [1, 2, 3, 4, 5, 0] 6 rfl rfl), f765, rfl⟩, Sub.cons rfl (Sub.cons rfl (Sub.cons rfl (Sub.cons rfl (Sub.nil _))))⟩ ?_
      clear ht774 hS
      rintro m774 _ w932 ⟨x939, x940, v938, R931, ht774, hS, f933, rfl⟩
      obtain ⟨m774, rfl, o774, ho774, ht774⟩ := iter_some ht774
      replace ho774 : ref32_Pattern_B1 fuel a0 x939 x940 = some o774 := ho774
      unfold ref32_Pattern_B1 at ho774
      refine e_seq fun K1102 hK1102 => ?_
      refine e_seq fun K1103 hK1103 => ?_
      refine e_region_text rfl ?_
      refine q_move rfl rfl ?_
      refine q_move rfl rfl ?_
      refine q_lenS rfl f933 rfl ?_
      refine q_lss rfl rfl rfl ?_
      refine eseq_nil ?_
      refine hK1103 _ _ ?_
      refine e_cond rfl (fun hc1104 => ?_) (fun hc1104 => ?_)
      · replace ho774 := (if_pos hc1104).symm.trans ho774
        refine e_skip ?_
        refine hK1102 _ _ ?_
        refine e_seq fun K1105 hK1105 => ?_
        refine e_block ?_
        refine e_seq fun K1106 hK1106 => ?_
        refine e_region_text rfl ?_
        refine q_assign rfl rfl ?_
        refine eseq_nil ?_
        refine hK1106 _ _ ?_
        refine e_block ?_
        obtain ⟨tl1107, ht1107, ho774⟩ := Option.of_bind ho774
        have hX1107_4 : ∀ (x1217 : (List Arc)) (v1216 : Value) (R1209 : Nat → Prop) (w1210 : World) (E_ : Env), ref32_Pattern_K3 fuel x940 x1217 = some o774 → Sep F R R1209 w w1210 [HP.blk bl639 [.slice none 0 0, .slice none 0 0, .slice none 0 0] 46, HP.blk bl659 [v658, v767, v1216] 46, HP.own Ty.int (fun _ => False) 3 v658 r657, HP.own Ty.raw (fun _ => False) 35 v767 v768, HP.famS Ty.int (fun _ => False) 3 v768 x769, HP.own arcTy (fun _ => False) 88 v1216 x1217] → IsSlice (Ty.slice evtTy) w1210 R1209 v1 a0 → Sub [(0, v1), (4, .pointer (some ⟨bl639, 0, none⟩)), (6, .pointer (some ⟨bl659, 0, none⟩)), (8, .int .i64 x940)] E_ → K1105 E_ w1210 := by
          intro x1217 v1216 R1209 w1210 E_ ho774 hS f1211 hsub
          refine hK1105 _ _ (e_sub hsub ?_); clear hsub
          unfold ref32_Pattern_K3 at ho774
          refine e_region_text rfl ?_
          refine q_move rfl rfl ?_
          refine q_addW rfl rfl rfl ?_
          refine q_assign rfl rfl ?_
          refine eseq_nil ?_
          obtain rfl := Option.some.inj ho774
          exact ⟨m774, _, Nat.lt_succ_self _, ⟨x1217, (w64 (x940 + 1)), v1216, _, ht774, hS, f1211, rfl⟩, Sub.cons rfl (Sub.cons rfl (Sub.cons rfl (Sub.cons rfl (Sub.nil _))))⟩
        refine e_loop (fun m_ E_ w1158 => ∃ (x1165 : (List Arc)), ∃ (x1166 : Int), ∃ (v1164 : Value), ∃ (R1157 : Nat → Prop), iter (fun s => ref32_Pattern_B2 fuel a0 x940 s.1 s.2) m_ (x1165, x1166) = some tl1107 ∧ Sep F R R1157 w w1158 [HP.blk bl639 [.slice none 0 0, .slice none 0 0, .slice none 0 0] 46, HP.blk bl659 [v658, v767, v1164] 46, HP.own Ty.int (fun _ => False) 3 v658 r657, HP.own Ty.raw (fun _ => False) 35 v767 v768, HP.famS Ty.int (fun _ => False) 3 v768 x769, HP.own arcTy (fun _ => False) 88 v1164 x1165] ∧ IsSlice (Ty.slice evtTy) w1158 R1157 v1 a0 ∧ E_ = [(0, v1), (4, .pointer (some ⟨bl639, 0, none⟩)), (6, .pointer (some ⟨bl659, 0, none⟩)), (8, .int .i64 x940), (9, .int .i64 x1166)]) _ ⟨_, ⟨x939, 0, v938, _, ht1107, hS, f933, rfl⟩, Sub.cons rfl (Sub.cons rfl (Sub.cons rfl (Sub.cons rfl (Sub.cons rfl (Sub.nil _)))))⟩ ?_
        clear ht1107 hS
        rintro m1107 _ w1158 ⟨x1165, x1166, v1164, R1157, ht1107, hS, f1159, rfl⟩
        obtain ⟨m1107, rfl, o1107, ho1107, ht1107⟩ := iter_some ht1107
        replace ho1107 : ref32_Pattern_B2 fuel a0 x940 x1165 x1166 = some o1107 := ho1107
        unfold ref32_Pattern_B2 at ho1107
        refine e_seq fun K1218 hK1218 => ?_
        refine e_seq fun K1219 hK1219 => ?_
        refine e_region_text rfl ?_
        refine q_move rfl rfl ?_
        refine q_move rfl rfl ?_
        refine q_move rfl rfl ?_
        obtain ⟨x1220, hx1220, ho1107⟩ := Option.of_bind ho1107
        refine q_atS (by infer_instance) rfl f1159 rfl hx1220 rfl fun b1221 o1221 hm1221 f1221 => ?_
        refine q_loadE rfl f1221 rfl (fun v1222 f1222 => ?_)
        refine q_lenS rfl f1222 rfl ?_
        refine q_lss rfl rfl rfl ?_
        refine eseq_nil ?_
        refine hK1219 _ _ ?_
        refine e_cond rfl (fun hc1223 => ?_) (fun hc1223 => ?_)
        · replace ho1107 := (if_pos hc1223).symm.trans ho1107
          refine e_skip ?_
          refine hK1218 _ _ ?_
          refine e_seq fun K1224 hK1224 => ?_
          refine e_block ?_
          refine e_seq fun K1225 hK1225 => ?_
          refine e_region_text rfl ?_
          refine q_move rfl rfl ?_
          refine q_move rfl rfl ?_
          obtain ⟨x1226, hx1226, ho1107⟩ := Option.of_bind ho1107
          refine q_atS (by infer_instance) rfl f1159 rfl hx1226 rfl fun b1227 o1227 hm1227 f1227 => ?_
          refine q_loadE rfl f1227 rfl (fun v1228 f1228 => ?_)
          refine q_move rfl rfl ?_
          obtain ⟨x1229, hx1229, ho1107⟩ := Option.of_bind ho1107
          refine q_atS (by infer_instance) rfl f1228 rfl hx1229 rfl fun b1230 o1230 hm1230 f1230 => ?_
          have hc1231 := Evt_open f1230
          refine q_loadAgg rfl hc1231 rfl rfl ?_
          refine q_allocB rfl fun w1232 bl1232 hg1232 hb1232 hB1232 => ?_
          replace f1159 := f1159.ext hB1232
          replace hS := hS.newBlk hB1232 hg1232 hb1232
          refine q_storeAgg rfl rfl (hS.blk 0 rfl) rfl (Nat.le_of_ble_eq_true rfl) (all_cons rfl (all_cons rfl (all_cons rfl (all_cons rfl (all_cons rfl (all_cons rfl (all_cons rfl (all_nil)))))))) rfl rfl fun w1234 hb1234 hO1234 => ?_
          simp only [setN, List.set, List.take, List.drop] at hb1234
          have hk1234 := hS.keptBlk 0 rfl hO1234
          replace f1159 := f1159.kept hk1234
          replace hS := hS.setBlk 0 rfl hb1234 hO1234; simp only [List.set] at hS
          refine eseq_nil ?_
          refine hK1225 _ _ ?_
          refine e_seq fun K1235 hK1235 => ?_
          refine e_region_text rfl ?_
          refine q_field rfl rfl ?_
          refine q_load rfl (Blk.cell (hS.blk 0 rfl) rfl) rfl ?_
          refine q_eql rfl rfl rfl ?_
          refine eseq_nil ?_
          refine hK1235 _ _ ?_
          refine e_cond rfl (fun hc1236 => ?_) (fun hc1236 => ?_)
          · replace ho1107 := (if_pos hc1236).symm.trans ho1107
            refine e_region_text rfl ?_
            refine q_field rfl rfl ?_
            refine q_load rfl (Blk.cell (hS.blk 2 rfl) rfl) rfl ?_
            refine q_field rfl rfl ?_
            refine q_load rfl (Blk.cell (hS.blk 0 rfl) rfl) rfl ?_
            refine q_field rfl rfl ?_
            refine q_field rfl rfl ?_
            refine q_load rfl (Blk.cell (hS.blk 0 rfl) rfl) rfl ?_
            refine q_move rfl rfl ?_
            refine q_move rfl rfl ?_
            refine q_addW rfl rfl rfl ?_
            refine q_build (Parts.cons rfl rfl (Parts.cons rfl rfl (Parts.cons rfl rfl (Parts.cons rfl rfl Parts.nil)))) rfl rfl ?_
            refine q_litO (T := arcTy) (S := (fun _ => False)) (cells := [[.int .i64 x1229.frm, .int .i64 x1229.sent.index, .int .i64 x940, .int .i64 (w64 (x1166 + 1))]]) (ys := [(⟨x1229.frm, x1229.sent.index, x940, w64 (x1166 + 1)⟩ : Arc)]) ((Parts.cons rfl rfl Parts.nil)) rfl rfl rfl rfl rfl rfl rfl (fun w1 hB => ⟨⟨[_], _, rfl, rfl, ⟨[_], _, rfl, rfl, ⟨[_], _, rfl, rfl, rfl⟩⟩⟩, trivial⟩) (fun _ h => h.elim) rfl fun w1237 v1237 ho1237 hv1237 hB1237 => ?_
            replace f1159 := f1159.ext hB1237
            replace hS := hS.newOwnS hB1237 ho1237 hv1237 (fun _ h => h.elim)
            obtain ⟨x1240, hx1240, ho1107⟩ := Option.of_bind ho1107
            refine q_catOwn (T := arcTy) rfl rfl rfl rfl (hS.own 7 rfl) rfl (hS.own 0 rfl) (fun _ h _ => h.elim) (snoc_cat hx1240) (Nat.zero_le _) rfl (fun h => by cases h) fun v1239 w1239 hw1239 hgr1239 hnw1239 => ?_
            have hk1239 := hS.keptOwn 7 rfl hgr1239
            replace f1159 := f1159.kept hk1239
            replace hS := hS.setOwn 7 rfl hw1239 hgr1239 hnw1239; simp only [List.set] at hS
            refine q_field rfl rfl ?_
            refine q_store rfl rfl (hS.blk 3 rfl) (Nat.le_of_ble_eq_true rfl) (hS.own 7 rfl).one rfl rfl fun w1241 hb1241 hO1241 => ?_
            have hk1241 := hS.keptBlk 3 rfl hO1241
            replace f1159 := f1159.kept hk1241
            replace hS := hS.setBlk 3 rfl hb1241 hO1241; simp only [List.set] at hS
            refine eseq_nil ?_
            refine hK1224 _ _ ?_
            refine e_region_text rfl ?_
            refine q_move rfl rfl ?_
            refine q_addW rfl rfl rfl ?_
            refine q_assign rfl rfl ?_
            refine eseq_nil ?_
            obtain rfl := Option.some.inj ho1107
            exact ⟨m1107, _, Nat.lt_succ_self _, ⟨x1240, (w64 (x1166 + 1)), v1239, _, ht1107, (hS.pickB [2, 3, 4, 5, 6, 7] 8 rfl rfl), f1159, rfl⟩, Sub.cons rfl (Sub.cons rfl (Sub.cons rfl (Sub.cons rfl (Sub.cons rfl (Sub.nil _)))))⟩
          · replace ho1107 := (if_neg (not_true hc1236)).symm.trans ho1107
            refine e_skip ?_
            refine hK1224 _ _ ?_
            refine e_region_text rfl ?_
            refine q_move rfl rfl ?_
            refine q_addW rfl rfl rfl ?_
            refine q_assign rfl rfl ?_
            refine eseq_nil ?_
            obtain rfl := Option.some.inj ho1107
            exact ⟨m1107, _, Nat.lt_succ_self _, ⟨x1165, (w64 (x1166 + 1)), v1164, _, ht1107, (hS.pickB [1, 2, 3, 4, 5, 6] 7 rfl rfl), f1159, rfl⟩, Sub.cons rfl (Sub.cons rfl (Sub.cons rfl (Sub.cons rfl (Sub.cons rfl (Sub.nil _)))))⟩
        · replace ho1107 := (if_neg (not_true hc1223)).symm.trans ho1107
          refine e_exit ?_
          obtain rfl := Option.some.inj ho1107
          obtain rfl := Option.some.inj ht1107
          exact hX1107_4 x1165 v1164 _ _ _ ho774 hS f1159 (Sub.cons rfl (Sub.cons rfl (Sub.cons rfl (Sub.cons rfl (Sub.nil _)))))
      · replace ho774 := (if_neg (not_true hc1104)).symm.trans ho774
        refine e_exit ?_
        obtain rfl := Option.some.inj ho774
        obtain rfl := Option.some.inj ht774
        exact hX774_2 x939 v938 _ _ _ h hS  (Sub.cons rfl (Sub.cons rfl (Sub.nil _)))
    replace hS := hS.nilRows0 Ty.int 3 35
    refine e_loop (fun m_ E_ w714 => ∃ (x720 : (List (List Int))), ∃ (x723 : Int), ∃ (v718 : Value), ∃ (v719 : List Value), ∃ (R713 : Nat → Prop), iter (fun s => ref32_Pattern_B3 fuel a1 s.1 s.2) m_ (x720, x723) = some tl664 ∧ Sep F R R713 w w714 [HP.blk bl639 [.slice none 0 0, .slice none 0 0, .slice none 0 0] 46, HP.blk bl659 [v658, v718, .slice none 0 0] 46, HP.own Ty.int (fun _ => False) 3 v658 r657, HP.own Ty.raw (fun _ => False) 35 v718 v719, HP.famS Ty.int (fun _ => False) 3 v719 x720] ∧ IsSlice (Ty.slice evtTy) w714 R713 v1 a0 ∧ IsSlice (Ty.slice Ty.int) w714 R713 v2 a1 ∧ E_ = [(0, v1), (1, v2), (4, .pointer (some ⟨bl639, 0, none⟩)), (6, .pointer (some ⟨bl659, 0, none⟩)), (7, .int .i64 x723)]) _ ⟨_, ⟨([] : List (List Int)), 0, (.slice none 0 0), ([] : List Value), _, ht664, (hS.pickB [5, 2, 3, 0, 1] 6 rfl rfl), f1, f2, rfl⟩, Sub.cons rfl (Sub.cons rfl (Sub.cons rfl (Sub.cons rfl (Sub.cons rfl (Sub.nil _)))))⟩ ?_
    clear ht664 hS
    rintro m664 _ w714 ⟨x720, x723, v718, v719, R713, ht664, hS, f715, f716, rfl⟩
    obtain ⟨m664, rfl, o664, ho664, ht664⟩ := iter_some ht664
    replace ho664 : ref32_Pattern_B3 fuel a1 x720 x723 = some o664 := ho664
    unfold ref32_Pattern_B3 at ho664
    refine e_seq fun K1244 hK1244 => ?_
    refine e_seq fun K1245 hK1245 => ?_
    refine e_region_text rfl ?_
    refine q_move rfl rfl ?_
    refine q_move rfl rfl ?_
    refine q_lenS rfl f716 rfl ?_
    refine q_lss rfl rfl rfl ?_
    refine eseq_nil ?_
    refine hK1245 _ _ ?_
    refine e_cond rfl (fun hc1246 => ?_) (fun hc1246 => ?_)
    · replace ho664 := (if_pos hc1246).symm.trans ho664
      refine e_skip ?_
      refine hK1244 _ _ ?_
      refine e_seq fun K1247 hK1247 => ?_
      refine e_block ?_
      refine e_region_draw mixed (fun _ => False) [0, 1, 0, 0, 12, 28, 60, 124, 255, 511, 1023] [6, 7] [0, 1, 2, 3, 4, 5, 6, 7, 8, 9, 10] (by kernel_rfl) ?_
      refine q_field rfl rfl ?_
      refine q_load rfl (Blk.cell (hS.blk 1 rfl) rfl) rfl ?_
      refine q_move rfl rfl ?_
      refine q_move rfl rfl ?_
      obtain ⟨x1260, hx1260, ho664⟩ := Option.of_bind ho664
      refine q_atS (by infer_instance) rfl f716 rfl hx1260 rfl fun b1261 o1261 hm1261 f1261 => ?_
      refine q_loadE rfl f1261 rfl (fun v1262 f1262 => ?_)
      replace hS := hS.nilOwn0 Ty.int 3
      obtain ⟨x1265, hx1265, ho664⟩ := Option.of_bind ho664
      refine q_catE (T := Ty.int) rfl rfl rfl rfl (hS.own 0 rfl) rfl f1262 hx1265 (Nat.zero_le _) rfl (fun _ k hk => by cases hk) fun v1264 w1264 hw1264 hgr1264 hnw1264 => ?_
      have hk1264 := hS.keptOwn 0 rfl hgr1264
      replace f715 := f715.kept hk1264
      replace f716 := f716.kept hk1264
      replace f1262 := f1262.kept hk1264
      replace hS := hS.setOwn 0 rfl hw1264 hgr1264 hnw1264; simp only [List.set] at hS
      refine q_litO (T := Ty.raw) (S := (fun _ => False)) (cells := [[v1264]]) (ys := [v1264]) ((Parts.cons rfl (cells_one (hS.own 0 rfl).one) Parts.nil)) rfl rfl rfl rfl rfl rfl rfl (fun w1 hB => ⟨⟨rfl, (hS.own 0 rfl).one⟩, trivial⟩) (fun _ h => h.elim) rfl fun w1266 v1266 ho1266 hv1266 hB1266 => ?_
      replace f715 := f715.ext hB1266
      replace f716 := f716.ext hB1266
      replace hS := hS.newOwnS hB1266 ho1266 hv1266 (fun _ h => h.elim)
      replace hS := hS.pickB [1, 0, 2, 3, 4, 5, 6] 7 rfl rfl; simp only [List.map_cons, List.map_nil, List.getD_cons_zero, List.getD_cons_succ] at hS
      replace hS := hS.famOne
      obtain ⟨x1270, hx1270, ho664⟩ := Option.of_bind ho664
      obtain ⟨hcr1269, hce1269⟩ := catL_raw (hS.famLen 6 rfl) (hS.famLen 0 rfl) (snoc_cat hx1270)
      refine q_catOwn (T := Ty.raw) rfl rfl rfl rfl (hS.own 5 rfl) rfl (hS.own 1 rfl) (fun _ h _ => h.elim) hcr1269 (Nat.zero_le _) rfl (fun h => by cases h) fun v1269 w1269 hw1269 hgr1269 hnw1269 => ?_
      have hk1269 := hS.keptOwn 5 rfl hgr1269
      replace f715 := f715.kept hk1269
      replace f716 := f716.kept hk1269
      replace hS := hS.setOwn 5 rfl hw1269 hgr1269 hnw1269; simp only [List.set] at hS
      replace hS := hS.pickB [6, 0, 1, 2, 3, 4, 5] 7 rfl rfl; simp only [List.map_cons, List.map_nil, List.getD_cons_zero, List.getD_cons_succ] at hS
      replace hS := hS.famCat; rw [hce1269] at hS
      refine q_field rfl rfl ?_
      refine q_store rfl rfl (hS.blk 3 rfl) (Nat.le_of_ble_eq_true rfl) (hS.own 5 rfl).one rfl rfl fun w1271 hb1271 hO1271 => ?_
      have hk1271 := hS.keptBlk 3 rfl hO1271
      replace f715 := f715.kept hk1271
      replace f716 := f716.kept hk1271
      replace hS := hS.setBlk 3 rfl hb1271 hO1271; simp only [List.set] at hS
      refine eseq_nil ?_
      refine hK1247 _ _ ?_
      refine e_region_text rfl ?_
      refine q_move rfl rfl ?_
      refine q_addW rfl rfl rfl ?_
      refine q_assign rfl rfl ?_
      refine eseq_nil ?_
      obtain rfl := Option.some.inj ho664
      exact ⟨m664, _, Nat.lt_succ_self _, ⟨x1270, (w64 (x723 + 1)), v1269, (v719 ++ ([v1264])), _, ht664, (hS.pickB [2, 3, 4, 5, 0] 6 rfl rfl), f715, f716, rfl⟩, Sub.cons rfl (Sub.cons rfl (Sub.cons rfl (Sub.cons rfl (Sub.cons rfl (Sub.nil _)))))⟩
    · replace ho664 := (if_neg (not_true hc1246)).symm.trans ho664
      refine e_exit ?_
      obtain rfl := Option.some.inj ho664
      obtain rfl := Option.some.inj ht664
      exact hX664_0 x720 v718 v719 _ _ _ h hS f715 (Sub.cons rfl (Sub.cons rfl (Sub.cons rfl (Sub.nil _))))
theorem law32_OrphanTracks_w {F R : Nat → Prop} {w : World} {fuel : Nat} {a0 : (List (List Evt))} {a1 : (List (List Int))} {a2 : (List Int)} {v1 : Value} {v2 : Value} {v3 : Value} {r : (Bool)} (hS : Sep F R R w w []) (f1 : IsSlice (Ty.slice evtTy) w R v1 a0) (f2 : IsSlice (Ty.slice Ty.int) w R v2 a1) (f3 : IsSlice Ty.u8 w R v3 a2) (h : law32_OrphanTracks fuel a0 a1 a2 = some r) :
    Gives Try.prog 6 [v1, v2, v3] w fun u w1 => ∃ (R1 : Nat → Prop), u = .bool r ∧ Sep F R R1 w w1 [] := by
  refine fn_of Try.func6 rfl Try.ntmps6 (Nat.le_of_ble_eq_true rfl) ?_
  unfold law32_OrphanTracks at h
  refine e_seq fun K175 hK175 => ?_
  refine e_region_text rfl ?_
  refine q_assign rfl rfl ?_
  refine eseq_nil ?_
  refine hK175 _ _ ?_
  refine e_seq fun K176 hK176 => ?_
  refine e_region_text rfl ?_
  refine q_move rfl rfl ?_
  refine q_lenS rfl f2 rfl ?_
  refine q_assign rfl rfl ?_
  refine eseq_nil ?_
  refine hK176 _ _ ?_
  refine e_seq fun K177 hK177 => ?_
  refine e_seq fun K178 hK178 => ?_
  refine e_region_text rfl ?_
  refine q_assign rfl rfl ?_
  refine eseq_nil ?_
  refine hK178 _ _ ?_
  refine e_block ?_
  obtain ⟨tl179, ht179, h⟩ := Option.of_bind h
  have hX179_0 : ∀ (x229 : Int) (R224 : Nat → Prop) (w225 : World) (E_ : Env), law32_OrphanTracks_K1 fuel a0 a2 a1 x229 = some r → Sep F R R224 w w225 [] → IsSlice (Ty.slice evtTy) w225 R224 v1 a0 → IsSlice (Ty.slice Ty.int) w225 R224 v2 a1 → IsSlice Ty.u8 w225 R224 v3 a2 → Sub [(0, v1), (1, v2), (2, v3), (7, .int .i64 x229)] E_ → K177 E_ w225 := by
    intro x229 R224 w225 E_ h hS f226 f227 f228 hsub
    refine hK177 _ _ (e_sub hsub ?_); clear hsub
    unfold law32_OrphanTracks_K1 at h
    refine e_seq fun K230 hK230 => ?_
    refine e_seq fun K231 hK231 => ?_
    refine e_region_text rfl ?_
    obtain ⟨r233, hr233, h⟩ := Option.of_bind h
    refine q_call rfl (law32_awake_w (Sep.enter (As := []) hS)  hr233) rfl ?_
    rintro _ w232 ⟨R232, rfl, hC232⟩
    have hB232 : Below (World.heap w225).size w225 w232 := hC232.stepB0
    refine ⟨fun _ => .of_below hB232, ?_⟩
    replace f226 := (f226.ext hB232).mono fun k hk _ => hC232.ro0 k hk
    replace f227 := (f227.ext hB232).mono fun k hk _ => hC232.ro0 k hk
    replace f228 := (f228.ext hB232).mono fun k hk _ => hC232.ro0 k hk
    replace hS := Sep.leave (As := []) hS hC232; simp only [List.cons_append, List.nil_append] at hS
    refine q_not rfl rfl ?_
    refine q_move rfl rfl ?_
    obtain ⟨x235, hx234, h⟩ := Option.of_bind h
    refine g_orM 3 hx234 rfl trivial rfl rfl ?_ ?_ ?_
    · intro hg234
      refine g_skip rfl rfl rfl ?_
      refine g_skip rfl rfl rfl ?_
      refine g_skip rfl rfl rfl ?_
      exact eseq_nil ⟨rfl, Sub.set rfl (Sub.set rfl (Sub.set rfl (Sub.bool true rfl hg234)))⟩
    · intro hg234 hx234
      clear h
      have hT234 := Below.refl (World.heap w232).size w232
      refine g_run rfl ?_; refine q_move rfl rfl ?_
      obtain ⟨r237, hr237, hx234⟩ := Option.of_bind hx234
      refine g_run rfl ?_; refine q_call rfl (law32_size_w (Sep.enter (As := []) hS) f226 hr237) rfl ?_
      rintro _ w236 ⟨R236, rfl, hC236⟩
      have hB236 : Below (World.heap w232).size w232 w236 := hC236.stepB0
      refine ⟨fun _ => .of_below hB236, ?_⟩
      replace f226 := (f226.ext hB236).mono fun k hk _ => hC236.ro0 k hk
      replace f227 := (f227.ext hB236).mono fun k hk _ => hC236.ro0 k hk
      replace f228 := (f228.ext hB236).mono fun k hk _ => hC236.ro0 k hk
      replace hT234 := hT234.trans (Below.mono hB236 hT234.size)
      replace hS := Sep.leave (As := []) hS hC236; simp only [List.cons_append, List.nil_append] at hS
      refine g_run rfl ?_; refine q_gtr rfl rfl rfl ?_
      cases hx234
      exact eseq_nil ⟨hT234, Sub.set rfl (Sub.set rfl (Sub.set rfl (Sub.bool false rfl hg234))), rfl⟩
    intro wm234 hBm234; clear hx234
    replace hS := hS.below hBm234
    replace f226 := f226.ext hBm234
    replace f227 := f227.ext hBm234
    replace f228 := f228.ext hBm234
    refine q_move rfl rfl ?_
    obtain ⟨x239, hx238, h⟩ := Option.of_bind h
    refine g_orM 2 hx238 rfl trivial rfl rfl ?_ ?_ ?_
    · intro hg238
      refine g_skip rfl rfl rfl ?_
      refine g_skip rfl rfl rfl ?_
      exact eseq_nil ⟨rfl, Sub.set rfl (Sub.set rfl (Sub.bool true rfl hg238))⟩
    · intro hg238 hx238
      clear h
      have hT238 := Below.refl (World.heap wm234).size wm234
      refine g_run rfl ?_; refine q_move rfl rfl ?_
      refine g_run rfl ?_; refine q_gtr rfl rfl rfl ?_
      cases hx238
      exact eseq_nil ⟨hT238, Sub.set rfl (Sub.set rfl (Sub.bool false rfl hg238)), rfl⟩
    intro wm238 hBm238; clear hx238
    replace hS := hS.below hBm238
    replace f226 := f226.ext hBm238
    replace f227 := f227.ext hBm238
    replace f228 := f228.ext hBm238
    refine eseq_nil ?_
    refine hK231 _ _ ?_
    refine e_cond rfl (fun hc240 => ?_) (fun hc240 => ?_)
    · replace h := (if_pos hc240).symm.trans h
      refine e_seq fun K241 hK241 => ?_
      refine e_region_text rfl ?_
      refine q_move rfl rfl ?_
      obtain ⟨r243, hr243, h⟩ := Option.of_bind h
      refine q_call rfl (law32_size_w (Sep.enter (As := []) hS) f226 hr243) rfl ?_
      rintro _ w242 ⟨R242, rfl, hC242⟩
      have hB242 : Below (World.heap wm238).size wm238 w242 := hC242.stepB0
      refine ⟨fun _ => .of_below hB242, ?_⟩
      replace f226 := (f226.ext hB242).mono fun k hk _ => hC242.ro0 k hk
      replace hS := Sep.leave (As := []) hS hC242; simp only [List.cons_append, List.nil_append] at hS
      refine q_gtr rfl rfl rfl ?_
      refine q_move rfl rfl ?_
      obtain ⟨x245, hx244, h⟩ := Option.of_bind h
      refine g_orM 2 hx244 rfl trivial rfl rfl ?_ ?_ ?_
      · intro hg244
        refine g_skip rfl rfl rfl ?_
        refine g_skip rfl rfl rfl ?_
        exact eseq_nil ⟨rfl, Sub.set rfl (Sub.set rfl (Sub.bool true rfl hg244))⟩
      · intro hg244 hx244
        clear h
        have hT244 := Below.refl (World.heap w242).size w242
        refine g_run rfl ?_; refine q_move rfl rfl ?_
        refine g_run rfl ?_; refine q_gtr rfl rfl rfl ?_
        cases hx244
        exact eseq_nil ⟨hT244, Sub.set rfl (Sub.set rfl (Sub.bool false rfl hg244)), rfl⟩
      intro wm244 hBm244; clear hx244
      replace hS := hS.below hBm244
      refine q_assign rfl rfl ?_
      refine eseq_nil ?_
      refine hK241 _ _ ?_
      refine e_ret ?_
      obtain rfl := Option.some.inj h
      exact ⟨_, res1 rfl rfl, _, rfl, hS⟩
    · replace h := (if_neg (not_true hc240)).symm.trans h
      refine e_skip ?_
      refine hK230 _ _ ?_
      refine e_seq fun K246 hK246 => ?_
      refine e_region_text rfl ?_
      refine q_move rfl rfl ?_
      obtain ⟨r248, hr248, h⟩ := Option.of_bind h
      refine q_call rfl (law32_scene_w (Sep.enter (As := []) hS) f228 hr248) rfl ?_
      rintro _ w247 ⟨v249, v250, v251, R247, rfl, hC247, f251⟩
      have hB247 : Below (World.heap wm238).size wm238 w247 := hC247.stepB0
      refine ⟨fun _ => .of_below hB247, ?_⟩
      replace f226 := (f226.ext hB247).mono fun k hk _ => hC247.ro0 k hk
      replace f227 := (f227.ext hB247).mono fun k hk _ => hC247.ro0 k hk
      replace f228 := (f228.ext hB247).mono fun k hk _ => hC247.ro0 k hk
      replace hS := Sep.leave (As := []) hS hC247; simp only [List.cons_append, List.nil_append] at hS
      refine q_move rfl rfl ?_
      refine q_extract rfl rfl rfl ?_
      refine q_extract rfl rfl rfl ?_
      refine q_assign rfl rfl ?_
      refine q_assign rfl rfl ?_
      refine eseq_nil ?_
      refine hK246 _ _ ?_
      refine e_seq fun K252 hK252 => ?_
      refine e_region_text rfl ?_
      refine q_move rfl rfl ?_
      obtain ⟨r254, hr254, h⟩ := Option.of_bind h
      refine q_call rfl (Track_w (Sep.enter (As := []) hS) f226 hr254) rfl ?_
      rintro _ w253 ⟨v255, v256, R253, rfl, hC253⟩
      have hB253 : Below (World.heap w247).size w247 w253 := hC253.stepB0
      refine ⟨fun _ => .of_below hB253, ?_⟩
      replace f226 := (f226.ext hB253).mono fun k hk _ => hC253.ro0 k hk
      replace f227 := (f227.ext hB253).mono fun k hk _ => hC253.ro0 k hk
      replace hS := Sep.leave (As := []) hS hC253; simp only [List.cons_append, List.nil_append] at hS
      refine q_move rfl rfl ?_
      refine q_extract rfl rfl rfl ?_
      refine q_extract rfl rfl rfl ?_
      refine q_assign rfl rfl ?_
      refine q_assign rfl rfl ?_
      refine eseq_nil ?_
      refine hK252 _ _ ?_
      refine e_seq fun K257 hK257 => ?_
      refine e_region_text rfl ?_
      refine q_move rfl rfl ?_
      obtain ⟨r259, hr259, h⟩ := Option.of_bind h
      refine q_call rfl (ref32_Track_w (Sep.enter (As := []) hS) f226 hr259) rfl ?_
      rintro _ w258 ⟨v260, v261, R258, rfl, hC258⟩
      have hB258 : Below (World.heap w253).size w253 w258 := hC258.stepB0
      refine ⟨fun _ => .of_below hB258, ?_⟩
      replace f226 := (f226.ext hB258).mono fun k hk _ => hC258.ro0 k hk
      replace f227 := (f227.ext hB258).mono fun k hk _ => hC258.ro0 k hk
      replace hS := Sep.leave (As := []) hS hC258; simp only [List.cons_append, List.nil_append] at hS
      refine q_move rfl rfl ?_
      refine q_extract rfl rfl rfl ?_
      refine q_extract rfl rfl rfl ?_
      refine q_assign rfl rfl ?_
      refine q_assign rfl rfl ?_
      refine eseq_nil ?_
      refine hK257 _ _ ?_
      refine e_seq fun K262 hK262 => ?_
      refine e_region_text rfl ?_
      refine q_move rfl rfl ?_
      replace hS := hS.pickB [4, 5, 0, 1, 2, 3] 6 rfl rfl; simp only [List.map_cons, List.map_nil, List.getD_cons_zero, List.getD_cons_succ] at hS
      obtain ⟨R264, hS, hm264⟩ := hS.rowsFreeze
      replace f226 := f226.mono fun k hk _ => hm264 k hk
      replace f227 := f227.mono fun k hk _ => hm264 k hk
      obtain ⟨R266, hS, hm266, f266⟩ := hS.freezeOwn 0 rfl; simp only [List.eraseIdx] at hS
      replace f226 := f226.mono fun k hk _ => hm266 k hk
      replace f227 := f227.mono fun k hk _ => hm266 k hk
      obtain ⟨r267, hr267, h⟩ := Option.of_bind h
      refine q_call rfl (Track_w (Sep.enter (As := []) hS) f266 hr267) rfl ?_
      rintro _ w263 ⟨v268, v269, R263, rfl, hC263⟩
      have hB263 : Below (World.heap w258).size w258 w263 := hC263.stepB0
      refine ⟨fun _ => .of_below hB263, ?_⟩
      replace f226 := (f226.ext hB263).mono fun k hk _ => hC263.ro0 k hk
      replace f227 := (f227.ext hB263).mono fun k hk _ => hC263.ro0 k hk
      replace f266 := (f266.ext hB263).mono fun k hk _ => hC263.ro0 k hk
      replace hS := Sep.leave (As := []) hS hC263; simp only [List.cons_append, List.nil_append] at hS
      refine q_move rfl rfl ?_
      refine q_extract rfl rfl rfl ?_
      refine q_extract rfl rfl rfl ?_
      refine q_assign rfl rfl ?_
      refine q_assign rfl rfl ?_
      refine eseq_nil ?_
      refine hK262 _ _ ?_
      refine e_seq fun K270 hK270 => ?_
      refine e_region_text rfl ?_
      refine q_move rfl rfl ?_
      obtain ⟨r272, hr272, h⟩ := Option.of_bind h
      refine q_call rfl (ref32_Track_w (Sep.enter (As := []) hS) f266 hr272) rfl ?_
      rintro _ w271 ⟨v273, v274, R271, rfl, hC271⟩
      have hB271 : Below (World.heap w263).size w263 w271 := hC271.stepB0
      refine ⟨fun _ => .of_below hB271, ?_⟩
      replace f226 := (f226.ext hB271).mono fun k hk _ => hC271.ro0 k hk
      replace f227 := (f227.ext hB271).mono fun k hk _ => hC271.ro0 k hk
      replace f266 := (f266.ext hB271).mono fun k hk _ => hC271.ro0 k hk
      replace hS := Sep.leave (As := []) hS hC271; simp only [List.cons_append, List.nil_append] at hS
      refine q_move rfl rfl ?_
      refine q_extract rfl rfl rfl ?_
      refine q_extract rfl rfl rfl ?_
      refine q_assign rfl rfl ?_
      refine q_assign rfl rfl ?_
      refine eseq_nil ?_
      refine hK270 _ _ ?_
      refine e_seq fun K275 hK275 => ?_
      refine e_region_text rfl ?_
      refine q_move rfl rfl ?_
      refine q_move rfl rfl ?_
      obtain ⟨r277, hr277, h⟩ := Option.of_bind h
      refine q_call rfl (orphan_Pattern_w (Sep.enter (As := []) hS) f226 f227 hr277) rfl ?_
      rintro _ w276 ⟨v278, v279, v280, R276, rfl, hC276, f279⟩
      have hB276 : Below (World.heap w271).size w271 w276 := hC276.stepB0
      refine ⟨fun _ => .of_below hB276, ?_⟩
      replace f226 := (f226.ext hB276).mono fun k hk _ => hC276.ro0 k hk
      replace f227 := (f227.ext hB276).mono fun k hk _ => hC276.ro0 k hk
      replace f266 := (f266.ext hB276).mono fun k hk _ => hC276.ro0 k hk
      replace hS := Sep.leave (As := []) hS hC276; simp only [List.cons_append, List.nil_append] at hS
      refine q_move rfl rfl ?_
      refine q_extract rfl rfl rfl ?_
      refine q_extract rfl rfl rfl ?_
      refine q_allocB rfl fun w281 bl281 hg281 hb281 hB281 => ?_
      replace f226 := f226.ext hB281
      replace f227 := f227.ext hB281
      replace f266 := f266.ext hB281
      replace f279 := f279.ext hB281
      replace hS := hS.newBlk hB281 hg281 hb281
      refine q_storeAgg rfl rfl (hS.blk 0 rfl) rfl (Nat.le_of_ble_eq_true rfl) (all_cons (hS.own 1 rfl).one (all_cons f279.one (all_cons (hS.own 2 rfl).one (all_nil)))) rfl rfl fun w283 hb283 hO283 => ?_
      simp only [setN, List.set, List.take, List.drop] at hb283
      have hk283 := hS.keptBlk 0 rfl hO283
      replace f226 := f226.kept hk283
      replace f227 := f227.kept hk283
      replace f266 := f266.kept hk283
      replace f279 := f279.kept hk283
      replace hS := hS.setBlk 0 rfl hb283 hO283; simp only [List.set] at hS
      refine q_assign rfl rfl ?_
      refine eseq_nil ?_
      refine hK275 _ _ ?_
      refine e_seq fun K284 hK284 => ?_
      refine e_region_text rfl ?_
      refine q_move rfl rfl ?_
      refine q_move rfl rfl ?_
      obtain ⟨r286, hr286, h⟩ := Option.of_bind h
      refine q_call rfl (ref32_Pattern_w (Sep.enter (As := []) hS) f226 f227 hr286) rfl ?_
      rintro _ w285 ⟨v287, v288, v289, v290, R285, rfl, hC285⟩
      have hB285 : Below (World.heap w283).size w283 w285 := hC285.stepB0
      refine ⟨fun _ => .of_below hB285, ?_⟩
      replace f227 := (f227.ext hB285).mono fun k hk _ => hC285.ro0 k hk
      replace f266 := (f266.ext hB285).mono fun k hk _ => hC285.ro0 k hk
      replace f279 := (f279.ext hB285).mono fun k hk _ => hC285.ro0 k hk
      replace f226 := (f226.ext hB285).mono fun k hk _ => hC285.ro0 k hk
      replace hS := Sep.leave (As := []) hS hC285; simp only [List.cons_append, List.nil_append] at hS
      refine q_move rfl rfl ?_
      refine q_extract rfl rfl rfl ?_
      refine q_extract rfl rfl rfl ?_
      refine q_allocB rfl fun w291 bl291 hg291 hb291 hB291 => ?_
      replace f227 := f227.ext hB291
      replace f266 := f266.ext hB291
      replace f279 := f279.ext hB291
      replace hS := hS.newBlk hB291 hg291 hb291
      refine q_storeAgg rfl rfl (hS.blk 0 rfl) rfl (Nat.le_of_ble_eq_true rfl) (all_cons (hS.own 1 rfl).one (all_cons (hS.own 2 rfl).one (all_cons (hS.own 4 rfl).one (all_nil)))) rfl rfl fun w293 hb293 hO293 => ?_
      simp only [setN, List.set, List.take, List.drop] at hb293
      have hk293 := hS.keptBlk 0 rfl hO293
      replace f227 := f227.kept hk293
      replace f266 := f266.kept hk293
      replace f279 := f279.kept hk293
      replace hS := hS.setBlk 0 rfl hb293 hO293; simp only [List.set] at hS
      refine q_assign rfl rfl ?_
      refine eseq_nil ?_
      refine hK284 _ _ ?_
      refine e_seq fun K294 hK294 => ?_
      refine e_region_text rfl ?_
      refine q_move rfl rfl ?_
      refine q_move rfl rfl ?_
      obtain ⟨r296, hr296, h⟩ := Option.of_bind h
      refine q_call rfl (orphan_Pattern_w (Sep.enter (As := []) hS) f266 f227 hr296) rfl ?_
      rintro _ w295 ⟨v297, v298, v299, R295, rfl, hC295, f298⟩
      have hB295 : Below (World.heap w293).size w293 w295 := hC295.stepB0
      refine ⟨fun _ => .of_below hB295, ?_⟩
      replace f227 := (f227.ext hB295).mono fun k hk _ => hC295.ro0 k hk
      replace f266 := (f266.ext hB295).mono fun k hk _ => hC295.ro0 k hk
      replace f279 := (f279.ext hB295).mono fun k hk _ => hC295.ro0 k hk
      replace hS := Sep.leave (As := []) hS hC295; simp only [List.cons_append, List.nil_append] at hS
      refine q_move rfl rfl ?_
      refine q_extract rfl rfl rfl ?_
      refine q_extract rfl rfl rfl ?_
      refine q_allocB rfl fun w300 bl300 hg300 hb300 hB300 => ?_
      replace f227 := f227.ext hB300
      replace f266 := f266.ext hB300
      replace f279 := f279.ext hB300
      replace f298 := f298.ext hB300
      replace hS := hS.newBlk hB300 hg300 hb300
      refine q_storeAgg rfl rfl (hS.blk 0 rfl) rfl (Nat.le_of_ble_eq_true rfl) (all_cons (hS.own 1 rfl).one (all_cons f298.one (all_cons (hS.own 2 rfl).one (all_nil)))) rfl rfl fun w302 hb302 hO302 => ?_
      simp only [setN, List.set, List.take, List.drop] at hb302
      have hk302 := hS.keptBlk 0 rfl hO302
      replace f227 := f227.kept hk302
      replace f266 := f266.kept hk302
      replace f279 := f279.kept hk302
      replace f298 := f298.kept hk302
      replace hS := hS.setBlk 0 rfl hb302 hO302; simp only [List.set] at hS
      refine q_assign rfl rfl ?_
      refine eseq_nil ?_
      refine hK294 _ _ ?_
      refine e_seq fun K303 hK303 => ?_
      refine e_region_text rfl ?_
      refine q_move rfl rfl ?_
      refine q_move rfl rfl ?_
      obtain ⟨r305, hr305, h⟩ := Option.of_bind h
      refine q_call rfl (ref32_Pattern_w (Sep.enter (As := []) hS) f266 f227 hr305) rfl ?_
      rintro _ w304 ⟨v306, v307, v308, v309, R304, rfl, hC304⟩
      have hB304 : Below (World.heap w302).size w302 w304 := hC304.stepB0
      refine ⟨fun _ => .of_below hB304, ?_⟩
      replace f279 := (f279.ext hB304).mono fun k hk _ => hC304.ro0 k hk
      replace f298 := (f298.ext hB304).mono fun k hk _ => hC304.ro0 k hk
      replace f266 := (f266.ext hB304).mono fun k hk _ => hC304.ro0 k hk
      replace f227 := (f227.ext hB304).mono fun k hk _ => hC304.ro0 k hk
      replace hS := Sep.leave (As := []) hS hC304; simp only [List.cons_append, List.nil_append] at hS
      refine q_move rfl rfl ?_
      refine q_extract rfl rfl rfl ?_
      refine q_extract rfl rfl rfl ?_
      refine q_allocB rfl fun w310 bl310 hg310 hb310 hB310 => ?_
      replace f279 := f279.ext hB310
      replace f298 := f298.ext hB310
      replace hS := hS.newBlk hB310 hg310 hb310
      refine q_storeAgg rfl rfl (hS.blk 0 rfl) rfl (Nat.le_of_ble_eq_true rfl) (all_cons (hS.own 1 rfl).one (all_cons (hS.own 2 rfl).one (all_cons (hS.own 4 rfl).one (all_nil)))) rfl rfl fun w312 hb312 hO312 => ?_
      simp only [setN, List.set, List.take, List.drop] at hb312
      have hk312 := hS.keptBlk 0 rfl hO312
      replace f279 := f279.kept hk312
      replace f298 := f298.kept hk312
      replace hS := hS.setBlk 0 rfl hb312 hO312; simp only [List.set] at hS
      refine q_assign rfl rfl ?_
      refine eseq_nil ?_
      refine hK303 _ _ ?_
      refine e_seq fun K313 hK313 => ?_
      refine e_region_text rfl ?_
      refine q_move rfl rfl ?_
      refine q_move rfl rfl ?_
      refine q_eqlB rfl rfl rfl ?_
      refine q_move rfl rfl ?_
      obtain ⟨x315, hx314, h⟩ := Option.of_bind h
      refine g_andM 3 hx314 rfl trivial rfl rfl ?_ ?_ ?_
      · intro hg314 hx314
        clear h
        have hT314 := Below.refl (World.heap w312).size w312
        refine g_run rfl ?_; refine q_move rfl rfl ?_
        refine g_run rfl ?_; refine q_move rfl rfl ?_
        refine g_run rfl ?_; refine q_eqlB rfl rfl rfl ?_
        cases hx314
        exact eseq_nil ⟨hT314, Sub.set rfl (Sub.set rfl (Sub.set rfl (Sub.bool true rfl hg314))), rfl⟩
      · intro hg314
        refine g_skip rfl rfl rfl ?_
        refine g_skip rfl rfl rfl ?_
        refine g_skip rfl rfl rfl ?_
        exact eseq_nil ⟨rfl, Sub.set rfl (Sub.set rfl (Sub.set rfl (Sub.bool false rfl hg314)))⟩
      intro wm314 hBm314; clear hx314
      replace hS := hS.below hBm314
      replace f279 := f279.ext hBm314
      replace f298 := f298.ext hBm314
      refine q_move rfl rfl ?_
      obtain ⟨x317, hx316, h⟩ := Option.of_bind h
      refine g_andM 3 hx316 rfl trivial rfl rfl ?_ ?_ ?_
      · intro hg316 hx316
        clear h
        have hT316 := Below.refl (World.heap wm314).size wm314
        refine g_run rfl ?_; refine q_move rfl rfl ?_
        refine g_run rfl ?_; refine q_move rfl rfl ?_
        refine g_run rfl ?_; refine q_eqlB rfl rfl rfl ?_
        cases hx316
        exact eseq_nil ⟨hT316, Sub.set rfl (Sub.set rfl (Sub.set rfl (Sub.bool true rfl hg316))), rfl⟩
      · intro hg316
        refine g_skip rfl rfl rfl ?_
        refine g_skip rfl rfl rfl ?_
        refine g_skip rfl rfl rfl ?_
        exact eseq_nil ⟨rfl, Sub.set rfl (Sub.set rfl (Sub.set rfl (Sub.bool false rfl hg316)))⟩
      intro wm316 hBm316; clear hx316
      replace hS := hS.below hBm316
      replace f279 := f279.ext hBm316
      replace f298 := f298.ext hBm316
      refine q_move rfl rfl ?_
      obtain ⟨x319, hx318, h⟩ := Option.of_bind h
      refine g_andM 3 hx318 rfl trivial rfl rfl ?_ ?_ ?_
      · intro hg318 hx318
        clear h
        have hT318 := Below.refl (World.heap wm316).size wm316
        refine g_run rfl ?_; refine q_move rfl rfl ?_
        refine g_run rfl ?_; refine q_move rfl rfl ?_
        refine g_run rfl ?_; refine q_eqlB rfl rfl rfl ?_
        cases hx318
        exact eseq_nil ⟨hT318, Sub.set rfl (Sub.set rfl (Sub.set rfl (Sub.bool true rfl hg318))), rfl⟩
      · intro hg318
        refine g_skip rfl rfl rfl ?_
        refine g_skip rfl rfl rfl ?_
        refine g_skip rfl rfl rfl ?_
        exact eseq_nil ⟨rfl, Sub.set rfl (Sub.set rfl (Sub.set rfl (Sub.bool false rfl hg318)))⟩
      intro wm318 hBm318; clear hx318
      replace hS := hS.below hBm318
      replace f279 := f279.ext hBm318
      replace f298 := f298.ext hBm318
      refine q_move rfl rfl ?_
      obtain ⟨x321, hx320, h⟩ := Option.of_bind h
      refine g_andM 3 hx320 rfl trivial rfl rfl ?_ ?_ ?_
      · intro hg320 hx320
        clear h
        have hT320 := Below.refl (World.heap wm318).size wm318
        refine g_run rfl ?_; refine q_move rfl rfl ?_
        refine g_run rfl ?_; refine q_move rfl rfl ?_
        obtain ⟨r323, hr323, hx320⟩ := Option.of_bind hx320
        refine g_run rfl ?_; refine q_call rfl (ref32_SameVectors_w (Sep.all wm318) ((hS.rowsI 22 23 rfl rfl (by decide))).old ((hS.rowsI 20 21 rfl rfl (by decide))).old hr323) rfl ?_
        rintro _ w322 ⟨R322, rfl, hC322⟩
        have hB322 : Below (World.heap wm318).size wm318 w322 := hC322.stepBF
        refine ⟨fun _ => .of_below hB322, ?_⟩
        replace f279 := f279.ext hB322
        replace f298 := f298.ext hB322
        replace hT320 := hT320.trans (Below.mono hB322 hT320.size)
        replace hS := hS.below hB322
        cases hx320
        exact eseq_nil ⟨hT320, Sub.set rfl (Sub.set rfl (Sub.set rfl (Sub.bool true rfl hg320))), rfl⟩
      · intro hg320
        refine g_skip rfl rfl rfl ?_
        refine g_skip rfl rfl rfl ?_
        refine g_skip rfl rfl rfl ?_
        exact eseq_nil ⟨rfl, Sub.set rfl (Sub.set rfl (Sub.set rfl (Sub.bool false rfl hg320)))⟩
      intro wm320 hBm320; clear hx320
      replace hS := hS.below hBm320
      replace f279 := f279.ext hBm320
      replace f298 := f298.ext hBm320
      refine q_move rfl rfl ?_
      obtain ⟨x325, hx324, h⟩ := Option.of_bind h
      refine g_andM 3 hx324 rfl trivial rfl rfl ?_ ?_ ?_
      · intro hg324 hx324
        clear h
        have hT324 := Below.refl (World.heap wm320).size wm320
        refine g_run rfl ?_; refine q_move rfl rfl ?_
        refine g_run rfl ?_; refine q_move rfl rfl ?_
        obtain ⟨r327, hr327, hx324⟩ := Option.of_bind hx324
        refine g_run rfl ?_; refine q_call rfl (ref32_SameVectors_w (Sep.all wm320) ((hS.rowsI 18 19 rfl rfl (by decide))).old ((hS.rowsI 16 17 rfl rfl (by decide))).old hr327) rfl ?_
        rintro _ w326 ⟨R326, rfl, hC326⟩
        have hB326 : Below (World.heap wm320).size wm320 w326 := hC326.stepBF
        refine ⟨fun _ => .of_below hB326, ?_⟩
        replace f279 := f279.ext hB326
        replace f298 := f298.ext hB326
        replace hT324 := hT324.trans (Below.mono hB326 hT324.size)
        replace hS := hS.below hB326
        cases hx324
        exact eseq_nil ⟨hT324, Sub.set rfl (Sub.set rfl (Sub.set rfl (Sub.bool true rfl hg324))), rfl⟩
      · intro hg324
        refine g_skip rfl rfl rfl ?_
        refine g_skip rfl rfl rfl ?_
        refine g_skip rfl rfl rfl ?_
        exact eseq_nil ⟨rfl, Sub.set rfl (Sub.set rfl (Sub.set rfl (Sub.bool false rfl hg324)))⟩
      intro wm324 hBm324; clear hx324
      replace hS := hS.below hBm324
      replace f279 := f279.ext hBm324
      replace f298 := f298.ext hBm324
      refine q_move rfl rfl ?_
      obtain ⟨x329, hx328, h⟩ := Option.of_bind h
      refine g_andM 3 hx328 rfl trivial rfl rfl ?_ ?_ ?_
      · intro hg328 hx328
        clear h
        have hT328 := Below.refl (World.heap wm324).size wm324
        refine g_run rfl ?_; refine q_loadAgg rfl (Blk.cellsAt (hS.blk 13 rfl) 0 3 rfl) rfl rfl ?_
        refine g_run rfl ?_; refine q_loadAgg rfl (Blk.cellsAt (hS.blk 8 rfl) 0 3 rfl) rfl rfl ?_
        obtain ⟨r331, hr331, hx328⟩ := Option.of_bind hx328
        refine g_run rfl ?_; refine q_call rfl (ref16_Same_w (a0 := (⟨r277.1.lens, r277.1.ckpts, r277.1.arcs⟩ : Pat)) (a1 := (⟨r286.1.lens, r286.1.ckpts, r286.1.arcs⟩ : Pat)) (Sep.all wm324) ((hS.isl 14 rfl)).old (f279).old ((hS.isl 15 rfl)).old ((hS.isl 9 rfl)).old ((hS.rowsI 10 11 rfl rfl (by decide))).old ((hS.isl 12 rfl)).old hr331) rfl ?_
        rintro _ w330 ⟨R330, rfl, hC330⟩
        have hB330 : Below (World.heap wm324).size wm324 w330 := hC330.stepBF
        refine ⟨fun _ => .of_below hB330, ?_⟩
        replace f298 := f298.ext hB330
        replace f279 := f279.ext hB330
        replace hT328 := hT328.trans (Below.mono hB330 hT328.size)
        replace hS := hS.below hB330
        cases hx328
        exact eseq_nil ⟨hT328, Sub.set rfl (Sub.set rfl (Sub.set rfl (Sub.bool true rfl hg328))), rfl⟩
      · intro hg328
        refine g_skip rfl rfl rfl ?_
        refine g_skip rfl rfl rfl ?_
        refine g_skip rfl rfl rfl ?_
        exact eseq_nil ⟨rfl, Sub.set rfl (Sub.set rfl (Sub.set rfl (Sub.bool false rfl hg328)))⟩
      intro wm328 hBm328; clear hx328
      replace hS := hS.below hBm328
      replace f298 := f298.ext hBm328
      refine q_move rfl rfl ?_
      obtain ⟨x333, hx332, h⟩ := Option.of_bind h
      refine g_andM 3 hx332 rfl trivial rfl rfl ?_ ?_ ?_
      · intro hg332 hx332
        clear h
        have hT332 := Below.refl (World.heap wm328).size wm328
        refine g_run rfl ?_; refine q_loadAgg rfl (Blk.cellsAt (hS.blk 5 rfl) 0 3 rfl) rfl rfl ?_
        refine g_run rfl ?_; refine q_loadAgg rfl (Blk.cellsAt (hS.blk 0 rfl) 0 3 rfl) rfl rfl ?_
        obtain ⟨r335, hr335, hx332⟩ := Option.of_bind hx332
        refine g_run rfl ?_; refine q_call rfl (ref16_Same_w (a0 := (⟨r296.1.lens, r296.1.ckpts, r296.1.arcs⟩ : Pat)) (a1 := (⟨r305.1.lens, r305.1.ckpts, r305.1.arcs⟩ : Pat)) (Sep.all wm328) ((hS.isl 6 rfl)).old (f298).old ((hS.isl 7 rfl)).old ((hS.isl 1 rfl)).old ((hS.rowsI 2 3 rfl rfl (by decide))).old ((hS.isl 4 rfl)).old hr335) rfl ?_
        rintro _ w334 ⟨R334, rfl, hC334⟩
        have hB334 : Below (World.heap wm328).size wm328 w334 := hC334.stepBF
        refine ⟨fun _ => .of_below hB334, ?_⟩
        replace f298 := f298.ext hB334
        replace hT332 := hT332.trans (Below.mono hB334 hT332.size)
        replace hS := hS.below hB334
        cases hx332
        exact eseq_nil ⟨hT332, Sub.set rfl (Sub.set rfl (Sub.set rfl (Sub.bool true rfl hg332))), rfl⟩
      · intro hg332
        refine g_skip rfl rfl rfl ?_
        refine g_skip rfl rfl rfl ?_
        refine g_skip rfl rfl rfl ?_
        exact eseq_nil ⟨rfl, Sub.set rfl (Sub.set rfl (Sub.set rfl (Sub.bool false rfl hg332)))⟩
      intro wm332 hBm332; clear hx332
      replace hS := hS.below hBm332
      refine q_assign rfl rfl ?_
      refine eseq_nil ?_
      refine hK313 _ _ ?_
      refine e_ret ?_
      obtain rfl := Option.some.inj h
      exact ⟨_, res1 rfl rfl, _, rfl, (hS.pickB [] 24 rfl rfl)⟩
  refine e_loop (fun m_ E_ w202 => ∃ (x206 : Int), ∃ (x207 : Int), ∃ (R201 : Nat → Prop), iter (fun s => law32_OrphanTracks_B1 fuel a1 s.1 s.2) m_ (x206, x207) = some tl179 ∧ Sep F R R201 w w202 [] ∧ IsSlice (Ty.slice evtTy) w202 R201 v1 a0 ∧ IsSlice (Ty.slice Ty.int) w202 R201 v2 a1 ∧ IsSlice Ty.u8 w202 R201 v3 a2 ∧ E_ = [(0, v1), (1, v2), (2, v3), (7, .int .i64 x206), (8, .int .i64 x207)]) _ ⟨_, ⟨(a1.length : Int), 0, _, ht179, hS, f1, f2, f3, rfl⟩, Sub.cons rfl (Sub.cons rfl (Sub.cons rfl (Sub.cons rfl (Sub.cons rfl (Sub.nil _)))))⟩ ?_
  clear ht179 hS
  rintro m179 _ w202 ⟨x206, x207, R201, ht179, hS, f203, f204, f205, rfl⟩
  obtain ⟨m179, rfl, o179, ho179, ht179⟩ := iter_some ht179
  replace ho179 : law32_OrphanTracks_B1 fuel a1 x206 x207 = some o179 := ho179
  unfold law32_OrphanTracks_B1 at ho179
  refine e_seq fun K336 hK336 => ?_
  refine e_seq fun K337 hK337 => ?_
  refine e_region_text rfl ?_
  refine q_move rfl rfl ?_
  refine q_move rfl rfl ?_
  refine q_lenS rfl f204 rfl ?_
  refine q_lss rfl rfl rfl ?_
  refine q_move rfl rfl ?_
  obtain ⟨x339, hx338, ho179⟩ := Option.of_bind ho179
  refine g_andM 2 hx338 rfl trivial rfl rfl ?_ ?_ ?_
  · intro hg338 hx338
    clear ho179
    have hT338 := Below.refl (World.heap w202).size w202
    refine g_run rfl ?_; refine q_move rfl rfl ?_
    refine g_run rfl ?_; refine q_leq rfl rfl rfl ?_
    cases hx338
    exact eseq_nil ⟨hT338, Sub.set rfl (Sub.set rfl (Sub.bool true rfl hg338)), rfl⟩
  · intro hg338
    refine g_skip rfl rfl rfl ?_
    refine g_skip rfl rfl rfl ?_
    exact eseq_nil ⟨rfl, Sub.set rfl (Sub.set rfl (Sub.bool false rfl hg338))⟩
  intro wm338 hBm338; clear hx338
  replace hS := hS.below hBm338
  replace f203 := f203.ext hBm338
  replace f204 := f204.ext hBm338
  replace f205 := f205.ext hBm338
  refine eseq_nil ?_
  refine hK337 _ _ ?_
  refine e_cond rfl (fun hc340 => ?_) (fun hc340 => ?_)
  · replace ho179 := (if_pos hc340).symm.trans ho179
    refine e_skip ?_
    refine hK336 _ _ ?_
    refine e_seq fun K341 hK341 => ?_
    refine e_block ?_
    refine e_region_text rfl ?_
    refine q_move rfl rfl ?_
    refine q_move rfl rfl ?_
    refine q_move rfl rfl ?_
    obtain ⟨x342, hx342, ho179⟩ := Option.of_bind ho179
    refine q_atS (by infer_instance) rfl f204 rfl hx342 rfl fun b343 o343 hm343 f343 => ?_
    refine q_loadE rfl f343 rfl (fun v344 f344 => ?_)
    refine q_lenS rfl f344 rfl ?_
    refine q_addW rfl rfl rfl ?_
    refine q_assign rfl rfl ?_
    refine eseq_nil ?_
    refine hK341 _ _ ?_
    refine e_region_text rfl ?_
    refine q_move rfl rfl ?_
    refine q_addW rfl rfl rfl ?_
    refine q_assign rfl rfl ?_
    refine eseq_nil ?_
    obtain rfl := Option.some.inj ho179
    exact ⟨m179, _, Nat.lt_succ_self _, ⟨(w64 (x206 + (x342.length : Int))), (w64 (x207 + 1)), _, ht179, hS, f203, f204, f205, rfl⟩, Sub.cons rfl (Sub.cons rfl (Sub.cons rfl (Sub.cons rfl (Sub.cons rfl (Sub.nil _)))))⟩
  · replace ho179 := (if_neg (not_true hc340)).symm.trans ho179
    refine e_exit ?_
    obtain rfl := Option.some.inj ho179
    obtain rfl := Option.some.inj ht179
    exact hX179_0 x206 _ _ _ h hS f203 f204 f205 (Sub.cons rfl (Sub.cons rfl (Sub.cons rfl (Sub.cons rfl (Sub.nil _)))))
end Go.Proofs.Ytghjjkdfjmnfeaa
