/- Printed walks: A21. -/
import Derived.Test.YtbmjcbhappjnaaaA19
import Derived.Test.YtbmjcbhappjnaaaA20b
set_option linter.unusedVariables false
set_option linter.unusedSimpArgs false
namespace Go.Mine
open Go.RowKit
def search_K1 (fuel : Nat) (rec_ : Pt → (List Int) → (List (List Int)) → (List Arc) → (List Pt2) → (List (Pt × Bool)) → (List Int) → Option ((List (Pt × Bool)) × (List Int))) (x861 : (List (Pt × Bool))) (x862 : (List Int)) : Option ((List (Pt × Bool)) × (List Int)) :=
  some (x861, x862)
def search_J1 (fuel : Nat) (rec_ : Pt → (List Int) → (List (List Int)) → (List Arc) → (List Pt2) → (List (Pt × Bool)) → (List Int) → Option ((List (Pt × Bool)) × (List Int))) (x868 : Pt2) (c2_0 : (List Int)) (c2_1 : (List (List Int))) (c2_2 : (List Arc)) (c2_3 : (List Pt2)) (x749 : (List (Pt × Bool))) (x761 : Int) (x903 : (List Int)) : Option (((List (Pt × Bool)) × (List Int) × Int) ⊕ ((List (Pt × Bool)) × (List Int))) :=
  (rec_ (⟨x868.x1.proc, x868.x1.index⟩ : Pt) c2_0 c2_1 c2_2 c2_3 x749 x903).bind fun r915 => some (Sum.inl (r915.1, r915.2, (w64 (x761 + 1))))
def search_B1 (fuel : Nat) (rec_ : Pt → (List Int) → (List (List Int)) → (List Arc) → (List Pt2) → (List (Pt × Bool)) → (List Int) → Option ((List (Pt × Bool)) × (List Int))) (c2_3 : (List Pt2)) (a0 : Pt) (c2_0 : (List Int)) (c2_1 : (List (List Int))) (c2_2 : (List Arc)) (x749 : (List (Pt × Bool))) (x750 : (List Int)) (x761 : Int) : Option (((List (Pt × Bool)) × (List Int) × Int) ⊕ ((List (Pt × Bool)) × (List Int))) :=
  (if (decide (x761 < (c2_3.length : Int))) = true then (ati c2_3 x761).bind fun x868 => (orM (x868.x0.proc != a0.proc) (some (decide (x868.x0.index < a0.index)))).bind fun x879 => (if x879 = true then some (Sum.inl (x749, x750, (w64 (x761 + 1)))) else (ati x750 x868.x1.proc).bind fun x918 => (orM (decide (x918 < 0)) ((ati x750 x868.x1.proc).bind fun x926 => some (decide (x868.x1.index < x926)))).bind fun x925 => (if x925 = true then (ati x750 x868.x1.proc).bind fun x929 => (seti x750 x868.x1.proc x868.x1.index).bind fun x931 => search_J1 fuel rec_ x868 c2_0 c2_1 c2_2 c2_3 x749 x761 x931 else search_J1 fuel rec_ x868 c2_0 c2_1 c2_2 c2_3 x749 x761 x750)) else some (Sum.inr (x749, x750)))
def search_F (fuel : Nat) (rec_ : Pt → (List Int) → (List (List Int)) → (List Arc) → (List Pt2) → (List (Pt × Bool)) → (List Int) → Option ((List (Pt × Bool)) × (List Int))) (a0 : Pt) (c2_0 : (List Int)) (c2_1 : (List (List Int))) (c2_2 : (List Arc)) (c2_3 : (List Pt2)) (c1_0 : (List (Pt × Bool))) (c3_0 : (List Int)) : Option ((List (Pt × Bool)) × (List Int)) :=
  (some ((mget c1_0 (⟨a0.proc, a0.index⟩ : Pt)).getD false)).bind fun x630 => (if x630 = true then some (c1_0, c3_0) else (some (mput c1_0 (⟨a0.proc, a0.index⟩ : Pt) true)).bind fun x634 => (iter (fun s => search_B1 fuel rec_ c2_3 a0 c2_0 c2_1 c2_2 s.1 s.2.1 s.2.2) fuel (x634, c3_0, 0)).bind (fun t => search_K1 fuel rec_ t.1 t.2))
def search_R (fuel : Nat) : Nat → Pt → (List Int) → (List (List Int)) → (List Arc) → (List Pt2) → (List (Pt × Bool)) → (List Int) → Option ((List (Pt × Bool)) × (List Int))
  | 0 => fun _ _ _ _ _ _ _ => none
  | d_ + 1 => search_F fuel (search_R fuel d_)
def search (fuel : Nat) (a0 : Pt) (c2_0 : (List Int)) (c2_1 : (List (List Int))) (c2_2 : (List Arc)) (c2_3 : (List Pt2)) (c1_0 : (List (Pt × Bool))) (c3_0 : (List Int)) : Option ((List (Pt × Bool)) × (List Int)) := search_R fuel fuel a0 c2_0 c2_1 c2_2 c2_3 c1_0 c3_0
def zigzag_graph_arrivals_K1 (fuel : Nat) (a1 : Pt) (c0_0 : (List Int)) (c0_1 : (List (List Int))) (c0_2 : (List Arc)) (c0_3 : (List Pt2)) (x200 : (List Int)) : Option ((List Int)) :=
  (search fuel (⟨a1.proc, w64 (a1.index + 1)⟩ : Pt) c0_0 c0_1 c0_2 c0_3 ([] : List (Pt × Bool)) x200).bind fun r218 => some r218.2
def zigzag_graph_arrivals_B1 (fuel : Nat) (x125 : (List Int)) (x170 : (List Int)) (x171 : Int) : Option (((List Int) × Int) ⊕ ((List Int))) :=
  (if (decide (x171 < (x125.length : Int))) = true then (ati x170 x171).bind fun x226 => (seti x170 x171 (-1)).bind fun x228 => some (Sum.inl (x228, (w64 (x171 + 1)))) else some (Sum.inr x170))
def zigzag_graph_arrivals (fuel : Nat) (a1 : Pt) (c0_0 : (List Int)) (c0_1 : (List (List Int))) (c0_2 : (List Arc)) (c0_3 : (List Pt2)) : Option ((List Int)) :=
  (mkL (c0_0.length : Int) (0 : Int)).bind fun x125 => (iter (fun s => zigzag_graph_arrivals_B1 fuel x125 s.1 s.2) fuel (x125, 0)).bind (fun t => zigzag_graph_arrivals_K1 fuel a1 c0_0 c0_1 c0_2 c0_3 t)
def zigzag_newGraph_K2 (fuel : Nat) (a0 : Pat) (x533 : (List Pt2)) : Option ((List Int) × (List (List Int)) × (List Arc) × (List Pt2) × (List (Pt × (List Int))) × Bool) :=
  some (a0.lens, a0.ckpts, a0.arcs, x533, ([] : List (Pt × (List Int))), true)
def zigzag_newGraph_B1 (fuel : Nat) (r418 : ((List Pt2))) (x479 : (List Pt2)) (x482 : Int) : Option (((List Pt2) × Int) ⊕ ((List Pt2))) :=
  (if (decide (x482 < (r418.length : Int))) = true then (ati r418 x482).bind fun x542 => (if (x542.x0.proc != x542.x1.proc) = true then (snoc x479 (⟨(⟨x542.x0.proc, x542.x0.index⟩ : Pt), (⟨x542.x1.proc, x542.x1.index⟩ : Pt)⟩ : Pt2)).bind fun x558 => some (Sum.inl (x558, (w64 (x482 + 1)))) else some (Sum.inl (x479, (w64 (x482 + 1))))) else some (Sum.inr x479))
def zigzag_newGraph_K1 (fuel : Nat) (a0 : Pat) : Option ((List Int) × (List (List Int)) × (List Arc) × (List Pt2) × (List (Pt × (List Int))) × Bool) :=
  (rgraph_Edges fuel (⟨a0.lens, a0.ckpts, a0.arcs⟩ : Pat)).bind fun r418 => (iter (fun s => zigzag_newGraph_B1 fuel r418 s.1 s.2) fuel (([] : List Pt2), 0)).bind (fun t => zigzag_newGraph_K2 fuel a0 t)
def zigzag_newGraph_B2 (fuel : Nat) (a1 : (List Pt)) (a0 : Pat) (x365 : Int) : Option ((Int) ⊕ (Unit ⊕ ((List Int) × (List (List Int)) × (List Arc) × (List Pt2) × (List (Pt × (List Int))) × Bool))) :=
  (if (decide (x365 < (a1.length : Int))) = true then (ati a1 x365).bind fun x565 => (orM (decide (x565.proc < 0)) (some (decide ((a0.ckpts.length : Int) ≤ x565.proc)))).bind fun x575 => (orM x575 (some (decide (x565.index < 0)))).bind fun x579 => (orM x579 ((ati a0.ckpts x565.proc).bind fun x587 => some (decide ((x587.length : Int) < x565.index)))).bind fun x586 => (if x586 = true then none else some (Sum.inl (w64 (x365 + 1)))) else some (Sum.inr (Sum.inl ())))
def zigzag_newGraph (fuel : Nat) (a0 : Pat) (a1 : (List Pt)) : Option ((List Int) × (List (List Int)) × (List Arc) × (List Pt2) × (List (Pt × (List Int))) × Bool) :=
  (pattern_Check fuel (⟨a0.lens, a0.ckpts, a0.arcs⟩ : Pat)).bind fun r308 => (if (r308 != 0) = true then none else (iter (fun s => zigzag_newGraph_B2 fuel a1 a0 s) fuel 0).bind (fun t => Sum.elim (fun t => zigzag_newGraph_K1 fuel a0) (fun t => some t) t))
def zigzag_graph_vector (fuel : Nat) (a1 : Pt) (c0_0 : (List Int)) (c0_1 : (List (List Int))) (c0_2 : (List Arc)) (c0_3 : (List Pt2)) (c0_4 : (List (Pt × (List Int)))) : Option ((List Int) × (List (Pt × (List Int)))) :=
  (some ((mget c0_4 (⟨a1.proc, a1.index⟩ : Pt)).getD ([] : List Int))).bind fun x31 => (if (!((mget c0_4 (⟨a1.proc, a1.index⟩ : Pt)).isSome)) = true then (depend_Ckpt fuel (⟨c0_0, c0_1, c0_2⟩ : Pat) a1.proc a1.index).bind fun r37 => (some (mput c0_4 (⟨a1.proc, a1.index⟩ : Pt) r37)).bind fun x41 => some (r37, x41) else some (x31, c0_4))
def zigzag_graph_all_K1 (fuel : Nat) (x420 : (List Pt)) : Option ((List Pt)) :=
  some x420
def zigzag_graph_all_K2 (fuel : Nat) (x340 : Int) (x480 : (List Pt)) : Option (((List Pt) × Int) ⊕ ((List Pt))) :=
  some (Sum.inl (x480, (w64 (x340 + 1))))
def zigzag_graph_all_B2 (fuel : Nat) (x428 : (List Int)) (x340 : Int) (x457 : (List Pt)) (x459 : Int) : Option (((List Pt) × Int) ⊕ ((List Pt))) :=
  (if (decide (x459 < (w64 ((x428.length : Int) + 1)))) = true then (snoc x457 (⟨x340, x459⟩ : Pt)).bind fun x490 => some (Sum.inl (x490, (w64 (x459 + 1)))) else some (Sum.inr x457))
def zigzag_graph_all_B1 (fuel : Nat) (c0_1 : (List (List Int))) (x338 : (List Pt)) (x340 : Int) : Option (((List Pt) × Int) ⊕ ((List Pt))) :=
  (if (decide (x340 < (c0_1.length : Int))) = true then (ati c0_1 x340).bind fun x428 => (iter (fun s => zigzag_graph_all_B2 fuel x428 x340 s.1 s.2) fuel (x338, 0)).bind (fun t => zigzag_graph_all_K2 fuel x340 t) else some (Sum.inr x338))
def zigzag_graph_all (fuel : Nat) (c0_0 : (List Int)) (c0_1 : (List (List Int))) (c0_2 : (List Arc)) (c0_3 : (List Pt2)) : Option ((List Pt)) :=
  (iter (fun s => zigzag_graph_all_B1 fuel c0_1 s.1 s.2) fuel (([] : List Pt), 0)).bind (fun t => zigzag_graph_all_K1 fuel t)
def zigzag_Trackable_K1 (fuel : Nat) : Option (Bool) :=
  some true
def zigzag_Trackable_K2 (fuel : Nat) (x1085 : (List Pt2)) (x1090 : Int) (x1524 : (List (Pt × (List Int)))) : Option (((List Pt2) × (List (Pt × (List Int))) × Int) ⊕ (Unit ⊕ (Bool))) :=
  some (Sum.inl (x1085, x1524, (w64 (x1090 + 1))))
def zigzag_Trackable_B2 (fuel : Nat) (r808 : ((List Pt))) (r1353 : ((List Int))) (r795 : ((List Int) × (List (List Int)) × (List Arc) × (List Pt2) × (List (Pt × (List Int))) × Bool)) (x1085 : (List Pt2)) (x1345 : Pt) (x1443 : (List (Pt × (List Int)))) (x1446 : Int) : Option (((List (Pt × (List Int))) × Int) ⊕ (((List (Pt × (List Int)))) ⊕ (Bool))) :=
  (if (decide (x1446 < (r808.length : Int))) = true then (ati r808 x1446).bind fun x1531 => (ati r1353 x1531.proc).bind fun x1538 => (andM (decide (0 ≤ x1538)) (some (decide (x1538 ≤ x1531.index)))).bind fun x1559 => (if x1559 = true then (zigzag_graph_vector fuel (⟨x1531.proc, x1531.index⟩ : Pt) r795.1 r795.2.1 r795.2.2.1 x1085 x1443).bind fun r1567 => (ati r1567.1 x1345.proc).bind fun x1569 => (if (decide (x1569 ≤ x1345.index)) = true then some (Sum.inr (Sum.inr false)) else some (Sum.inl (r1567.2, (w64 (x1446 + 1))))) else (if false = true then some (Sum.inr (Sum.inr false)) else some (Sum.inl (x1443, (w64 (x1446 + 1)))))) else some (Sum.inr (Sum.inl x1443)))
def zigzag_Trackable_B1 (fuel : Nat) (r808 : ((List Pt))) (r795 : ((List Int) × (List (List Int)) × (List Arc) × (List Pt2) × (List (Pt × (List Int))) × Bool)) (x1085 : (List Pt2)) (x1088 : (List (Pt × (List Int)))) (x1090 : Int) : Option (((List Pt2) × (List (Pt × (List Int))) × Int) ⊕ (Unit ⊕ (Bool))) :=
  (if (decide (x1090 < (r808.length : Int))) = true then (ati r808 x1090).bind fun x1345 => (zigzag_graph_arrivals fuel (⟨x1345.proc, x1345.index⟩ : Pt) r795.1 r795.2.1 r795.2.2.1 x1085).bind fun r1353 => (iter (fun s => zigzag_Trackable_B2 fuel r808 r1353 r795 x1085 x1345 s.1 s.2) fuel (x1088, 0)).bind (fun t => Sum.elim (fun t => zigzag_Trackable_K2 fuel x1085 x1090 t) (fun t => some (Sum.inr (Sum.inr t))) t) else some (Sum.inr (Sum.inl ())))
def zigzag_Trackable (fuel : Nat) (a0 : Pat) : Option (Bool) :=
  (zigzag_newGraph fuel (⟨a0.lens, a0.ckpts, a0.arcs⟩ : Pat) ([] : List Pt)).bind fun r795 => (if (!r795.2.2.2.2.2) = true then some false else (zigzag_graph_all fuel r795.1 r795.2.1 r795.2.2.1 r795.2.2.2.1).bind fun r808 => (iter (fun s => zigzag_Trackable_B1 fuel r808 r795 s.1 s.2.1 s.2.2) fuel (r795.2.2.2.1, r795.2.2.2.2.1, 0)).bind (fun t => Sum.elim (fun t => zigzag_Trackable_K1 fuel) (fun t => some t) t))
end Go.Mine
namespace Go.Proofs.Ytbmjcbhappjnaaa
open Go.RowKit Go.Mine
attribute [local irreducible] eseq ewp iter
theorem search_d {fuel : Nat} : ∀ (d_ : Nat) {F R : Nat → Prop} {w : World} {a0 : Pt} {c2_0 : (List Int)} {c2_1 : (List (List Int))} {c2_2 : (List Arc)} {c2_3 : (List Pt2)} {c1_0 : (List (Pt × Bool))} {c3_0 : (List Int)} {B2 : Nat} {B2_p : Nat} {v3 : Value} {v4 : Value} {v5 : Value} {v6 : Value} {v7 : Value} {B4 : Nat} {B1 : Nat} {B9 : Nat} {B3 : Nat} {v11 : Value} {r : ((List (Pt × Bool)) × (List Int))} (hS : Sep F R R w w [HP.map Pt.key_ Ty.bool false (fun _ => False) B9 c1_0, HP.own Ty.int (fun _ => False) 3 v11 c3_0]) (f1 : Lent w R B2 [.pointer (some ⟨B2_p, 0, none⟩)] 140) (f2 : Lent w R B2_p [v3, v4, v5, v6, v7] 187) (f3 : IsSlice Ty.int w R v3 c2_0) (f4 : IsSlice (Ty.slice Ty.int) w R v4 c2_1) (f5 : IsSlice arcTy w R v5 c2_2) (f6 : IsSlice pt2Ty w R v6 c2_3) (f10 : Lent w R B1 [.map (some B9)] 190) (f12 : Lent w R B3 [v11] 27) (f8 : Lent w R B4 [.func (.func 120) #[] #[.pointer (some ⟨B1, 0, none⟩), .pointer (some ⟨B2, 0, none⟩), .pointer (some ⟨B3, 0, none⟩), .pointer (some ⟨B4, 0, none⟩)]] 191) (h : search_R fuel d_ a0 c2_0 c2_1 c2_2 c2_3 c1_0 c3_0 = some r),
    Gives Try.prog 120 [.agg #[.int .i64 a0.proc, .int .i64 a0.index], .pointer (some ⟨B1, 0, none⟩), .pointer (some ⟨B2, 0, none⟩), .pointer (some ⟨B3, 0, none⟩), .pointer (some ⟨B4, 0, none⟩)] w fun u w1 => ∃ (R1 : Nat → Prop), u = .tuple #[] ∧ Sep F R R1 w w1 [HP.map Pt.key_ Ty.bool false (fun _ => False) B9 r.1, HP.own Ty.int (fun _ => False) 3 v11 r.2] := by
  intro d_
  induction d_ with
  | zero => intro F R w a0 c2_0 c2_1 c2_2 c2_3 c1_0 c3_0 B2 B2_p v3 v4 v5 v6 v7 B4 B1 B9 B3 v11 r hS f1 f2 f3 f4 f5 f6 f10 f12 f8 h; cases h
  | succ d_ ih =>
    intro F R w a0 c2_0 c2_1 c2_2 c2_3 c1_0 c3_0 B2 B2_p v3 v4 v5 v6 v7 B4 B1 B9 B3 v11 r hS f1 f2 f3 f4 f5 f6 f10 f12 f8 h
    replace h : search_F fuel (search_R fuel d_) a0 c2_0 c2_1 c2_2 c2_3 c1_0 c3_0 = some r := h
    generalize search_R fuel d_ = rec_ at h ih
    refine fn_of Try.func120 rfl Try.ntmps120 (Nat.le_of_ble_eq_true rfl) ?_
    unfold search_F at h
    refine e_seq fun K624 hK624 => ?_
    refine e_region_text rfl ?_
    refine q_boxB rfl rfl rfl fun w625 bl625 hg625 hb625 hB625 => ?_
    replace f10 := f10.ext hB625
    replace f1 := f1.ext hB625
    replace f2 := f2.ext hB625
    replace f3 := f3.ext hB625
    replace f4 := f4.ext hB625
    replace f5 := f5.ext hB625
    replace f6 := f6.ext hB625
    replace f12 := f12.ext hB625
    replace f8 := f8.ext hB625
    replace hS := hS.newBlk hB625 hg625 hb625
    refine eseq_nil ?_
    refine hK624 _ _ ?_
    refine e_scope ?_
    refine e_seq fun K627 hK627 => ?_
    refine e_seq fun K628 hK628 => ?_
    refine e_region_text rfl ?_
    refine q_load rfl (Blk.cell f10.blk rfl) rfl ?_
    refine q_loadAgg rfl (Blk.cellsAt (hS.blk 0 rfl) 0 2 rfl) rfl rfl ?_
    obtain ⟨x630, hx630, h⟩ := Option.of_bind h
    refine q_lookup1 (zv := .bool false) (zx := false) (k := (⟨a0.proc, a0.index⟩ : Pt)) 1 hS rfl (fun _ _ => VR.ofEnc rfl) rfl rfl rfl fun v629 hv629 => ?_
    rw [Option.some.inj hx630] at hv629
    obtain rfl : v629 = .bool x630 := hv629.enc
    refine eseq_nil ?_
    refine hK628 _ _ ?_
    refine e_cond rfl (fun hc631 => ?_) (fun hc631 => ?_)
    · replace h := (if_pos hc631).symm.trans h
      refine e_ret ?_
      obtain rfl := Option.some.inj h
      exact ⟨_, res0 rfl, _, rfl, (hS.pickB [1, 2] 3 rfl rfl)⟩
    · replace h := (if_neg (not_true hc631)).symm.trans h
      refine e_skip ?_
      refine hK627 _ _ ?_
      refine e_seq fun K632 hK632 => ?_
      refine e_region_text rfl ?_
      refine q_load rfl (Blk.cell f10.blk rfl) rfl ?_
      refine q_loadAgg rfl (Blk.cellsAt (hS.blk 0 rfl) 0 2 rfl) rfl rfl ?_
      obtain ⟨x634, hx634, h⟩ := Option.of_bind h
      refine q_mapUpdate (k := (⟨a0.proc, a0.index⟩ : Pt)) (xx := true) 1 hS rfl rfl rfl rfl (VR.ofEnc rfl) rfl rfl fun w633 hO633 hM633 => ?_
      rw [Option.some.inj hx634] at hM633
      have hk633 := hS.keptF 1 rfl (StepF.of_only hO633 rfl)
      replace f1 := f1.kept hk633
      replace f2 := f2.kept hk633
      replace f3 := f3.kept hk633
      replace f4 := f4.kept hk633
      replace f5 := f5.kept hk633
      replace f6 := f6.kept hk633
      replace f12 := f12.kept hk633
      replace f8 := f8.kept hk633
      replace f10 := f10.kept hk633
      replace hS := hM633; simp only [List.set] at hS
      refine eseq_nil ?_
      refine hK632 _ _ ?_
      refine e_seq fun K635 hK635 => ?_
      refine e_label ?_
      refine hK635 _ _ ?_
      refine e_seq fun K636 hK636 => ?_
      refine e_region_text rfl ?_
      refine q_load rfl (Blk.cell f1.blk rfl) rfl ?_
      refine q_nilCheck rfl rfl ?_
      refine q_field rfl rfl ?_
      refine q_load rfl (Blk.cell f2.blk rfl) rfl ?_
      refine q_lenS rfl f6 rfl ?_
      refine q_move rfl rfl ?_
      refine eseq_nil ?_
      refine hK636 _ _ ?_
      refine e_block ?_
      obtain ⟨tl637, ht637, h⟩ := Option.of_bind h
      refine e_loop (fun m_ E_ w748 => ∃ (x749 : (List (Pt × Bool))), ∃ (x750 : (List Int)), ∃ (x761 : Int), ∃ (R747 : Nat → Prop), iter (fun s => search_B1 fuel rec_ c2_3 a0 c2_0 c2_1 c2_2 s.1 s.2.1 s.2.2) m_ (x749, x750, x761) = some tl637 ∧ Sep F R R747 w w748 [HP.map Pt.key_ Ty.bool false (fun _ => False) B9 x749, HP.own Ty.int (fun _ => False) 3 v11 x750, HP.blk bl625 [.int .i64 a0.proc, .int .i64 a0.index] 127] ∧ Lent w748 R747 B3 [v11] 27 ∧ Lent w748 R747 B4 [.func (.func 120) #[] #[.pointer (some ⟨B1, 0, none⟩), .pointer (some ⟨B2, 0, none⟩), .pointer (some ⟨B3, 0, none⟩), .pointer (some ⟨B4, 0, none⟩)]] 191 ∧ Lent w748 R747 B1 [.map (some B9)] 190 ∧ Lent w748 R747 B2 [.pointer (some ⟨B2_p, 0, none⟩)] 140 ∧ Lent w748 R747 B2_p [v3, v4, v5, v6, v7] 187 ∧ IsSlice Ty.int w748 R747 v3 c2_0 ∧ IsSlice (Ty.slice Ty.int) w748 R747 v4 c2_1 ∧ IsSlice arcTy w748 R747 v5 c2_2 ∧ IsSlice pt2Ty w748 R747 v6 c2_3 ∧ IsSlice pt2Ty w748 R747 v6 c2_3 ∧ E_ = [(3, .pointer (some ⟨B3, 0, none⟩)), (4, .pointer (some ⟨B4, 0, none⟩)), (5, .pointer (some ⟨bl625, 0, none⟩)), (17, v6), (18, .int .i64 (c2_3.length : Int)), (19, .int .i64 x761)]) _ ⟨_, ⟨x634, c3_0, 0, _, ht637, (hS.pickB [1, 2, 0] 3 rfl rfl), f12, f8, f10, f1, f2, f3, f4, f5, f6, f6, rfl⟩, Sub.cons rfl (Sub.cons rfl (Sub.cons rfl (Sub.cons rfl (Sub.cons rfl (Sub.cons rfl (Sub.nil _))))))⟩ ?_
      clear ht637 hS
      rintro m637 _ w748 ⟨x749, x750, x761, R747, ht637, hS, f751, f752, f753, f754, f755, f756, f757, f758, f759, f760, rfl⟩
      obtain ⟨m637, rfl, o637, ho637, ht637⟩ := iter_some ht637
      replace ho637 : search_B1 fuel rec_ c2_3 a0 c2_0 c2_1 c2_2 x749 x750 x761 = some o637 := ho637
      unfold search_B1 at ho637
      refine e_seq fun K863 hK863 => ?_
      refine e_region_text rfl ?_
      refine q_lss rfl rfl rfl ?_
      refine eseq_nil ?_
      refine hK863 _ _ ?_
      refine e_seq fun K864 hK864 => ?_
      refine e_cond rfl (fun hc865 => ?_) (fun hc865 => ?_)
      · replace ho637 := (if_pos hc865).symm.trans ho637
        refine e_skip ?_
        refine hK864 _ _ ?_
        refine e_seq fun K866 hK866 => ?_
        refine e_block ?_
        refine e_seq fun K867 hK867 => ?_
        refine e_region_text rfl ?_
        obtain ⟨x868, hx868, ho637⟩ := Option.of_bind ho637
        refine q_atS (by infer_instance) rfl f760 rfl hx868 rfl fun b869 o869 hm869 f869 => ?_
        have hc870 := Pt2_open f869
        refine q_loadAgg rfl hc870 rfl rfl ?_
        refine q_allocB rfl fun w871 bl871 hg871 hb871 hB871 => ?_
        replace f751 := f751.ext hB871
        replace f752 := f752.ext hB871
        replace f753 := f753.ext hB871
        replace f754 := f754.ext hB871
        replace f755 := f755.ext hB871
        replace f756 := f756.ext hB871
        replace f757 := f757.ext hB871
        replace f758 := f758.ext hB871
        replace f759 := f759.ext hB871
        replace f760 := f760.ext hB871
        replace hS := hS.newBlk hB871 hg871 hb871
        refine q_storeAgg rfl rfl (hS.blk 0 rfl) rfl (Nat.le_of_ble_eq_true rfl) (all_cons rfl (all_cons rfl (all_cons rfl (all_cons rfl (all_nil))))) rfl rfl fun w873 hb873 hO873 => ?_
        simp only [setN, List.set, List.take, List.drop] at hb873
        have hk873 := hS.keptBlk 0 rfl hO873
        replace f751 := f751.kept hk873
        replace f752 := f752.kept hk873
        replace f753 := f753.kept hk873
        replace f754 := f754.kept hk873
        replace f755 := f755.kept hk873
        replace f756 := f756.kept hk873
        replace f757 := f757.kept hk873
        replace f758 := f758.kept hk873
        replace f759 := f759.kept hk873
        replace f760 := f760.kept hk873
        replace hS := hS.setBlk 0 rfl hb873 hO873; simp only [List.set] at hS
        refine eseq_nil ?_
        refine hK867 _ _ ?_
        refine e_seq fun K874 hK874 => ?_
        refine e_seq fun K875 hK875 => ?_
        refine e_region_text rfl ?_
        refine q_indexC (k := 0) rfl rfl rfl rfl rfl ?_
        refine q_field rfl rfl ?_
        refine q_load rfl (Blk.cell (hS.blk 0 rfl) rfl) rfl ?_
        refine q_field rfl rfl ?_
        refine q_load rfl (Blk.cell (hS.blk 3 rfl) rfl) rfl ?_
        refine q_neq rfl rfl rfl ?_
        refine q_move rfl rfl ?_
        obtain ⟨x879, hx878, ho637⟩ := Option.of_bind ho637
        refine g_orM 6 hx878 rfl trivial rfl rfl ?_ ?_ ?_
        · intro hg878
          refine g_skip rfl rfl rfl ?_
          refine g_skip rfl rfl rfl ?_
          refine g_skip rfl rfl rfl ?_
          refine g_skip rfl rfl rfl ?_
          refine g_skip rfl rfl rfl ?_
          refine g_skip rfl rfl rfl ?_
          exact eseq_nil ⟨rfl, Sub.set rfl (Sub.set rfl (Sub.set rfl (Sub.set rfl (Sub.set rfl (Sub.set rfl (Sub.bool true rfl hg878))))))⟩
        · intro hg878 hx878
          clear ho637
          have hT878 := Below.refl (World.heap w873).size w873
          refine g_run rfl ?_; refine q_indexC (k := 0) rfl rfl rfl rfl rfl ?_
          refine g_run rfl ?_; refine q_field rfl rfl ?_
          refine g_run rfl ?_; refine q_load rfl (Blk.cell (hS.blk 0 rfl) rfl) rfl ?_
          refine g_run rfl ?_; refine q_field rfl rfl ?_
          refine g_run rfl ?_; refine q_load rfl (Blk.cell (hS.blk 3 rfl) rfl) rfl ?_
          refine g_run rfl ?_; refine q_lss rfl rfl rfl ?_
          cases hx878
          exact eseq_nil ⟨hT878, Sub.set rfl (Sub.set rfl (Sub.set rfl (Sub.set rfl (Sub.set rfl (Sub.set rfl (Sub.bool false rfl hg878)))))), rfl⟩
        intro wm878 hBm878; clear hx878
        replace hS := hS.below hBm878
        replace f751 := f751.ext hBm878
        replace f752 := f752.ext hBm878
        replace f753 := f753.ext hBm878
        replace f754 := f754.ext hBm878
        replace f755 := f755.ext hBm878
        replace f756 := f756.ext hBm878
        replace f757 := f757.ext hBm878
        replace f758 := f758.ext hBm878
        replace f759 := f759.ext hBm878
        replace f760 := f760.ext hBm878
        refine eseq_nil ?_
        refine hK875 _ _ ?_
        refine e_cond rfl (fun hc880 => ?_) (fun hc880 => ?_)
        · replace ho637 := (if_pos hc880).symm.trans ho637
          refine e_exit ?_
          refine hK866 _ _ ?_
          refine e_region_text rfl ?_
          refine q_addW rfl rfl rfl ?_
          refine q_move rfl rfl ?_
          refine eseq_nil ?_
          obtain rfl := Option.some.inj ho637
          exact ⟨m637, _, Nat.lt_succ_self _, ⟨x749, x750, (w64 (x761 + 1)), _, ht637, (hS.pickB [1, 2, 3] 4 rfl rfl), f751, f752, f753, f754, f755, f756, f757, f758, f759, f760, rfl⟩, Sub.cons rfl (Sub.cons rfl (Sub.cons rfl (Sub.cons rfl (Sub.cons rfl (Sub.cons rfl (Sub.nil _))))))⟩
        · replace ho637 := (if_neg (not_true hc880)).symm.trans ho637
          refine e_skip ?_
          refine hK874 _ _ ?_
          refine e_seq fun K881 hK881 => ?_
          refine e_region_text rfl ?_
          refine q_indexC (k := 1) rfl rfl rfl rfl rfl ?_
          refine q_loadAgg rfl (Blk.cellsAt (hS.blk 0 rfl) 2 2 rfl) rfl rfl ?_
          refine q_allocB rfl fun w882 bl882 hg882 hb882 hB882 => ?_
          replace f751 := f751.ext hB882
          replace f752 := f752.ext hB882
          replace f753 := f753.ext hB882
          replace f754 := f754.ext hB882
          replace f755 := f755.ext hB882
          replace f756 := f756.ext hB882
          replace f757 := f757.ext hB882
          replace f758 := f758.ext hB882
          replace f759 := f759.ext hB882
          replace f760 := f760.ext hB882
          replace hS := hS.newBlk hB882 hg882 hb882
          refine q_storeAgg rfl rfl (hS.blk 0 rfl) rfl (Nat.le_of_ble_eq_true rfl) (all_cons rfl (all_cons rfl (all_nil))) rfl rfl fun w884 hb884 hO884 => ?_
          simp only [setN, List.set, List.take, List.drop] at hb884
          have hk884 := hS.keptBlk 0 rfl hO884
          replace f751 := f751.kept hk884
          replace f752 := f752.kept hk884
          replace f753 := f753.kept hk884
          replace f754 := f754.kept hk884
          replace f755 := f755.kept hk884
          replace f756 := f756.kept hk884
          replace f757 := f757.kept hk884
          replace f758 := f758.kept hk884
          replace f759 := f759.kept hk884
          replace f760 := f760.kept hk884
          replace hS := hS.setBlk 0 rfl hb884 hO884; simp only [List.set] at hS
          refine eseq_nil ?_
          refine hK881 _ _ ?_
          refine e_seq fun K885 hK885 => ?_
          have hJ885 : ∀ (x903 : (List Int)) (R901 : Nat → Prop) (w902 : World) (E_ : Env), search_J1 fuel rec_ x868 c2_0 c2_1 c2_2 c2_3 x749 x761 x903 = some o637 → Sep F R R901 w w902 [HP.map Pt.key_ Ty.bool false (fun _ => False) B9 x749, HP.own Ty.int (fun _ => False) 3 v11 x903, HP.blk bl625 [.int .i64 a0.proc, .int .i64 a0.index] 127, HP.blk bl882 [.int .i64 x868.x1.proc, .int .i64 x868.x1.index] 127] → Lent w902 R901 B3 [v11] 27 → Lent w902 R901 B4 [.func (.func 120) #[] #[.pointer (some ⟨B1, 0, none⟩), .pointer (some ⟨B2, 0, none⟩), .pointer (some ⟨B3, 0, none⟩), .pointer (some ⟨B4, 0, none⟩)]] 191 → Lent w902 R901 B1 [.map (some B9)] 190 → Lent w902 R901 B2 [.pointer (some ⟨B2_p, 0, none⟩)] 140 → Lent w902 R901 B2_p [v3, v4, v5, v6, v7] 187 → IsSlice Ty.int w902 R901 v3 c2_0 → IsSlice (Ty.slice Ty.int) w902 R901 v4 c2_1 → IsSlice arcTy w902 R901 v5 c2_2 → IsSlice pt2Ty w902 R901 v6 c2_3 → IsSlice pt2Ty w902 R901 v6 c2_3 → Sub [(3, .pointer (some ⟨B3, 0, none⟩)), (4, .pointer (some ⟨B4, 0, none⟩)), (5, .pointer (some ⟨bl625, 0, none⟩)), (8, .pointer (some ⟨bl882, 0, none⟩)), (17, v6), (18, .int .i64 (c2_3.length : Int)), (19, .int .i64 x761)] E_ → K885 E_ w902 := by
            intro x903 R901 w902 E_ ho637 hS f904 f905 f906 f907 f908 f909 f910 f911 f912 f913 hsub
            refine hK885 _ _ (e_sub hsub ?_); clear hsub
            unfold search_J1 at ho637
            refine e_region_text rfl ?_
            refine q_load rfl (Blk.cell f905.blk rfl) rfl ?_
            refine q_loadAgg rfl (Blk.cellsAt (hS.blk 3 rfl) 0 2 rfl) rfl rfl ?_
            obtain ⟨r915, hr915, ho637⟩ := Option.of_bind ho637
            refine q_callC rfl rfl (ih (a0 := (⟨x868.x1.proc, x868.x1.index⟩ : Pt)) (Sep.enter (As := [_, _]) hS) f907 f908 f909 f910 f911 f912 f906 f904 f905 hr915) rfl ?_
            rintro _ w914 ⟨R914, rfl, hC914⟩
            refine ⟨(fun h => by cases h), ?_⟩
            have hk914 := hC914.keptR (Sep.offFeet (As := [_, _]) hS)
            replace f904 := (f904.kept hk914).mono fun k hk _ => hC914.ro0 k hk
            replace f905 := (f905.kept hk914).mono fun k hk _ => hC914.ro0 k hk
            replace f906 := (f906.kept hk914).mono fun k hk _ => hC914.ro0 k hk
            replace f907 := (f907.kept hk914).mono fun k hk _ => hC914.ro0 k hk
            replace f908 := (f908.kept hk914).mono fun k hk _ => hC914.ro0 k hk
            replace f909 := (f909.kept hk914).mono fun k hk _ => hC914.ro0 k hk
            replace f910 := (f910.kept hk914).mono fun k hk _ => hC914.ro0 k hk
            replace f911 := (f911.kept hk914).mono fun k hk _ => hC914.ro0 k hk
            replace f912 := (f912.kept hk914).mono fun k hk _ => hC914.ro0 k hk
            replace f913 := (f913.kept hk914).mono fun k hk _ => hC914.ro0 k hk
            replace hS := Sep.leave (As := [_, _]) hS hC914; simp only [List.cons_append, List.nil_append] at hS
            refine eseq_nil ?_
            refine hK866 _ _ ?_
            refine e_region_text rfl ?_
            refine q_addW rfl rfl rfl ?_
            refine q_move rfl rfl ?_
            refine eseq_nil ?_
            obtain rfl := Option.some.inj ho637
            exact ⟨m637, _, Nat.lt_succ_self _, ⟨r915.1, r915.2, (w64 (x761 + 1)), _, ht637, (hS.pickB [0, 1, 2] 4 rfl rfl), f904, f905, f906, f907, f908, f909, f910, f911, f912, f913, rfl⟩, Sub.cons rfl (Sub.cons rfl (Sub.cons rfl (Sub.cons rfl (Sub.cons rfl (Sub.cons rfl (Sub.nil _))))))⟩
          refine e_seq fun K917 hK917 => ?_
          refine e_region_draw mixed (fun _ => False) [0, 0, 2, 7, 15, 31, 63, 127, 255, 127, 127, 1151, 3711, 7807, 16383, 32767] [] [0, 1, 2, 3, 4, 5, 6, 7, 8, 9, 10, 11, 12, 13, 14, 15] (by kernel_rfl) ?_
          refine q_load rfl (Blk.cell f751.blk rfl) rfl ?_
          refine q_field rfl rfl ?_
          refine q_load rfl (Blk.cell (hS.blk 0 rfl) rfl) rfl ?_
          obtain ⟨x918, hx918, ho637⟩ := Option.of_bind ho637
          refine q_indexO (by infer_instance) rfl (hS.own 3 rfl) rfl hx918 rfl ?_
          have f919 := (hS.ownR 3 rfl).elt hx918
          refine q_load rfl (Elt.intCell f919) rfl ?_
          refine q_lss rfl rfl rfl ?_
          refine q_move rfl rfl ?_
          obtain ⟨x925, hx924, ho637⟩ := Option.of_bind ho637
          refine g_orM 8 hx924 rfl trivial rfl rfl ?_ ?_ ?_
          · intro hg924
            refine g_skip rfl rfl rfl ?_
            refine g_skip rfl rfl rfl ?_
            refine g_skip rfl rfl rfl ?_
            refine g_skip rfl rfl rfl ?_
            refine g_skip rfl rfl rfl ?_
            refine g_skip rfl rfl rfl ?_
            refine g_skip rfl rfl rfl ?_
            refine g_skip rfl rfl rfl ?_
            exact eseq_nil ⟨rfl, Sub.set rfl (Sub.set rfl (Sub.set rfl (Sub.set rfl (Sub.set rfl (Sub.set rfl (Sub.set rfl (Sub.set rfl (Sub.bool true rfl hg924))))))))⟩
          · intro hg924 hx924
            clear ho637
            have hT924 := Below.refl (World.heap w884).size w884
            refine g_run rfl ?_; refine q_field rfl rfl ?_
            refine g_run rfl ?_; refine q_load rfl (Blk.cell (hS.blk 0 rfl) rfl) rfl ?_
            refine g_run rfl ?_; refine q_load rfl (Blk.cell f751.blk rfl) rfl ?_
            refine g_run rfl ?_; refine q_field rfl rfl ?_
            refine g_run rfl ?_; refine q_load rfl (Blk.cell (hS.blk 0 rfl) rfl) rfl ?_
            obtain ⟨x926, hx926, hx924⟩ := Option.of_bind hx924
            refine g_run rfl ?_; refine q_indexO (by infer_instance) rfl (hS.own 3 rfl) rfl hx926 rfl ?_
            have f927 := (hS.ownR 3 rfl).elt hx926
            refine g_run rfl ?_; refine q_load rfl (Elt.intCell f927) rfl ?_
            refine g_run rfl ?_; refine q_lss rfl rfl rfl ?_
            cases hx924
            exact eseq_nil ⟨hT924, Sub.set rfl (Sub.set rfl (Sub.set rfl (Sub.set rfl (Sub.set rfl (Sub.set rfl (Sub.set rfl (Sub.set rfl (Sub.bool false rfl hg924)))))))), rfl⟩
          intro wm924 hBm924; clear hx924
          replace hS := hS.below hBm924
          replace f751 := f751.ext hBm924
          replace f752 := f752.ext hBm924
          replace f753 := f753.ext hBm924
          replace f754 := f754.ext hBm924
          replace f755 := f755.ext hBm924
          replace f756 := f756.ext hBm924
          replace f757 := f757.ext hBm924
          replace f758 := f758.ext hBm924
          replace f759 := f759.ext hBm924
          replace f760 := f760.ext hBm924
          refine eseq_nil ?_
          refine hK917 _ _ ?_
          refine e_cond rfl (fun hc928 => ?_) (fun hc928 => ?_)
          · replace ho637 := (if_pos hc928).symm.trans ho637
            refine e_region_text rfl ?_
            refine q_load rfl (Blk.cell f751.blk rfl) rfl ?_
            refine q_field rfl rfl ?_
            refine q_load rfl (Blk.cell (hS.blk 0 rfl) rfl) rfl ?_
            refine q_field rfl rfl ?_
            refine q_load rfl (Blk.cell (hS.blk 0 rfl) rfl) rfl ?_
            obtain ⟨x929, hx929, ho637⟩ := Option.of_bind ho637
            refine q_indexO (by infer_instance) rfl (hS.own 3 rfl) rfl hx929 rfl ?_
            obtain ⟨x931, hx931, ho637⟩ := Option.of_bind ho637
            refine q_storeO (T := Ty.int) (j := 0) rfl rfl (hS.own 3 rfl) hx929 hx931 rfl rfl rfl (Enc.setL rfl) fun w930 ho930 hO930 => ?_
            have hk930 := hS.keptO 3 rfl hx929 hO930
            replace f751 := f751.kept hk930
            replace f752 := f752.kept hk930
            replace f753 := f753.kept hk930
            replace f754 := f754.kept hk930
            replace f755 := f755.kept hk930
            replace f756 := f756.kept hk930
            replace f757 := f757.kept hk930
            replace f758 := f758.kept hk930
            replace f759 := f759.kept hk930
            replace f760 := f760.kept hk930
            replace hS := hS.putO 3 rfl hx929 ho930 hO930; simp only [List.set] at hS
            refine eseq_nil ?_
            exact hJ885 x931 _ _ _ ho637 (hS.pickB [2, 3, 4, 0] 5 rfl rfl) f751 f752 f753 f754 f755 f756 f757 f758 f759 f760 (Sub.cons rfl (Sub.cons rfl (Sub.cons rfl (Sub.cons rfl (Sub.cons rfl (Sub.cons rfl (Sub.cons rfl (Sub.nil _))))))))
          · replace ho637 := (if_neg (not_true hc928)).symm.trans ho637
            refine e_skip ?_
            exact hJ885 x750 _ _ _ ho637 (hS.pickB [2, 3, 4, 0] 5 rfl rfl) f751 f752 f753 f754 f755 f756 f757 f758 f759 f760 (Sub.cons rfl (Sub.cons rfl (Sub.cons rfl (Sub.cons rfl (Sub.cons rfl (Sub.cons rfl (Sub.cons rfl (Sub.nil _))))))))
      · replace ho637 := (if_neg (not_true hc865)).symm.trans ho637
        refine e_exit ?_
        obtain rfl := Option.some.inj ho637
        obtain rfl := Option.some.inj ht637
        replace h : search_K1 fuel rec_ x749 x750 = some r := h
        unfold search_K1 at h
        obtain rfl := Option.some.inj h
        exact ⟨_, res0 rfl, _, rfl, (hS.pickB [0, 1] 3 rfl rfl)⟩
theorem search_w {F R : Nat → Prop} {w : World} {fuel : Nat} {a0 : Pt} {c2_0 : (List Int)} {c2_1 : (List (List Int))} {c2_2 : (List Arc)} {c2_3 : (List Pt2)} {c1_0 : (List (Pt × Bool))} {c3_0 : (List Int)} {B2 : Nat} {B2_p : Nat} {v3 : Value} {v4 : Value} {v5 : Value} {v6 : Value} {v7 : Value} {B4 : Nat} {B1 : Nat} {B9 : Nat} {B3 : Nat} {v11 : Value} {r : ((List (Pt × Bool)) × (List Int))} (hS : Sep F R R w w [HP.map Pt.key_ Ty.bool false (fun _ => False) B9 c1_0, HP.own Ty.int (fun _ => False) 3 v11 c3_0]) (f1 : Lent w R B2 [.pointer (some ⟨B2_p, 0, none⟩)] 140) (f2 : Lent w R B2_p [v3, v4, v5, v6, v7] 187) (f3 : IsSlice Ty.int w R v3 c2_0) (f4 : IsSlice (Ty.slice Ty.int) w R v4 c2_1) (f5 : IsSlice arcTy w R v5 c2_2) (f6 : IsSlice pt2Ty w R v6 c2_3) (f10 : Lent w R B1 [.map (some B9)] 190) (f12 : Lent w R B3 [v11] 27) (f8 : Lent w R B4 [.func (.func 120) #[] #[.pointer (some ⟨B1, 0, none⟩), .pointer (some ⟨B2, 0, none⟩), .pointer (some ⟨B3, 0, none⟩), .pointer (some ⟨B4, 0, none⟩)]] 191) (h : search fuel a0 c2_0 c2_1 c2_2 c2_3 c1_0 c3_0 = some r) :
    Gives Try.prog 120 [.agg #[.int .i64 a0.proc, .int .i64 a0.index], .pointer (some ⟨B1, 0, none⟩), .pointer (some ⟨B2, 0, none⟩), .pointer (some ⟨B3, 0, none⟩), .pointer (some ⟨B4, 0, none⟩)] w fun u w1 => ∃ (R1 : Nat → Prop), u = .tuple #[] ∧ Sep F R R1 w w1 [HP.map Pt.key_ Ty.bool false (fun _ => False) B9 r.1, HP.own Ty.int (fun _ => False) 3 v11 r.2] :=
  search_d fuel hS f1 f2 f3 f4 f5 f6 f10 f12 f8 h
theorem zigzag_graph_arrivals_w {F R : Nat → Prop} {w : World} {fuel : Nat} {a1 : Pt} {c0_0 : (List Int)} {c0_1 : (List (List Int))} {c0_2 : (List Arc)} {c0_3 : (List Pt2)} {B0 : Nat} {v2 : Value} {v3 : Value} {v4 : Value} {v5 : Value} {v6 : Value} {r : ((List Int))} (hS : Sep F R R w w []) (f1 : Lent w R B0 [v2, v3, v4, v5, v6] 187) (f2 : IsSlice Ty.int w R v2 c0_0) (f3 : IsSlice (Ty.slice Ty.int) w R v3 c0_1) (f4 : IsSlice arcTy w R v4 c0_2) (f5 : IsSlice pt2Ty w R v5 c0_3) (h : zigzag_graph_arrivals fuel a1 c0_0 c0_1 c0_2 c0_3 = some r) :
    Gives Try.prog 84 [.pointer (some ⟨B0, 0, none⟩), .agg #[.int .i64 a1.proc, .int .i64 a1.index]] w fun u w1 => ∃ (v118 : Value), ∃ (R1 : Nat → Prop), u = v118 ∧ Sep F R R1 w w1 [HP.own Ty.int (fun _ => False) 3 v118 r] := by
  refine fn_of Try.func84 rfl Try.ntmps84 (Nat.le_of_ble_eq_true rfl) ?_
  unfold zigzag_graph_arrivals at h
  refine e_seq fun K119 hK119 => ?_
  refine e_region_text rfl ?_
  refine q_boxB rfl rfl rfl fun w120 bl120 hg120 hb120 hB120 => ?_
  replace f1 := f1.ext hB120
  replace f2 := f2.ext hB120
  replace f3 := f3.ext hB120
  replace f4 := f4.ext hB120
  replace f5 := f5.ext hB120
  replace hS := hS.newBlk hB120 hg120 hb120
  refine q_boxB rfl rfl rfl fun w122 bl122 hg122 hb122 hB122 => ?_
  replace f1 := f1.ext hB122
  replace f2 := f2.ext hB122
  replace f3 := f3.ext hB122
  replace f4 := f4.ext hB122
  replace f5 := f5.ext hB122
  replace hS := hS.newBlk hB122 hg122 hb122
  refine q_assign rfl rfl ?_
  refine eseq_nil ?_
  refine hK119 _ _ ?_
  refine e_seq fun K124 hK124 => ?_
  refine e_region_text rfl ?_
  refine q_load rfl (Blk.cell (hS.blk 1 rfl) rfl) rfl ?_
  refine q_nilCheck rfl rfl ?_
  refine q_field rfl rfl ?_
  refine q_field rfl rfl ?_
  refine q_load rfl (Blk.cell f1.blk rfl) rfl ?_
  refine q_lenS rfl f2 rfl ?_
  obtain ⟨x125, hx125, h⟩ := Option.of_bind h
  refine q_makeO (T := Ty.int) (S := (fun _ => False)) rfl rfl rfl hx125 (fun _ h => h.elim) rfl fun w126 v126 ho126 hv126 hB126 => ?_
  replace f1 := f1.ext hB126
  replace f2 := f2.ext hB126
  replace f3 := f3.ext hB126
  replace f4 := f4.ext hB126
  replace f5 := f5.ext hB126
  replace hS := hS.newOwnS hB126 ho126 hv126 (fun _ h => h.elim)
  refine q_allocB rfl fun w128 bl128 hg128 hb128 hB128 => ?_
  replace f1 := f1.ext hB128
  replace f2 := f2.ext hB128
  replace f3 := f3.ext hB128
  replace f4 := f4.ext hB128
  replace f5 := f5.ext hB128
  replace hS := hS.newBlk hB128 hg128 hb128
  refine q_store rfl rfl (hS.blk 0 rfl) (Nat.le_of_ble_eq_true rfl) (hS.own 1 rfl).one rfl rfl fun w130 hb130 hO130 => ?_
  have hk130 := hS.keptBlk 0 rfl hO130
  replace f1 := f1.kept hk130
  replace f2 := f2.kept hk130
  replace f3 := f3.kept hk130
  replace f4 := f4.kept hk130
  replace f5 := f5.kept hk130
  replace hS := hS.setBlk 0 rfl hb130 hO130; simp only [List.set] at hS
  refine eseq_nil ?_
  refine hK124 _ _ ?_
  refine e_seq fun K131 hK131 => ?_
  refine e_seq fun K132 hK132 => ?_
  refine e_region_text rfl ?_
  refine q_load rfl (Blk.cell (hS.blk 0 rfl) rfl) rfl ?_
  refine q_lenS rfl (hS.isl 1 rfl) rfl ?_
  refine q_move rfl rfl ?_
  refine eseq_nil ?_
  refine hK132 _ _ ?_
  refine e_block ?_
  obtain ⟨tl133, ht133, h⟩ := Option.of_bind h
  have hX133_0 : ∀ (x200 : (List Int)) (v199 : Value) (R191 : Nat → Prop) (w192 : World) (E_ : Env), zigzag_graph_arrivals_K1 fuel a1 c0_0 c0_1 c0_2 c0_3 x200 = some r → Sep F R R191 w w192 [HP.blk bl120 [.pointer (some ⟨B0, 0, none⟩)] 140, HP.blk bl122 [.int .i64 a1.proc, .int .i64 a1.index] 127, HP.blk bl128 [v199] 27, HP.own Ty.int (fun _ => False) 3 v199 x200] → Lent w192 R191 B0 [v2, v3, v4, v5, v6] 187 → IsSlice Ty.int w192 R191 v2 c0_0 → IsSlice (Ty.slice Ty.int) w192 R191 v3 c0_1 → IsSlice arcTy w192 R191 v4 c0_2 → IsSlice pt2Ty w192 R191 v5 c0_3 → Sub [(2, .pointer (some ⟨bl120, 0, none⟩)), (3, .pointer (some ⟨bl122, 0, none⟩)), (5, .pointer (some ⟨bl128, 0, none⟩))] E_ → K131 E_ w192 := by
    intro x200 v199 R191 w192 E_ h hS f193 f194 f195 f196 f197 hsub
    refine hK131 _ _ (e_sub hsub ?_); clear hsub
    unfold zigzag_graph_arrivals_K1 at h
    refine e_seq fun K201 hK201 => ?_
    refine e_region_text rfl ?_
    refine q_makeMap rfl fun w202 bl202 hg202 hb202 hB202 => ?_
    replace f193 := f193.ext hB202
    replace f194 := f194.ext hB202
    replace f195 := f195.ext hB202
    replace f196 := f196.ext hB202
    replace f197 := f197.ext hB202
    replace hS := hS.newMap (enc := Pt.key_) (T := Ty.bool) (agg := false) hB202 hg202 hb202
    refine q_allocB rfl fun w204 bl204 hg204 hb204 hB204 => ?_
    replace f193 := f193.ext hB204
    replace f194 := f194.ext hB204
    replace f195 := f195.ext hB204
    replace f196 := f196.ext hB204
    replace f197 := f197.ext hB204
    replace hS := hS.newBlk hB204 hg204 hb204
    refine q_store rfl rfl (hS.blk 0 rfl) (Nat.le_of_ble_eq_true rfl) rfl rfl rfl fun w206 hb206 hO206 => ?_
    have hk206 := hS.keptBlk 0 rfl hO206
    replace f193 := f193.kept hk206
    replace f194 := f194.kept hk206
    replace f195 := f195.kept hk206
    replace f196 := f196.kept hk206
    replace f197 := f197.kept hk206
    replace hS := hS.setBlk 0 rfl hb206 hO206; simp only [List.set] at hS
    refine eseq_nil ?_
    refine hK201 _ _ ?_
    refine e_seq fun K207 hK207 => ?_
    refine e_region_text rfl ?_
    refine q_allocB rfl fun w208 bl208 hg208 hb208 hB208 => ?_
    replace f193 := f193.ext hB208
    replace f194 := f194.ext hB208
    replace f195 := f195.ext hB208
    replace f196 := f196.ext hB208
    replace f197 := f197.ext hB208
    replace hS := hS.newBlk hB208 hg208 hb208
    refine eseq_nil ?_
    refine hK207 _ _ ?_
    refine e_seq fun K210 hK210 => ?_
    refine e_region_text rfl ?_
    refine q_makeFunc rfl rfl ?_
    refine q_store rfl rfl (hS.blk 0 rfl) (Nat.le_of_ble_eq_true rfl) rfl rfl rfl fun w211 hb211 hO211 => ?_
    have hk211 := hS.keptBlk 0 rfl hO211
    replace f193 := f193.kept hk211
    replace f194 := f194.kept hk211
    replace f195 := f195.kept hk211
    replace f196 := f196.kept hk211
    replace f197 := f197.kept hk211
    replace hS := hS.setBlk 0 rfl hb211 hO211; simp only [List.set] at hS
    obtain ⟨R212, hS, hm212, f212⟩ := hS.lend 1 rfl; simp only [List.eraseIdx] at hS
    replace f193 := f193.mono fun k hk _ => hm212 k hk
    replace f194 := f194.mono fun k hk _ => hm212 k hk
    replace f195 := f195.mono fun k hk _ => hm212 k hk
    replace f196 := f196.mono fun k hk _ => hm212 k hk
    replace f197 := f197.mono fun k hk _ => hm212 k hk
    obtain ⟨R213, hS, hm213, f213⟩ := hS.lend 2 rfl; simp only [List.eraseIdx] at hS
    replace f212 := f212.mono fun k hk _ => hm213 k hk
    replace f193 := f193.mono fun k hk _ => hm213 k hk
    replace f194 := f194.mono fun k hk _ => hm213 k hk
    replace f195 := f195.mono fun k hk _ => hm213 k hk
    replace f196 := f196.mono fun k hk _ => hm213 k hk
    replace f197 := f197.mono fun k hk _ => hm213 k hk
    obtain ⟨R214, hS, hm214, f214⟩ := hS.lend 3 rfl; simp only [List.eraseIdx] at hS
    replace f212 := f212.mono fun k hk _ => hm214 k hk
    replace f213 := f213.mono fun k hk _ => hm214 k hk
    replace f193 := f193.mono fun k hk _ => hm214 k hk
    replace f194 := f194.mono fun k hk _ => hm214 k hk
    replace f195 := f195.mono fun k hk _ => hm214 k hk
    replace f196 := f196.mono fun k hk _ => hm214 k hk
    replace f197 := f197.mono fun k hk _ => hm214 k hk
    obtain ⟨R215, hS, hm215, f215⟩ := hS.lend 0 rfl; simp only [List.eraseIdx] at hS
    replace f214 := f214.mono fun k hk _ => hm215 k hk
    replace f212 := f212.mono fun k hk _ => hm215 k hk
    replace f213 := f213.mono fun k hk _ => hm215 k hk
    replace f193 := f193.mono fun k hk _ => hm215 k hk
    replace f194 := f194.mono fun k hk _ => hm215 k hk
    replace f195 := f195.mono fun k hk _ => hm215 k hk
    replace f196 := f196.mono fun k hk _ => hm215 k hk
    replace f197 := f197.mono fun k hk _ => hm215 k hk
    refine eseq_nil ?_
    refine hK210 _ _ ?_
    refine e_seq fun K216 hK216 => ?_
    refine e_region_text rfl ?_
    refine q_load rfl (Blk.cell f215.blk rfl) rfl ?_
    refine q_field rfl rfl ?_
    refine q_load rfl (Blk.cell (hS.blk 1 rfl) rfl) rfl ?_
    refine q_field rfl rfl ?_
    refine q_load rfl (Blk.cell (hS.blk 1 rfl) rfl) rfl ?_
    refine q_addW rfl rfl rfl ?_
    refine q_build (Parts.cons rfl rfl (Parts.cons rfl rfl Parts.nil)) rfl rfl ?_
    obtain ⟨r218, hr218, h⟩ := Option.of_bind h
    replace hS := hS.pickB [0, 2, 1] 3 rfl rfl; simp only [List.map_cons, List.map_nil, List.getD_cons_zero, List.getD_cons_succ] at hS
    refine q_callC rfl rfl (search_w (a0 := (⟨a1.proc, w64 (a1.index + 1)⟩ : Pt)) (Sep.enter (As := [_, _]) hS) f213 f193 f194 f195 f196 f197 f212 f214 f215 hr218) rfl ?_
    rintro _ w217 ⟨R217, rfl, hC217⟩
    refine ⟨(fun h => by cases h), ?_⟩
    have hk217 := hC217.keptR (Sep.offFeet (As := [_, _]) hS)
    replace f214 := (f214.kept hk217).mono fun k hk _ => hC217.ro0 k hk
    replace f212 := (f212.kept hk217).mono fun k hk _ => hC217.ro0 k hk
    replace f213 := (f213.kept hk217).mono fun k hk _ => hC217.ro0 k hk
    replace f193 := (f193.kept hk217).mono fun k hk _ => hC217.ro0 k hk
    replace f194 := (f194.kept hk217).mono fun k hk _ => hC217.ro0 k hk
    replace f195 := (f195.kept hk217).mono fun k hk _ => hC217.ro0 k hk
    replace f196 := (f196.kept hk217).mono fun k hk _ => hC217.ro0 k hk
    replace f197 := (f197.kept hk217).mono fun k hk _ => hC217.ro0 k hk
    replace f215 := (f215.kept hk217).mono fun k hk _ => hC217.ro0 k hk
    replace hS := Sep.leave (As := [_, _]) hS hC217; simp only [List.cons_append, List.nil_append] at hS
    refine eseq_nil ?_
    refine hK216 _ _ ?_
    refine e_seq fun K220 hK220 => ?_
    refine e_region_text rfl ?_
    refine q_load rfl (Blk.cell f214.blk rfl) rfl ?_
    refine q_assign rfl rfl ?_
    refine eseq_nil ?_
    refine hK220 _ _ ?_
    refine e_ret ?_
    obtain rfl := Option.some.inj h
    exact ⟨_, res1 rfl rfl, v199, _, rfl, (hS.pickB [1] 3 rfl rfl)⟩
  refine e_loop (fun m_ E_ w162 => ∃ (x170 : (List Int)), ∃ (x171 : Int), ∃ (v169 : Value), ∃ (R161 : Nat → Prop), iter (fun s => zigzag_graph_arrivals_B1 fuel x125 s.1 s.2) m_ (x170, x171) = some tl133 ∧ Sep F R R161 w w162 [HP.blk bl120 [.pointer (some ⟨B0, 0, none⟩)] 140, HP.blk bl122 [.int .i64 a1.proc, .int .i64 a1.index] 127, HP.blk bl128 [v169] 27, HP.own Ty.int (fun _ => False) 3 v169 x170] ∧ Lent w162 R161 B0 [v2, v3, v4, v5, v6] 187 ∧ IsSlice Ty.int w162 R161 v2 c0_0 ∧ IsSlice (Ty.slice Ty.int) w162 R161 v3 c0_1 ∧ IsSlice arcTy w162 R161 v4 c0_2 ∧ IsSlice pt2Ty w162 R161 v5 c0_3 ∧ E_ = [(2, .pointer (some ⟨bl120, 0, none⟩)), (3, .pointer (some ⟨bl122, 0, none⟩)), (5, .pointer (some ⟨bl128, 0, none⟩)), (17, .int .i64 (x125.length : Int)), (18, .int .i64 x171)]) _ ⟨_, ⟨x125, 0, v126, _, ht133, (hS.pickB [3, 2, 0, 1] 4 rfl rfl), f1, f2, f3, f4, f5, rfl⟩, Sub.cons rfl (Sub.cons rfl (Sub.cons rfl (Sub.cons rfl (Sub.cons rfl (Sub.nil _)))))⟩ ?_
  clear ht133 hS
  rintro m133 _ w162 ⟨x170, x171, v169, R161, ht133, hS, f163, f164, f165, f166, f167, rfl⟩
  obtain ⟨m133, rfl, o133, ho133, ht133⟩ := iter_some ht133
  replace ho133 : zigzag_graph_arrivals_B1 fuel x125 x170 x171 = some o133 := ho133
  unfold zigzag_graph_arrivals_B1 at ho133
  refine e_seq fun K221 hK221 => ?_
  refine e_region_text rfl ?_
  refine q_lss rfl rfl rfl ?_
  refine eseq_nil ?_
  refine hK221 _ _ ?_
  refine e_seq fun K222 hK222 => ?_
  refine e_cond rfl (fun hc223 => ?_) (fun hc223 => ?_)
  · replace ho133 := (if_pos hc223).symm.trans ho133
    refine e_skip ?_
    refine hK222 _ _ ?_
    refine e_seq fun K224 hK224 => ?_
    refine e_block ?_
    refine e_seq fun K225 hK225 => ?_
    refine e_region_text rfl ?_
    refine q_move rfl rfl ?_
    refine q_assign rfl rfl ?_
    refine eseq_nil ?_
    refine hK225 _ _ ?_
    refine e_region_text rfl ?_
    refine q_load rfl (Blk.cell (hS.blk 2 rfl) rfl) rfl ?_
    refine q_move rfl rfl ?_
    obtain ⟨x226, hx226, ho133⟩ := Option.of_bind ho133
    refine q_indexO (by infer_instance) rfl (hS.own 3 rfl) rfl hx226 rfl ?_
    obtain ⟨x228, hx228, ho133⟩ := Option.of_bind ho133
    refine q_storeO (T := Ty.int) (j := 0) rfl rfl (hS.own 3 rfl) hx226 hx228 rfl rfl rfl (Enc.setL rfl) fun w227 ho227 hO227 => ?_
    have hk227 := hS.keptO 3 rfl hx226 hO227
    replace f163 := f163.kept hk227
    replace f164 := f164.kept hk227
    replace f165 := f165.kept hk227
    replace f166 := f166.kept hk227
    replace f167 := f167.kept hk227
    replace hS := hS.putO 3 rfl hx226 ho227 hO227; simp only [List.set] at hS
    refine eseq_nil ?_
    refine hK224 _ _ ?_
    refine e_region_text rfl ?_
    refine q_addW rfl rfl rfl ?_
    refine q_move rfl rfl ?_
    refine eseq_nil ?_
    obtain rfl := Option.some.inj ho133
    exact ⟨m133, _, Nat.lt_succ_self _, ⟨x228, (w64 (x171 + 1)), v169, _, ht133, hS, f163, f164, f165, f166, f167, rfl⟩, Sub.cons rfl (Sub.cons rfl (Sub.cons rfl (Sub.cons rfl (Sub.cons rfl (Sub.nil _)))))⟩
  · replace ho133 := (if_neg (not_true hc223)).symm.trans ho133
    refine e_exit ?_
    obtain rfl := Option.some.inj ho133
    obtain rfl := Option.some.inj ht133
    exact hX133_0 x170 v169 _ _ _ h hS f163 f164 f165 f166 f167 (Sub.cons rfl (Sub.cons rfl (Sub.cons rfl (Sub.nil _))))
theorem zigzag_newGraph_w {F R : Nat → Prop} {w : World} {fuel : Nat} {a0 : Pat} {a1 : (List Pt)} {v1 : Value} {v2 : Value} {v3 : Value} {v4 : Value} {r : ((List Int) × (List (List Int)) × (List Arc) × (List Pt2) × (List (Pt × (List Int))) × Bool)} (hS : Sep F R R w w []) (f1 : IsSlice Ty.int w R v1 a0.lens) (f2 : IsSlice (Ty.slice Ty.int) w R v2 a0.ckpts) (f3 : IsSlice arcTy w R v3 a0.arcs) (f4 : IsSlice ptTy w R v4 a1) (h : zigzag_newGraph fuel a0 a1 = some r) :
    Gives Try.prog 81 [.agg #[v1, v2, v3], v4] w fun u w1 => ∃ (B296 : Nat), ∃ (v297 : Value), ∃ (v298 : Value), ∃ (v299 : Value), ∃ (v300 : Value), ∃ (B301 : Nat), ∃ (R1 : Nat → Prop), u = .tuple #[.pointer (some ⟨B296, 0, none⟩), .bool r.2.2.2.2.2] ∧ Sep F R R1 w w1 [HP.blk B296 [v297, v298, v299, v300, .map (some B301)] 187, HP.own pt2Ty (fun _ => False) 189 v300 r.2.2.2.1, HP.map Pt.key_ (Ty.slice Ty.int) false R1 B301 r.2.2.2.2.1] ∧ IsSlice Ty.int w1 R1 v297 r.1 ∧ IsSlice (Ty.slice Ty.int) w1 R1 v298 r.2.1 ∧ IsSlice arcTy w1 R1 v299 r.2.2.1 := by
  refine fn_of Try.func81 rfl Try.ntmps81 (Nat.le_of_ble_eq_true rfl) ?_
  unfold zigzag_newGraph at h
  refine e_seq fun K302 hK302 => ?_
  refine e_region_text rfl ?_
  refine q_boxB rfl rfl rfl fun w303 bl303 hg303 hb303 hB303 => ?_
  replace f1 := f1.ext hB303
  replace f2 := f2.ext hB303
  replace f3 := f3.ext hB303
  replace f4 := f4.ext hB303
  replace hS := hS.newBlk hB303 hg303 hb303
  refine q_assign rfl rfl ?_
  refine q_assign rfl rfl ?_
  refine eseq_nil ?_
  refine hK302 _ _ ?_
  refine e_seq fun K305 hK305 => ?_
  refine e_seq fun K306 hK306 => ?_
  refine e_region_text rfl ?_
  refine q_loadAgg rfl (Blk.cellsAt (hS.blk 0 rfl) 0 3 rfl) rfl rfl ?_
  obtain ⟨r308, hr308, h⟩ := Option.of_bind h
  refine q_call rfl (pattern_Check_w (a0 := (⟨a0.lens, a0.ckpts, a0.arcs⟩ : Pat)) (Sep.enter (As := []) hS) f1 f2 f3 hr308) rfl ?_
  rintro _ w307 ⟨R307, rfl, hC307⟩
  have hB307 : Below (World.heap w303).size w303 w307 := hC307.stepB0
  refine ⟨fun _ => .of_below hB307, ?_⟩
  replace f4 := (f4.ext hB307).mono fun k hk _ => hC307.ro0 k hk
  replace f1 := (f1.ext hB307).mono fun k hk _ => hC307.ro0 k hk
  replace f2 := (f2.ext hB307).mono fun k hk _ => hC307.ro0 k hk
  replace f3 := (f3.ext hB307).mono fun k hk _ => hC307.ro0 k hk
  replace hS := Sep.leave (As := []) hS hC307; simp only [List.cons_append, List.nil_append] at hS
  refine q_neq rfl rfl rfl ?_
  refine eseq_nil ?_
  refine hK306 _ _ ?_
  refine e_cond rfl (fun hc309 => ?_) (fun hc309 => ?_)
  · replace h := (if_pos hc309).symm.trans h
    refine e_seq fun K310 hK310 => ?_
    refine e_region_text rfl ?_
    refine q_assign rfl rfl ?_
    refine q_assign rfl rfl ?_
    refine eseq_nil ?_
    refine hK310 _ _ ?_
    refine e_ret ?_
    cases h
  · replace h := (if_neg (not_true hc309)).symm.trans h
    refine e_skip ?_
    refine hK305 _ _ ?_
    refine e_seq fun K311 hK311 => ?_
    refine e_seq fun K312 hK312 => ?_
    refine e_region_text rfl ?_
    refine q_move rfl rfl ?_
    refine q_lenS rfl f4 rfl ?_
    refine q_move rfl rfl ?_
    refine eseq_nil ?_
    refine hK312 _ _ ?_
    refine e_block ?_
    obtain ⟨tl313, ht313, h⟩ := Option.of_bind h
    have hX313_0 : ∀ (R405 : Nat → Prop) (w406 : World) (E_ : Env), zigzag_newGraph_K1 fuel a0 = some r → Sep F R R405 w w406 [HP.blk bl303 [v1, v2, v3] 31] → IsSlice Ty.int w406 R405 v1 a0.lens → IsSlice (Ty.slice Ty.int) w406 R405 v2 a0.ckpts → IsSlice arcTy w406 R405 v3 a0.arcs → Sub [(2, .pointer (some ⟨bl303, 0, none⟩))] E_ → K311 E_ w406 := by
      intro R405 w406 E_ h hS f407 f408 f409 hsub
      refine hK311 _ _ (e_sub hsub ?_); clear hsub
      unfold zigzag_newGraph_K1 at h
      refine e_seq fun K410 hK410 => ?_
      refine e_region_text rfl ?_
      refine q_loadAgg rfl (Blk.cellsAt (hS.blk 0 rfl) 0 3 rfl) rfl rfl ?_
      refine q_makeMap rfl fun w411 bl411 hg411 hb411 hB411 => ?_
      replace f407 := f407.ext hB411
      replace f408 := f408.ext hB411
      replace f409 := f409.ext hB411
      replace hS := hS.newMap (enc := Pt.key_) (T := (Ty.slice Ty.int)) (agg := false) hB411 hg411 hb411
      replace hS := hS.mapMono 0 rfl; simp only [List.set] at hS
      refine q_build (Parts.cons rfl rfl (Parts.cons rfl rfl Parts.nil)) rfl rfl ?_
      refine q_boxB rfl rfl rfl fun w413 bl413 hg413 hb413 hB413 => ?_
      replace f407 := f407.ext hB413
      replace f408 := f408.ext hB413
      replace f409 := f409.ext hB413
      replace hS := hS.newBlk hB413 hg413 hb413
      refine q_assign rfl rfl ?_
      refine eseq_nil ?_
      refine hK410 _ _ ?_
      refine e_seq fun K415 hK415 => ?_
      refine e_seq fun K416 hK416 => ?_
      refine e_region_text rfl ?_
      refine q_loadAgg rfl (Blk.cellsAt (hS.blk 2 rfl) 0 3 rfl) rfl rfl ?_
      obtain ⟨r418, hr418, h⟩ := Option.of_bind h
      refine q_call rfl (rgraph_Edges_w (a0 := (⟨a0.lens, a0.ckpts, a0.arcs⟩ : Pat)) (Sep.enter (As := []) hS) f407 f408 f409 hr418) rfl ?_
      rintro v419 w417 ⟨_, R417, rfl, hC417, f419⟩
      have hB417 : Below (World.heap w413).size w413 w417 := hC417.stepB0
      refine ⟨fun _ => .of_below hB417, ?_⟩
      replace f407 := (f407.ext hB417).mono fun k hk _ => hC417.ro0 k hk
      replace f408 := (f408.ext hB417).mono fun k hk _ => hC417.ro0 k hk
      replace f409 := (f409.ext hB417).mono fun k hk _ => hC417.ro0 k hk
      replace hS := Sep.leave (As := []) hS hC417; simp only [List.cons_append, List.nil_append] at hS
      refine q_lenS rfl f419 rfl ?_
      refine q_move rfl rfl ?_
      refine eseq_nil ?_
      refine hK416 _ _ ?_
      refine e_block ?_
      obtain ⟨tl420, ht420, h⟩ := Option.of_bind h
      have hX420_2 : ∀ (x533 : (List Pt2)) (v532 : Value) (R526 : Nat → Prop) (w527 : World) (E_ : Env), zigzag_newGraph_K2 fuel a0 x533 = some r → Sep F R R526 w w527 [HP.blk bl413 [v1, v2, v3, v532, .map (some bl411)] 187, HP.own pt2Ty (fun _ => False) 189 v532 x533, HP.map Pt.key_ (Ty.slice Ty.int) false R526 bl411 ([] : List (Pt × (List Int)))] → IsSlice Ty.int w527 R526 v1 a0.lens → IsSlice (Ty.slice Ty.int) w527 R526 v2 a0.ckpts → IsSlice arcTy w527 R526 v3 a0.arcs → Sub [(8, .pointer (some ⟨bl413, 0, none⟩))] E_ → K415 E_ w527 := by
        intro x533 v532 R526 w527 E_ h hS f528 f529 f530 hsub
        refine hK415 _ _ (e_sub hsub ?_); clear hsub
        unfold zigzag_newGraph_K2 at h
        refine e_seq fun K535 hK535 => ?_
        refine e_region_text rfl ?_
        refine q_move rfl rfl ?_
        refine q_assign rfl rfl ?_
        refine q_assign rfl rfl ?_
        refine eseq_nil ?_
        refine hK535 _ _ ?_
        refine e_ret ?_
        obtain rfl := Option.some.inj h
        exact ⟨_, res2 rfl rfl rfl, bl413, v1, v2, v3, v532, bl411, _, rfl, hS, f528, f529, f530⟩
      replace hS := hS.nilOwn0 pt2Ty 189
      replace hS := hS.mapMono 2 rfl; simp only [List.set] at hS
      refine e_loop (fun m_ E_ w473 => ∃ (x479 : (List Pt2)), ∃ (x482 : Int), ∃ (v478 : Value), ∃ (R472 : Nat → Prop), iter (fun s => zigzag_newGraph_B1 fuel r418 s.1 s.2) m_ (x479, x482) = some tl420 ∧ Sep F R R472 w w473 [HP.blk bl413 [v1, v2, v3, v478, .map (some bl411)] 187, HP.own pt2Ty (fun _ => False) 189 v478 x479, HP.map Pt.key_ (Ty.slice Ty.int) false R472 bl411 ([] : List (Pt × (List Int)))] ∧ IsSlice Ty.int w473 R472 v1 a0.lens ∧ IsSlice (Ty.slice Ty.int) w473 R472 v2 a0.ckpts ∧ IsSlice arcTy w473 R472 v3 a0.arcs ∧ IsSlice pt2Ty w473 R472 v419 r418 ∧ E_ = [(8, .pointer (some ⟨bl413, 0, none⟩)), (54, v419), (55, .int .i64 (r418.length : Int)), (56, .int .i64 x482)]) _ ⟨_, ⟨([] : List Pt2), 0, (.slice none 0 0), _, ht420, (hS.pickB [1, 0, 2] 4 rfl rfl), f407, f408, f409, f419, rfl⟩, Sub.cons rfl (Sub.cons rfl (Sub.cons rfl (Sub.cons rfl (Sub.nil _))))⟩ ?_
      clear ht420 hS
      rintro m420 _ w473 ⟨x479, x482, v478, R472, ht420, hS, f474, f475, f476, f481, rfl⟩
      obtain ⟨m420, rfl, o420, ho420, ht420⟩ := iter_some ht420
      replace ho420 : zigzag_newGraph_B1 fuel r418 x479 x482 = some o420 := ho420
      unfold zigzag_newGraph_B1 at ho420
      refine e_seq fun K537 hK537 => ?_
      refine e_region_text rfl ?_
      refine q_lss rfl rfl rfl ?_
      refine eseq_nil ?_
      refine hK537 _ _ ?_
      refine e_seq fun K538 hK538 => ?_
      refine e_cond rfl (fun hc539 => ?_) (fun hc539 => ?_)
      · replace ho420 := (if_pos hc539).symm.trans ho420
        refine e_skip ?_
        refine hK538 _ _ ?_
        refine e_seq fun K540 hK540 => ?_
        refine e_block ?_
        refine e_seq fun K541 hK541 => ?_
        refine e_region_text rfl ?_
        obtain ⟨x542, hx542, ho420⟩ := Option.of_bind ho420
        refine q_atS (by infer_instance) rfl f481 rfl hx542 rfl fun b543 o543 hm543 f543 => ?_
        have hc544 := Pt2_open f543
        refine q_loadAgg rfl hc544 rfl rfl ?_
        refine q_allocB rfl fun w545 bl545 hg545 hb545 hB545 => ?_
        replace f474 := f474.ext hB545
        replace f475 := f475.ext hB545
        replace f476 := f476.ext hB545
        replace f481 := f481.ext hB545
        replace hS := hS.newBlk hB545 hg545 hb545
        refine q_storeAgg rfl rfl (hS.blk 0 rfl) rfl (Nat.le_of_ble_eq_true rfl) (all_cons rfl (all_cons rfl (all_cons rfl (all_cons rfl (all_nil))))) rfl rfl fun w547 hb547 hO547 => ?_
        simp only [setN, List.set, List.take, List.drop] at hb547
        have hk547 := hS.keptBlk 0 rfl hO547
        replace f474 := f474.kept hk547
        replace f475 := f475.kept hk547
        replace f476 := f476.kept hk547
        replace f481 := f481.kept hk547
        replace hS := hS.setBlk 0 rfl hb547 hO547; simp only [List.set] at hS
        refine eseq_nil ?_
        refine hK541 _ _ ?_
        refine e_seq fun K548 hK548 => ?_
        refine e_region_text rfl ?_
        refine q_indexC (k := 0) rfl rfl rfl rfl rfl ?_
        refine q_field rfl rfl ?_
        refine q_load rfl (Blk.cell (hS.blk 0 rfl) rfl) rfl ?_
        refine q_indexC (k := 1) rfl rfl rfl rfl rfl ?_
        refine q_field rfl rfl ?_
        refine q_load rfl (Blk.cell (hS.blk 0 rfl) rfl) rfl ?_
        refine q_neq rfl rfl rfl ?_
        refine eseq_nil ?_
        refine hK548 _ _ ?_
        refine e_cond rfl (fun hc549 => ?_) (fun hc549 => ?_)
        · replace ho420 := (if_pos hc549).symm.trans ho420
          refine e_region_draw mixed (fun _ => False) [0, 0, 2, 6, 14, 0, 32, 126, 255, 511, 1023] [6] [0, 1, 2, 3, 4, 5, 6, 7, 8, 9, 10] (by kernel_rfl) ?_
          refine q_move rfl rfl ?_
          refine q_move rfl rfl ?_
          refine q_nilCheck rfl rfl ?_
          refine q_field rfl rfl ?_
          refine q_load rfl (Blk.cell (hS.blk 1 rfl) rfl) rfl ?_
          refine q_loadAgg rfl (Blk.cellsAt (hS.blk 0 rfl) 0 4 rfl) rfl rfl ?_
          refine q_litO (T := pt2Ty) (S := (fun _ => False)) (cells := [[.int .i64 x542.x0.proc, .int .i64 x542.x0.index, .int .i64 x542.x1.proc, .int .i64 x542.x1.index]]) (ys := [(⟨(⟨x542.x0.proc, x542.x0.index⟩ : Pt), (⟨x542.x1.proc, x542.x1.index⟩ : Pt)⟩ : Pt2)]) ((Parts.cons rfl rfl Parts.nil)) rfl rfl rfl rfl rfl rfl rfl (fun w1 hB => ⟨⟨[_, _], _, rfl, ⟨[_], _, rfl, rfl, rfl⟩, ⟨[_], _, rfl, rfl, rfl⟩⟩, trivial⟩) (fun _ h => h.elim) rfl fun w555 v555 ho555 hv555 hB555 => ?_
          replace f474 := f474.ext hB555
          replace f475 := f475.ext hB555
          replace f476 := f476.ext hB555
          replace f481 := f481.ext hB555
          replace hS := hS.newOwnS hB555 ho555 hv555 (fun _ h => h.elim)
          obtain ⟨x558, hx558, ho420⟩ := Option.of_bind ho420
          refine q_catOwn (T := pt2Ty) rfl rfl rfl rfl (hS.own 3 rfl) rfl (hS.own 0 rfl) (fun _ h _ => h.elim) (snoc_cat hx558) (Nat.zero_le _) rfl (fun h => by cases h) fun v557 w557 hw557 hgr557 hnw557 => ?_
          have hk557 := hS.keptOwn 3 rfl hgr557
          replace f474 := f474.kept hk557
          replace f475 := f475.kept hk557
          replace f476 := f476.kept hk557
          replace f481 := f481.kept hk557
          replace hS := hS.setOwn 3 rfl hw557 hgr557 hnw557; simp only [List.set] at hS
          refine q_nilCheck rfl rfl ?_
          refine q_field rfl rfl ?_
          refine q_store rfl rfl (hS.blk 2 rfl) (Nat.le_of_ble_eq_true rfl) (hS.own 3 rfl).one rfl rfl fun w559 hb559 hO559 => ?_
          have hk559 := hS.keptBlk 2 rfl hO559
          replace f474 := f474.kept hk559
          replace f475 := f475.kept hk559
          replace f476 := f476.kept hk559
          replace f481 := f481.kept hk559
          replace hS := hS.setBlk 2 rfl hb559 hO559; simp only [List.set] at hS
          refine eseq_nil ?_
          refine hK540 _ _ ?_
          refine e_region_text rfl ?_
          refine q_addW rfl rfl rfl ?_
          refine q_move rfl rfl ?_
          refine eseq_nil ?_
          obtain rfl := Option.some.inj ho420
          exact ⟨m420, _, Nat.lt_succ_self _, ⟨x558, (w64 (x482 + 1)), v557, _, ht420, (hS.pickB [2, 3, 4] 5 rfl rfl), f474, f475, f476, f481, rfl⟩, Sub.cons rfl (Sub.cons rfl (Sub.cons rfl (Sub.cons rfl (Sub.nil _))))⟩
        · replace ho420 := (if_neg (not_true hc549)).symm.trans ho420
          refine e_skip ?_
          refine hK540 _ _ ?_
          refine e_region_text rfl ?_
          refine q_addW rfl rfl rfl ?_
          refine q_move rfl rfl ?_
          refine eseq_nil ?_
          obtain rfl := Option.some.inj ho420
          exact ⟨m420, _, Nat.lt_succ_self _, ⟨x479, (w64 (x482 + 1)), v478, _, ht420, (hS.pickB [1, 2, 3] 4 rfl rfl), f474, f475, f476, f481, rfl⟩, Sub.cons rfl (Sub.cons rfl (Sub.cons rfl (Sub.cons rfl (Sub.nil _))))⟩
      · replace ho420 := (if_neg (not_true hc539)).symm.trans ho420
        refine e_exit ?_
        obtain rfl := Option.some.inj ho420
        obtain rfl := Option.some.inj ht420
        exact hX420_2 x479 v478 _ _ _ h hS f474 f475 f476 (Sub.cons rfl (Sub.nil _))
    refine e_loop (fun m_ E_ w360 => ∃ (x365 : Int), ∃ (R359 : Nat → Prop), iter (fun s => zigzag_newGraph_B2 fuel a1 a0 s) m_ x365 = some tl313 ∧ Sep F R R359 w w360 [HP.blk bl303 [v1, v2, v3] 31] ∧ IsSlice Ty.int w360 R359 v1 a0.lens ∧ IsSlice (Ty.slice Ty.int) w360 R359 v2 a0.ckpts ∧ IsSlice arcTy w360 R359 v3 a0.arcs ∧ IsSlice ptTy w360 R359 v4 a1 ∧ E_ = [(2, .pointer (some ⟨bl303, 0, none⟩)), (14, v4), (15, .int .i64 (a1.length : Int)), (16, .int .i64 x365)]) _ ⟨_, ⟨0, _, ht313, hS, f1, f2, f3, f4, rfl⟩, Sub.cons rfl (Sub.cons rfl (Sub.cons rfl (Sub.cons rfl (Sub.nil _))))⟩ ?_
    clear ht313 hS
    rintro m313 _ w360 ⟨x365, R359, ht313, hS, f361, f362, f363, f364, rfl⟩
    obtain ⟨m313, rfl, o313, ho313, ht313⟩ := iter_some ht313
    replace ho313 : zigzag_newGraph_B2 fuel a1 a0 x365 = some o313 := ho313
    unfold zigzag_newGraph_B2 at ho313
    refine e_seq fun K560 hK560 => ?_
    refine e_region_text rfl ?_
    refine q_lss rfl rfl rfl ?_
    refine eseq_nil ?_
    refine hK560 _ _ ?_
    refine e_seq fun K561 hK561 => ?_
    refine e_cond rfl (fun hc562 => ?_) (fun hc562 => ?_)
    · replace ho313 := (if_pos hc562).symm.trans ho313
      refine e_skip ?_
      refine hK561 _ _ ?_
      refine e_seq fun K563 hK563 => ?_
      refine e_block ?_
      refine e_seq fun K564 hK564 => ?_
      refine e_region_text rfl ?_
      obtain ⟨x565, hx565, ho313⟩ := Option.of_bind ho313
      refine q_atS (by infer_instance) rfl f364 rfl hx565 rfl fun b566 o566 hm566 f566 => ?_
      have hc567 := Pt_open f566
      refine q_loadAgg rfl hc567 rfl rfl ?_
      refine q_allocB rfl fun w568 bl568 hg568 hb568 hB568 => ?_
      replace f361 := f361.ext hB568
      replace f362 := f362.ext hB568
      replace f363 := f363.ext hB568
      replace f364 := f364.ext hB568
      replace hS := hS.newBlk hB568 hg568 hb568
      refine q_storeAgg rfl rfl (hS.blk 0 rfl) rfl (Nat.le_of_ble_eq_true rfl) (all_cons rfl (all_cons rfl (all_nil))) rfl rfl fun w570 hb570 hO570 => ?_
      simp only [setN, List.set, List.take, List.drop] at hb570
      have hk570 := hS.keptBlk 0 rfl hO570
      replace f361 := f361.kept hk570
      replace f362 := f362.kept hk570
      replace f363 := f363.kept hk570
      replace f364 := f364.kept hk570
      replace hS := hS.setBlk 0 rfl hb570 hO570; simp only [List.set] at hS
      refine eseq_nil ?_
      refine hK564 _ _ ?_
      refine e_seq fun K571 hK571 => ?_
      refine e_region_draw mixed (fun _ => False) [0, 1, 3, 7, 15, 31, 15, 79, 207, 511, 1023, 2047, 4095, 8191, 16383, 32767, 65535, 131071, 262143, 131071, 655359, 131071, 2228223, 7995391, 16383999, 33161215, 67108863, 134217727] [] [0, 1, 2, 3, 4, 5, 6, 7, 8, 9, 10, 11, 12, 13, 14, 15, 16, 17, 18, 19, 20, 21, 22, 23, 24, 25, 26, 27] (by kernel_rfl) ?_
      refine q_field rfl rfl ?_
      refine q_load rfl (Blk.cell (hS.blk 0 rfl) rfl) rfl ?_
      refine q_lss rfl rfl rfl ?_
      refine q_move rfl rfl ?_
      obtain ⟨x575, hx574, ho313⟩ := Option.of_bind ho313
      refine g_orM 6 hx574 rfl trivial rfl rfl ?_ ?_ ?_
      · intro hg574
        refine g_skip rfl rfl rfl ?_
        refine g_skip rfl rfl rfl ?_
        refine g_skip rfl rfl rfl ?_
        refine g_skip rfl rfl rfl ?_
        refine g_skip rfl rfl rfl ?_
        refine g_skip rfl rfl rfl ?_
        exact eseq_nil ⟨rfl, Sub.set rfl (Sub.set rfl (Sub.set rfl (Sub.set rfl (Sub.set rfl (Sub.set rfl (Sub.bool true rfl hg574))))))⟩
      · intro hg574 hx574
        clear ho313
        have hT574 := Below.refl (World.heap w570).size w570
        refine g_run rfl ?_; refine q_field rfl rfl ?_
        refine g_run rfl ?_; refine q_load rfl (Blk.cell (hS.blk 0 rfl) rfl) rfl ?_
        refine g_run rfl ?_; refine q_field rfl rfl ?_
        refine g_run rfl ?_; refine q_load rfl (Blk.cell (hS.blk 1 rfl) rfl) rfl ?_
        refine g_run rfl ?_; refine q_lenS rfl f362 rfl ?_
        refine g_run rfl ?_; refine q_geq rfl rfl rfl ?_
        cases hx574
        exact eseq_nil ⟨hT574, Sub.set rfl (Sub.set rfl (Sub.set rfl (Sub.set rfl (Sub.set rfl (Sub.set rfl (Sub.bool false rfl hg574)))))), rfl⟩
      intro wm574 hBm574; clear hx574
      replace hS := hS.below hBm574
      replace f361 := f361.ext hBm574
      replace f362 := f362.ext hBm574
      replace f363 := f363.ext hBm574
      replace f364 := f364.ext hBm574
      refine q_move rfl rfl ?_
      obtain ⟨x579, hx578, ho313⟩ := Option.of_bind ho313
      refine g_orM 3 hx578 rfl trivial rfl rfl ?_ ?_ ?_
      · intro hg578
        refine g_skip rfl rfl rfl ?_
        refine g_skip rfl rfl rfl ?_
        refine g_skip rfl rfl rfl ?_
        exact eseq_nil ⟨rfl, Sub.set rfl (Sub.set rfl (Sub.set rfl (Sub.bool true rfl hg578)))⟩
      · intro hg578 hx578
        clear ho313
        have hT578 := Below.refl (World.heap wm574).size wm574
        refine g_run rfl ?_; refine q_field rfl rfl ?_
        refine g_run rfl ?_; refine q_load rfl (Blk.cell (hS.blk 0 rfl) rfl) rfl ?_
        refine g_run rfl ?_; refine q_lss rfl rfl rfl ?_
        cases hx578
        exact eseq_nil ⟨hT578, Sub.set rfl (Sub.set rfl (Sub.set rfl (Sub.bool false rfl hg578))), rfl⟩
      intro wm578 hBm578; clear hx578
      replace hS := hS.below hBm578
      replace f361 := f361.ext hBm578
      replace f362 := f362.ext hBm578
      replace f363 := f363.ext hBm578
      replace f364 := f364.ext hBm578
      refine q_move rfl rfl ?_
      obtain ⟨x586, hx585, ho313⟩ := Option.of_bind ho313
      refine g_orM 10 hx585 rfl trivial rfl rfl ?_ ?_ ?_
      · intro hg585
        refine g_skip rfl rfl rfl ?_
        refine g_skip rfl rfl rfl ?_
        refine g_skip rfl rfl rfl ?_
        refine g_skip rfl rfl rfl ?_
        refine g_skip rfl rfl rfl ?_
        refine g_skip rfl rfl rfl ?_
        refine g_skip rfl rfl rfl ?_
        refine g_skip rfl rfl rfl ?_
        refine g_skip rfl rfl rfl ?_
        refine g_skip rfl rfl rfl ?_
        exact eseq_nil ⟨rfl, Sub.set rfl (Sub.set rfl (Sub.set rfl (Sub.set rfl (Sub.set rfl (Sub.set rfl (Sub.set rfl (Sub.set rfl (Sub.set rfl (Sub.set rfl (Sub.bool true rfl hg585))))))))))⟩
      · intro hg585 hx585
        clear ho313
        have hT585 := Below.refl (World.heap wm578).size wm578
        refine g_run rfl ?_; refine q_field rfl rfl ?_
        refine g_run rfl ?_; refine q_load rfl (Blk.cell (hS.blk 0 rfl) rfl) rfl ?_
        refine g_run rfl ?_; refine q_field rfl rfl ?_
        refine g_run rfl ?_; refine q_load rfl (Blk.cell (hS.blk 1 rfl) rfl) rfl ?_
        refine g_run rfl ?_; refine q_field rfl rfl ?_
        refine g_run rfl ?_; refine q_load rfl (Blk.cell (hS.blk 0 rfl) rfl) rfl ?_
        obtain ⟨x587, hx587, hx585⟩ := Option.of_bind hx585
        refine g_run rfl ?_; refine q_atS (by infer_instance) rfl f362 rfl hx587 rfl fun b588 o588 hm588 f588 => ?_
        refine g_run rfl ?_; refine q_loadE rfl f588 rfl (fun v589 f589 => ?_)
        refine g_run rfl ?_; refine q_lenS rfl f589 rfl ?_
        refine g_run rfl ?_; refine q_gtr rfl rfl rfl ?_
        cases hx585
        exact eseq_nil ⟨hT585, Sub.set rfl (Sub.set rfl (Sub.set rfl (Sub.set rfl (Sub.set rfl (Sub.set rfl (Sub.set rfl (Sub.set rfl (Sub.set rfl (Sub.set rfl (Sub.bool false rfl hg585)))))))))), rfl⟩
      intro wm585 hBm585; clear hx585
      replace hS := hS.below hBm585
      replace f361 := f361.ext hBm585
      replace f362 := f362.ext hBm585
      replace f363 := f363.ext hBm585
      replace f364 := f364.ext hBm585
      refine eseq_nil ?_
      refine hK571 _ _ ?_
      refine e_cond rfl (fun hc590 => ?_) (fun hc590 => ?_)
      · replace ho313 := (if_pos hc590).symm.trans ho313
        refine e_seq fun K591 hK591 => ?_
        refine e_region_text rfl ?_
        refine q_assign rfl rfl ?_
        refine q_assign rfl rfl ?_
        refine eseq_nil ?_
        refine hK591 _ _ ?_
        refine e_ret ?_
        cases ho313
      · replace ho313 := (if_neg (not_true hc590)).symm.trans ho313
        refine e_skip ?_
        refine hK563 _ _ ?_
        refine e_region_text rfl ?_
        refine q_addW rfl rfl rfl ?_
        refine q_move rfl rfl ?_
        refine eseq_nil ?_
        obtain rfl := Option.some.inj ho313
        exact ⟨m313, _, Nat.lt_succ_self _, ⟨(w64 (x365 + 1)), _, ht313, (hS.pickB [1] 2 rfl rfl), f361, f362, f363, f364, rfl⟩, Sub.cons rfl (Sub.cons rfl (Sub.cons rfl (Sub.cons rfl (Sub.nil _))))⟩
    · replace ho313 := (if_neg (not_true hc562)).symm.trans ho313
      refine e_exit ?_
      obtain rfl := Option.some.inj ho313
      obtain rfl := Option.some.inj ht313
      exact hX313_0  _ _ _ h hS f361 f362 f363 (Sub.cons rfl (Sub.nil _))
theorem zigzag_graph_vector_w {F R : Nat → Prop} {w : World} {fuel : Nat} {a1 : Pt} {c0_0 : (List Int)} {c0_1 : (List (List Int))} {c0_2 : (List Arc)} {c0_3 : (List Pt2)} {c0_4 : (List (Pt × (List Int)))} {B0 : Nat} {v2 : Value} {v3 : Value} {v4 : Value} {v5 : Value} {B6 : Nat} {r : ((List Int) × (List (Pt × (List Int))))} (hS : Sep F R R w w [HP.blk B0 [v2, v3, v4, v5, .map (some B6)] 187, HP.map Pt.key_ (Ty.slice Ty.int) false R B6 c0_4]) (f2 : IsSlice Ty.int w R v2 c0_0) (f3 : IsSlice (Ty.slice Ty.int) w R v3 c0_1) (f4 : IsSlice arcTy w R v4 c0_2) (f5 : IsSlice pt2Ty w R v5 c0_3) (h : zigzag_graph_vector fuel a1 c0_0 c0_1 c0_2 c0_3 c0_4 = some r) :
    Gives Try.prog 85 [.pointer (some ⟨B0, 0, none⟩), .agg #[.int .i64 a1.proc, .int .i64 a1.index]] w fun u w1 => ∃ (v25 : Value), ∃ (R1 : Nat → Prop), u = v25 ∧ Sep F R R1 w w1 [HP.blk B0 [v2, v3, v4, v5, .map (some B6)] 187, HP.map Pt.key_ (Ty.slice Ty.int) false R1 B6 r.2] ∧ IsSlice Ty.int w1 R1 v25 r.1 := by
  refine fn_of Try.func85 rfl Try.ntmps85 (Nat.le_of_ble_eq_true rfl) ?_
  unfold zigzag_graph_vector at h
  refine e_seq fun K26 hK26 => ?_
  refine e_region_text rfl ?_
  refine q_boxB rfl rfl rfl fun w27 bl27 hg27 hb27 hB27 => ?_
  replace f2 := f2.ext hB27
  replace f3 := f3.ext hB27
  replace f4 := f4.ext hB27
  replace f5 := f5.ext hB27
  replace hS := hS.newBlk hB27 hg27 hb27
  refine q_assign rfl rfl ?_
  refine eseq_nil ?_
  refine hK26 _ _ ?_
  refine e_seq fun K29 hK29 => ?_
  refine e_region_draw mixed (fun _ => False) [0, 1, 3, 7, 0, 31, 63, 127, 127, 255, 1023] [] [0, 1, 2, 3, 4, 5, 6, 7, 8, 9, 10] (by kernel_rfl) ?_
  refine q_move rfl rfl ?_
  refine q_nilCheck rfl rfl ?_
  refine q_field rfl rfl ?_
  refine q_load rfl (Blk.cell (hS.blk 1 rfl) rfl) rfl ?_
  refine q_loadAgg rfl (Blk.cellsAt (hS.blk 0 rfl) 0 2 rfl) rfl rfl ?_
  obtain ⟨x31, hx31, h⟩ := Option.of_bind h
  refine q_lookup2 (zv := .slice none 0 0) (zx := ([] : List Int)) (k := (⟨a1.proc, a1.index⟩ : Pt)) 2 hS rfl (fun _ _ => VR.ofSlice (IsSlice.nil _ _ _)) rfl rfl rfl fun v30 hv30 => ?_
  rw [Option.some.inj hx31] at hv30
  have f30 := hv30.slice
  refine q_move rfl rfl ?_
  refine q_extract rfl rfl rfl ?_
  refine q_extract rfl rfl rfl ?_
  refine q_assign rfl rfl ?_
  refine q_assign rfl rfl ?_
  refine eseq_nil ?_
  refine hK29 _ _ ?_
  refine e_seq fun K32 hK32 => ?_
  refine e_seq fun K33 hK33 => ?_
  refine e_region_text rfl ?_
  refine q_move rfl rfl ?_
  refine q_not rfl rfl ?_
  refine eseq_nil ?_
  refine hK33 _ _ ?_
  refine e_cond rfl (fun hc34 => ?_) (fun hc34 => ?_)
  · replace h := (if_pos hc34).symm.trans h
    refine e_seq fun K35 hK35 => ?_
    refine e_region_draw mixed (fun _ => False) [0, 1, 3, 7, 0, 16, 0, 64, 255, 511] [] [0, 1, 2, 3, 4, 5, 6, 7, 8, 9] (by kernel_rfl) ?_
    refine q_move rfl rfl ?_
    refine q_nilCheck rfl rfl ?_
    refine q_field rfl rfl ?_
    refine q_loadAgg rfl (Blk.cellsAt (hS.blk 1 rfl) 0 3 rfl) rfl rfl ?_
    refine q_field rfl rfl ?_
    refine q_load rfl (Blk.cell (hS.blk 0 rfl) rfl) rfl ?_
    refine q_field rfl rfl ?_
    refine q_load rfl (Blk.cell (hS.blk 0 rfl) rfl) rfl ?_
    obtain ⟨r37, hr37, h⟩ := Option.of_bind h
    refine q_call rfl (depend_Ckpt_w (a0 := (⟨c0_0, c0_1, c0_2⟩ : Pat)) (Sep.enter (As := []) hS) f2 f3 f4 hr37) rfl ?_
    rintro v38 w36 ⟨_, R36, rfl, hC36⟩
    have hB36 : Below (World.heap w27).size w27 w36 := hC36.stepB0
    refine ⟨fun _ => .of_below hB36, ?_⟩
    replace f2 := (f2.ext hB36).mono fun k hk _ => hC36.ro0 k hk
    replace f3 := (f3.ext hB36).mono fun k hk _ => hC36.ro0 k hk
    replace f4 := (f4.ext hB36).mono fun k hk _ => hC36.ro0 k hk
    replace f5 := (f5.ext hB36).mono fun k hk _ => hC36.ro0 k hk
    replace hS := Sep.leave (As := []) hS hC36; simp only [List.cons_append, List.nil_append] at hS
    refine q_assign rfl rfl ?_
    refine eseq_nil ?_
    refine hK35 _ _ ?_
    refine e_region_draw mixed (fun _ => False) [0, 1, 3, 7, 0, 0, 63] [] [0, 1, 2, 3, 4, 5, 6] (by kernel_rfl) ?_
    refine q_move rfl rfl ?_
    refine q_nilCheck rfl rfl ?_
    refine q_field rfl rfl ?_
    refine q_load rfl (Blk.cell (hS.blk 2 rfl) rfl) rfl ?_
    refine q_loadAgg rfl (Blk.cellsAt (hS.blk 1 rfl) 0 2 rfl) rfl rfl ?_
    refine q_move rfl rfl ?_
    obtain ⟨R40, hS, hm40, f40⟩ := hS.freezeOwn 0 rfl; simp only [List.eraseIdx] at hS
    replace f2 := f2.mono fun k hk _ => hm40 k hk
    replace f3 := f3.mono fun k hk _ => hm40 k hk
    replace f4 := f4.mono fun k hk _ => hm40 k hk
    replace f5 := f5.mono fun k hk _ => hm40 k hk
    replace hS := hS.mapMono 2 rfl; simp only [List.set] at hS
    obtain ⟨x41, hx41, h⟩ := Option.of_bind h
    refine q_mapUpdate (k := (⟨a1.proc, a1.index⟩ : Pt)) (xx := r37) 2 hS rfl rfl rfl rfl (VR.ofSlice f40) rfl rfl fun w39 hO39 hM39 => ?_
    rw [Option.some.inj hx41] at hM39
    have hk39 := hS.keptF 2 rfl (StepF.of_only hO39 rfl)
    replace f40 := f40.kept hk39
    replace f2 := f2.kept hk39
    replace f3 := f3.kept hk39
    replace f4 := f4.kept hk39
    replace f5 := f5.kept hk39
    replace hS := hM39; simp only [List.set] at hS
    refine eseq_nil ?_
    refine hK32 _ _ ?_
    refine e_seq fun K42 hK42 => ?_
    refine e_region_text rfl ?_
    refine q_move rfl rfl ?_
    refine q_assign rfl rfl ?_
    refine eseq_nil ?_
    refine hK42 _ _ ?_
    refine e_ret ?_
    obtain rfl := Option.some.inj h
    exact ⟨_, res1 rfl rfl, v38, _, rfl, (hS.pickB [1, 2] 3 rfl rfl), f40⟩
  · replace h := (if_neg (not_true hc34)).symm.trans h
    refine e_skip ?_
    refine hK32 _ _ ?_
    refine e_seq fun K43 hK43 => ?_
    refine e_region_text rfl ?_
    refine q_move rfl rfl ?_
    refine q_assign rfl rfl ?_
    refine eseq_nil ?_
    refine hK43 _ _ ?_
    refine e_ret ?_
    obtain rfl := Option.some.inj h
    exact ⟨_, res1 rfl rfl, v30, _, rfl, (hS.pickB [1, 2] 3 rfl rfl), f30⟩
theorem zigzag_graph_all_w {F R : Nat → Prop} {w : World} {fuel : Nat} {c0_0 : (List Int)} {c0_1 : (List (List Int))} {c0_2 : (List Arc)} {c0_3 : (List Pt2)} {B0 : Nat} {v2 : Value} {v3 : Value} {v4 : Value} {v5 : Value} {v6 : Value} {r : ((List Pt))} (hS : Sep F R R w w []) (f1 : Lent w R B0 [v2, v3, v4, v5, v6] 187) (f2 : IsSlice Ty.int w R v2 c0_0) (f3 : IsSlice (Ty.slice Ty.int) w R v3 c0_1) (f4 : IsSlice arcTy w R v4 c0_2) (f5 : IsSlice pt2Ty w R v5 c0_3) (h : zigzag_graph_all fuel c0_0 c0_1 c0_2 c0_3 = some r) :
    Gives Try.prog 82 [.pointer (some ⟨B0, 0, none⟩)] w fun u w1 => ∃ (v249 : Value), ∃ (R1 : Nat → Prop), u = v249 ∧ Sep F R R1 w w1 [HP.own ptTy (fun _ => False) 127 v249 r] := by
  refine fn_of Try.func82 rfl Try.ntmps82 (Nat.le_of_ble_eq_true rfl) ?_
  unfold zigzag_graph_all at h
  refine e_seq fun K250 hK250 => ?_
  refine e_region_text rfl ?_
  refine q_assign rfl rfl ?_
  refine eseq_nil ?_
  refine hK250 _ _ ?_
  refine e_seq fun K251 hK251 => ?_
  refine e_region_text rfl ?_
  refine q_assign rfl rfl ?_
  refine eseq_nil ?_
  refine hK251 _ _ ?_
  refine e_seq fun K252 hK252 => ?_
  refine e_seq fun K253 hK253 => ?_
  refine e_region_text rfl ?_
  refine q_move rfl rfl ?_
  refine q_nilCheck rfl rfl ?_
  refine q_field rfl rfl ?_
  refine q_field rfl rfl ?_
  refine q_load rfl (Blk.cell f1.blk rfl) rfl ?_
  refine q_lenS rfl f3 rfl ?_
  refine q_move rfl rfl ?_
  refine eseq_nil ?_
  refine hK253 _ _ ?_
  refine e_block ?_
  obtain ⟨tl254, ht254, h⟩ := Option.of_bind h
  have hX254_0 : ∀ (x420 : (List Pt)) (v419 : Value) (R416 : Nat → Prop) (w417 : World) (E_ : Env), zigzag_graph_all_K1 fuel x420 = some r → Sep F R R416 w w417 [HP.own ptTy (fun _ => False) 127 v419 x420] → Sub [(3, v419)] E_ → K252 E_ w417 := by
    intro x420 v419 R416 w417 E_ h hS  hsub
    refine hK252 _ _ (e_sub hsub ?_); clear hsub
    unfold zigzag_graph_all_K1 at h
    refine e_seq fun K421 hK421 => ?_
    refine e_region_text rfl ?_
    refine q_move rfl rfl ?_
    refine q_assign rfl rfl ?_
    refine eseq_nil ?_
    refine hK421 _ _ ?_
    refine e_ret ?_
    obtain rfl := Option.some.inj h
    exact ⟨_, res1 rfl rfl, v419, _, rfl, hS⟩
  replace hS := hS.nilOwn0 ptTy 127
  refine e_loop (fun m_ E_ w335 => ∃ (x338 : (List Pt)), ∃ (x340 : Int), ∃ (v337 : Value), ∃ (R334 : Nat → Prop), iter (fun s => zigzag_graph_all_B1 fuel c0_1 s.1 s.2) m_ (x338, x340) = some tl254 ∧ Sep F R R334 w w335 [HP.own ptTy (fun _ => False) 127 v337 x338] ∧ IsSlice (Ty.slice Ty.int) w335 R334 v3 c0_1 ∧ E_ = [(3, v337), (11, v3), (12, .int .i64 (c0_1.length : Int)), (13, .int .i64 x340)]) _ ⟨_, ⟨([] : List Pt), 0, (.slice none 0 0), _, ht254, hS, f3, rfl⟩, Sub.cons rfl (Sub.cons rfl (Sub.cons rfl (Sub.cons rfl (Sub.nil _))))⟩ ?_
  clear ht254 hS
  rintro m254 _ w335 ⟨x338, x340, v337, R334, ht254, hS, f339, rfl⟩
  obtain ⟨m254, rfl, o254, ho254, ht254⟩ := iter_some ht254
  replace ho254 : zigzag_graph_all_B1 fuel c0_1 x338 x340 = some o254 := ho254
  unfold zigzag_graph_all_B1 at ho254
  refine e_seq fun K423 hK423 => ?_
  refine e_region_text rfl ?_
  refine q_lss rfl rfl rfl ?_
  refine eseq_nil ?_
  refine hK423 _ _ ?_
  refine e_seq fun K424 hK424 => ?_
  refine e_cond rfl (fun hc425 => ?_) (fun hc425 => ?_)
  · replace ho254 := (if_pos hc425).symm.trans ho254
    refine e_skip ?_
    refine hK424 _ _ ?_
    refine e_seq fun K426 hK426 => ?_
    refine e_block ?_
    refine e_seq fun K427 hK427 => ?_
    refine e_region_text rfl ?_
    refine q_move rfl rfl ?_
    obtain ⟨x428, hx428, ho254⟩ := Option.of_bind ho254
    refine q_atS (by infer_instance) rfl f339 rfl hx428 rfl fun b429 o429 hm429 f429 => ?_
    refine q_loadE rfl f429 rfl (fun v430 f430 => ?_)
    refine q_assign rfl rfl ?_
    refine q_assign rfl rfl ?_
    refine eseq_nil ?_
    refine hK427 _ _ ?_
    refine e_seq fun K431 hK431 => ?_
    refine e_region_text rfl ?_
    refine q_move rfl rfl ?_
    refine q_lenS rfl f430 rfl ?_
    refine q_addW rfl rfl rfl ?_
    refine q_move rfl rfl ?_
    refine eseq_nil ?_
    refine hK431 _ _ ?_
    refine e_block ?_
    obtain ⟨tl432, ht432, ho254⟩ := Option.of_bind ho254
    have hX432_2 : ∀ (x480 : (List Pt)) (v479 : Value) (R476 : Nat → Prop) (w477 : World) (E_ : Env), zigzag_graph_all_K2 fuel x340 x480 = some o254 → Sep F R R476 w w477 [HP.own ptTy (fun _ => False) 127 v479 x480] → IsSlice (Ty.slice Ty.int) w477 R476 v3 c0_1 → Sub [(3, v479), (11, v3), (12, .int .i64 (c0_1.length : Int)), (13, .int .i64 x340)] E_ → K426 E_ w477 := by
      intro x480 v479 R476 w477 E_ ho254 hS f481 hsub
      refine hK426 _ _ (e_sub hsub ?_); clear hsub
      unfold zigzag_graph_all_K2 at ho254
      refine e_region_text rfl ?_
      refine q_addW rfl rfl rfl ?_
      refine q_move rfl rfl ?_
      refine eseq_nil ?_
      obtain rfl := Option.some.inj ho254
      exact ⟨m254, _, Nat.lt_succ_self _, ⟨x480, (w64 (x340 + 1)), v479, _, ht254, hS, f481, rfl⟩, Sub.cons rfl (Sub.cons rfl (Sub.cons rfl (Sub.cons rfl (Sub.nil _))))⟩
    refine e_loop (fun m_ E_ w454 => ∃ (x457 : (List Pt)), ∃ (x459 : Int), ∃ (v456 : Value), ∃ (R453 : Nat → Prop), iter (fun s => zigzag_graph_all_B2 fuel x428 x340 s.1 s.2) m_ (x457, x459) = some tl432 ∧ Sep F R R453 w w454 [HP.own ptTy (fun _ => False) 127 v456 x457] ∧ IsSlice (Ty.slice Ty.int) w454 R453 v3 c0_1 ∧ E_ = [(3, v456), (4, .int .i64 x340), (11, v3), (12, .int .i64 (c0_1.length : Int)), (13, .int .i64 x340), (20, .int .i64 (w64 ((x428.length : Int) + 1))), (21, .int .i64 x459)]) _ ⟨_, ⟨x338, 0, v337, _, ht432, hS, f339, rfl⟩, Sub.cons rfl (Sub.cons rfl (Sub.cons rfl (Sub.cons rfl (Sub.cons rfl (Sub.cons rfl (Sub.cons rfl (Sub.nil _)))))))⟩ ?_
    clear ht432 hS
    rintro m432 _ w454 ⟨x457, x459, v456, R453, ht432, hS, f458, rfl⟩
    obtain ⟨m432, rfl, o432, ho432, ht432⟩ := iter_some ht432
    replace ho432 : zigzag_graph_all_B2 fuel x428 x340 x457 x459 = some o432 := ho432
    unfold zigzag_graph_all_B2 at ho432
    refine e_seq fun K482 hK482 => ?_
    refine e_region_text rfl ?_
    refine q_lss rfl rfl rfl ?_
    refine eseq_nil ?_
    refine hK482 _ _ ?_
    refine e_seq fun K483 hK483 => ?_
    refine e_cond rfl (fun hc484 => ?_) (fun hc484 => ?_)
    · replace ho432 := (if_pos hc484).symm.trans ho432
      refine e_skip ?_
      refine hK483 _ _ ?_
      refine e_seq fun K485 hK485 => ?_
      refine e_block ?_
      refine e_seq fun K486 hK486 => ?_
      refine e_region_text rfl ?_
      refine q_move rfl rfl ?_
      refine q_assign rfl rfl ?_
      refine eseq_nil ?_
      refine hK486 _ _ ?_
      refine e_region_text rfl ?_
      refine q_move rfl rfl ?_
      refine q_move rfl rfl ?_
      refine q_move rfl rfl ?_
      refine q_build (Parts.cons rfl rfl (Parts.cons rfl rfl Parts.nil)) rfl rfl ?_
      refine q_litO (T := ptTy) (S := (fun _ => False)) (cells := [[.int .i64 x340, .int .i64 x459]]) (ys := [(⟨x340, x459⟩ : Pt)]) ((Parts.cons rfl rfl Parts.nil)) rfl rfl rfl rfl rfl rfl rfl (fun w1 hB => ⟨⟨[_], _, rfl, rfl, rfl⟩, trivial⟩) (fun _ h => h.elim) rfl fun w487 v487 ho487 hv487 hB487 => ?_
      replace f458 := f458.ext hB487
      replace hS := hS.newOwnS hB487 ho487 hv487 (fun _ h => h.elim)
      obtain ⟨x490, hx490, ho432⟩ := Option.of_bind ho432
      refine q_catOwn (T := ptTy) rfl rfl rfl rfl (hS.own 1 rfl) rfl (hS.own 0 rfl) (fun _ h _ => h.elim) (snoc_cat hx490) (Nat.zero_le _) rfl (fun h => by cases h) fun v489 w489 hw489 hgr489 hnw489 => ?_
      have hk489 := hS.keptOwn 1 rfl hgr489
      replace f458 := f458.kept hk489
      replace hS := hS.setOwn 1 rfl hw489 hgr489 hnw489; simp only [List.set] at hS
      refine q_assign rfl rfl ?_
      refine eseq_nil ?_
      refine hK485 _ _ ?_
      refine e_region_text rfl ?_
      refine q_addW rfl rfl rfl ?_
      refine q_move rfl rfl ?_
      refine eseq_nil ?_
      obtain rfl := Option.some.inj ho432
      exact ⟨m432, _, Nat.lt_succ_self _, ⟨x490, (w64 (x459 + 1)), v489, _, ht432, (hS.pickB [1] 2 rfl rfl), f458, rfl⟩, Sub.cons rfl (Sub.cons rfl (Sub.cons rfl (Sub.cons rfl (Sub.cons rfl (Sub.cons rfl (Sub.cons rfl (Sub.nil _)))))))⟩
    · replace ho432 := (if_neg (not_true hc484)).symm.trans ho432
      refine e_exit ?_
      obtain rfl := Option.some.inj ho432
      obtain rfl := Option.some.inj ht432
      exact hX432_2 x457 v456 _ _ _ ho254 hS f458 (Sub.cons rfl (Sub.cons rfl (Sub.cons rfl (Sub.cons rfl (Sub.nil _)))))
  · replace ho254 := (if_neg (not_true hc425)).symm.trans ho254
    refine e_exit ?_
    obtain rfl := Option.some.inj ho254
    obtain rfl := Option.some.inj ht254
    exact hX254_0 x338 v337 _ _ _ h hS  (Sub.cons rfl (Sub.nil _))
theorem zigzag_Trackable_w {F R : Nat → Prop} {w : World} {fuel : Nat} {a0 : Pat} {v1 : Value} {v2 : Value} {v3 : Value} {r : (Bool)} (hS : Sep F R R w w []) (f1 : IsSlice Ty.int w R v1 a0.lens) (f2 : IsSlice (Ty.slice Ty.int) w R v2 a0.ckpts) (f3 : IsSlice arcTy w R v3 a0.arcs) (h : zigzag_Trackable fuel a0 = some r) :
    Gives Try.prog 40 [.agg #[v1, v2, v3]] w fun u w1 => ∃ (R1 : Nat → Prop), u = .bool r ∧ Sep F R R1 w w1 [] := by
  refine fn_of Try.func40 rfl Try.ntmps40 (Nat.le_of_ble_eq_true rfl) ?_
  unfold zigzag_Trackable at h
  refine e_seq fun K790 hK790 => ?_
  refine e_region_text rfl ?_
  refine q_boxB rfl rfl rfl fun w791 bl791 hg791 hb791 hB791 => ?_
  replace f1 := f1.ext hB791
  replace f2 := f2.ext hB791
  replace f3 := f3.ext hB791
  replace hS := hS.newBlk hB791 hg791 hb791
  refine q_assign rfl rfl ?_
  refine eseq_nil ?_
  refine hK790 _ _ ?_
  refine e_seq fun K793 hK793 => ?_
  refine e_region_text rfl ?_
  refine q_loadAgg rfl (Blk.cellsAt (hS.blk 0 rfl) 0 3 rfl) rfl rfl ?_
  obtain ⟨r795, hr795, h⟩ := Option.of_bind h
  refine q_call rfl (zigzag_newGraph_w (a0 := (⟨a0.lens, a0.ckpts, a0.arcs⟩ : Pat)) (Sep.enter (As := []) hS) f1 f2 f3 (IsSlice.nil _ _ _) hr795) rfl ?_
  rintro _ w794 ⟨B796, v797, v798, v799, v800, B801, R794, rfl, hC794, f797, f798, f799⟩
  have hB794 : Below (World.heap w791).size w791 w794 := hC794.stepB0
  refine ⟨fun _ => .of_below hB794, ?_⟩
  replace f1 := (f1.ext hB794).mono fun k hk _ => hC794.ro0 k hk
  replace f2 := (f2.ext hB794).mono fun k hk _ => hC794.ro0 k hk
  replace f3 := (f3.ext hB794).mono fun k hk _ => hC794.ro0 k hk
  replace hS := Sep.leave (As := []) hS hC794; simp only [List.cons_append, List.nil_append] at hS
  refine q_move rfl rfl ?_
  refine q_extract rfl rfl rfl ?_
  refine q_extract rfl rfl rfl ?_
  refine q_assign rfl rfl ?_
  refine q_assign rfl rfl ?_
  refine eseq_nil ?_
  refine hK793 _ _ ?_
  refine e_seq fun K802 hK802 => ?_
  refine e_seq fun K803 hK803 => ?_
  refine e_region_text rfl ?_
  refine q_move rfl rfl ?_
  refine q_not rfl rfl ?_
  refine eseq_nil ?_
  refine hK803 _ _ ?_
  refine e_cond rfl (fun hc804 => ?_) (fun hc804 => ?_)
  · replace h := (if_pos hc804).symm.trans h
    refine e_seq fun K805 hK805 => ?_
    refine e_region_text rfl ?_
    refine q_assign rfl rfl ?_
    refine eseq_nil ?_
    refine hK805 _ _ ?_
    refine e_ret ?_
    obtain rfl := Option.some.inj h
    exact ⟨_, res1 rfl rfl, _, rfl, (hS.pickB [] 4 rfl rfl)⟩
  · replace h := (if_neg (not_true hc804)).symm.trans h
    refine e_skip ?_
    refine hK802 _ _ ?_
    refine e_seq fun K806 hK806 => ?_
    refine e_region_text rfl ?_
    refine q_move rfl rfl ?_
    obtain ⟨r808, hr808, h⟩ := Option.of_bind h
    refine q_call rfl (zigzag_graph_all_w (Sep.all w794) (Lent.of (hS.blk 0 rfl)) (f797).old (f798).old (f799).old ((hS.isl 1 rfl)).old hr808) rfl ?_
    rintro v809 w807 ⟨_, R807, rfl, hC807⟩
    have hB807 : Below (World.heap w794).size w794 w807 := hC807.stepBF
    refine ⟨fun _ => .of_below hB807, ?_⟩
    replace f797 := f797.ext hB807
    replace f798 := f798.ext hB807
    replace f799 := f799.ext hB807
    replace hS := hS.newOwnS hB807 (hC807.own 0 rfl) (hC807.fresh 0 rfl) (fun _ h => h.elim)
    refine q_assign rfl rfl ?_
    refine eseq_nil ?_
    refine hK806 _ _ ?_
    refine e_seq fun K810 hK810 => ?_
    refine e_seq fun K811 hK811 => ?_
    refine e_region_text rfl ?_
    refine q_move rfl rfl ?_
    refine q_lenS rfl (hS.isl 0 rfl) rfl ?_
    refine q_move rfl rfl ?_
    refine eseq_nil ?_
    refine hK811 _ _ ?_
    refine e_block ?_
    obtain ⟨tl812, ht812, h⟩ := Option.of_bind h
    have hX812_0 : ∀ (R1336 : Nat → Prop) (w1337 : World) (E_ : Env), zigzag_Trackable_K1 fuel = some r → Sep F R R1336 w w1337 [] → Sub [] E_ → K810 E_ w1337 := by
      intro R1336 w1337 E_ h hS  hsub
      refine hK810 _ _ (e_sub hsub ?_); clear hsub
      unfold zigzag_Trackable_K1 at h
      refine e_seq fun K1338 hK1338 => ?_
      refine e_region_text rfl ?_
      refine q_assign rfl rfl ?_
      refine eseq_nil ?_
      refine hK1338 _ _ ?_
      refine e_ret ?_
      obtain rfl := Option.some.inj h
      exact ⟨_, res1 rfl rfl, _, rfl, hS⟩
    obtain ⟨R1339, hS, hm1339, f1339⟩ := hS.freezeOwn 2 rfl; simp only [List.eraseIdx] at hS
    replace f797 := f797.mono fun k hk _ => hm1339 k hk
    replace f798 := f798.mono fun k hk _ => hm1339 k hk
    replace f799 := f799.mono fun k hk _ => hm1339 k hk
    replace hS := hS.mapMono 2 rfl; simp only [List.set] at hS
    refine e_loop (fun m_ E_ w1080 => ∃ (x1085 : (List Pt2)), ∃ (x1088 : (List (Pt × (List Int)))), ∃ (x1090 : Int), ∃ (v1084 : Value), ∃ (R1079 : Nat → Prop), iter (fun s => zigzag_Trackable_B1 fuel r808 r795 s.1 s.2.1 s.2.2) m_ (x1085, x1088, x1090) = some tl812 ∧ Sep F R R1079 w w1080 [HP.blk B796 [v797, v798, v799, v1084, .map (some B801)] 187, HP.map Pt.key_ (Ty.slice Ty.int) false R1079 B801 x1088, HP.own ptTy (fun _ => False) 127 v809 r808] ∧ IsSlice Ty.int w1080 R1079 v797 r795.1 ∧ IsSlice (Ty.slice Ty.int) w1080 R1079 v798 r795.2.1 ∧ IsSlice arcTy w1080 R1079 v799 r795.2.2.1 ∧ IsSlice pt2Ty w1080 R1079 v1084 x1085 ∧ E_ = [(3, .pointer (some ⟨B796, 0, none⟩)), (5, v809), (21, v809), (22, .int .i64 (r808.length : Int)), (23, .int .i64 x1090)]) _ ⟨_, ⟨r795.2.2.2.1, r795.2.2.2.2.1, 0, v800, _, ht812, (hS.pickB [1, 2, 0] 4 rfl rfl), f797, f798, f799, f1339, rfl⟩, Sub.cons rfl (Sub.cons rfl (Sub.cons rfl (Sub.cons rfl (Sub.cons rfl (Sub.nil _)))))⟩ ?_
    clear ht812 hS
    rintro m812 _ w1080 ⟨x1085, x1088, x1090, v1084, R1079, ht812, hS, f1081, f1082, f1083, f1086, rfl⟩
    obtain ⟨m812, rfl, o812, ho812, ht812⟩ := iter_some ht812
    replace ho812 : zigzag_Trackable_B1 fuel r808 r795 x1085 x1088 x1090 = some o812 := ho812
    unfold zigzag_Trackable_B1 at ho812
    refine e_seq fun K1340 hK1340 => ?_
    refine e_region_text rfl ?_
    refine q_lss rfl rfl rfl ?_
    refine eseq_nil ?_
    refine hK1340 _ _ ?_
    refine e_seq fun K1341 hK1341 => ?_
    refine e_cond rfl (fun hc1342 => ?_) (fun hc1342 => ?_)
    · replace ho812 := (if_pos hc1342).symm.trans ho812
      refine e_skip ?_
      refine hK1341 _ _ ?_
      refine e_seq fun K1343 hK1343 => ?_
      refine e_block ?_
      refine e_seq fun K1344 hK1344 => ?_
      refine e_region_text rfl ?_
      obtain ⟨x1345, hx1345, ho812⟩ := Option.of_bind ho812
      refine q_indexO (by infer_instance) rfl (hS.own 2 rfl) rfl hx1345 rfl ?_
      have f1346 := (hS.ownR 2 rfl).elt hx1345
      have hc1347 := Pt_open f1346
      refine q_loadAgg rfl hc1347 rfl rfl ?_
      refine q_allocB rfl fun w1348 bl1348 hg1348 hb1348 hB1348 => ?_
      replace f1081 := f1081.ext hB1348
      replace f1082 := f1082.ext hB1348
      replace f1083 := f1083.ext hB1348
      replace f1086 := f1086.ext hB1348
      replace hS := hS.newBlk hB1348 hg1348 hb1348
      refine q_storeAgg rfl rfl (hS.blk 0 rfl) rfl (Nat.le_of_ble_eq_true rfl) (all_cons rfl (all_cons rfl (all_nil))) rfl rfl fun w1350 hb1350 hO1350 => ?_
      simp only [setN, List.set, List.take, List.drop] at hb1350
      have hk1350 := hS.keptBlk 0 rfl hO1350
      replace f1081 := f1081.kept hk1350
      replace f1082 := f1082.kept hk1350
      replace f1083 := f1083.kept hk1350
      replace f1086 := f1086.kept hk1350
      replace hS := hS.setBlk 0 rfl hb1350 hO1350; simp only [List.set] at hS
      refine eseq_nil ?_
      refine hK1344 _ _ ?_
      refine e_seq fun K1351 hK1351 => ?_
      refine e_region_text rfl ?_
      refine q_move rfl rfl ?_
      refine q_loadAgg rfl (Blk.cellsAt (hS.blk 0 rfl) 0 2 rfl) rfl rfl ?_
      obtain ⟨r1353, hr1353, ho812⟩ := Option.of_bind ho812
      refine q_call rfl (zigzag_graph_arrivals_w (a1 := (⟨x1345.proc, x1345.index⟩ : Pt)) (Sep.all w1350) (Lent.of (hS.blk 1 rfl)) (f1081).old (f1082).old (f1083).old (f1086).old hr1353) rfl ?_
      rintro v1354 w1352 ⟨_, R1352, rfl, hC1352⟩
      have hB1352 : Below (World.heap w1350).size w1350 w1352 := hC1352.stepBF
      refine ⟨fun _ => .of_below hB1352, ?_⟩
      replace f1081 := f1081.ext hB1352
      replace f1082 := f1082.ext hB1352
      replace f1083 := f1083.ext hB1352
      replace f1086 := f1086.ext hB1352
      replace hS := hS.newOwnS hB1352 (hC1352.own 0 rfl) (hC1352.fresh 0 rfl) (fun _ h => h.elim)
      refine q_assign rfl rfl ?_
      refine eseq_nil ?_
      refine hK1351 _ _ ?_
      refine e_seq fun K1355 hK1355 => ?_
      refine e_region_text rfl ?_
      refine q_move rfl rfl ?_
      refine q_lenS rfl (hS.isl 4 rfl) rfl ?_
      refine q_move rfl rfl ?_
      refine eseq_nil ?_
      refine hK1355 _ _ ?_
      refine e_block ?_
      obtain ⟨tl1356, ht1356, ho812⟩ := Option.of_bind ho812
      have hX1356_2 : ∀ (x1524 : (List (Pt × (List Int)))) (R1517 : Nat → Prop) (w1518 : World) (E_ : Env), zigzag_Trackable_K2 fuel x1085 x1090 x1524 = some o812 → Sep F R R1517 w w1518 [HP.blk B796 [v797, v798, v799, v1084, .map (some B801)] 187, HP.map Pt.key_ (Ty.slice Ty.int) false R1517 B801 x1524, HP.own ptTy (fun _ => False) 127 v809 r808] → IsSlice Ty.int w1518 R1517 v797 r795.1 → IsSlice (Ty.slice Ty.int) w1518 R1517 v798 r795.2.1 → IsSlice arcTy w1518 R1517 v799 r795.2.2.1 → IsSlice pt2Ty w1518 R1517 v1084 x1085 → Sub [(3, .pointer (some ⟨B796, 0, none⟩)), (5, v809), (21, v809), (22, .int .i64 (r808.length : Int)), (23, .int .i64 x1090)] E_ → K1343 E_ w1518 := by
        intro x1524 R1517 w1518 E_ ho812 hS f1519 f1520 f1521 f1522 hsub
        refine hK1343 _ _ (e_sub hsub ?_); clear hsub
        unfold zigzag_Trackable_K2 at ho812
        refine e_region_text rfl ?_
        refine q_addW rfl rfl rfl ?_
        refine q_move rfl rfl ?_
        refine eseq_nil ?_
        obtain rfl := Option.some.inj ho812
        exact ⟨m812, _, Nat.lt_succ_self _, ⟨x1085, x1524, (w64 (x1090 + 1)), v1084, _, ht812, hS, f1519, f1520, f1521, f1522, rfl⟩, Sub.cons rfl (Sub.cons rfl (Sub.cons rfl (Sub.cons rfl (Sub.cons rfl (Sub.nil _)))))⟩
      refine e_loop (fun m_ E_ w1437 => ∃ (x1443 : (List (Pt × (List Int)))), ∃ (x1446 : Int), ∃ (R1436 : Nat → Prop), iter (fun s => zigzag_Trackable_B2 fuel r808 r1353 r795 x1085 x1345 s.1 s.2) m_ (x1443, x1446) = some tl1356 ∧ Sep F R R1436 w w1437 [HP.blk B796 [v797, v798, v799, v1084, .map (some B801)] 187, HP.map Pt.key_ (Ty.slice Ty.int) false R1436 B801 x1443, HP.own ptTy (fun _ => False) 127 v809 r808, HP.blk bl1348 [.int .i64 x1345.proc, .int .i64 x1345.index] 127, HP.own Ty.int (fun _ => False) 3 v1354 r1353] ∧ IsSlice Ty.int w1437 R1436 v797 r795.1 ∧ IsSlice (Ty.slice Ty.int) w1437 R1436 v798 r795.2.1 ∧ IsSlice arcTy w1437 R1436 v799 r795.2.2.1 ∧ IsSlice pt2Ty w1437 R1436 v1084 x1085 ∧ E_ = [(3, .pointer (some ⟨B796, 0, none⟩)), (5, v809), (7, .pointer (some ⟨bl1348, 0, none⟩)), (8, v1354), (21, v809), (22, .int .i64 (r808.length : Int)), (23, .int .i64 x1090), (30, v809), (31, .int .i64 (r808.length : Int)), (32, .int .i64 x1446)]) _ ⟨_, ⟨x1088, 0, _, ht1356, (hS.pickB [2, 3, 4, 1, 0] 5 rfl rfl), f1081, f1082, f1083, f1086, rfl⟩, Sub.cons rfl (Sub.cons rfl (Sub.cons rfl (Sub.cons rfl (Sub.cons rfl (Sub.cons rfl (Sub.cons rfl (Sub.cons rfl (Sub.cons rfl (Sub.cons rfl (Sub.nil _))))))))))⟩ ?_
      clear ht1356 hS
      rintro m1356 _ w1437 ⟨x1443, x1446, R1436, ht1356, hS, f1438, f1439, f1440, f1441, rfl⟩
      obtain ⟨m1356, rfl, o1356, ho1356, ht1356⟩ := iter_some ht1356
      replace ho1356 : zigzag_Trackable_B2 fuel r808 r1353 r795 x1085 x1345 x1443 x1446 = some o1356 := ho1356
      unfold zigzag_Trackable_B2 at ho1356
      refine e_seq fun K1526 hK1526 => ?_
      refine e_region_text rfl ?_
      refine q_lss rfl rfl rfl ?_
      refine eseq_nil ?_
      refine hK1526 _ _ ?_
      refine e_seq fun K1527 hK1527 => ?_
      refine e_cond rfl (fun hc1528 => ?_) (fun hc1528 => ?_)
      · replace ho1356 := (if_pos hc1528).symm.trans ho1356
        refine e_skip ?_
        refine hK1527 _ _ ?_
        refine e_seq fun K1529 hK1529 => ?_
        refine e_block ?_
        refine e_seq fun K1530 hK1530 => ?_
        refine e_region_text rfl ?_
        obtain ⟨x1531, hx1531, ho1356⟩ := Option.of_bind ho1356
        refine q_indexO (by infer_instance) rfl (hS.own 2 rfl) rfl hx1531 rfl ?_
        have f1532 := (hS.ownR 2 rfl).elt hx1531
        have hc1533 := Pt_open f1532
        refine q_loadAgg rfl hc1533 rfl rfl ?_
        refine q_allocB rfl fun w1534 bl1534 hg1534 hb1534 hB1534 => ?_
        replace f1438 := f1438.ext hB1534
        replace f1439 := f1439.ext hB1534
        replace f1440 := f1440.ext hB1534
        replace f1441 := f1441.ext hB1534
        replace hS := hS.newBlk hB1534 hg1534 hb1534
        refine q_storeAgg rfl rfl (hS.blk 0 rfl) rfl (Nat.le_of_ble_eq_true rfl) (all_cons rfl (all_cons rfl (all_nil))) rfl rfl fun w1536 hb1536 hO1536 => ?_
        simp only [setN, List.set, List.take, List.drop] at hb1536
        have hk1536 := hS.keptBlk 0 rfl hO1536
        replace f1438 := f1438.kept hk1536
        replace f1439 := f1439.kept hk1536
        replace f1440 := f1440.kept hk1536
        replace f1441 := f1441.kept hk1536
        replace hS := hS.setBlk 0 rfl hb1536 hO1536; simp only [List.set] at hS
        refine eseq_nil ?_
        refine hK1530 _ _ ?_
        refine e_seq fun K1537 hK1537 => ?_
        refine e_region_text rfl ?_
        refine q_move rfl rfl ?_
        refine q_field rfl rfl ?_
        refine q_load rfl (Blk.cell (hS.blk 0 rfl) rfl) rfl ?_
        obtain ⟨x1538, hx1538, ho1356⟩ := Option.of_bind ho1356
        refine q_indexO (by infer_instance) rfl (hS.own 5 rfl) rfl hx1538 rfl ?_
        have f1539 := (hS.ownR 5 rfl).elt hx1538
        refine q_load rfl (Elt.intCell f1539) rfl ?_
        refine q_assign rfl rfl ?_
        refine eseq_nil ?_
        refine hK1537 _ _ ?_
        refine e_seq fun K1540 hK1540 => ?_
        refine e_region_draw mixed (fun k => k = B796 ∨ k = B801) [0, 1, 3, 7, 7, 23, 63, 127, 255, 511, 511, 2047, 511, 4607, 16383, 32767, 511, 66047, 262143, 524287] [11] [0, 1, 2, 3, 4, 5, 6, 7, 8, 9, 10, 12, 13, 16, 17, 11, 14, 15, 18, 19] (by kernel_rfl) ?_
        refine q_move rfl rfl ?_
        refine q_geq rfl rfl rfl ?_
        refine q_move rfl rfl ?_
        obtain ⟨x1559, hx1558, ho1356⟩ := Option.of_bind ho1356
        refine g_andM 4 hx1558 rfl trivial rfl rfl ?_ ?_ ?_
        · intro hg1558 hx1558
          clear ho1356
          have hT1558 := Below.refl (World.heap w1536).size w1536
          refine g_run rfl ?_; refine q_move rfl rfl ?_
          refine g_run rfl ?_; refine q_field rfl rfl ?_
          refine g_run rfl ?_; refine q_load rfl (Blk.cell (hS.blk 0 rfl) rfl) rfl ?_ (hX := fun hx_ => hx_.elim (fun hx_ => hS.apart 0 1 rfl rfl (by decide) _ rfl hx_) (fun hx_ => hS.apart 0 2 rfl rfl (by decide) _ rfl hx_))
          refine g_run rfl ?_; refine q_leq rfl rfl rfl ?_
          cases hx1558
          exact eseq_nil ⟨hT1558, Sub.set rfl (Sub.set rfl (Sub.set rfl (Sub.set rfl (Sub.bool true rfl hg1558)))), rfl⟩
        · intro hg1558
          refine g_skip rfl rfl rfl ?_
          refine g_skip rfl rfl rfl ?_
          refine g_skip rfl rfl rfl ?_
          refine g_skip rfl rfl rfl ?_
          exact eseq_nil ⟨rfl, Sub.set rfl (Sub.set rfl (Sub.set rfl (Sub.set rfl (Sub.bool false rfl hg1558))))⟩
        intro wm1558 hBm1558; clear hx1558
        replace hS := hS.below hBm1558
        replace f1438 := f1438.ext hBm1558
        replace f1439 := f1439.ext hBm1558
        replace f1440 := f1440.ext hBm1558
        replace f1441 := f1441.ext hBm1558
        refine q_move rfl rfl ?_
        refine g_split (s := 49) rfl (fun hc1565 => ?_) (fun hc1565 => ?_)
        · replace ho1356 := (if_pos hc1565).symm.trans ho1356
          refine g_run rfl ?_; refine q_move rfl rfl ?_
          refine g_run rfl ?_; refine q_loadAgg rfl (Blk.cellsAt (hS.blk 0 rfl) 0 2 rfl) rfl rfl ?_ (hX := fun hx_ => hx_.elim (fun hx_ => hS.apart 0 1 rfl rfl (by decide) _ rfl hx_) (fun hx_ => hS.apart 0 2 rfl rfl (by decide) _ rfl hx_))
          refine g_run rfl ?_; refine q_field rfl rfl ?_
          refine g_run rfl ?_; refine q_load rfl (Blk.cell (hS.blk 4 rfl) rfl) rfl ?_ (hX := fun hx_ => hx_.elim (fun hx_ => hS.apart 4 1 rfl rfl (by decide) _ rfl hx_) (fun hx_ => hS.apart 4 2 rfl rfl (by decide) _ rfl hx_))
          refine g_run rfl ?_; refine q_field rfl rfl ?_
          refine g_run rfl ?_; refine q_load rfl (Blk.cell (hS.blk 4 rfl) rfl) rfl ?_ (hX := fun hx_ => hx_.elim (fun hx_ => hS.apart 4 1 rfl rfl (by decide) _ rfl hx_) (fun hx_ => hS.apart 4 2 rfl rfl (by decide) _ rfl hx_))
          obtain ⟨r1567, hr1567, ho1356⟩ := Option.of_bind ho1356
          replace hS := hS.pickB [1, 2, 0, 3, 4, 5] 6 rfl rfl; simp only [List.map_cons, List.map_nil, List.getD_cons_zero, List.getD_cons_succ] at hS
          refine g_run rfl ?_; refine q_call rfl (zigzag_graph_vector_w (a1 := (⟨x1531.proc, x1531.index⟩ : Pt)) (Sep.enter (As := [_, _]) hS) f1438 f1439 f1440 f1441 hr1567) rfl ?_
          rintro v1568 w1566 ⟨_, R1566, rfl, hC1566, f1568⟩
          refine ⟨fun _ => hC1566.relX2, ?_⟩
          have hk1566 := hC1566.keptR (Sep.offFeet (As := [_, _]) hS)
          replace f1438 := (f1438.kept hk1566).mono fun k hk _ => hC1566.ro0 k hk
          replace f1439 := (f1439.kept hk1566).mono fun k hk _ => hC1566.ro0 k hk
          replace f1440 := (f1440.kept hk1566).mono fun k hk _ => hC1566.ro0 k hk
          replace f1441 := (f1441.kept hk1566).mono fun k hk _ => hC1566.ro0 k hk
          replace hS := Sep.leave (As := [_, _]) hS hC1566; simp only [List.cons_append, List.nil_append] at hS
          obtain ⟨x1569, hx1569, ho1356⟩ := Option.of_bind ho1356
          refine g_run rfl ?_; refine q_atS (by infer_instance) rfl f1568 rfl hx1569 rfl fun b1570 o1570 hm1570 f1570 => ?_
          refine g_run rfl ?_; refine q_load rfl (Elt.intCell f1570) rfl ?_ (hX := fun hx_ => hx_.elim (fun hx_ => hS.off 0 rfl _ hm1570 hx_) (fun hx_ => hS.off 1 rfl _ hm1570 hx_))
          refine g_run rfl ?_; refine q_leq rfl rfl rfl ?_
          refine q_pick_true rfl rfl rfl ?_
          refine eseq_nil ?_
          refine hK1540 _ _ ?_
          refine e_cond rfl (fun hc1571 => ?_) (fun hc1571 => ?_)
          · replace ho1356 := (if_pos hc1571).symm.trans ho1356
            refine e_seq fun K1572 hK1572 => ?_
            refine e_region_text rfl ?_
            refine q_assign rfl rfl ?_
            refine eseq_nil ?_
            refine hK1572 _ _ ?_
            refine e_ret ?_
            obtain rfl := Option.some.inj ho1356
            obtain rfl := Option.some.inj ht1356
            obtain rfl := Option.some.inj ho812
            obtain rfl := Option.some.inj ht812
            obtain rfl := Option.some.inj h
            exact ⟨_, res1 rfl rfl, _, rfl, (hS.pickB [] 6 rfl rfl)⟩
          · replace ho1356 := (if_neg (not_true hc1571)).symm.trans ho1356
            refine e_skip ?_
            refine hK1529 _ _ ?_
            refine e_region_text rfl ?_
            refine q_addW rfl rfl rfl ?_
            refine q_move rfl rfl ?_
            refine eseq_nil ?_
            obtain rfl := Option.some.inj ho1356
            exact ⟨m1356, _, Nat.lt_succ_self _, ⟨r1567.2, (w64 (x1446 + 1)), _, ht1356, (hS.pickB [0, 1, 3, 4, 5] 6 rfl rfl), f1438, f1439, f1440, f1441, rfl⟩, Sub.cons rfl (Sub.cons rfl (Sub.cons rfl (Sub.cons rfl (Sub.cons rfl (Sub.cons rfl (Sub.cons rfl (Sub.cons rfl (Sub.cons rfl (Sub.cons rfl (Sub.nil _))))))))))⟩
        · replace ho1356 := (if_neg (not_true hc1565)).symm.trans ho1356
          refine g_skip rfl rfl rfl ?_
          refine g_skip rfl rfl rfl ?_
          refine g_skip rfl rfl rfl ?_
          refine g_skip rfl rfl rfl ?_
          refine g_skip rfl rfl rfl ?_
          refine g_skip rfl rfl rfl ?_
          refine g_skip rfl rfl rfl ?_
          refine g_skip rfl rfl rfl ?_
          refine g_skip rfl rfl rfl ?_
          refine g_skip rfl rfl rfl ?_
          refine q_pick_false rfl rfl rfl ?_
          refine eseq_nil ?_
          refine hK1540 _ _ ?_
          refine e_cond rfl (fun hc1573 => ?_) (fun hc1573 => ?_)
          · replace ho1356 := (if_pos hc1573).symm.trans ho1356
            refine e_seq fun K1574 hK1574 => ?_
            refine e_region_text rfl ?_
            refine q_assign rfl rfl ?_
            refine eseq_nil ?_
            refine hK1574 _ _ ?_
            refine e_ret ?_
            obtain rfl := Option.some.inj ho1356
            obtain rfl := Option.some.inj ht1356
            obtain rfl := Option.some.inj ho812
            obtain rfl := Option.some.inj ht812
            obtain rfl := Option.some.inj h
            exact ⟨_, res1 rfl rfl, _, rfl, (hS.pickB [] 6 rfl rfl)⟩
          · replace ho1356 := (if_neg (not_true hc1573)).symm.trans ho1356
            refine e_skip ?_
            refine hK1529 _ _ ?_
            refine e_region_text rfl ?_
            refine q_addW rfl rfl rfl ?_
            refine q_move rfl rfl ?_
            refine eseq_nil ?_
            obtain rfl := Option.some.inj ho1356
            exact ⟨m1356, _, Nat.lt_succ_self _, ⟨x1443, (w64 (x1446 + 1)), _, ht1356, (hS.pickB [1, 2, 3, 4, 5] 6 rfl rfl), f1438, f1439, f1440, f1441, rfl⟩, Sub.cons rfl (Sub.cons rfl (Sub.cons rfl (Sub.cons rfl (Sub.cons rfl (Sub.cons rfl (Sub.cons rfl (Sub.cons rfl (Sub.cons rfl (Sub.cons rfl (Sub.nil _))))))))))⟩
      · replace ho1356 := (if_neg (not_true hc1528)).symm.trans ho1356
        refine e_exit ?_
        obtain rfl := Option.some.inj ho1356
        obtain rfl := Option.some.inj ht1356
        exact hX1356_2 x1443 _ _ _ ho812 (hS.pickB [0, 1, 2] 5 rfl rfl) f1438 f1439 f1440 f1441 (Sub.cons rfl (Sub.cons rfl (Sub.cons rfl (Sub.cons rfl (Sub.cons rfl (Sub.nil _))))))
    · replace ho812 := (if_neg (not_true hc1342)).symm.trans ho812
      refine e_exit ?_
      obtain rfl := Option.some.inj ho812
      obtain rfl := Option.some.inj ht812
      exact hX812_0  _ _ _ h (hS.pickB [] 3 rfl rfl)  (Sub.nil _)
end Go.Proofs.Ytbmjcbhappjnaaa
