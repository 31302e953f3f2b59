/- Printed walks: A20b. -/
import Derived.Test.YtljpjekifbamfaaA20a
import Derived.Test.YtljpjekifbamfaaA20x
import Derived.Test.YtljpjekifbamfaaLibF
set_option linter.unusedVariables false
set_option linter.unusedSimpArgs false
namespace Go.Mine
open Go.RowKit
theorem cmpI_lt (x y : Int) : (cmpI x y < 0) = (x < y) := by unfold cmpI; apply propext; split <;> (try split) <;> constructor <;> intro <;> omega
theorem cmpI_eq (x y : Int) : (cmpI x y = 0) = (x = y) := by unfold cmpI; apply propext; split <;> (try split) <;> constructor <;> intro <;> omega
theorem cmpP_lt (x y : Pt) : (cmpP_cf x y < 0) = (x.proc < y.proc ∨ x.proc = y.proc ∧ x.index < y.index) := by
  unfold cmpP_cf
  have h1 := cmpI_lt x.proc y.proc; have h2 := cmpI_eq x.proc y.proc; have h3 := cmpI_lt x.index y.index
  split
  · rw [h1]; rename_i h; rw [ne_eq, h2] at h; apply propext; omega
  · rename_i h; simp only [ne_eq, Decidable.not_not] at h; rw [h2] at h; rw [h3]; apply propext; omega
theorem cmpP_eq (x y : Pt) : (cmpP_cf x y = 0) = (x.proc = y.proc ∧ x.index = y.index) := by
  unfold cmpP_cf
  have h2 := cmpI_eq x.proc y.proc; have h3 := cmpI_eq x.index y.index
  split
  · rename_i h; rw [h2]; rw [ne_eq, h2] at h; apply propext; omega
  · rename_i h; simp only [ne_eq, Decidable.not_not] at h; rw [h2] at h; rw [h3]; apply propext; omega
theorem sortP_lt (x y : Pt2) : Go.Proofs.ltOf sortP_cf x y = decide (x.x0.proc < y.x0.proc ∨ x.x0.proc = y.x0.proc ∧ (x.x0.index < y.x0.index ∨ x.x0.index = y.x0.index ∧ (x.x1.proc < y.x1.proc ∨ x.x1.proc = y.x1.proc ∧ x.x1.index < y.x1.index))) := by
  unfold Go.Proofs.ltOf sortP_cf
  have h1 := cmpP_lt x.x0 y.x0; have h2 := cmpP_eq x.x0 y.x0; have h3 := cmpP_lt x.x1 y.x1
  congr 1
  split
  · rw [h1]; rename_i h; rw [ne_eq, h2] at h; apply propext; omega
  · rename_i h; simp only [ne_eq, Decidable.not_not] at h; rw [h2] at h; rw [h3]; apply propext; omega
theorem sortP_swo : Go.Sort.SWO (Go.Proofs.ltOf sortP_cf) where
  irrefl x := by rw [sortP_lt]; simp
  trans x y z h1 h2 := by rw [sortP_lt] at *; simp only [decide_eq_true_eq] at *; omega
  ntrans x y z h1 h2 := by rw [sortP_lt] at *; simp only [decide_eq_false_iff_not] at *; omega
def sortP (fuel : Nat) (c0_0 : List Pt2) : Option (List Pt2) := if c0_0.length < 4611686018427387904 then some (sortL sortP_cf c0_0) else none
def rgraph_Edges_K2 (fuel : Nat) (x812 : (List Pt2)) : Option ((List Pt2)) :=
  (sortP fuel x812).bind fun r815 => (Compact fuel r815).bind fun r819 => some r819
def rgraph_Edges_B1 (fuel : Nat) (a0 : Pat) (x758 : (List Pt2)) (x760 : Int) : Option (((List Pt2) × Int) ⊕ ((List Pt2))) :=
  (if (decide (x760 < (a0.arcs.length : Int))) = true then (ati a0.arcs x760).bind fun x826 => (if (x826.rcv != 0) = true then (pattern_Interval fuel (⟨a0.lens, a0.ckpts, a0.arcs⟩ : Pat) x826.fr x826.ix).bind fun r843 => (pattern_Interval fuel (⟨a0.lens, a0.ckpts, a0.arcs⟩ : Pat) x826.to x826.rcv).bind fun r845 => (snoc x758 (⟨(⟨x826.fr, r843⟩ : Pt), (⟨x826.to, r845⟩ : Pt)⟩ : Pt2)).bind fun x849 => some (Sum.inl (x849, (w64 (x760 + 1)))) else some (Sum.inl (x758, (w64 (x760 + 1))))) else some (Sum.inr x758))
def rgraph_Edges_K1 (fuel : Nat) (a0 : Pat) (x693 : (List Pt2)) : Option ((List Pt2)) :=
  (iter (fun s => rgraph_Edges_B1 fuel a0 s.1 s.2) fuel (x693, 0)).bind (fun t => rgraph_Edges_K2 fuel t)
def rgraph_Edges_K3 (fuel : Nat) (x592 : Int) (x923 : (List Pt2)) : Option (((List Pt2) × Int) ⊕ ((List Pt2))) :=
  some (Sum.inl (x923, (w64 (x592 + 1))))
def rgraph_Edges_B3 (fuel : Nat) (x856 : (List Int)) (x592 : Int) (x894 : (List Pt2)) (x896 : Int) : Option (((List Pt2) × Int) ⊕ ((List Pt2))) :=
  (if (decide (x896 < (x856.length : Int))) = true then (snoc x894 (⟨(⟨x592, x896⟩ : Pt), (⟨x592, w64 (x896 + 1)⟩ : Pt)⟩ : Pt2)).bind fun x933 => some (Sum.inl (x933, (w64 (x896 + 1)))) else some (Sum.inr x894))
def rgraph_Edges_B2 (fuel : Nat) (a0 : Pat) (x590 : (List Pt2)) (x592 : Int) : Option (((List Pt2) × Int) ⊕ ((List Pt2))) :=
  (if (decide (x592 < (a0.ckpts.length : Int))) = true then (ati a0.ckpts x592).bind fun x856 => (iter (fun s => rgraph_Edges_B3 fuel x856 x592 s.1 s.2) fuel (x590, 0)).bind (fun t => rgraph_Edges_K3 fuel x592 t) else some (Sum.inr x590))
def rgraph_Edges (fuel : Nat) (a0 : Pat) : Option ((List Pt2)) :=
  (pattern_Check fuel (⟨a0.lens, a0.ckpts, a0.arcs⟩ : Pat)).bind fun r476 => (if (r476 != 0) = true then some ([] : List Pt2) else (iter (fun s => rgraph_Edges_B2 fuel a0 s.1 s.2) fuel (([] : List Pt2), 0)).bind (fun t => rgraph_Edges_K1 fuel a0 t))
def visitR (fuel : Nat) (a0 : Pt) (c1_0 : (List (List Bool))) (c2_0 : (List Pt)) : Option ((List (List Bool)) × (List Pt)) :=
  (orM (decide (a0.proc < 0)) (some (decide ((c1_0.length : Int) ≤ a0.proc)))).bind fun x53 => (orM x53 (some (decide (a0.index < 0)))).bind fun x57 => (orM x57 ((ati c1_0 a0.proc).bind fun x63 => some (decide ((x63.length : Int) ≤ a0.index)))).bind fun x62 => (if x62 = true then some (c1_0, c2_0) else (ati c1_0 a0.proc).bind fun x67 => (ati x67 a0.index).bind fun x68 => (if (!x68) = true then (ati c1_0 a0.proc).bind fun x72 => (ati x72 a0.index).bind fun x73 => (seti x72 a0.index true).bind fun x75 => (seti c1_0 a0.proc x75).bind fun x76 => (snoc c2_0 (⟨a0.proc, a0.index⟩ : Pt)).bind fun x80 => some (x76, x80) else some (c1_0, c2_0)))
def rgraph_Reach_K3 (fuel : Nat) (x1353 : (List (List Bool))) : Option ((List (List Bool))) :=
  some x1353
def rgraph_Reach_K4 (fuel : Nat) (x1474 : (List (List Bool))) (x1479 : (List Pt)) : Option (((List (List Bool)) × (List Pt)) ⊕ ((List (List Bool)))) :=
  some (Sum.inl (x1474, x1479))
def rgraph_Reach_B2 (fuel : Nat) (r1000 : ((List Pt2))) (x1361 : Pt) (x1422 : (List (List Bool))) (x1427 : (List Pt)) (x1430 : Int) : Option (((List (List Bool)) × (List Pt) × Int) ⊕ ((List (List Bool)) × (List Pt))) :=
  (if (decide (x1430 < (r1000.length : Int))) = true then (ati r1000 x1430).bind fun x1486 => (if ((x1486.x0.proc == x1361.proc) && ((x1486.x0.index == x1361.index) && true)) = true then (visitR fuel (⟨x1486.x1.proc, x1486.x1.index⟩ : Pt) x1422 x1427).bind fun r1495 => some (Sum.inl (r1495.1, r1495.2, (w64 (x1430 + 1)))) else some (Sum.inl (x1422, x1427, (w64 (x1430 + 1))))) else some (Sum.inr (x1422, x1427)))
def rgraph_Reach_B1 (fuel : Nat) (r1000 : ((List Pt2))) (x1178 : (List (List Bool))) (x1183 : (List Pt)) : Option (((List (List Bool)) × (List Pt)) ⊕ ((List (List Bool)))) :=
  (if (decide (0 < (x1183.length : Int))) = true then (ati x1183 (w64 ((x1183.length : Int) - 1))).bind fun x1361 => (takeL x1183 (w64 ((x1183.length : Int) - 1))).bind fun x1368 => (iter (fun s => rgraph_Reach_B2 fuel r1000 x1361 s.1 s.2.1 s.2.2) fuel (x1178, x1368, 0)).bind (fun t => rgraph_Reach_K4 fuel t.1 t.2) else some (Sum.inr x1178))
def rgraph_Reach_K2 (fuel : Nat) (a0 : Pat) (x992 : (List (List Bool))) (x997 : (List Pt)) : Option ((List (List Bool))) :=
  (rgraph_Edges fuel (⟨a0.lens, a0.ckpts, a0.arcs⟩ : Pat)).bind fun r1000 => (iter (fun s => rgraph_Reach_B1 fuel r1000 s.1 s.2) fuel (x992, x997)).bind (fun t => rgraph_Reach_K3 fuel t)
def rgraph_Reach_B3 (fuel : Nat) (a1 : (List Pt)) (x946 : (List (List Bool))) (x951 : (List Pt)) (x953 : Int) : Option (((List (List Bool)) × (List Pt) × Int) ⊕ ((List (List Bool)) × (List Pt))) :=
  (if (decide (x953 < (a1.length : Int))) = true then (ati a1 x953).bind fun x1505 => (visitR fuel (⟨x1505.proc, x1505.index⟩ : Pt) x946 x951).bind fun r1512 => some (Sum.inl (r1512.1, r1512.2, (w64 (x953 + 1)))) else some (Sum.inr (x946, x951)))
def rgraph_Reach_K1 (fuel : Nat) (a1 : (List Pt)) (a0 : Pat) (x889 : (List (List Bool))) : Option ((List (List Bool))) :=
  (iter (fun s => rgraph_Reach_B3 fuel a1 s.1 s.2.1 s.2.2) fuel (x889, ([] : List Pt), 0)).bind (fun t => rgraph_Reach_K2 fuel a0 t.1 t.2)
def rgraph_Reach_B4 (fuel : Nat) (a0 : Pat) (x843 : (List (List Bool))) (x847 : Int) : Option (((List (List Bool)) × Int) ⊕ ((List (List Bool)))) :=
  (if (decide (x847 < (a0.ckpts.length : Int))) = true then (ati a0.ckpts x847).bind fun x1521 => (mkL (w64 ((x1521.length : Int) + 1)) false).bind fun x1530 => (ati x843 x847).bind fun x1533 => (seti x843 x847 x1530).bind fun x1535 => some (Sum.inl (x1535, (w64 (x847 + 1)))) else some (Sum.inr x843))
def rgraph_Reach (fuel : Nat) (a0 : Pat) (a1 : (List Pt)) : Option ((List (List Bool))) :=
  (pattern_Check fuel (⟨a0.lens, a0.ckpts, a0.arcs⟩ : Pat)).bind fun r777 => (if (r777 != 0) = true then some ([] : List (List Bool)) else (mkL (a0.ckpts.length : Int) ([] : List Bool)).bind fun x783 => (iter (fun s => rgraph_Reach_B4 fuel a0 s.1 s.2) fuel (x783, 0)).bind (fun t => rgraph_Reach_K1 fuel a1 a0 t))
def rgraph_Undone_K1 (fuel : Nat) (x216 : (List Int)) : Option ((List Int)) :=
  some x216
def rgraph_Undone_J1 (fuel : Nat) (x176 : (List Int)) (x179 : Int) (x234 : Int) : Option (((List Int) × Int) ⊕ ((List Int))) :=
  (snoc x176 x234).bind fun x240 => some (Sum.inl (x240, (w64 (x179 + 1))))
def rgraph_Undone_B1 (fuel : Nat) (r132 : ((List (List Bool)))) (x176 : (List Int)) (x179 : Int) : Option (((List Int) × Int) ⊕ ((List Int))) :=
  (if (decide (x179 < (r132.length : Int))) = true then (ati r132 x179).bind fun x224 => (IndexB fuel x224 true).bind fun r227 => (if (decide (r227 < 0)) = true then rgraph_Undone_J1 fuel x176 x179 (x224.length : Int) else rgraph_Undone_J1 fuel x176 x179 r227) else some (Sum.inr x176))
def rgraph_Undone (fuel : Nat) (a0 : Pat) (a1 : (List Pt)) : Option ((List Int)) :=
  (rgraph_Reach fuel (⟨a0.lens, a0.ckpts, a0.arcs⟩ : Pat) a1).bind fun r132 => (iter (fun s => rgraph_Undone_B1 fuel r132 s.1 s.2) fuel (([] : List Int), 0)).bind (fun t => rgraph_Undone_K1 fuel t)
def rgraph_Recovery_K2 (fuel : Nat) (x491 : (List Int)) : Option ((List Int)) :=
  some x491
def rgraph_Recovery_B1 (fuel : Nat) (r387 : ((List Int))) (a0 : Pat) (x445 : (List Int)) (x446 : Int) : Option (((List Int) × Int) ⊕ ((List Int))) :=
  (if (decide (x446 < (r387.length : Int))) = true then (ati x445 x446).bind fun x498 => (ati a0.ckpts x446).bind fun x501 => (if (decide ((x501.length : Int) < x498)) = true then (ati a0.lens x446).bind fun x505 => (ati x445 x446).bind fun x507 => (seti x445 x446 x505).bind fun x509 => some (Sum.inl (x509, (w64 (x446 + 1)))) else (depend_Index fuel (⟨a0.lens, a0.ckpts, a0.arcs⟩ : Pat) x446 (w64 (x498 - 1))).bind fun r511 => (ati x445 x446).bind fun x512 => (seti x445 x446 r511).bind fun x514 => some (Sum.inl (x514, (w64 (x446 + 1))))) else some (Sum.inr x445))
def rgraph_Recovery_K1 (fuel : Nat) (a0 : Pat) (x384 : (List Pt)) : Option ((List Int)) :=
  (rgraph_Undone fuel (⟨a0.lens, a0.ckpts, a0.arcs⟩ : Pat) x384).bind fun r387 => (iter (fun s => rgraph_Recovery_B1 fuel r387 a0 s.1 s.2) fuel (r387, 0)).bind (fun t => rgraph_Recovery_K2 fuel t)
def rgraph_Recovery_B2 (fuel : Nat) (a1 : (List Int)) (a0 : Pat) (x336 : (List Pt)) (x338 : Int) : Option (((List Pt) × Int) ⊕ ((List Pt))) :=
  (if (decide (x338 < (a1.length : Int))) = true then (ati a1 x338).bind fun x521 => (andM (decide (0 ≤ x521)) (some (decide (x521 < (a0.ckpts.length : Int))))).bind fun x527 => (if x527 = true then (ati a0.ckpts x521).bind fun x529 => (snoc x336 (⟨x521, (x529.length : Int)⟩ : Pt)).bind fun x535 => some (Sum.inl (x535, (w64 (x338 + 1)))) else some (Sum.inl (x336, (w64 (x338 + 1))))) else some (Sum.inr x336))
def rgraph_Recovery (fuel : Nat) (a0 : Pat) (a1 : (List Int)) : Option ((List Int)) :=
  (pattern_Check fuel (⟨a0.lens, a0.ckpts, a0.arcs⟩ : Pat)).bind fun r277 => (if (r277 != 0) = true then some ([] : List Int) else (iter (fun s => rgraph_Recovery_B2 fuel a1 a0 s.1 s.2) fuel (([] : List Pt), 0)).bind (fun t => rgraph_Recovery_K1 fuel a0 t))
end Go.Mine
namespace Go.Proofs.Ytljpjekifbamfaa
open Go.RowKit Go.Mine
attribute [local irreducible] eseq ewp iter
theorem sortP_w {F R : Nat → Prop} {w : World} {fuel : Nat} {c0_0 : List Pt2} {v1 : Value} {r : List Pt2} (hS : Sep F R R w w [HP.own pt2Ty (fun _ => False) 49 v1 c0_0]) (h : sortP fuel c0_0 = some r) :
    Gives Try.prog 39 [v1, .func (.func 40) #[] #[]] w fun u w1 => ∃ (R1 : Nat → Prop), u = .tuple #[] ∧ Sep F R R1 w w1 [HP.own pt2Ty (fun _ => False) 49 v1 r] := by
  unfold sortP at h
  split at h
  · rename_i hn
    cases h
    exact sortOwn Try.sort39 (T := pt2Ty) (enc := Pt2.cells_) Try.isAgg49 Try.sizeOf49 (fun _ => rfl) (fun x v hv => by unfold Pt2.cells_ at hv; simp at hv; rcases hv with rfl | rfl | rfl | rfl <;> rfl) sortP_swo (enters_of Try.func40 (by kernel_rfl) rfl) sortP_cmp hS hn
  · cases h
theorem rgraph_Edges_w {F R : Nat → Prop} {w : World} {fuel : Nat} {a0 : Pat} {v1 : Value} {v2 : Value} {v3 : Value} {r : ((List Pt2))} (hS : Sep F R R w w []) (f1 : IsSlice Ty.int w R v1 a0.lens) (f2 : IsSlice (Ty.slice Ty.int) w R v2 a0.ckpts) (f3 : IsSlice arcTy w R v3 a0.arcs) (h : rgraph_Edges fuel a0 = some r) :
    Gives Try.prog 14 [.agg #[v1, v2, v3]] w fun u w1 => ∃ (v469 : Value), ∃ (R1 : Nat → Prop), u = v469 ∧ Sep F R R1 w w1 [] ∧ IsSlice pt2Ty w1 R1 v469 r := by
  refine fn_of Try.func14 rfl Try.ntmps14 (Nat.le_of_ble_eq_true rfl) ?_
  unfold rgraph_Edges at h
  refine e_seq fun K470 hK470 => ?_
  refine e_region_text rfl ?_
  refine q_boxB rfl rfl rfl fun w471 bl471 hg471 hb471 hB471 => ?_
  replace f1 := f1.ext hB471
  replace f2 := f2.ext hB471
  replace f3 := f3.ext hB471
  replace hS := hS.newBlk hB471 hg471 hb471
  refine q_assign rfl rfl ?_
  refine eseq_nil ?_
  refine hK470 _ _ ?_
  refine e_seq fun K473 hK473 => ?_
  refine e_seq fun K474 hK474 => ?_
  refine e_region_text rfl ?_
  refine q_loadAgg rfl (Blk.cellsAt (hS.blk 0 rfl) 0 3 rfl) rfl rfl ?_
  obtain ⟨r476, hr476, h⟩ := Option.of_bind h
  refine q_call rfl (pattern_Check_w (a0 := (⟨a0.lens, a0.ckpts, a0.arcs⟩ : Pat)) (Sep.enter (As := []) hS) f1 f2 f3 hr476) rfl ?_
  rintro _ w475 ⟨R475, rfl, hC475⟩
  have hB475 : Below (World.heap w471).size w471 w475 := hC475.stepB0
  refine ⟨fun _ => .of_below hB475, ?_⟩
  replace f1 := (f1.ext hB475).mono fun k hk _ => hC475.ro0 k hk
  replace f2 := (f2.ext hB475).mono fun k hk _ => hC475.ro0 k hk
  replace f3 := (f3.ext hB475).mono fun k hk _ => hC475.ro0 k hk
  replace hS := Sep.leave (As := []) hS hC475; simp only [List.cons_append, List.nil_append] at hS
  refine q_neq rfl rfl rfl ?_
  refine eseq_nil ?_
  refine hK474 _ _ ?_
  refine e_cond rfl (fun hc477 => ?_) (fun hc477 => ?_)
  · replace h := (if_pos hc477).symm.trans h
    refine e_seq fun K478 hK478 => ?_
    refine e_region_text rfl ?_
    refine q_assign rfl rfl ?_
    refine eseq_nil ?_
    refine hK478 _ _ ?_
    refine e_ret ?_
    obtain rfl := Option.some.inj h
    exact ⟨_, res1 rfl rfl, (.slice none 0 0), _, rfl, (hS.pickB [] 1 rfl rfl), (IsSlice.nil _ _ _)⟩
  · replace h := (if_neg (not_true hc477)).symm.trans h
    refine e_skip ?_
    refine hK473 _ _ ?_
    refine e_seq fun K479 hK479 => ?_
    refine e_region_text rfl ?_
    refine q_assign rfl rfl ?_
    refine eseq_nil ?_
    refine hK479 _ _ ?_
    refine e_seq fun K480 hK480 => ?_
    refine e_seq fun K481 hK481 => ?_
    refine e_region_text rfl ?_
    refine q_field rfl rfl ?_
    refine q_load rfl (Blk.cell (hS.blk 0 rfl) rfl) rfl ?_
    refine q_lenS rfl f2 rfl ?_
    refine q_move rfl rfl ?_
    refine eseq_nil ?_
    refine hK481 _ _ ?_
    refine e_block ?_
    obtain ⟨tl482, ht482, h⟩ := Option.of_bind h
    have hX482_0 : ∀ (x693 : (List Pt2)) (v692 : Value) (R686 : Nat → Prop) (w687 : World) (E_ : Env), rgraph_Edges_K1 fuel a0 x693 = some r → Sep F R R686 w w687 [HP.blk bl471 [v1, v2, v3] 28, HP.own pt2Ty (fun _ => False) 49 v692 x693] → IsSlice Ty.int w687 R686 v1 a0.lens → IsSlice (Ty.slice Ty.int) w687 R686 v2 a0.ckpts → IsSlice arcTy w687 R686 v3 a0.arcs → Sub [(1, .pointer (some ⟨bl471, 0, none⟩)), (3, v692)] E_ → K480 E_ w687 := by
      intro x693 v692 R686 w687 E_ h hS f688 f689 f690 hsub
      refine hK480 _ _ (e_sub hsub ?_); clear hsub
      unfold rgraph_Edges_K1 at h
      refine e_seq fun K694 hK694 => ?_
      refine e_seq fun K695 hK695 => ?_
      refine e_region_text rfl ?_
      refine q_field rfl rfl ?_
      refine q_load rfl (Blk.cell (hS.blk 0 rfl) rfl) rfl ?_
      refine q_lenS rfl f690 rfl ?_
      refine q_move rfl rfl ?_
      refine eseq_nil ?_
      refine hK695 _ _ ?_
      refine e_block ?_
      obtain ⟨tl696, ht696, h⟩ := Option.of_bind h
      have hX696_4 : ∀ (x812 : (List Pt2)) (v811 : Value) (R808 : Nat → Prop) (w809 : World) (E_ : Env), rgraph_Edges_K2 fuel x812 = some r → Sep F R R808 w w809 [HP.own pt2Ty (fun _ => False) 49 v811 x812] → Sub [(3, v811)] E_ → K694 E_ w809 := by
        intro x812 v811 R808 w809 E_ h hS  hsub
        refine hK694 _ _ (e_sub hsub ?_); clear hsub
        unfold rgraph_Edges_K2 at h
        refine e_seq fun K813 hK813 => ?_
        refine e_region_text rfl ?_
        refine q_move rfl rfl ?_
        obtain ⟨r815, hr815, h⟩ := Option.of_bind h
        refine q_call rfl (sortP_w (Sep.enter (As := [_]) hS)  hr815) rfl ?_
        rintro _ w814 ⟨R814, rfl, hC814⟩
        refine ⟨(fun h => by cases h), ?_⟩
        have hk814 := hC814.keptR (Sep.offFeet (As := [_]) hS)
        replace hS := Sep.leave (As := [_]) hS hC814; simp only [List.cons_append, List.nil_append] at hS
        refine eseq_nil ?_
        refine hK813 _ _ ?_
        refine e_seq fun K817 hK817 => ?_
        refine e_region_text rfl ?_
        refine q_move rfl rfl ?_
        obtain ⟨r819, hr819, h⟩ := Option.of_bind h
        refine q_call rfl (Compact_w (Sep.enter (As := [_]) hS)  hr819) rfl ?_
        rintro v820 w818 ⟨_, R818, rfl, hC818, f820⟩
        refine ⟨(fun h => by cases h), ?_⟩
        have hk818 := hC818.keptR (Sep.offFeet (As := [_]) hS)
        replace hS := Sep.leave (As := [_]) hS hC818; simp only [List.cons_append, List.nil_append] at hS
        refine q_assign rfl rfl ?_
        refine eseq_nil ?_
        refine hK817 _ _ ?_
        refine e_ret ?_
        obtain rfl := Option.some.inj h
        exact ⟨_, res1 rfl rfl, v820, _, rfl, hS, f820⟩
      refine e_loop (fun m_ E_ w752 => ∃ (x758 : (List Pt2)), ∃ (x760 : Int), ∃ (v757 : Value), ∃ (R751 : Nat → Prop), iter (fun s => rgraph_Edges_B1 fuel a0 s.1 s.2) m_ (x758, x760) = some tl696 ∧ Sep F R R751 w w752 [HP.blk bl471 [v1, v2, v3] 28, HP.own pt2Ty (fun _ => False) 49 v757 x758] ∧ IsSlice Ty.int w752 R751 v1 a0.lens ∧ IsSlice (Ty.slice Ty.int) w752 R751 v2 a0.ckpts ∧ IsSlice arcTy w752 R751 v3 a0.arcs ∧ IsSlice arcTy w752 R751 v3 a0.arcs ∧ E_ = [(1, .pointer (some ⟨bl471, 0, none⟩)), (3, v757), (39, v3), (40, .int .i64 (a0.arcs.length : Int)), (41, .int .i64 x760)]) _ ⟨_, ⟨x693, 0, v692, _, ht696, hS, f688, f689, f690, f690, rfl⟩, Sub.cons rfl (Sub.cons rfl (Sub.cons rfl (Sub.cons rfl (Sub.cons rfl (Sub.nil _)))))⟩ ?_
      clear ht696 hS
      rintro m696 _ w752 ⟨x758, x760, v757, R751, ht696, hS, f753, f754, f755, f759, rfl⟩
      obtain ⟨m696, rfl, o696, ho696, ht696⟩ := iter_some ht696
      replace ho696 : rgraph_Edges_B1 fuel a0 x758 x760 = some o696 := ho696
      unfold rgraph_Edges_B1 at ho696
      refine e_seq fun K821 hK821 => ?_
      refine e_region_text rfl ?_
      refine q_lss rfl rfl rfl ?_
      refine eseq_nil ?_
      refine hK821 _ _ ?_
      refine e_seq fun K822 hK822 => ?_
      refine e_cond rfl (fun hc823 => ?_) (fun hc823 => ?_)
      · replace ho696 := (if_pos hc823).symm.trans ho696
        refine e_skip ?_
        refine hK822 _ _ ?_
        refine e_seq fun K824 hK824 => ?_
        refine e_block ?_
        refine e_seq fun K825 hK825 => ?_
        refine e_region_text rfl ?_
        obtain ⟨x826, hx826, ho696⟩ := Option.of_bind ho696
        refine q_atS (by infer_instance) rfl f759 rfl hx826 rfl fun b827 o827 hm827 f827 => ?_
        have hc828 := Arc_open f827
        refine q_loadAgg rfl hc828 rfl rfl ?_
        refine q_allocB rfl fun w829 bl829 hg829 hb829 hB829 => ?_
        replace f753 := f753.ext hB829
        replace f754 := f754.ext hB829
        replace f755 := f755.ext hB829
        replace f759 := f759.ext hB829
        replace hS := hS.newBlk hB829 hg829 hb829
        refine q_storeAgg rfl rfl (hS.blk 0 rfl) rfl (Nat.le_of_ble_eq_true rfl) (all_cons rfl (all_cons rfl (all_cons rfl (all_cons rfl (all_nil))))) rfl rfl fun w831 hb831 hO831 => ?_
        simp only [setN, List.set, List.take, List.drop] at hb831
        have hk831 := hS.keptBlk 0 rfl hO831
        replace f753 := f753.kept hk831
        replace f754 := f754.kept hk831
        replace f755 := f755.kept hk831
        replace f759 := f759.kept hk831
        replace hS := hS.setBlk 0 rfl hb831 hO831; simp only [List.set] at hS
        refine eseq_nil ?_
        refine hK825 _ _ ?_
        refine e_seq fun K832 hK832 => ?_
        refine e_region_text rfl ?_
        refine q_field rfl rfl ?_
        refine q_load rfl (Blk.cell (hS.blk 0 rfl) rfl) rfl ?_
        refine q_neq rfl rfl rfl ?_
        refine eseq_nil ?_
        refine hK832 _ _ ?_
        refine e_cond rfl (fun hc833 => ?_) (fun hc833 => ?_)
        · replace ho696 := (if_pos hc833).symm.trans ho696
          refine e_region_draw mixed (fun _ => False) [0, 0, 2, 0, 0, 16, 0, 64, 248, 510, 0, 1024, 0, 0, 8192, 0, 32768, 127480, 261624, 524286, 1048574, 2097151, 4194303] [8, 17] [0, 1, 2, 3, 4, 5, 6, 7, 10, 11, 12, 13, 14, 15, 16, 8, 9, 17, 18, 19, 20, 21, 22] (by kernel_rfl) ?_
          refine q_move rfl rfl ?_
          refine q_field rfl rfl ?_
          refine q_load rfl (Blk.cell (hS.blk 0 rfl) rfl) rfl ?_
          refine q_loadAgg rfl (Blk.cellsAt (hS.blk 1 rfl) 0 3 rfl) rfl rfl ?_
          refine q_field rfl rfl ?_
          refine q_load rfl (Blk.cell (hS.blk 0 rfl) rfl) rfl ?_
          refine q_field rfl rfl ?_
          refine q_load rfl (Blk.cell (hS.blk 0 rfl) rfl) rfl ?_
          refine q_field rfl rfl ?_
          refine q_load rfl (Blk.cell (hS.blk 0 rfl) rfl) rfl ?_
          refine q_loadAgg rfl (Blk.cellsAt (hS.blk 1 rfl) 0 3 rfl) rfl rfl ?_
          refine q_field rfl rfl ?_
          refine q_load rfl (Blk.cell (hS.blk 0 rfl) rfl) rfl ?_
          refine q_field rfl rfl ?_
          refine q_load rfl (Blk.cell (hS.blk 0 rfl) rfl) rfl ?_
          obtain ⟨r843, hr843, ho696⟩ := Option.of_bind ho696
          refine q_call rfl (pattern_Interval_w (a0 := (⟨a0.lens, a0.ckpts, a0.arcs⟩ : Pat)) (Sep.enter (As := []) hS) f753 f754 f755 hr843) rfl ?_
          rintro _ w842 ⟨R842, rfl, hC842⟩
          have hB842 : Below (World.heap w831).size w831 w842 := hC842.stepB0
          refine ⟨fun _ => .of_below hB842, ?_⟩
          replace f753 := (f753.ext hB842).mono fun k hk _ => hC842.ro0 k hk
          replace f754 := (f754.ext hB842).mono fun k hk _ => hC842.ro0 k hk
          replace f755 := (f755.ext hB842).mono fun k hk _ => hC842.ro0 k hk
          replace f759 := (f759.ext hB842).mono fun k hk _ => hC842.ro0 k hk
          replace hS := Sep.leave (As := []) hS hC842; simp only [List.cons_append, List.nil_append] at hS
          refine q_build (Parts.cons rfl rfl (Parts.cons rfl rfl Parts.nil)) rfl rfl ?_
          obtain ⟨r845, hr845, ho696⟩ := Option.of_bind ho696
          refine q_call rfl (pattern_Interval_w (a0 := (⟨a0.lens, a0.ckpts, a0.arcs⟩ : Pat)) (Sep.enter (As := []) hS) f753 f754 f755 hr845) rfl ?_
          rintro _ w844 ⟨R844, rfl, hC844⟩
          have hB844 : Below (World.heap w842).size w842 w844 := hC844.stepB0
          refine ⟨fun _ => .of_below hB844, ?_⟩
          replace f753 := (f753.ext hB844).mono fun k hk _ => hC844.ro0 k hk
          replace f754 := (f754.ext hB844).mono fun k hk _ => hC844.ro0 k hk
          replace f755 := (f755.ext hB844).mono fun k hk _ => hC844.ro0 k hk
          replace f759 := (f759.ext hB844).mono fun k hk _ => hC844.ro0 k hk
          replace hS := Sep.leave (As := []) hS hC844; simp only [List.cons_append, List.nil_append] at hS
          refine q_build (Parts.cons rfl rfl (Parts.cons rfl rfl Parts.nil)) rfl rfl ?_
          refine q_buildA (Parts.cons rfl rfl (Parts.cons rfl rfl Parts.nil)) rfl rfl ?_
          refine q_litO (T := pt2Ty) (S := (fun _ => False)) (cells := [[.int .i64 x826.fr, .int .i64 r843, .int .i64 x826.to, .int .i64 r845]]) (ys := [(⟨(⟨x826.fr, r843⟩ : Pt), (⟨x826.to, r845⟩ : Pt)⟩ : Pt2)]) ((Parts.cons rfl rfl Parts.nil)) rfl rfl rfl rfl rfl rfl rfl (fun w1 hB => ⟨⟨[_, _], _, rfl, ⟨[_], _, rfl, rfl, rfl⟩, ⟨[_], _, rfl, rfl, rfl⟩⟩, trivial⟩) (fun _ h => h.elim) rfl fun w846 v846 ho846 hv846 hB846 => ?_
          replace f753 := f753.ext hB846
          replace f754 := f754.ext hB846
          replace f755 := f755.ext hB846
          replace f759 := f759.ext hB846
          replace hS := hS.newOwnS hB846 ho846 hv846 (fun _ h => h.elim)
          obtain ⟨x849, hx849, ho696⟩ := Option.of_bind ho696
          refine q_catOwn (T := pt2Ty) rfl rfl rfl rfl (hS.own 3 rfl) rfl (hS.own 0 rfl) (fun _ h _ => h.elim) (snoc_cat hx849) (Nat.zero_le _) rfl (fun h => by cases h) fun v848 w848 hw848 hgr848 hnw848 => ?_
          have hk848 := hS.keptOwn 3 rfl hgr848
          replace f753 := f753.kept hk848
          replace f754 := f754.kept hk848
          replace f755 := f755.kept hk848
          replace f759 := f759.kept hk848
          replace hS := hS.setOwn 3 rfl hw848 hgr848 hnw848; simp only [List.set] at hS
          refine q_assign rfl rfl ?_
          refine eseq_nil ?_
          refine hK824 _ _ ?_
          refine e_region_text rfl ?_
          refine q_addW rfl rfl rfl ?_
          refine q_move rfl rfl ?_
          refine eseq_nil ?_
          obtain rfl := Option.some.inj ho696
          exact ⟨m696, _, Nat.lt_succ_self _, ⟨x849, (w64 (x760 + 1)), v848, _, ht696, (hS.pickB [2, 3] 4 rfl rfl), f753, f754, f755, f759, rfl⟩, Sub.cons rfl (Sub.cons rfl (Sub.cons rfl (Sub.cons rfl (Sub.cons rfl (Sub.nil _)))))⟩
        · replace ho696 := (if_neg (not_true hc833)).symm.trans ho696
          refine e_skip ?_
          refine hK824 _ _ ?_
          refine e_region_text rfl ?_
          refine q_addW rfl rfl rfl ?_
          refine q_move rfl rfl ?_
          refine eseq_nil ?_
          obtain rfl := Option.some.inj ho696
          exact ⟨m696, _, Nat.lt_succ_self _, ⟨x758, (w64 (x760 + 1)), v757, _, ht696, (hS.pickB [1, 2] 3 rfl rfl), f753, f754, f755, f759, rfl⟩, Sub.cons rfl (Sub.cons rfl (Sub.cons rfl (Sub.cons rfl (Sub.cons rfl (Sub.nil _)))))⟩
      · replace ho696 := (if_neg (not_true hc823)).symm.trans ho696
        refine e_exit ?_
        obtain rfl := Option.some.inj ho696
        obtain rfl := Option.some.inj ht696
        exact hX696_4 x758 v757 _ _ _ h (hS.pickB [1] 2 rfl rfl)  (Sub.cons rfl (Sub.nil _))
    replace hS := hS.nilOwn0 pt2Ty 49
    refine e_loop (fun m_ E_ w584 => ∃ (x590 : (List Pt2)), ∃ (x592 : Int), ∃ (v589 : Value), ∃ (R583 : Nat → Prop), iter (fun s => rgraph_Edges_B2 fuel a0 s.1 s.2) m_ (x590, x592) = some tl482 ∧ Sep F R R583 w w584 [HP.blk bl471 [v1, v2, v3] 28, HP.own pt2Ty (fun _ => False) 49 v589 x590] ∧ IsSlice Ty.int w584 R583 v1 a0.lens ∧ IsSlice (Ty.slice Ty.int) w584 R583 v2 a0.ckpts ∧ IsSlice arcTy w584 R583 v3 a0.arcs ∧ IsSlice (Ty.slice Ty.int) w584 R583 v2 a0.ckpts ∧ E_ = [(1, .pointer (some ⟨bl471, 0, none⟩)), (3, v589), (13, v2), (14, .int .i64 (a0.ckpts.length : Int)), (15, .int .i64 x592)]) _ ⟨_, ⟨([] : List Pt2), 0, (.slice none 0 0), _, ht482, (hS.pickB [1, 0] 2 rfl rfl), f1, f2, f3, f2, rfl⟩, Sub.cons rfl (Sub.cons rfl (Sub.cons rfl (Sub.cons rfl (Sub.cons rfl (Sub.nil _)))))⟩ ?_
    clear ht482 hS
    rintro m482 _ w584 ⟨x590, x592, v589, R583, ht482, hS, f585, f586, f587, f591, rfl⟩
    obtain ⟨m482, rfl, o482, ho482, ht482⟩ := iter_some ht482
    replace ho482 : rgraph_Edges_B2 fuel a0 x590 x592 = some o482 := ho482
    unfold rgraph_Edges_B2 at ho482
    refine e_seq fun K851 hK851 => ?_
    refine e_region_text rfl ?_
    refine q_lss rfl rfl rfl ?_
    refine eseq_nil ?_
    refine hK851 _ _ ?_
    refine e_seq fun K852 hK852 => ?_
    refine e_cond rfl (fun hc853 => ?_) (fun hc853 => ?_)
    · replace ho482 := (if_pos hc853).symm.trans ho482
      refine e_skip ?_
      refine hK852 _ _ ?_
      refine e_seq fun K854 hK854 => ?_
      refine e_block ?_
      refine e_seq fun K855 hK855 => ?_
      refine e_region_text rfl ?_
      refine q_move rfl rfl ?_
      obtain ⟨x856, hx856, ho482⟩ := Option.of_bind ho482
      refine q_atS (by infer_instance) rfl f591 rfl hx856 rfl fun b857 o857 hm857 f857 => ?_
      refine q_loadE rfl f857 rfl (fun v858 f858 => ?_)
      refine q_assign rfl rfl ?_
      refine q_assign rfl rfl ?_
      refine eseq_nil ?_
      refine hK855 _ _ ?_
      refine e_seq fun K859 hK859 => ?_
      refine e_region_text rfl ?_
      refine q_move rfl rfl ?_
      refine q_lenS rfl f858 rfl ?_
      refine q_move rfl rfl ?_
      refine eseq_nil ?_
      refine hK859 _ _ ?_
      refine e_block ?_
      obtain ⟨tl860, ht860, ho482⟩ := Option.of_bind ho482
      have hX860_2 : ∀ (x923 : (List Pt2)) (v922 : Value) (R916 : Nat → Prop) (w917 : World) (E_ : Env), rgraph_Edges_K3 fuel x592 x923 = some o482 → Sep F R R916 w w917 [HP.blk bl471 [v1, v2, v3] 28, HP.own pt2Ty (fun _ => False) 49 v922 x923] → IsSlice Ty.int w917 R916 v1 a0.lens → IsSlice (Ty.slice Ty.int) w917 R916 v2 a0.ckpts → IsSlice arcTy w917 R916 v3 a0.arcs → IsSlice (Ty.slice Ty.int) w917 R916 v2 a0.ckpts → Sub [(1, .pointer (some ⟨bl471, 0, none⟩)), (3, v922), (13, v2), (14, .int .i64 (a0.ckpts.length : Int)), (15, .int .i64 x592)] E_ → K854 E_ w917 := by
        intro x923 v922 R916 w917 E_ ho482 hS f918 f919 f920 f924 hsub
        refine hK854 _ _ (e_sub hsub ?_); clear hsub
        unfold rgraph_Edges_K3 at ho482
        refine e_region_text rfl ?_
        refine q_addW rfl rfl rfl ?_
        refine q_move rfl rfl ?_
        refine eseq_nil ?_
        obtain rfl := Option.some.inj ho482
        exact ⟨m482, _, Nat.lt_succ_self _, ⟨x923, (w64 (x592 + 1)), v922, _, ht482, hS, f918, f919, f920, f924, rfl⟩, Sub.cons rfl (Sub.cons rfl (Sub.cons rfl (Sub.cons rfl (Sub.cons rfl (Sub.nil _)))))⟩
      refine e_loop (fun m_ E_ w888 => ∃ (x894 : (List Pt2)), ∃ (x896 : Int), ∃ (v893 : Value), ∃ (R887 : Nat → Prop), iter (fun s => rgraph_Edges_B3 fuel x856 x592 s.1 s.2) m_ (x894, x896) = some tl860 ∧ Sep F R R887 w w888 [HP.blk bl471 [v1, v2, v3] 28, HP.own pt2Ty (fun _ => False) 49 v893 x894] ∧ IsSlice Ty.int w888 R887 v1 a0.lens ∧ IsSlice (Ty.slice Ty.int) w888 R887 v2 a0.ckpts ∧ IsSlice arcTy w888 R887 v3 a0.arcs ∧ IsSlice (Ty.slice Ty.int) w888 R887 v2 a0.ckpts ∧ E_ = [(1, .pointer (some ⟨bl471, 0, none⟩)), (3, v893), (4, .int .i64 x592), (13, v2), (14, .int .i64 (a0.ckpts.length : Int)), (15, .int .i64 x592), (21, .int .i64 (x856.length : Int)), (22, .int .i64 x896)]) _ ⟨_, ⟨x590, 0, v589, _, ht860, hS, f585, f586, f587, f591, rfl⟩, Sub.cons rfl (Sub.cons rfl (Sub.cons rfl (Sub.cons rfl (Sub.cons rfl (Sub.cons rfl (Sub.cons rfl (Sub.cons rfl (Sub.nil _))))))))⟩ ?_
      clear ht860 hS
      rintro m860 _ w888 ⟨x894, x896, v893, R887, ht860, hS, f889, f890, f891, f895, rfl⟩
      obtain ⟨m860, rfl, o860, ho860, ht860⟩ := iter_some ht860
      replace ho860 : rgraph_Edges_B3 fuel x856 x592 x894 x896 = some o860 := ho860
      unfold rgraph_Edges_B3 at ho860
      refine e_seq fun K925 hK925 => ?_
      refine e_region_text rfl ?_
      refine q_lss rfl rfl rfl ?_
      refine eseq_nil ?_
      refine hK925 _ _ ?_
      refine e_seq fun K926 hK926 => ?_
      refine e_cond rfl (fun hc927 => ?_) (fun hc927 => ?_)
      · replace ho860 := (if_pos hc927).symm.trans ho860
        refine e_skip ?_
        refine hK926 _ _ ?_
        refine e_seq fun K928 hK928 => ?_
        refine e_block ?_
        refine e_seq fun K929 hK929 => ?_
        refine e_region_text rfl ?_
        refine q_move rfl rfl ?_
        refine q_assign rfl rfl ?_
        refine eseq_nil ?_
        refine hK929 _ _ ?_
        refine e_region_text rfl ?_
        refine q_move rfl rfl ?_
        refine q_move rfl rfl ?_
        refine q_move rfl rfl ?_
        refine q_build (Parts.cons rfl rfl (Parts.cons rfl rfl Parts.nil)) rfl rfl ?_
        refine q_move rfl rfl ?_
        refine q_move rfl rfl ?_
        refine q_addW rfl rfl rfl ?_
        refine q_build (Parts.cons rfl rfl (Parts.cons rfl rfl Parts.nil)) rfl rfl ?_
        refine q_buildA (Parts.cons rfl rfl (Parts.cons rfl rfl Parts.nil)) rfl rfl ?_
        refine q_litO (T := pt2Ty) (S := (fun _ => False)) (cells := [[.int .i64 x592, .int .i64 x896, .int .i64 x592, .int .i64 (w64 (x896 + 1))]]) (ys := [(⟨(⟨x592, x896⟩ : Pt), (⟨x592, w64 (x896 + 1)⟩ : Pt)⟩ : Pt2)]) ((Parts.cons rfl rfl Parts.nil)) rfl rfl rfl rfl rfl rfl rfl (fun w1 hB => ⟨⟨[_, _], _, rfl, ⟨[_], _, rfl, rfl, rfl⟩, ⟨[_], _, rfl, rfl, rfl⟩⟩, trivial⟩) (fun _ h => h.elim) rfl fun w930 v930 ho930 hv930 hB930 => ?_
        replace f889 := f889.ext hB930
        replace f890 := f890.ext hB930
        replace f891 := f891.ext hB930
        replace f895 := f895.ext hB930
        replace hS := hS.newOwnS hB930 ho930 hv930 (fun _ h => h.elim)
        obtain ⟨x933, hx933, ho860⟩ := Option.of_bind ho860
        refine q_catOwn (T := pt2Ty) rfl rfl rfl rfl (hS.own 2 rfl) rfl (hS.own 0 rfl) (fun _ h _ => h.elim) (snoc_cat hx933) (Nat.zero_le _) rfl (fun h => by cases h) fun v932 w932 hw932 hgr932 hnw932 => ?_
        have hk932 := hS.keptOwn 2 rfl hgr932
        replace f889 := f889.kept hk932
        replace f890 := f890.kept hk932
        replace f891 := f891.kept hk932
        replace f895 := f895.kept hk932
        replace hS := hS.setOwn 2 rfl hw932 hgr932 hnw932; simp only [List.set] at hS
        refine q_assign rfl rfl ?_
        refine eseq_nil ?_
        refine hK928 _ _ ?_
        refine e_region_text rfl ?_
        refine q_addW rfl rfl rfl ?_
        refine q_move rfl rfl ?_
        refine eseq_nil ?_
        obtain rfl := Option.some.inj ho860
        exact ⟨m860, _, Nat.lt_succ_self _, ⟨x933, (w64 (x896 + 1)), v932, _, ht860, (hS.pickB [1, 2] 3 rfl rfl), f889, f890, f891, f895, rfl⟩, Sub.cons rfl (Sub.cons rfl (Sub.cons rfl (Sub.cons rfl (Sub.cons rfl (Sub.cons rfl (Sub.cons rfl (Sub.cons rfl (Sub.nil _))))))))⟩
      · replace ho860 := (if_neg (not_true hc927)).symm.trans ho860
        refine e_exit ?_
        obtain rfl := Option.some.inj ho860
        obtain rfl := Option.some.inj ht860
        exact hX860_2 x894 v893 _ _ _ ho482 hS f889 f890 f891 f895 (Sub.cons rfl (Sub.cons rfl (Sub.cons rfl (Sub.cons rfl (Sub.cons rfl (Sub.nil _))))))
    · replace ho482 := (if_neg (not_true hc853)).symm.trans ho482
      refine e_exit ?_
      obtain rfl := Option.some.inj ho482
      obtain rfl := Option.some.inj ht482
      exact hX482_0 x590 v589 _ _ _ h hS f585 f586 f587 (Sub.cons rfl (Sub.cons rfl (Sub.nil _)))
theorem visitR_w {F R : Nat → Prop} {w : World} {fuel : Nat} {a0 : Pt} {c1_0 : (List (List Bool))} {c2_0 : (List Pt)} {B1 : Nat} {v2 : Value} {v3 : List Value} {B2 : Nat} {v5 : Value} {r : ((List (List Bool)) × (List Pt))} (hS : Sep F R R w w [HP.blk B1 [v2] 39, HP.own Ty.raw (fun _ => False) 41 v2 v3, HP.famS Ty.bool (fun _ => False) 4 v3 c1_0, HP.blk B2 [v5] 36, HP.own ptTy (fun _ => False) 47 v5 c2_0]) (h : visitR fuel a0 c1_0 c2_0 = some r) :
    Gives Try.prog 46 [.agg #[.int .i64 a0.proc, .int .i64 a0.index], .pointer (some ⟨B1, 0, none⟩), .pointer (some ⟨B2, 0, none⟩)] w fun u w1 => ∃ (v42 : Value), ∃ (v43 : List Value), ∃ (v44 : Value), ∃ (R1 : Nat → Prop), u = .tuple #[] ∧ Sep F R R1 w w1 [HP.blk B1 [v42] 39, HP.own Ty.raw (fun _ => False) 41 v42 v43, HP.famS Ty.bool (fun _ => False) 4 v43 r.1, HP.blk B2 [v44] 36, HP.own ptTy (fun _ => False) 47 v44 r.2] := by
  refine fn_of Try.func46 rfl Try.ntmps46 (Nat.le_of_ble_eq_true rfl) ?_
  unfold visitR at h
  refine e_seq fun K45 hK45 => ?_
  refine e_region_text rfl ?_
  refine q_boxB rfl rfl rfl fun w46 bl46 hg46 hb46 hB46 => ?_
  replace hS := hS.newBlk hB46 hg46 hb46
  refine eseq_nil ?_
  refine hK45 _ _ ?_
  refine e_seq fun K48 hK48 => ?_
  refine e_seq fun K49 hK49 => ?_
  refine e_region_draw mixed (fun _ => False) [0, 1, 3, 7, 15, 31, 15, 79, 255, 511, 1023, 2047, 4095, 8191, 16383, 32767, 65535, 131071, 65535, 65535, 589823, 1900543, 3997695, 8191999, 16777215, 33554431] [] [0, 1, 2, 3, 4, 5, 6, 7, 8, 9, 10, 11, 12, 13, 14, 15, 16, 17, 18, 19, 20, 21, 22, 23, 24, 25] (by kernel_rfl) ?_
  refine q_field rfl rfl ?_
  refine q_load rfl (Blk.cell (hS.blk 0 rfl) rfl) rfl ?_
  refine q_lss rfl rfl rfl ?_
  refine q_move rfl rfl ?_
  obtain ⟨x53, hx52, h⟩ := Option.of_bind h
  refine g_orM 5 hx52 rfl trivial rfl rfl ?_ ?_ ?_
  · intro hg52
    refine g_skip rfl rfl rfl ?_
    refine g_skip rfl rfl rfl ?_
    refine g_skip rfl rfl rfl ?_
    refine g_skip rfl rfl rfl ?_
    refine g_skip rfl rfl rfl ?_
    exact eseq_nil ⟨rfl, Sub.set rfl (Sub.set rfl (Sub.set rfl (Sub.set rfl (Sub.set rfl (Sub.bool true rfl hg52)))))⟩
  · intro hg52 hx52
    clear h
    have hT52 := Below.refl (World.heap w46).size w46
    refine g_run rfl ?_; refine q_field rfl rfl ?_
    refine g_run rfl ?_; refine q_load rfl (Blk.cell (hS.blk 0 rfl) rfl) rfl ?_
    refine g_run rfl ?_; refine q_load rfl (Blk.cell (hS.blk 1 rfl) rfl) rfl ?_
    refine g_run rfl ?_; refine q_lenR rfl (hS.own 2 rfl) (hS.famLen 3 rfl) rfl ?_
    refine g_run rfl ?_; refine q_geq rfl rfl rfl ?_
    cases hx52
    exact eseq_nil ⟨hT52, Sub.set rfl (Sub.set rfl (Sub.set rfl (Sub.set rfl (Sub.set rfl (Sub.bool false rfl hg52))))), rfl⟩
  intro wm52 hBm52; clear hx52
  replace hS := hS.below hBm52
  refine q_move rfl rfl ?_
  obtain ⟨x57, hx56, h⟩ := Option.of_bind h
  refine g_orM 3 hx56 rfl trivial rfl rfl ?_ ?_ ?_
  · intro hg56
    refine g_skip rfl rfl rfl ?_
    refine g_skip rfl rfl rfl ?_
    refine g_skip rfl rfl rfl ?_
    exact eseq_nil ⟨rfl, Sub.set rfl (Sub.set rfl (Sub.set rfl (Sub.bool true rfl hg56)))⟩
  · intro hg56 hx56
    clear h
    have hT56 := Below.refl (World.heap wm52).size wm52
    refine g_run rfl ?_; refine q_field rfl rfl ?_
    refine g_run rfl ?_; refine q_load rfl (Blk.cell (hS.blk 0 rfl) rfl) rfl ?_
    refine g_run rfl ?_; refine q_lss rfl rfl rfl ?_
    cases hx56
    exact eseq_nil ⟨hT56, Sub.set rfl (Sub.set rfl (Sub.set rfl (Sub.bool false rfl hg56))), rfl⟩
  intro wm56 hBm56; clear hx56
  replace hS := hS.below hBm56
  refine q_move rfl rfl ?_
  obtain ⟨x62, hx61, h⟩ := Option.of_bind h
  refine g_orM 9 hx61 rfl trivial rfl rfl ?_ ?_ ?_
  · intro hg61
    refine g_skip rfl rfl rfl ?_
    refine g_skip rfl rfl rfl ?_
    refine g_skip rfl rfl rfl ?_
    refine g_skip rfl rfl rfl ?_
    refine g_skip rfl rfl rfl ?_
    refine g_skip rfl rfl rfl ?_
    refine g_skip rfl rfl rfl ?_
    refine g_skip rfl rfl rfl ?_
    refine g_skip rfl rfl rfl ?_
    exact eseq_nil ⟨rfl, Sub.set rfl (Sub.set rfl (Sub.set rfl (Sub.set rfl (Sub.set rfl (Sub.set rfl (Sub.set rfl (Sub.set rfl (Sub.set rfl (Sub.bool true rfl hg61)))))))))⟩
  · intro hg61 hx61
    clear h
    have hT61 := Below.refl (World.heap wm56).size wm56
    refine g_run rfl ?_; refine q_field rfl rfl ?_
    refine g_run rfl ?_; refine q_load rfl (Blk.cell (hS.blk 0 rfl) rfl) rfl ?_
    refine g_run rfl ?_; refine q_load rfl (Blk.cell (hS.blk 1 rfl) rfl) rfl ?_
    refine g_run rfl ?_; refine q_field rfl rfl ?_
    refine g_run rfl ?_; refine q_load rfl (Blk.cell (hS.blk 0 rfl) rfl) rfl ?_
    obtain ⟨x63, hx63, hx61⟩ := Option.of_bind hx61
    have hax63 := ati_nth (hS.famLen 3 rfl) hx63
    refine g_run rfl ?_; refine q_indexO (T := Ty.raw) (by infer_instance) rfl (hS.own 2 rfl) rfl hax63 rfl ?_
    refine g_run rfl ?_; refine q_load rfl (Elt.rawCell ((hS.own 2 rfl).elt hax63)) rfl ?_
    refine g_run rfl ?_; refine q_lenS rfl (hS.famI 3 rfl hx63) rfl ?_
    refine g_run rfl ?_; refine q_geq rfl rfl rfl ?_
    cases hx61
    exact eseq_nil ⟨hT61, Sub.set rfl (Sub.set rfl (Sub.set rfl (Sub.set rfl (Sub.set rfl (Sub.set rfl (Sub.set rfl (Sub.set rfl (Sub.set rfl (Sub.bool false rfl hg61))))))))), rfl⟩
  intro wm61 hBm61; clear hx61
  replace hS := hS.below hBm61
  refine eseq_nil ?_
  refine hK49 _ _ ?_
  refine e_cond rfl (fun hc65 => ?_) (fun hc65 => ?_)
  · replace h := (if_pos hc65).symm.trans h
    refine e_ret ?_
    obtain rfl := Option.some.inj h
    exact ⟨_, res0 rfl, v2, v3, v5, _, rfl, (hS.pickB [1, 2, 3, 4, 5] 6 rfl rfl)⟩
  · replace h := (if_neg (not_true hc65)).symm.trans h
    refine e_skip ?_
    refine hK48 _ _ ?_
    refine e_seq fun K66 hK66 => ?_
    refine e_region_draw mixed (fun _ => False) [0, 0, 2, 7, 15, 0, 32, 127, 255, 511] [] [0, 1, 2, 3, 4, 5, 6, 7, 8, 9] (by kernel_rfl) ?_
    refine q_load rfl (Blk.cell (hS.blk 1 rfl) rfl) rfl ?_
    refine q_field rfl rfl ?_
    refine q_load rfl (Blk.cell (hS.blk 0 rfl) rfl) rfl ?_
    obtain ⟨x67, hx67, h⟩ := Option.of_bind h
    have hax67 := ati_nth (hS.famLen 3 rfl) hx67
    refine q_indexO (T := Ty.raw) (by infer_instance) rfl (hS.own 2 rfl) rfl hax67 rfl ?_
    refine q_load rfl (Elt.rawCell ((hS.own 2 rfl).elt hax67)) rfl ?_
    refine q_field rfl rfl ?_
    refine q_load rfl (Blk.cell (hS.blk 0 rfl) rfl) rfl ?_
    obtain ⟨x68, hx68, h⟩ := Option.of_bind h
    refine q_indexO (by infer_instance) rfl (hS.famO 3 rfl hx67) rfl hx68 rfl ?_
    have f69 := (hS.famOR 3 rfl hx67).elt hx68
    refine q_load rfl (Elt.boolCell f69) rfl ?_
    refine q_not rfl rfl ?_
    refine eseq_nil ?_
    refine hK66 _ _ ?_
    refine e_cond rfl (fun hc70 => ?_) (fun hc70 => ?_)
    · replace h := (if_pos hc70).symm.trans h
      refine e_seq fun K71 hK71 => ?_
      refine e_region_draw mixed (fun _ => False) [0, 0, 2, 7, 15, 0, 32, 127, 255] [] [0, 1, 2, 3, 4, 5, 6, 7, 8] (by kernel_rfl) ?_
      refine q_load rfl (Blk.cell (hS.blk 1 rfl) rfl) rfl ?_
      refine q_field rfl rfl ?_
      refine q_load rfl (Blk.cell (hS.blk 0 rfl) rfl) rfl ?_
      obtain ⟨x72, hx72, h⟩ := Option.of_bind h
      have hax72 := ati_nth (hS.famLen 3 rfl) hx72
      refine q_indexO (T := Ty.raw) (by infer_instance) rfl (hS.own 2 rfl) rfl hax72 rfl ?_
      refine q_load rfl (Elt.rawCell ((hS.own 2 rfl).elt hax72)) rfl ?_
      refine q_field rfl rfl ?_
      refine q_load rfl (Blk.cell (hS.blk 0 rfl) rfl) rfl ?_
      obtain ⟨x73, hx73, h⟩ := Option.of_bind h
      refine q_indexO (by infer_instance) rfl (hS.famO 3 rfl hx72) rfl hx73 rfl ?_
      obtain ⟨x75, hx75, h⟩ := Option.of_bind h
      obtain ⟨x76, hx76, h⟩ := Option.of_bind h
      refine q_storeO (T := Ty.bool) (j := 0) rfl rfl (hS.famO 3 rfl hx72) hx73 hx75 rfl rfl rfl (Enc.setL rfl) fun w74 ho74 hO74 => ?_
      have hk74 := hS.famKeptC 3 rfl hx72 hx73 hO74
      replace hS := hS.famCellM 3 rfl hx72 hx73 hx76 ho74 hO74; simp only [List.set] at hS
      refine eseq_nil ?_
      refine hK71 _ _ ?_
      refine e_region_text rfl ?_
      refine q_load rfl (Blk.cell (hS.blk 4 rfl) rfl) rfl ?_
      refine q_loadAgg rfl (Blk.cellsAt (hS.blk 0 rfl) 0 2 rfl) rfl rfl ?_
      refine q_litO (T := ptTy) (S := (fun _ => False)) (cells := [[.int .i64 a0.proc, .int .i64 a0.index]]) (ys := [(⟨a0.proc, a0.index⟩ : Pt)]) ((Parts.cons rfl rfl Parts.nil)) rfl rfl rfl rfl rfl rfl rfl (fun w1 hB => ⟨⟨[_], _, rfl, rfl, rfl⟩, trivial⟩) (fun _ h => h.elim) rfl fun w77 v77 ho77 hv77 hB77 => ?_
      replace hS := hS.newOwnS hB77 ho77 hv77 (fun _ h => h.elim)
      obtain ⟨x80, hx80, h⟩ := Option.of_bind h
      refine q_catOwn (T := ptTy) rfl rfl rfl rfl (hS.own 6 rfl) rfl (hS.own 0 rfl) (fun _ h _ => h.elim) (snoc_cat hx80) (Nat.zero_le _) rfl (fun h => by cases h) fun v79 w79 hw79 hgr79 hnw79 => ?_
      have hk79 := hS.keptOwn 6 rfl hgr79
      replace hS := hS.setOwn 6 rfl hw79 hgr79 hnw79; simp only [List.set] at hS
      refine q_store rfl rfl (hS.blk 5 rfl) (Nat.le_of_ble_eq_true rfl) (hS.own 6 rfl).one rfl rfl fun w81 hb81 hO81 => ?_
      have hk81 := hS.keptBlk 5 rfl hO81
      replace hS := hS.setBlk 5 rfl hb81 hO81; simp only [List.set] at hS
      refine eseq_nil ?_
      obtain rfl := Option.some.inj h
      exact ⟨_, res0 rfl, v2, v3, v79, _, rfl, (hS.pickB [2, 3, 4, 5, 6] 7 rfl rfl)⟩
    · replace h := (if_neg (not_true hc70)).symm.trans h
      refine e_skip ?_
      obtain rfl := Option.some.inj h
      exact ⟨_, res0 rfl, v2, v3, v5, _, rfl, (hS.pickB [1, 2, 3, 4, 5] 6 rfl rfl)⟩
theorem rgraph_Reach_w {F R : Nat → Prop} {w : World} {fuel : Nat} {a0 : Pat} {a1 : (List Pt)} {v1 : Value} {v2 : Value} {v3 : Value} {v4 : Value} {r : ((List (List Bool)))} (hS : Sep F R R w w []) (f1 : IsSlice Ty.int w R v1 a0.lens) (f2 : IsSlice (Ty.slice Ty.int) w R v2 a0.ckpts) (f3 : IsSlice arcTy w R v3 a0.arcs) (f4 : IsSlice ptTy w R v4 a1) (h : rgraph_Reach fuel a0 a1 = some r) :
    Gives Try.prog 18 [.agg #[v1, v2, v3], v4] w fun u w1 => ∃ (v769 : Value), ∃ (v770 : List Value), ∃ (R1 : Nat → Prop), u = v769 ∧ Sep F R R1 w w1 [HP.own Ty.raw (fun _ => False) 41 v769 v770, HP.famS Ty.bool (fun _ => False) 4 v770 r] := by
  refine fn_of Try.func18 rfl Try.ntmps18 (Nat.le_of_ble_eq_true rfl) ?_
  unfold rgraph_Reach at h
  refine e_seq fun K771 hK771 => ?_
  refine e_region_text rfl ?_
  refine q_boxB rfl rfl rfl fun w772 bl772 hg772 hb772 hB772 => ?_
  replace f1 := f1.ext hB772
  replace f2 := f2.ext hB772
  replace f3 := f3.ext hB772
  replace f4 := f4.ext hB772
  replace hS := hS.newBlk hB772 hg772 hb772
  refine q_assign rfl rfl ?_
  refine eseq_nil ?_
  refine hK771 _ _ ?_
  refine e_seq fun K774 hK774 => ?_
  refine e_seq fun K775 hK775 => ?_
  refine e_region_text rfl ?_
  refine q_loadAgg rfl (Blk.cellsAt (hS.blk 0 rfl) 0 3 rfl) rfl rfl ?_
  obtain ⟨r777, hr777, h⟩ := Option.of_bind h
  refine q_call rfl (pattern_Check_w (a0 := (⟨a0.lens, a0.ckpts, a0.arcs⟩ : Pat)) (Sep.enter (As := []) hS) f1 f2 f3 hr777) rfl ?_
  rintro _ w776 ⟨R776, rfl, hC776⟩
  have hB776 : Below (World.heap w772).size w772 w776 := hC776.stepB0
  refine ⟨fun _ => .of_below hB776, ?_⟩
  replace f4 := (f4.ext hB776).mono fun k hk _ => hC776.ro0 k hk
  replace f1 := (f1.ext hB776).mono fun k hk _ => hC776.ro0 k hk
  replace f2 := (f2.ext hB776).mono fun k hk _ => hC776.ro0 k hk
  replace f3 := (f3.ext hB776).mono fun k hk _ => hC776.ro0 k hk
  replace hS := Sep.leave (As := []) hS hC776; simp only [List.cons_append, List.nil_append] at hS
  refine q_neq rfl rfl rfl ?_
  refine eseq_nil ?_
  refine hK775 _ _ ?_
  refine e_cond rfl (fun hc778 => ?_) (fun hc778 => ?_)
  · replace h := (if_pos hc778).symm.trans h
    refine e_seq fun K779 hK779 => ?_
    refine e_region_text rfl ?_
    refine q_assign rfl rfl ?_
    refine eseq_nil ?_
    refine hK779 _ _ ?_
    refine e_ret ?_
    replace hS := hS.nilRows0 Ty.bool 4 41
    obtain rfl := Option.some.inj h
    exact ⟨_, res1 rfl rfl, (.slice none 0 0), ([] : List Value), _, rfl, (hS.pickB [0, 1] 3 rfl rfl)⟩
  · replace h := (if_neg (not_true hc778)).symm.trans h
    refine e_skip ?_
    refine hK774 _ _ ?_
    refine e_seq fun K782 hK782 => ?_
    refine e_region_text rfl ?_
    refine q_field rfl rfl ?_
    refine q_load rfl (Blk.cell (hS.blk 0 rfl) rfl) rfl ?_
    refine q_lenS rfl f2 rfl ?_
    obtain ⟨x783, hx783, h⟩ := Option.of_bind h
    refine q_makeO (T := Ty.raw) (S := (fun _ => False)) rfl rfl rfl (mkL_raw hx783) (fun _ h => h.elim) rfl fun w784 v784 ho784 hv784 hB784 => ?_
    replace f4 := f4.ext hB784
    replace f1 := f1.ext hB784
    replace f2 := f2.ext hB784
    replace f3 := f3.ext hB784
    replace hS := (hS.famNilsM (S := fun _ => False) Ty.bool 4 (fun _ h => h.elim) hx783).newOwnS hB784 ho784 hv784 (fun _ h => h.elim)
    refine q_allocB rfl fun w787 bl787 hg787 hb787 hB787 => ?_
    replace f4 := f4.ext hB787
    replace f1 := f1.ext hB787
    replace f2 := f2.ext hB787
    replace f3 := f3.ext hB787
    replace hS := hS.newBlk hB787 hg787 hb787
    refine q_store rfl rfl (hS.blk 0 rfl) (Nat.le_of_ble_eq_true rfl) (hS.own 1 rfl).one rfl rfl fun w789 hb789 hO789 => ?_
    have hk789 := hS.keptBlk 0 rfl hO789
    replace f4 := f4.kept hk789
    replace f1 := f1.kept hk789
    replace f2 := f2.kept hk789
    replace f3 := f3.kept hk789
    replace hS := hS.setBlk 0 rfl hb789 hO789; simp only [List.set] at hS
    refine eseq_nil ?_
    refine hK782 _ _ ?_
    refine e_seq fun K790 hK790 => ?_
    refine e_seq fun K791 hK791 => ?_
    refine e_region_text rfl ?_
    refine q_field rfl rfl ?_
    refine q_load rfl (Blk.cell (hS.blk 3 rfl) rfl) rfl ?_
    refine q_lenS rfl f2 rfl ?_
    refine q_move rfl rfl ?_
    refine eseq_nil ?_
    refine hK791 _ _ ?_
    refine e_block ?_
    obtain ⟨tl792, ht792, h⟩ := Option.of_bind h
    have hX792_0 : ∀ (x889 : (List (List Bool))) (v887 : Value) (v888 : List Value) (R881 : Nat → Prop) (w882 : World) (E_ : Env), rgraph_Reach_K1 fuel a1 a0 x889 = some r → Sep F R R881 w w882 [HP.blk bl772 [v1, v2, v3] 28, HP.blk bl787 [v887] 39, HP.own Ty.raw (fun _ => False) 41 v887 v888, HP.famS Ty.bool (fun _ => False) 4 v888 x889] → IsSlice ptTy w882 R881 v4 a1 → IsSlice Ty.int w882 R881 v1 a0.lens → IsSlice (Ty.slice Ty.int) w882 R881 v2 a0.ckpts → IsSlice arcTy w882 R881 v3 a0.arcs → Sub [(1, v4), (2, .pointer (some ⟨bl772, 0, none⟩)), (5, .pointer (some ⟨bl787, 0, none⟩))] E_ → K790 E_ w882 := by
      intro x889 v887 v888 R881 w882 E_ h hS f883 f884 f885 f886 hsub
      refine hK790 _ _ (e_sub hsub ?_); clear hsub
      unfold rgraph_Reach_K1 at h
      refine e_seq fun K892 hK892 => ?_
      refine e_region_text rfl ?_
      refine q_allocB rfl fun w893 bl893 hg893 hb893 hB893 => ?_
      replace f883 := f883.ext hB893
      replace f884 := f884.ext hB893
      replace f885 := f885.ext hB893
      replace f886 := f886.ext hB893
      replace hS := hS.newBlk hB893 hg893 hb893
      refine eseq_nil ?_
      refine hK892 _ _ ?_
      refine e_seq fun K895 hK895 => ?_
      refine e_region_text rfl ?_
      refine q_makeFunc rfl rfl ?_
      refine q_assign rfl rfl ?_
      refine eseq_nil ?_
      refine hK895 _ _ ?_
      refine e_seq fun K896 hK896 => ?_
      refine e_seq fun K897 hK897 => ?_
      refine e_region_text rfl ?_
      refine q_move rfl rfl ?_
      refine q_lenS rfl f883 rfl ?_
      refine q_move rfl rfl ?_
      refine eseq_nil ?_
      refine hK897 _ _ ?_
      refine e_block ?_
      obtain ⟨tl898, ht898, h⟩ := Option.of_bind h
      have hX898_2 : ∀ (x992 : (List (List Bool))) (x997 : (List Pt)) (v990 : Value) (v991 : List Value) (v996 : Value) (R985 : Nat → Prop) (w986 : World) (E_ : Env), rgraph_Reach_K2 fuel a0 x992 x997 = some r → Sep F R R985 w w986 [HP.blk bl772 [v1, v2, v3] 28, HP.blk bl787 [v990] 39, HP.own Ty.raw (fun _ => False) 41 v990 v991, HP.famS Ty.bool (fun _ => False) 4 v991 x992, HP.blk bl893 [v996] 36, HP.own ptTy (fun _ => False) 47 v996 x997] → IsSlice Ty.int w986 R985 v1 a0.lens → IsSlice (Ty.slice Ty.int) w986 R985 v2 a0.ckpts → IsSlice arcTy w986 R985 v3 a0.arcs → Sub [(2, .pointer (some ⟨bl772, 0, none⟩)), (5, .pointer (some ⟨bl787, 0, none⟩)), (8, .pointer (some ⟨bl893, 0, none⟩)), (9, .func (.func 46) #[] #[.pointer (some ⟨bl787, 0, none⟩), .pointer (some ⟨bl893, 0, none⟩)])] E_ → K896 E_ w986 := by
        intro x992 x997 v990 v991 v996 R985 w986 E_ h hS f987 f988 f989 hsub
        refine hK896 _ _ (e_sub hsub ?_); clear hsub
        unfold rgraph_Reach_K2 at h
        refine e_seq fun K998 hK998 => ?_
        refine e_region_text rfl ?_
        refine q_loadAgg rfl (Blk.cellsAt (hS.blk 0 rfl) 0 3 rfl) rfl rfl ?_
        obtain ⟨r1000, hr1000, h⟩ := Option.of_bind h
        refine q_call rfl (rgraph_Edges_w (a0 := (⟨a0.lens, a0.ckpts, a0.arcs⟩ : Pat)) (Sep.enter (As := []) hS) f987 f988 f989 hr1000) rfl ?_
        rintro v1001 w999 ⟨_, R999, rfl, hC999, f1001⟩
        have hB999 : Below (World.heap w986).size w986 w999 := hC999.stepB0
        refine ⟨fun _ => .of_below hB999, ?_⟩
        replace f987 := (f987.ext hB999).mono fun k hk _ => hC999.ro0 k hk
        replace f988 := (f988.ext hB999).mono fun k hk _ => hC999.ro0 k hk
        replace f989 := (f989.ext hB999).mono fun k hk _ => hC999.ro0 k hk
        replace hS := Sep.leave (As := []) hS hC999; simp only [List.cons_append, List.nil_append] at hS
        refine q_assign rfl rfl ?_
        refine eseq_nil ?_
        refine hK998 _ _ ?_
        refine e_seq fun K1002 hK1002 => ?_
        refine e_block ?_
        obtain ⟨tl1003, ht1003, h⟩ := Option.of_bind h
        have hX1003_4 : ∀ (x1353 : (List (List Bool))) (v1351 : Value) (v1352 : List Value) (R1349 : Nat → Prop) (w1350 : World) (E_ : Env), rgraph_Reach_K3 fuel x1353 = some r → Sep F R R1349 w w1350 [HP.blk bl787 [v1351] 39, HP.own Ty.raw (fun _ => False) 41 v1351 v1352, HP.famS Ty.bool (fun _ => False) 4 v1352 x1353] → Sub [(5, .pointer (some ⟨bl787, 0, none⟩))] E_ → K1002 E_ w1350 := by
          intro x1353 v1351 v1352 R1349 w1350 E_ h hS  hsub
          refine hK1002 _ _ (e_sub hsub ?_); clear hsub
          unfold rgraph_Reach_K3 at h
          refine e_seq fun K1356 hK1356 => ?_
          refine e_region_text rfl ?_
          refine q_load rfl (Blk.cell (hS.blk 0 rfl) rfl) rfl ?_
          refine q_assign rfl rfl ?_
          refine eseq_nil ?_
          refine hK1356 _ _ ?_
          refine e_ret ?_
          obtain rfl := Option.some.inj h
          exact ⟨_, res1 rfl rfl, v1351, v1352, _, rfl, (hS.pickB [1, 2] 3 rfl rfl)⟩
        refine e_loop (fun m_ E_ w1175 => ∃ (x1178 : (List (List Bool))), ∃ (x1183 : (List Pt)), ∃ (v1176 : Value), ∃ (v1177 : List Value), ∃ (v1182 : Value), ∃ (R1174 : Nat → Prop), iter (fun s => rgraph_Reach_B1 fuel r1000 s.1 s.2) m_ (x1178, x1183) = some tl1003 ∧ Sep F R R1174 w w1175 [HP.blk bl787 [v1176] 39, HP.own Ty.raw (fun _ => False) 41 v1176 v1177, HP.famS Ty.bool (fun _ => False) 4 v1177 x1178, HP.blk bl893 [v1182] 36, HP.own ptTy (fun _ => False) 47 v1182 x1183] ∧ IsSlice pt2Ty w1175 R1174 v1001 r1000 ∧ E_ = [(5, .pointer (some ⟨bl787, 0, none⟩)), (8, .pointer (some ⟨bl893, 0, none⟩)), (9, .func (.func 46) #[] #[.pointer (some ⟨bl787, 0, none⟩), .pointer (some ⟨bl893, 0, none⟩)]), (12, v1001)]) _ ⟨_, ⟨x992, x997, v990, v991, v996, _, ht1003, (hS.pickB [1, 2, 3, 4, 5] 6 rfl rfl), f1001, rfl⟩, Sub.cons rfl (Sub.cons rfl (Sub.cons rfl (Sub.cons rfl (Sub.nil _))))⟩ ?_
        clear ht1003 hS
        rintro m1003 _ w1175 ⟨x1178, x1183, v1176, v1177, v1182, R1174, ht1003, hS, f1184, rfl⟩
        obtain ⟨m1003, rfl, o1003, ho1003, ht1003⟩ := iter_some ht1003
        replace ho1003 : rgraph_Reach_B1 fuel r1000 x1178 x1183 = some o1003 := ho1003
        unfold rgraph_Reach_B1 at ho1003
        refine e_seq fun K1357 hK1357 => ?_
        refine e_seq fun K1358 hK1358 => ?_
        refine e_region_text rfl ?_
        refine q_load rfl (Blk.cell (hS.blk 3 rfl) rfl) rfl ?_
        refine q_lenS rfl (hS.isl 4 rfl) rfl ?_
        refine q_gtr rfl rfl rfl ?_
        refine eseq_nil ?_
        refine hK1358 _ _ ?_
        refine e_cond rfl (fun hc1359 => ?_) (fun hc1359 => ?_)
        · replace ho1003 := (if_pos hc1359).symm.trans ho1003
          refine e_skip ?_
          refine hK1357 _ _ ?_
          refine e_block ?_
          refine e_seq fun K1360 hK1360 => ?_
          refine e_region_text rfl ?_
          refine q_load rfl (Blk.cell (hS.blk 3 rfl) rfl) rfl ?_
          refine q_load rfl (Blk.cell (hS.blk 3 rfl) rfl) rfl ?_
          refine q_lenS rfl (hS.isl 4 rfl) rfl ?_
          refine q_subW rfl rfl rfl ?_
          obtain ⟨x1361, hx1361, ho1003⟩ := Option.of_bind ho1003
          refine q_indexO (by infer_instance) rfl (hS.own 4 rfl) rfl hx1361 rfl ?_
          have f1362 := (hS.ownR 4 rfl).elt hx1361
          have hc1363 := Pt_open f1362
          refine q_loadAgg rfl hc1363 rfl rfl ?_
          refine q_allocB rfl fun w1364 bl1364 hg1364 hb1364 hB1364 => ?_
          replace f1184 := f1184.ext hB1364
          replace hS := hS.newBlk hB1364 hg1364 hb1364
          refine q_storeAgg rfl rfl (hS.blk 0 rfl) rfl (Nat.le_of_ble_eq_true rfl) (all_cons rfl (all_cons rfl (all_nil))) rfl rfl fun w1366 hb1366 hO1366 => ?_
          simp only [setN, List.set, List.take, List.drop] at hb1366
          have hk1366 := hS.keptBlk 0 rfl hO1366
          replace f1184 := f1184.kept hk1366
          replace hS := hS.setBlk 0 rfl hb1366 hO1366; simp only [List.set] at hS
          refine eseq_nil ?_
          refine hK1360 _ _ ?_
          refine e_seq fun K1367 hK1367 => ?_
          refine e_region_text rfl ?_
          refine q_load rfl (Blk.cell (hS.blk 4 rfl) rfl) rfl ?_
          refine q_load rfl (Blk.cell (hS.blk 4 rfl) rfl) rfl ?_
          refine q_lenS rfl (hS.isl 5 rfl) rfl ?_
          refine q_subW rfl rfl rfl ?_
          obtain ⟨x1368, hx1368, ho1003⟩ := Option.of_bind ho1003
          refine q_takeO (T := ptTy) (by infer_instance) rfl (hS.own 5 rfl) rfl hx1368 rfl ?_
          replace hS := hS.truncOwn 5 rfl hx1368; simp only [List.set] at hS
          refine q_store rfl rfl (hS.blk 4 rfl) (Nat.le_of_ble_eq_true rfl) (hS.own 5 rfl).one rfl rfl fun w1369 hb1369 hO1369 => ?_
          have hk1369 := hS.keptBlk 4 rfl hO1369
          replace f1184 := f1184.kept hk1369
          replace hS := hS.setBlk 4 rfl hb1369 hO1369; simp only [List.set] at hS
          refine eseq_nil ?_
          refine hK1367 _ _ ?_
          refine e_seq fun K1370 hK1370 => ?_
          refine e_region_text rfl ?_
          refine q_move rfl rfl ?_
          refine q_lenS rfl f1184 rfl ?_
          refine q_move rfl rfl ?_
          refine eseq_nil ?_
          refine hK1370 _ _ ?_
          refine e_block ?_
          obtain ⟨tl1371, ht1371, ho1003⟩ := Option.of_bind ho1003
          refine e_loop (fun m_ E_ w1419 => ∃ (x1422 : (List (List Bool))), ∃ (x1427 : (List Pt)), ∃ (x1430 : Int), ∃ (v1420 : Value), ∃ (v1421 : List Value), ∃ (v1426 : Value), ∃ (R1418 : Nat → Prop), iter (fun s => rgraph_Reach_B2 fuel r1000 x1361 s.1 s.2.1 s.2.2) m_ (x1422, x1427, x1430) = some tl1371 ∧ Sep F R R1418 w w1419 [HP.blk bl787 [v1420] 39, HP.own Ty.raw (fun _ => False) 41 v1420 v1421, HP.famS Ty.bool (fun _ => False) 4 v1421 x1422, HP.blk bl893 [v1426] 36, HP.own ptTy (fun _ => False) 47 v1426 x1427, HP.blk bl1364 [.int .i64 x1361.proc, .int .i64 x1361.index] 47] ∧ IsSlice pt2Ty w1419 R1418 v1001 r1000 ∧ IsSlice pt2Ty w1419 R1418 v1001 r1000 ∧ E_ = [(5, .pointer (some ⟨bl787, 0, none⟩)), (8, .pointer (some ⟨bl893, 0, none⟩)), (9, .func (.func 46) #[] #[.pointer (some ⟨bl787, 0, none⟩), .pointer (some ⟨bl893, 0, none⟩)]), (12, v1001), (13, .pointer (some ⟨bl1364, 0, none⟩)), (66, v1001), (67, .int .i64 (r1000.length : Int)), (68, .int .i64 x1430)]) _ ⟨_, ⟨x1178, x1368, 0, v1176, v1177, (truncV v1182 (w64 ((x1183.length : Int) - 1)).toNat), _, ht1371, (hS.pickB [1, 2, 3, 4, 5, 0] 6 rfl rfl), f1184, f1184, rfl⟩, Sub.cons rfl (Sub.cons rfl (Sub.cons rfl (Sub.cons rfl (Sub.cons rfl (Sub.cons rfl (Sub.cons rfl (Sub.cons rfl (Sub.nil _))))))))⟩ ?_
          clear ht1371 hS
          rintro m1371 _ w1419 ⟨x1422, x1427, x1430, v1420, v1421, v1426, R1418, ht1371, hS, f1428, f1429, rfl⟩
          obtain ⟨m1371, rfl, o1371, ho1371, ht1371⟩ := iter_some ht1371
          replace ho1371 : rgraph_Reach_B2 fuel r1000 x1361 x1422 x1427 x1430 = some o1371 := ho1371
          unfold rgraph_Reach_B2 at ho1371
          refine e_seq fun K1481 hK1481 => ?_
          refine e_region_text rfl ?_
          refine q_lss rfl rfl rfl ?_
          refine eseq_nil ?_
          refine hK1481 _ _ ?_
          refine e_seq fun K1482 hK1482 => ?_
          refine e_cond rfl (fun hc1483 => ?_) (fun hc1483 => ?_)
          · replace ho1371 := (if_pos hc1483).symm.trans ho1371
            refine e_skip ?_
            refine hK1482 _ _ ?_
            refine e_seq fun K1484 hK1484 => ?_
            refine e_block ?_
            refine e_seq fun K1485 hK1485 => ?_
            refine e_region_text rfl ?_
            obtain ⟨x1486, hx1486, ho1371⟩ := Option.of_bind ho1371
            refine q_atS (by infer_instance) rfl f1429 rfl hx1486 rfl fun b1487 o1487 hm1487 f1487 => ?_
            have hc1488 := Pt2_open f1487
            refine q_loadAgg rfl hc1488 rfl rfl ?_
            refine q_allocB rfl fun w1489 bl1489 hg1489 hb1489 hB1489 => ?_
            replace f1428 := f1428.ext hB1489
            replace f1429 := f1429.ext hB1489
            replace hS := hS.newBlk hB1489 hg1489 hb1489
            refine q_storeAgg rfl rfl (hS.blk 0 rfl) rfl (Nat.le_of_ble_eq_true rfl) (all_cons rfl (all_cons rfl (all_cons rfl (all_cons rfl (all_nil))))) rfl rfl fun w1491 hb1491 hO1491 => ?_
            simp only [setN, List.set, List.take, List.drop] at hb1491
            have hk1491 := hS.keptBlk 0 rfl hO1491
            replace f1428 := f1428.kept hk1491
            replace f1429 := f1429.kept hk1491
            replace hS := hS.setBlk 0 rfl hb1491 hO1491; simp only [List.set] at hS
            refine eseq_nil ?_
            refine hK1485 _ _ ?_
            refine e_seq fun K1492 hK1492 => ?_
            refine e_region_text rfl ?_
            refine q_indexC (k := 0) rfl rfl rfl rfl rfl ?_
            refine q_loadAgg rfl (Blk.cellsAt (hS.blk 0 rfl) 0 2 rfl) rfl rfl ?_
            refine q_loadAgg rfl (Blk.cellsAt (hS.blk 6 rfl) 0 2 rfl) rfl rfl ?_
            refine q_eqlA eqT47 (by kernel_rfl) rfl rfl rfl ?_
            refine eseq_nil ?_
            refine hK1492 _ _ ?_
            refine e_cond rfl (fun hc1493 => ?_) (fun hc1493 => ?_)
            · replace ho1371 := (if_pos hc1493).symm.trans ho1371
              refine e_region_text rfl ?_
              refine q_move rfl rfl ?_
              refine q_indexC (k := 1) rfl rfl rfl rfl rfl ?_
              refine q_loadAgg rfl (Blk.cellsAt (hS.blk 0 rfl) 2 2 rfl) rfl rfl ?_
              obtain ⟨r1495, hr1495, ho1371⟩ := Option.of_bind ho1371
              replace hS := hS.pickB [1, 2, 3, 4, 5, 0, 6] 7 rfl rfl; simp only [List.map_cons, List.map_nil, List.getD_cons_zero, List.getD_cons_succ] at hS
              refine q_callC rfl rfl (visitR_w (a0 := (⟨x1486.x1.proc, x1486.x1.index⟩ : Pt)) (Sep.enter (As := [_, _, _, _, _]) hS)  hr1495) rfl ?_
              rintro _ w1494 ⟨v1496, v1497, v1498, R1494, rfl, hC1494⟩
              refine ⟨(fun h => by cases h), ?_⟩
              have hk1494 := hC1494.keptR (Sep.offFeet (As := [_, _, _, _, _]) hS)
              replace f1428 := (f1428.kept hk1494).mono fun k hk _ => hC1494.ro0 k hk
              replace f1429 := (f1429.kept hk1494).mono fun k hk _ => hC1494.ro0 k hk
              replace hS := Sep.leave (As := [_, _, _, _, _]) hS hC1494; simp only [List.cons_append, List.nil_append] at hS
              refine eseq_nil ?_
              refine hK1484 _ _ ?_
              refine e_region_text rfl ?_
              refine q_addW rfl rfl rfl ?_
              refine q_move rfl rfl ?_
              refine eseq_nil ?_
              obtain rfl := Option.some.inj ho1371
              exact ⟨m1371, _, Nat.lt_succ_self _, ⟨r1495.1, r1495.2, (w64 (x1430 + 1)), v1496, v1497, v1498, _, ht1371, (hS.pickB [0, 1, 2, 3, 4, 6] 7 rfl rfl), f1428, f1429, rfl⟩, Sub.cons rfl (Sub.cons rfl (Sub.cons rfl (Sub.cons rfl (Sub.cons rfl (Sub.cons rfl (Sub.cons rfl (Sub.cons rfl (Sub.nil _))))))))⟩
            · replace ho1371 := (if_neg (not_true hc1493)).symm.trans ho1371
              refine e_skip ?_
              refine hK1484 _ _ ?_
              refine e_region_text rfl ?_
              refine q_addW rfl rfl rfl ?_
              refine q_move rfl rfl ?_
              refine eseq_nil ?_
              obtain rfl := Option.some.inj ho1371
              exact ⟨m1371, _, Nat.lt_succ_self _, ⟨x1422, x1427, (w64 (x1430 + 1)), v1420, v1421, v1426, _, ht1371, (hS.pickB [1, 2, 3, 4, 5, 6] 7 rfl rfl), f1428, f1429, rfl⟩, Sub.cons rfl (Sub.cons rfl (Sub.cons rfl (Sub.cons rfl (Sub.cons rfl (Sub.cons rfl (Sub.cons rfl (Sub.cons rfl (Sub.nil _))))))))⟩
          · replace ho1371 := (if_neg (not_true hc1483)).symm.trans ho1371
            refine e_exit ?_
            obtain rfl := Option.some.inj ho1371
            obtain rfl := Option.some.inj ht1371
            replace ho1003 : rgraph_Reach_K4 fuel x1422 x1427 = some o1003 := ho1003
            unfold rgraph_Reach_K4 at ho1003
            obtain rfl := Option.some.inj ho1003
            exact ⟨m1003, _, Nat.lt_succ_self _, ⟨x1422, x1427, v1420, v1421, v1426, _, ht1003, (hS.pickB [0, 1, 2, 3, 4] 6 rfl rfl), f1428, rfl⟩, Sub.cons rfl (Sub.cons rfl (Sub.cons rfl (Sub.cons rfl (Sub.nil _))))⟩
        · replace ho1003 := (if_neg (not_true hc1359)).symm.trans ho1003
          refine e_exit ?_
          obtain rfl := Option.some.inj ho1003
          obtain rfl := Option.some.inj ht1003
          exact hX1003_4 x1178 v1176 v1177 _ _ _ h (hS.pickB [0, 1, 2] 5 rfl rfl)  (Sub.cons rfl (Sub.nil _))
      replace hS := hS.nilOwn0 ptTy 47
      refine e_loop (fun m_ E_ w940 => ∃ (x946 : (List (List Bool))), ∃ (x951 : (List Pt)), ∃ (x953 : Int), ∃ (v944 : Value), ∃ (v945 : List Value), ∃ (v950 : Value), ∃ (R939 : Nat → Prop), iter (fun s => rgraph_Reach_B3 fuel a1 s.1 s.2.1 s.2.2) m_ (x946, x951, x953) = some tl898 ∧ Sep F R R939 w w940 [HP.blk bl772 [v1, v2, v3] 28, HP.blk bl787 [v944] 39, HP.own Ty.raw (fun _ => False) 41 v944 v945, HP.famS Ty.bool (fun _ => False) 4 v945 x946, HP.blk bl893 [v950] 36, HP.own ptTy (fun _ => False) 47 v950 x951] ∧ IsSlice Ty.int w940 R939 v1 a0.lens ∧ IsSlice (Ty.slice Ty.int) w940 R939 v2 a0.ckpts ∧ IsSlice arcTy w940 R939 v3 a0.arcs ∧ IsSlice ptTy w940 R939 v4 a1 ∧ E_ = [(2, .pointer (some ⟨bl772, 0, none⟩)), (5, .pointer (some ⟨bl787, 0, none⟩)), (8, .pointer (some ⟨bl893, 0, none⟩)), (9, .func (.func 46) #[] #[.pointer (some ⟨bl787, 0, none⟩), .pointer (some ⟨bl893, 0, none⟩)]), (40, v4), (41, .int .i64 (a1.length : Int)), (42, .int .i64 x953)]) _ ⟨_, ⟨x889, ([] : List Pt), 0, v887, v888, (.slice none 0 0), _, ht898, (hS.pickB [2, 3, 4, 5, 1, 0] 6 rfl rfl), f884, f885, f886, f883, rfl⟩, Sub.cons rfl (Sub.cons rfl (Sub.cons rfl (Sub.cons rfl (Sub.cons rfl (Sub.cons rfl (Sub.cons rfl (Sub.nil _)))))))⟩ ?_
      clear ht898 hS
      rintro m898 _ w940 ⟨x946, x951, x953, v944, v945, v950, R939, ht898, hS, f941, f942, f943, f952, rfl⟩
      obtain ⟨m898, rfl, o898, ho898, ht898⟩ := iter_some ht898
      replace ho898 : rgraph_Reach_B3 fuel a1 x946 x951 x953 = some o898 := ho898
      unfold rgraph_Reach_B3 at ho898
      refine e_seq fun K1500 hK1500 => ?_
      refine e_region_text rfl ?_
      refine q_lss rfl rfl rfl ?_
      refine eseq_nil ?_
      refine hK1500 _ _ ?_
      refine e_seq fun K1501 hK1501 => ?_
      refine e_cond rfl (fun hc1502 => ?_) (fun hc1502 => ?_)
      · replace ho898 := (if_pos hc1502).symm.trans ho898
        refine e_skip ?_
        refine hK1501 _ _ ?_
        refine e_seq fun K1503 hK1503 => ?_
        refine e_block ?_
        refine e_seq fun K1504 hK1504 => ?_
        refine e_region_text rfl ?_
        obtain ⟨x1505, hx1505, ho898⟩ := Option.of_bind ho898
        refine q_atS (by infer_instance) rfl f952 rfl hx1505 rfl fun b1506 o1506 hm1506 f1506 => ?_
        have hc1507 := Pt_open f1506
        refine q_loadAgg rfl hc1507 rfl rfl ?_
        refine q_allocB rfl fun w1508 bl1508 hg1508 hb1508 hB1508 => ?_
        replace f941 := f941.ext hB1508
        replace f942 := f942.ext hB1508
        replace f943 := f943.ext hB1508
        replace f952 := f952.ext hB1508
        replace hS := hS.newBlk hB1508 hg1508 hb1508
        refine q_storeAgg rfl rfl (hS.blk 0 rfl) rfl (Nat.le_of_ble_eq_true rfl) (all_cons rfl (all_cons rfl (all_nil))) rfl rfl fun w1510 hb1510 hO1510 => ?_
        simp only [setN, List.set, List.take, List.drop] at hb1510
        have hk1510 := hS.keptBlk 0 rfl hO1510
        replace f941 := f941.kept hk1510
        replace f942 := f942.kept hk1510
        replace f943 := f943.kept hk1510
        replace f952 := f952.kept hk1510
        replace hS := hS.setBlk 0 rfl hb1510 hO1510; simp only [List.set] at hS
        refine eseq_nil ?_
        refine hK1504 _ _ ?_
        refine e_region_text rfl ?_
        refine q_move rfl rfl ?_
        refine q_loadAgg rfl (Blk.cellsAt (hS.blk 0 rfl) 0 2 rfl) rfl rfl ?_
        obtain ⟨r1512, hr1512, ho898⟩ := Option.of_bind ho898
        replace hS := hS.pickB [2, 3, 4, 5, 6, 0, 1] 7 rfl rfl; simp only [List.map_cons, List.map_nil, List.getD_cons_zero, List.getD_cons_succ] at hS
        refine q_callC rfl rfl (visitR_w (a0 := (⟨x1505.proc, x1505.index⟩ : Pt)) (Sep.enter (As := [_, _, _, _, _]) hS)  hr1512) rfl ?_
        rintro _ w1511 ⟨v1513, v1514, v1515, R1511, rfl, hC1511⟩
        refine ⟨(fun h => by cases h), ?_⟩
        have hk1511 := hC1511.keptR (Sep.offFeet (As := [_, _, _, _, _]) hS)
        replace f941 := (f941.kept hk1511).mono fun k hk _ => hC1511.ro0 k hk
        replace f942 := (f942.kept hk1511).mono fun k hk _ => hC1511.ro0 k hk
        replace f943 := (f943.kept hk1511).mono fun k hk _ => hC1511.ro0 k hk
        replace f952 := (f952.kept hk1511).mono fun k hk _ => hC1511.ro0 k hk
        replace hS := Sep.leave (As := [_, _, _, _, _]) hS hC1511; simp only [List.cons_append, List.nil_append] at hS
        refine eseq_nil ?_
        refine hK1503 _ _ ?_
        refine e_region_text rfl ?_
        refine q_addW rfl rfl rfl ?_
        refine q_move rfl rfl ?_
        refine eseq_nil ?_
        obtain rfl := Option.some.inj ho898
        exact ⟨m898, _, Nat.lt_succ_self _, ⟨r1512.1, r1512.2, (w64 (x953 + 1)), v1513, v1514, v1515, _, ht898, (hS.pickB [6, 0, 1, 2, 3, 4] 7 rfl rfl), f941, f942, f943, f952, rfl⟩, Sub.cons rfl (Sub.cons rfl (Sub.cons rfl (Sub.cons rfl (Sub.cons rfl (Sub.cons rfl (Sub.cons rfl (Sub.nil _)))))))⟩
      · replace ho898 := (if_neg (not_true hc1502)).symm.trans ho898
        refine e_exit ?_
        obtain rfl := Option.some.inj ho898
        obtain rfl := Option.some.inj ht898
        exact hX898_2 x946 x951 v944 v945 v950 _ _ _ h hS f941 f942 f943 (Sub.cons rfl (Sub.cons rfl (Sub.cons rfl (Sub.cons rfl (Sub.nil _)))))
    refine e_loop (fun m_ E_ w836 => ∃ (x843 : (List (List Bool))), ∃ (x847 : Int), ∃ (v841 : Value), ∃ (v842 : List Value), ∃ (R835 : Nat → Prop), iter (fun s => rgraph_Reach_B4 fuel a0 s.1 s.2) m_ (x843, x847) = some tl792 ∧ Sep F R R835 w w836 [HP.blk bl772 [v1, v2, v3] 28, HP.blk bl787 [v841] 39, HP.own Ty.raw (fun _ => False) 41 v841 v842, HP.famS Ty.bool (fun _ => False) 4 v842 x843] ∧ IsSlice ptTy w836 R835 v4 a1 ∧ IsSlice Ty.int w836 R835 v1 a0.lens ∧ IsSlice (Ty.slice Ty.int) w836 R835 v2 a0.ckpts ∧ IsSlice arcTy w836 R835 v3 a0.arcs ∧ IsSlice (Ty.slice Ty.int) w836 R835 v2 a0.ckpts ∧ E_ = [(1, v4), (2, .pointer (some ⟨bl772, 0, none⟩)), (5, .pointer (some ⟨bl787, 0, none⟩)), (24, v2), (25, .int .i64 (a0.ckpts.length : Int)), (26, .int .i64 x847)]) _ ⟨_, ⟨x783, 0, v784, (List.replicate ((a0.ckpts.length : Int)).toNat (.slice none 0 0)), _, ht792, (hS.pickB [3, 0, 1, 2] 4 rfl rfl), f4, f1, f2, f3, f2, rfl⟩, Sub.cons rfl (Sub.cons rfl (Sub.cons rfl (Sub.cons rfl (Sub.cons rfl (Sub.cons rfl (Sub.nil _))))))⟩ ?_
    clear ht792 hS
    rintro m792 _ w836 ⟨x843, x847, v841, v842, R835, ht792, hS, f837, f838, f839, f840, f846, rfl⟩
    obtain ⟨m792, rfl, o792, ho792, ht792⟩ := iter_some ht792
    replace ho792 : rgraph_Reach_B4 fuel a0 x843 x847 = some o792 := ho792
    unfold rgraph_Reach_B4 at ho792
    refine e_seq fun K1516 hK1516 => ?_
    refine e_region_text rfl ?_
    refine q_lss rfl rfl rfl ?_
    refine eseq_nil ?_
    refine hK1516 _ _ ?_
    refine e_seq fun K1517 hK1517 => ?_
    refine e_cond rfl (fun hc1518 => ?_) (fun hc1518 => ?_)
    · replace ho792 := (if_pos hc1518).symm.trans ho792
      refine e_skip ?_
      refine hK1517 _ _ ?_
      refine e_seq fun K1519 hK1519 => ?_
      refine e_block ?_
      refine e_seq fun K1520 hK1520 => ?_
      refine e_region_text rfl ?_
      refine q_move rfl rfl ?_
      obtain ⟨x1521, hx1521, ho792⟩ := Option.of_bind ho792
      refine q_atS (by infer_instance) rfl f846 rfl hx1521 rfl fun b1522 o1522 hm1522 f1522 => ?_
      refine q_loadE rfl f1522 rfl (fun v1523 f1523 => ?_)
      refine q_assign rfl rfl ?_
      refine q_assign rfl rfl ?_
      refine eseq_nil ?_
      refine hK1520 _ _ ?_
      refine e_region_draw mixed (fun _ => False) [0, 0, 0, 4, 12, 28, 63, 127] [5] [0, 1, 2, 3, 4, 5, 6, 7] (by kernel_rfl) ?_
      refine q_load rfl (Blk.cell (hS.blk 1 rfl) rfl) rfl ?_
      refine q_move rfl rfl ?_
      refine q_move rfl rfl ?_
      refine q_lenS rfl f1523 rfl ?_
      refine q_addW rfl rfl rfl ?_
      obtain ⟨x1530, hx1530, ho792⟩ := Option.of_bind ho792
      refine q_makeO (T := Ty.bool) (S := (fun _ => False)) rfl rfl rfl hx1530 (fun _ h => h.elim) rfl fun w1531 v1531 ho1531 hv1531 hB1531 => ?_
      replace f837 := f837.ext hB1531
      replace f838 := f838.ext hB1531
      replace f839 := f839.ext hB1531
      replace f840 := f840.ext hB1531
      replace f846 := f846.ext hB1531
      replace hS := hS.newOwnS hB1531 ho1531 hv1531 (fun _ h => h.elim)
      obtain ⟨x1533, hx1533, ho792⟩ := Option.of_bind ho792
      have hax1533 := ati_nth (hS.famLen 4 rfl) hx1533
      refine q_indexO (T := Ty.raw) (by infer_instance) rfl (hS.own 3 rfl) rfl hax1533 rfl ?_
      obtain ⟨x1535, hx1535, ho792⟩ := Option.of_bind ho792
      replace hS := hS.pickB [4, 0, 1, 2, 3] 5 rfl rfl; simp only [List.map_cons, List.map_nil, List.getD_cons_zero, List.getD_cons_succ] at hS
      have hone1534 := (hS.own 1 rfl).one
      replace hS := hS.famTake hx1533 hx1535
      refine q_storeO (T := Ty.raw) (j := 0) rfl rfl (hS.own 3 rfl) hax1533 (seti_ok hax1533) rfl hone1534 rfl (rawSet hone1534) fun w1534 ho1534 hO1534 => ?_
      have hk1534 := hS.keptO 3 rfl hax1533 hO1534
      replace f837 := f837.kept hk1534
      replace f838 := f838.kept hk1534
      replace f839 := f839.kept hk1534
      replace f840 := f840.kept hk1534
      replace f846 := f846.kept hk1534
      replace hS := hS.putO 3 rfl hax1533 ho1534 hO1534; simp only [List.set] at hS
      refine eseq_nil ?_
      refine hK1519 _ _ ?_
      refine e_region_text rfl ?_
      refine q_addW rfl rfl rfl ?_
      refine q_move rfl rfl ?_
      refine eseq_nil ?_
      obtain rfl := Option.some.inj ho792
      exact ⟨m792, _, Nat.lt_succ_self _, ⟨x1535, (w64 (x847 + 1)), v841, (v842.set (x847).toNat v1531), _, ht792, (hS.pickB [1, 2, 3, 0] 4 rfl rfl), f837, f838, f839, f840, f846, rfl⟩, Sub.cons rfl (Sub.cons rfl (Sub.cons rfl (Sub.cons rfl (Sub.cons rfl (Sub.cons rfl (Sub.nil _))))))⟩
    · replace ho792 := (if_neg (not_true hc1518)).symm.trans ho792
      refine e_exit ?_
      obtain rfl := Option.some.inj ho792
      obtain rfl := Option.some.inj ht792
      exact hX792_0 x843 v841 v842 _ _ _ h hS f837 f838 f839 f840 (Sub.cons rfl (Sub.cons rfl (Sub.cons rfl (Sub.nil _))))
theorem rgraph_Undone_w {F R : Nat → Prop} {w : World} {fuel : Nat} {a0 : Pat} {a1 : (List Pt)} {v1 : Value} {v2 : Value} {v3 : Value} {v4 : Value} {r : ((List Int))} (hS : Sep F R R w w []) (f1 : IsSlice Ty.int w R v1 a0.lens) (f2 : IsSlice (Ty.slice Ty.int) w R v2 a0.ckpts) (f3 : IsSlice arcTy w R v3 a0.arcs) (f4 : IsSlice ptTy w R v4 a1) (h : rgraph_Undone fuel a0 a1 = some r) :
    Gives Try.prog 21 [.agg #[v1, v2, v3], v4] w fun u w1 => ∃ (v124 : Value), ∃ (R1 : Nat → Prop), u = v124 ∧ Sep F R R1 w w1 [HP.own Ty.int (fun _ => False) 3 v124 r] := by
  refine fn_of Try.func21 rfl Try.ntmps21 (Nat.le_of_ble_eq_true rfl) ?_
  unfold rgraph_Undone at h
  refine e_seq fun K125 hK125 => ?_
  refine e_region_text rfl ?_
  refine q_boxB rfl rfl rfl fun w126 bl126 hg126 hb126 hB126 => ?_
  replace f1 := f1.ext hB126
  replace f2 := f2.ext hB126
  replace f3 := f3.ext hB126
  replace f4 := f4.ext hB126
  replace hS := hS.newBlk hB126 hg126 hb126
  refine q_assign rfl rfl ?_
  refine eseq_nil ?_
  refine hK125 _ _ ?_
  refine e_seq fun K128 hK128 => ?_
  refine e_region_text rfl ?_
  refine q_assign rfl rfl ?_
  refine eseq_nil ?_
  refine hK128 _ _ ?_
  refine e_seq fun K129 hK129 => ?_
  refine e_seq fun K130 hK130 => ?_
  refine e_region_text rfl ?_
  refine q_loadAgg rfl (Blk.cellsAt (hS.blk 0 rfl) 0 3 rfl) rfl rfl ?_
  refine q_move rfl rfl ?_
  obtain ⟨r132, hr132, h⟩ := Option.of_bind h
  refine q_call rfl (rgraph_Reach_w (a0 := (⟨a0.lens, a0.ckpts, a0.arcs⟩ : Pat)) (Sep.enter (As := []) hS) f1 f2 f3 f4 hr132) rfl ?_
  rintro v133 w131 ⟨_, v134, R131, rfl, hC131⟩
  have hB131 : Below (World.heap w126).size w126 w131 := hC131.stepB0
  refine ⟨fun _ => .of_below hB131, ?_⟩
  replace f1 := (f1.ext hB131).mono fun k hk _ => hC131.ro0 k hk
  replace f2 := (f2.ext hB131).mono fun k hk _ => hC131.ro0 k hk
  replace f3 := (f3.ext hB131).mono fun k hk _ => hC131.ro0 k hk
  replace f4 := (f4.ext hB131).mono fun k hk _ => hC131.ro0 k hk
  replace hS := Sep.leave (As := []) hS hC131; simp only [List.cons_append, List.nil_append] at hS
  refine q_lenR rfl (hS.own 0 rfl) (hS.famLen 1 rfl) rfl ?_
  refine q_move rfl rfl ?_
  refine eseq_nil ?_
  refine hK130 _ _ ?_
  refine e_block ?_
  obtain ⟨tl135, ht135, h⟩ := Option.of_bind h
  have hX135_0 : ∀ (x216 : (List Int)) (v215 : Value) (R212 : Nat → Prop) (w213 : World) (E_ : Env), rgraph_Undone_K1 fuel x216 = some r → Sep F R R212 w w213 [HP.own Ty.int (fun _ => False) 3 v215 x216] → Sub [(5, v215)] E_ → K129 E_ w213 := by
    intro x216 v215 R212 w213 E_ h hS  hsub
    refine hK129 _ _ (e_sub hsub ?_); clear hsub
    unfold rgraph_Undone_K1 at h
    refine e_seq fun K217 hK217 => ?_
    refine e_region_text rfl ?_
    refine q_move rfl rfl ?_
    refine q_assign rfl rfl ?_
    refine eseq_nil ?_
    refine hK217 _ _ ?_
    refine e_ret ?_
    obtain rfl := Option.some.inj h
    exact ⟨_, res1 rfl rfl, v215, _, rfl, hS⟩
  replace hS := hS.nilOwn0 Ty.int 3
  refine e_loop (fun m_ E_ w173 => ∃ (x176 : (List Int)), ∃ (x179 : Int), ∃ (v175 : Value), ∃ (R172 : Nat → Prop), iter (fun s => rgraph_Undone_B1 fuel r132 s.1 s.2) m_ (x176, x179) = some tl135 ∧ Sep F R R172 w w173 [HP.own Ty.int (fun _ => False) 3 v175 x176, HP.own Ty.raw (fun _ => False) 41 v133 v134, HP.famS Ty.bool (fun _ => False) 4 v134 r132] ∧ E_ = [(5, v175), (11, v133), (12, .int .i64 (r132.length : Int)), (13, .int .i64 x179)]) _ ⟨_, ⟨([] : List Int), 0, (.slice none 0 0), _, ht135, (hS.pickB [0, 1, 2] 4 rfl rfl), rfl⟩, Sub.cons rfl (Sub.cons rfl (Sub.cons rfl (Sub.cons rfl (Sub.nil _))))⟩ ?_
  clear ht135 hS
  rintro m135 _ w173 ⟨x176, x179, v175, R172, ht135, hS, rfl⟩
  obtain ⟨m135, rfl, o135, ho135, ht135⟩ := iter_some ht135
  replace ho135 : rgraph_Undone_B1 fuel r132 x176 x179 = some o135 := ho135
  unfold rgraph_Undone_B1 at ho135
  refine e_seq fun K219 hK219 => ?_
  refine e_region_text rfl ?_
  refine q_lss rfl rfl rfl ?_
  refine eseq_nil ?_
  refine hK219 _ _ ?_
  refine e_seq fun K220 hK220 => ?_
  refine e_cond rfl (fun hc221 => ?_) (fun hc221 => ?_)
  · replace ho135 := (if_pos hc221).symm.trans ho135
    refine e_skip ?_
    refine hK220 _ _ ?_
    refine e_seq fun K222 hK222 => ?_
    refine e_block ?_
    refine e_seq fun K223 hK223 => ?_
    refine e_region_text rfl ?_
    obtain ⟨x224, hx224, ho135⟩ := Option.of_bind ho135
    have hax224 := ati_nth (hS.famLen 2 rfl) hx224
    refine q_indexO (T := Ty.raw) (by infer_instance) rfl (hS.own 1 rfl) rfl hax224 rfl ?_
    refine q_load rfl (Elt.rawCell ((hS.own 1 rfl).elt hax224)) rfl ?_
    refine q_assign rfl rfl ?_
    refine eseq_nil ?_
    refine hK223 _ _ ?_
    refine e_seq fun K225 hK225 => ?_
    refine e_region_text rfl ?_
    refine q_move rfl rfl ?_
    obtain ⟨r227, hr227, ho135⟩ := Option.of_bind ho135
    refine q_call rfl (IndexB_w (Sep.all w173) ((hS.famI 2 rfl hx224)).old hr227) rfl ?_
    rintro _ w226 ⟨R226, rfl, hC226⟩
    have hB226 : Below (World.heap w173).size w173 w226 := hC226.stepBF
    refine ⟨fun _ => .of_below hB226, ?_⟩
    replace hS := hS.below hB226
    refine q_assign rfl rfl ?_
    refine eseq_nil ?_
    refine hK225 _ _ ?_
    refine e_seq fun K228 hK228 => ?_
    have hJ228 : ∀ (x234 : Int) (R231 : Nat → Prop) (w232 : World) (E_ : Env), rgraph_Undone_J1 fuel x176 x179 x234 = some o135 → Sep F R R231 w w232 [HP.own Ty.int (fun _ => False) 3 v175 x176, HP.own Ty.raw (fun _ => False) 41 v133 v134, HP.famS Ty.bool (fun _ => False) 4 v134 r132] → Sub [(5, v175), (8, .int .i64 x234), (11, v133), (12, .int .i64 (r132.length : Int)), (13, .int .i64 x179)] E_ → K228 E_ w232 := by
      intro x234 R231 w232 E_ ho135 hS  hsub
      refine hK228 _ _ (e_sub hsub ?_); clear hsub
      unfold rgraph_Undone_J1 at ho135
      refine e_region_text rfl ?_
      refine q_move rfl rfl ?_
      refine q_move rfl rfl ?_
      refine q_litO (T := Ty.int) (S := (fun _ => False)) (cells := [[.int .i64 x234]]) (ys := [x234]) ((Parts.cons rfl rfl Parts.nil)) rfl rfl rfl rfl rfl rfl rfl (fun w1 hB => ⟨rfl, trivial⟩) (fun _ h => h.elim) rfl fun w237 v237 ho237 hv237 hB237 => ?_
      replace hS := hS.newOwnS hB237 ho237 hv237 (fun _ h => h.elim)
      obtain ⟨x240, hx240, ho135⟩ := Option.of_bind ho135
      refine q_catOwn (T := Ty.int) rfl rfl rfl rfl (hS.own 1 rfl) rfl (hS.own 0 rfl) (fun _ h _ => h.elim) (snoc_cat hx240) (Nat.zero_le _) rfl (fun h => by cases h) fun v239 w239 hw239 hgr239 hnw239 => ?_
      have hk239 := hS.keptOwn 1 rfl hgr239
      replace hS := hS.setOwn 1 rfl hw239 hgr239 hnw239; simp only [List.set] at hS
      refine q_assign rfl rfl ?_
      refine eseq_nil ?_
      refine hK222 _ _ ?_
      refine e_region_text rfl ?_
      refine q_addW rfl rfl rfl ?_
      refine q_move rfl rfl ?_
      refine eseq_nil ?_
      obtain rfl := Option.some.inj ho135
      exact ⟨m135, _, Nat.lt_succ_self _, ⟨x240, (w64 (x179 + 1)), v239, _, ht135, (hS.pickB [1, 2, 3] 4 rfl rfl), rfl⟩, Sub.cons rfl (Sub.cons rfl (Sub.cons rfl (Sub.cons rfl (Sub.nil _))))⟩
    refine e_seq fun K241 hK241 => ?_
    refine e_region_text rfl ?_
    refine q_move rfl rfl ?_
    refine q_lss rfl rfl rfl ?_
    refine eseq_nil ?_
    refine hK241 _ _ ?_
    refine e_cond rfl (fun hc242 => ?_) (fun hc242 => ?_)
    · replace ho135 := (if_pos hc242).symm.trans ho135
      refine e_region_text rfl ?_
      refine q_move rfl rfl ?_
      refine q_lenS rfl (hS.famI 2 rfl hx224) rfl ?_
      refine q_assign rfl rfl ?_
      refine eseq_nil ?_
      exact hJ228 (x224.length : Int) _ _ _ ho135 hS  (Sub.cons rfl (Sub.cons rfl (Sub.cons rfl (Sub.cons rfl (Sub.cons rfl (Sub.nil _))))))
    · replace ho135 := (if_neg (not_true hc242)).symm.trans ho135
      refine e_skip ?_
      exact hJ228 r227 _ _ _ ho135 hS  (Sub.cons rfl (Sub.cons rfl (Sub.cons rfl (Sub.cons rfl (Sub.cons rfl (Sub.nil _))))))
  · replace ho135 := (if_neg (not_true hc221)).symm.trans ho135
    refine e_exit ?_
    obtain rfl := Option.some.inj ho135
    obtain rfl := Option.some.inj ht135
    exact hX135_0 x176 v175 _ _ _ h (hS.pickB [0] 3 rfl rfl)  (Sub.cons rfl (Sub.nil _))
theorem rgraph_Recovery_w {F R : Nat → Prop} {w : World} {fuel : Nat} {a0 : Pat} {a1 : (List Int)} {v1 : Value} {v2 : Value} {v3 : Value} {v4 : Value} {r : ((List Int))} (hS : Sep F R R w w []) (f1 : IsSlice Ty.int w R v1 a0.lens) (f2 : IsSlice (Ty.slice Ty.int) w R v2 a0.ckpts) (f3 : IsSlice arcTy w R v3 a0.arcs) (f4 : IsSlice Ty.int w R v4 a1) (h : rgraph_Recovery fuel a0 a1 = some r) :
    Gives Try.prog 23 [.agg #[v1, v2, v3], v4] w fun u w1 => ∃ (v270 : Value), ∃ (R1 : Nat → Prop), u = v270 ∧ Sep F R R1 w w1 [HP.own Ty.int (fun _ => False) 3 v270 r] := by
  refine fn_of Try.func23 rfl Try.ntmps23 (Nat.le_of_ble_eq_true rfl) ?_
  unfold rgraph_Recovery at h
  refine e_seq fun K271 hK271 => ?_
  refine e_region_text rfl ?_
  refine q_boxB rfl rfl rfl fun w272 bl272 hg272 hb272 hB272 => ?_
  replace f1 := f1.ext hB272
  replace f2 := f2.ext hB272
  replace f3 := f3.ext hB272
  replace f4 := f4.ext hB272
  replace hS := hS.newBlk hB272 hg272 hb272
  refine q_assign rfl rfl ?_
  refine eseq_nil ?_
  refine hK271 _ _ ?_
  refine e_seq fun K274 hK274 => ?_
  refine e_seq fun K275 hK275 => ?_
  refine e_region_text rfl ?_
  refine q_loadAgg rfl (Blk.cellsAt (hS.blk 0 rfl) 0 3 rfl) rfl rfl ?_
  obtain ⟨r277, hr277, h⟩ := Option.of_bind h
  refine q_call rfl (pattern_Check_w (a0 := (⟨a0.lens, a0.ckpts, a0.arcs⟩ : Pat)) (Sep.enter (As := []) hS) f1 f2 f3 hr277) rfl ?_
  rintro _ w276 ⟨R276, rfl, hC276⟩
  have hB276 : Below (World.heap w272).size w272 w276 := hC276.stepB0
  refine ⟨fun _ => .of_below hB276, ?_⟩
  replace f4 := (f4.ext hB276).mono fun k hk _ => hC276.ro0 k hk
  replace f1 := (f1.ext hB276).mono fun k hk _ => hC276.ro0 k hk
  replace f2 := (f2.ext hB276).mono fun k hk _ => hC276.ro0 k hk
  replace f3 := (f3.ext hB276).mono fun k hk _ => hC276.ro0 k hk
  replace hS := Sep.leave (As := []) hS hC276; simp only [List.cons_append, List.nil_append] at hS
  refine q_neq rfl rfl rfl ?_
  refine eseq_nil ?_
  refine hK275 _ _ ?_
  refine e_cond rfl (fun hc278 => ?_) (fun hc278 => ?_)
  · replace h := (if_pos hc278).symm.trans h
    refine e_seq fun K279 hK279 => ?_
    refine e_region_text rfl ?_
    refine q_assign rfl rfl ?_
    refine eseq_nil ?_
    refine hK279 _ _ ?_
    refine e_ret ?_
    replace hS := hS.nilOwn0 Ty.int 3
    obtain rfl := Option.some.inj h
    exact ⟨_, res1 rfl rfl, (.slice none 0 0), _, rfl, (hS.pickB [0] 2 rfl rfl)⟩
  · replace h := (if_neg (not_true hc278)).symm.trans h
    refine e_skip ?_
    refine hK274 _ _ ?_
    refine e_seq fun K281 hK281 => ?_
    refine e_region_text rfl ?_
    refine q_assign rfl rfl ?_
    refine eseq_nil ?_
    refine hK281 _ _ ?_
    refine e_seq fun K282 hK282 => ?_
    refine e_seq fun K283 hK283 => ?_
    refine e_region_text rfl ?_
    refine q_move rfl rfl ?_
    refine q_lenS rfl f4 rfl ?_
    refine q_move rfl rfl ?_
    refine eseq_nil ?_
    refine hK283 _ _ ?_
    refine e_block ?_
    obtain ⟨tl284, ht284, h⟩ := Option.of_bind h
    have hX284_0 : ∀ (x384 : (List Pt)) (v383 : Value) (R377 : Nat → Prop) (w378 : World) (E_ : Env), rgraph_Recovery_K1 fuel a0 x384 = some r → Sep F R R377 w w378 [HP.blk bl272 [v1, v2, v3] 28, HP.own ptTy (fun _ => False) 47 v383 x384] → IsSlice Ty.int w378 R377 v1 a0.lens → IsSlice (Ty.slice Ty.int) w378 R377 v2 a0.ckpts → IsSlice arcTy w378 R377 v3 a0.arcs → Sub [(2, .pointer (some ⟨bl272, 0, none⟩)), (5, v383)] E_ → K282 E_ w378 := by
      intro x384 v383 R377 w378 E_ h hS f379 f380 f381 hsub
      refine hK282 _ _ (e_sub hsub ?_); clear hsub
      unfold rgraph_Recovery_K1 at h
      refine e_seq fun K385 hK385 => ?_
      refine e_region_text rfl ?_
      refine q_loadAgg rfl (Blk.cellsAt (hS.blk 0 rfl) 0 3 rfl) rfl rfl ?_
      refine q_move rfl rfl ?_
      obtain ⟨r387, hr387, h⟩ := Option.of_bind h
      refine q_call rfl (rgraph_Undone_w (a0 := (⟨a0.lens, a0.ckpts, a0.arcs⟩ : Pat)) (Sep.all w378) (f379).old (f380).old (f381).old ((hS.isl 1 rfl)).old hr387) rfl ?_
      rintro v388 w386 ⟨_, R386, rfl, hC386⟩
      have hB386 : Below (World.heap w378).size w378 w386 := hC386.stepBF
      refine ⟨fun _ => .of_below hB386, ?_⟩
      replace f379 := f379.ext hB386
      replace f380 := f380.ext hB386
      replace f381 := f381.ext hB386
      replace hS := hS.newOwnS hB386 (hC386.own 0 rfl) (hC386.fresh 0 rfl) (fun _ h => h.elim)
      refine q_assign rfl rfl ?_
      refine eseq_nil ?_
      refine hK385 _ _ ?_
      refine e_seq fun K389 hK389 => ?_
      refine e_seq fun K390 hK390 => ?_
      refine e_region_text rfl ?_
      refine q_move rfl rfl ?_
      refine q_lenS rfl (hS.isl 0 rfl) rfl ?_
      refine q_move rfl rfl ?_
      refine eseq_nil ?_
      refine hK390 _ _ ?_
      refine e_block ?_
      obtain ⟨tl391, ht391, h⟩ := Option.of_bind h
      have hX391_2 : ∀ (x491 : (List Int)) (v490 : Value) (R487 : Nat → Prop) (w488 : World) (E_ : Env), rgraph_Recovery_K2 fuel x491 = some r → Sep F R R487 w w488 [HP.own Ty.int (fun _ => False) 3 v490 x491] → Sub [(8, v490)] E_ → K389 E_ w488 := by
        intro x491 v490 R487 w488 E_ h hS  hsub
        refine hK389 _ _ (e_sub hsub ?_); clear hsub
        unfold rgraph_Recovery_K2 at h
        refine e_seq fun K492 hK492 => ?_
        refine e_region_text rfl ?_
        refine q_move rfl rfl ?_
        refine q_assign rfl rfl ?_
        refine eseq_nil ?_
        refine hK492 _ _ ?_
        refine e_ret ?_
        obtain rfl := Option.some.inj h
        exact ⟨_, res1 rfl rfl, v490, _, rfl, hS⟩
      refine e_loop (fun m_ E_ w439 => ∃ (x445 : (List Int)), ∃ (x446 : Int), ∃ (v444 : Value), ∃ (R438 : Nat → Prop), iter (fun s => rgraph_Recovery_B1 fuel r387 a0 s.1 s.2) m_ (x445, x446) = some tl391 ∧ Sep F R R438 w w439 [HP.blk bl272 [v1, v2, v3] 28, HP.own Ty.int (fun _ => False) 3 v444 x445] ∧ IsSlice Ty.int w439 R438 v1 a0.lens ∧ IsSlice (Ty.slice Ty.int) w439 R438 v2 a0.ckpts ∧ IsSlice arcTy w439 R438 v3 a0.arcs ∧ E_ = [(2, .pointer (some ⟨bl272, 0, none⟩)), (8, v444), (44, v444), (45, .int .i64 (r387.length : Int)), (46, .int .i64 x446)]) _ ⟨_, ⟨r387, 0, v388, _, ht391, (hS.pickB [1, 0] 3 rfl rfl), f379, f380, f381, rfl⟩, Sub.cons rfl (Sub.cons rfl (Sub.cons rfl (Sub.cons rfl (Sub.cons rfl (Sub.nil _)))))⟩ ?_
      clear ht391 hS
      rintro m391 _ w439 ⟨x445, x446, v444, R438, ht391, hS, f440, f441, f442, rfl⟩
      obtain ⟨m391, rfl, o391, ho391, ht391⟩ := iter_some ht391
      replace ho391 : rgraph_Recovery_B1 fuel r387 a0 x445 x446 = some o391 := ho391
      unfold rgraph_Recovery_B1 at ho391
      refine e_seq fun K493 hK493 => ?_
      refine e_region_text rfl ?_
      refine q_lss rfl rfl rfl ?_
      refine eseq_nil ?_
      refine hK493 _ _ ?_
      refine e_seq fun K494 hK494 => ?_
      refine e_cond rfl (fun hc495 => ?_) (fun hc495 => ?_)
      · replace ho391 := (if_pos hc495).symm.trans ho391
        refine e_skip ?_
        refine hK494 _ _ ?_
        refine e_seq fun K496 hK496 => ?_
        refine e_block ?_
        refine e_seq fun K497 hK497 => ?_
        refine e_region_text rfl ?_
        refine q_move rfl rfl ?_
        obtain ⟨x498, hx498, ho391⟩ := Option.of_bind ho391
        refine q_indexO (by infer_instance) rfl (hS.own 1 rfl) rfl hx498 rfl ?_
        have f499 := (hS.ownR 1 rfl).elt hx498
        refine q_load rfl (Elt.intCell f499) rfl ?_
        refine q_assign rfl rfl ?_
        refine q_assign rfl rfl ?_
        refine eseq_nil ?_
        refine hK497 _ _ ?_
        refine e_seq fun K500 hK500 => ?_
        refine e_region_text rfl ?_
        refine q_move rfl rfl ?_
        refine q_field rfl rfl ?_
        refine q_load rfl (Blk.cell (hS.blk 0 rfl) rfl) rfl ?_
        refine q_move rfl rfl ?_
        obtain ⟨x501, hx501, ho391⟩ := Option.of_bind ho391
        refine q_atS (by infer_instance) rfl f441 rfl hx501 rfl fun b502 o502 hm502 f502 => ?_
        refine q_loadE rfl f502 rfl (fun v503 f503 => ?_)
        refine q_lenS rfl f503 rfl ?_
        refine q_gtr rfl rfl rfl ?_
        refine eseq_nil ?_
        refine hK500 _ _ ?_
        refine e_cond rfl (fun hc504 => ?_) (fun hc504 => ?_)
        · replace ho391 := (if_pos hc504).symm.trans ho391
          refine e_region_text rfl ?_
          refine q_move rfl rfl ?_
          refine q_move rfl rfl ?_
          refine q_field rfl rfl ?_
          refine q_load rfl (Blk.cell (hS.blk 0 rfl) rfl) rfl ?_
          refine q_move rfl rfl ?_
          obtain ⟨x505, hx505, ho391⟩ := Option.of_bind ho391
          refine q_atS (by infer_instance) rfl f440 rfl hx505 rfl fun b506 o506 hm506 f506 => ?_
          refine q_load rfl (Elt.intCell f506) rfl ?_
          obtain ⟨x507, hx507, ho391⟩ := Option.of_bind ho391
          refine q_indexO (by infer_instance) rfl (hS.own 1 rfl) rfl hx507 rfl ?_
          obtain ⟨x509, hx509, ho391⟩ := Option.of_bind ho391
          refine q_storeO (T := Ty.int) (j := 0) rfl rfl (hS.own 1 rfl) hx507 hx509 rfl rfl rfl (Enc.setL rfl) fun w508 ho508 hO508 => ?_
          have hk508 := hS.keptO 1 rfl hx507 hO508
          replace f440 := f440.kept hk508
          replace f441 := f441.kept hk508
          replace f442 := f442.kept hk508
          replace hS := hS.putO 1 rfl hx507 ho508 hO508; simp only [List.set] at hS
          refine eseq_nil ?_
          refine hK496 _ _ ?_
          refine e_region_text rfl ?_
          refine q_addW rfl rfl rfl ?_
          refine q_move rfl rfl ?_
          refine eseq_nil ?_
          obtain rfl := Option.some.inj ho391
          exact ⟨m391, _, Nat.lt_succ_self _, ⟨x509, (w64 (x446 + 1)), v444, _, ht391, hS, f440, f441, f442, rfl⟩, Sub.cons rfl (Sub.cons rfl (Sub.cons rfl (Sub.cons rfl (Sub.cons rfl (Sub.nil _)))))⟩
        · replace ho391 := (if_neg (not_true hc504)).symm.trans ho391
          refine e_region_text rfl ?_
          refine q_move rfl rfl ?_
          refine q_move rfl rfl ?_
          refine q_loadAgg rfl (Blk.cellsAt (hS.blk 0 rfl) 0 3 rfl) rfl rfl ?_
          refine q_move rfl rfl ?_
          refine q_move rfl rfl ?_
          refine q_subW rfl rfl rfl ?_
          obtain ⟨r511, hr511, ho391⟩ := Option.of_bind ho391
          refine q_call rfl (depend_Index_w (a0 := (⟨a0.lens, a0.ckpts, a0.arcs⟩ : Pat)) (Sep.enter (As := []) hS) f440 f441 f442 hr511) rfl ?_
          rintro _ w510 ⟨R510, rfl, hC510⟩
          have hB510 : Below (World.heap w439).size w439 w510 := hC510.stepB0
          refine ⟨fun _ => .of_below hB510, ?_⟩
          replace f440 := (f440.ext hB510).mono fun k hk _ => hC510.ro0 k hk
          replace f441 := (f441.ext hB510).mono fun k hk _ => hC510.ro0 k hk
          replace f442 := (f442.ext hB510).mono fun k hk _ => hC510.ro0 k hk
          replace hS := Sep.leave (As := []) hS hC510; simp only [List.cons_append, List.nil_append] at hS
          obtain ⟨x512, hx512, ho391⟩ := Option.of_bind ho391
          refine q_indexO (by infer_instance) rfl (hS.own 1 rfl) rfl hx512 rfl ?_
          obtain ⟨x514, hx514, ho391⟩ := Option.of_bind ho391
          refine q_storeO (T := Ty.int) (j := 0) rfl rfl (hS.own 1 rfl) hx512 hx514 rfl rfl rfl (Enc.setL rfl) fun w513 ho513 hO513 => ?_
          have hk513 := hS.keptO 1 rfl hx512 hO513
          replace f440 := f440.kept hk513
          replace f441 := f441.kept hk513
          replace f442 := f442.kept hk513
          replace hS := hS.putO 1 rfl hx512 ho513 hO513; simp only [List.set] at hS
          refine eseq_nil ?_
          refine hK496 _ _ ?_
          refine e_region_text rfl ?_
          refine q_addW rfl rfl rfl ?_
          refine q_move rfl rfl ?_
          refine eseq_nil ?_
          obtain rfl := Option.some.inj ho391
          exact ⟨m391, _, Nat.lt_succ_self _, ⟨x514, (w64 (x446 + 1)), v444, _, ht391, hS, f440, f441, f442, rfl⟩, Sub.cons rfl (Sub.cons rfl (Sub.cons rfl (Sub.cons rfl (Sub.cons rfl (Sub.nil _)))))⟩
      · replace ho391 := (if_neg (not_true hc495)).symm.trans ho391
        refine e_exit ?_
        obtain rfl := Option.some.inj ho391
        obtain rfl := Option.some.inj ht391
        exact hX391_2 x445 v444 _ _ _ h (hS.pickB [1] 2 rfl rfl)  (Sub.cons rfl (Sub.nil _))
    replace hS := hS.nilOwn0 ptTy 47
    refine e_loop (fun m_ E_ w330 => ∃ (x336 : (List Pt)), ∃ (x338 : Int), ∃ (v335 : Value), ∃ (R329 : Nat → Prop), iter (fun s => rgraph_Recovery_B2 fuel a1 a0 s.1 s.2) m_ (x336, x338) = some tl284 ∧ Sep F R R329 w w330 [HP.blk bl272 [v1, v2, v3] 28, HP.own ptTy (fun _ => False) 47 v335 x336] ∧ IsSlice Ty.int w330 R329 v1 a0.lens ∧ IsSlice (Ty.slice Ty.int) w330 R329 v2 a0.ckpts ∧ IsSlice arcTy w330 R329 v3 a0.arcs ∧ IsSlice Ty.int w330 R329 v4 a1 ∧ E_ = [(2, .pointer (some ⟨bl272, 0, none⟩)), (5, v335), (14, v4), (15, .int .i64 (a1.length : Int)), (16, .int .i64 x338)]) _ ⟨_, ⟨([] : List Pt), 0, (.slice none 0 0), _, ht284, (hS.pickB [1, 0] 2 rfl rfl), f1, f2, f3, f4, rfl⟩, Sub.cons rfl (Sub.cons rfl (Sub.cons rfl (Sub.cons rfl (Sub.cons rfl (Sub.nil _)))))⟩ ?_
    clear ht284 hS
    rintro m284 _ w330 ⟨x336, x338, v335, R329, ht284, hS, f331, f332, f333, f337, rfl⟩
    obtain ⟨m284, rfl, o284, ho284, ht284⟩ := iter_some ht284
    replace ho284 : rgraph_Recovery_B2 fuel a1 a0 x336 x338 = some o284 := ho284
    unfold rgraph_Recovery_B2 at ho284
    refine e_seq fun K516 hK516 => ?_
    refine e_region_text rfl ?_
    refine q_lss rfl rfl rfl ?_
    refine eseq_nil ?_
    refine hK516 _ _ ?_
    refine e_seq fun K517 hK517 => ?_
    refine e_cond rfl (fun hc518 => ?_) (fun hc518 => ?_)
    · replace ho284 := (if_pos hc518).symm.trans ho284
      refine e_skip ?_
      refine hK517 _ _ ?_
      refine e_seq fun K519 hK519 => ?_
      refine e_block ?_
      refine e_seq fun K520 hK520 => ?_
      refine e_region_text rfl ?_
      obtain ⟨x521, hx521, ho284⟩ := Option.of_bind ho284
      refine q_atS (by infer_instance) rfl f337 rfl hx521 rfl fun b522 o522 hm522 f522 => ?_
      refine q_load rfl (Elt.intCell f522) rfl ?_
      refine q_assign rfl rfl ?_
      refine eseq_nil ?_
      refine hK520 _ _ ?_
      refine e_seq fun K523 hK523 => ?_
      refine e_region_text rfl ?_
      refine q_move rfl rfl ?_
      refine q_geq rfl rfl rfl ?_
      refine q_move rfl rfl ?_
      obtain ⟨x527, hx526, ho284⟩ := Option.of_bind ho284
      refine g_andM 5 hx526 rfl trivial rfl rfl ?_ ?_ ?_
      · intro hg526 hx526
        clear ho284
        have hT526 := Below.refl (World.heap w330).size w330
        refine g_run rfl ?_; refine q_move rfl rfl ?_
        refine g_run rfl ?_; refine q_field rfl rfl ?_
        refine g_run rfl ?_; refine q_load rfl (Blk.cell (hS.blk 0 rfl) rfl) rfl ?_
        refine g_run rfl ?_; refine q_lenS rfl f332 rfl ?_
        refine g_run rfl ?_; refine q_lss rfl rfl rfl ?_
        cases hx526
        exact eseq_nil ⟨hT526, Sub.set rfl (Sub.set rfl (Sub.set rfl (Sub.set rfl (Sub.set rfl (Sub.bool true rfl hg526))))), rfl⟩
      · intro hg526
        refine g_skip rfl rfl rfl ?_
        refine g_skip rfl rfl rfl ?_
        refine g_skip rfl rfl rfl ?_
        refine g_skip rfl rfl rfl ?_
        refine g_skip rfl rfl rfl ?_
        exact eseq_nil ⟨rfl, Sub.set rfl (Sub.set rfl (Sub.set rfl (Sub.set rfl (Sub.set rfl (Sub.bool false rfl hg526)))))⟩
      intro wm526 hBm526; clear hx526
      replace hS := hS.below hBm526
      replace f331 := f331.ext hBm526
      replace f332 := f332.ext hBm526
      replace f333 := f333.ext hBm526
      replace f337 := f337.ext hBm526
      refine eseq_nil ?_
      refine hK523 _ _ ?_
      refine e_cond rfl (fun hc528 => ?_) (fun hc528 => ?_)
      · replace ho284 := (if_pos hc528).symm.trans ho284
        refine e_region_text rfl ?_
        refine q_move rfl rfl ?_
        refine q_move rfl rfl ?_
        refine q_field rfl rfl ?_
        refine q_load rfl (Blk.cell (hS.blk 0 rfl) rfl) rfl ?_
        refine q_move rfl rfl ?_
        obtain ⟨x529, hx529, ho284⟩ := Option.of_bind ho284
        refine q_atS (by infer_instance) rfl f332 rfl hx529 rfl fun b530 o530 hm530 f530 => ?_
        refine q_loadE rfl f530 rfl (fun v531 f531 => ?_)
        refine q_lenS rfl f531 rfl ?_
        refine q_build (Parts.cons rfl rfl (Parts.cons rfl rfl Parts.nil)) rfl rfl ?_
        refine q_litO (T := ptTy) (S := (fun _ => False)) (cells := [[.int .i64 x521, .int .i64 (x529.length : Int)]]) (ys := [(⟨x521, (x529.length : Int)⟩ : Pt)]) ((Parts.cons rfl rfl Parts.nil)) rfl rfl rfl rfl rfl rfl rfl (fun w1 hB => ⟨⟨[_], _, rfl, rfl, rfl⟩, trivial⟩) (fun _ h => h.elim) rfl fun w532 v532 ho532 hv532 hB532 => ?_
        replace f331 := f331.ext hB532
        replace f332 := f332.ext hB532
        replace f333 := f333.ext hB532
        replace f337 := f337.ext hB532
        replace hS := hS.newOwnS hB532 ho532 hv532 (fun _ h => h.elim)
        obtain ⟨x535, hx535, ho284⟩ := Option.of_bind ho284
        refine q_catOwn (T := ptTy) rfl rfl rfl rfl (hS.own 2 rfl) rfl (hS.own 0 rfl) (fun _ h _ => h.elim) (snoc_cat hx535) (Nat.zero_le _) rfl (fun h => by cases h) fun v534 w534 hw534 hgr534 hnw534 => ?_
        have hk534 := hS.keptOwn 2 rfl hgr534
        replace f331 := f331.kept hk534
        replace f332 := f332.kept hk534
        replace f333 := f333.kept hk534
        replace f337 := f337.kept hk534
        replace hS := hS.setOwn 2 rfl hw534 hgr534 hnw534; simp only [List.set] at hS
        refine q_assign rfl rfl ?_
        refine eseq_nil ?_
        refine hK519 _ _ ?_
        refine e_region_text rfl ?_
        refine q_addW rfl rfl rfl ?_
        refine q_move rfl rfl ?_
        refine eseq_nil ?_
        obtain rfl := Option.some.inj ho284
        exact ⟨m284, _, Nat.lt_succ_self _, ⟨x535, (w64 (x338 + 1)), v534, _, ht284, (hS.pickB [1, 2] 3 rfl rfl), f331, f332, f333, f337, rfl⟩, Sub.cons rfl (Sub.cons rfl (Sub.cons rfl (Sub.cons rfl (Sub.cons rfl (Sub.nil _)))))⟩
      · replace ho284 := (if_neg (not_true hc528)).symm.trans ho284
        refine e_skip ?_
        refine hK519 _ _ ?_
        refine e_region_text rfl ?_
        refine q_addW rfl rfl rfl ?_
        refine q_move rfl rfl ?_
        refine eseq_nil ?_
        obtain rfl := Option.some.inj ho284
        exact ⟨m284, _, Nat.lt_succ_self _, ⟨x336, (w64 (x338 + 1)), v335, _, ht284, hS, f331, f332, f333, f337, rfl⟩, Sub.cons rfl (Sub.cons rfl (Sub.cons rfl (Sub.cons rfl (Sub.cons rfl (Sub.nil _)))))⟩
    · replace ho284 := (if_neg (not_true hc518)).symm.trans ho284
      refine e_exit ?_
      obtain rfl := Option.some.inj ho284
      obtain rfl := Option.some.inj ht284
      exact hX284_0 x336 v335 _ _ _ h hS f331 f332 f333 (Sub.cons rfl (Sub.cons rfl (Sub.nil _)))
end Go.Proofs.Ytljpjekifbamfaa
