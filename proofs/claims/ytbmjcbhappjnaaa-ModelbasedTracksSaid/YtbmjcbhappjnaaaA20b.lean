/- Printed walks: A20b. -/
import Derived.Test.YtbmjcbhappjnaaaA20a
import Derived.Test.YtbmjcbhappjnaaaA20x
import Derived.Test.YtbmjcbhappjnaaaLibF
set_option linter.unusedVariables false
set_option linter.unusedSimpArgs false
namespace Go.Mine
open Go.RowKit
theorem cmpI_lt (x y : Int) : (cmpI x y < 0) = (x < y) := by unfold cmpI; apply propext; split <;> (try split) <;> constructor <;> intro <;> omega
theorem cmpI_eq (x y : Int) : (cmpI x y = 0) = (x = y) := by unfold cmpI; apply propext; split <;> (try split) <;> constructor <;> intro <;> omega
theorem cmpP_lt (x y : Pt) : (cmpP_cf x y < 0) = (x.proc < y.proc ∨ x.proc = y.proc ∧ x.index < y.index) := by
  unfold cmpP_cf
  have h1 := cmpI_lt x.proc y.proc; have h2 := cmpI_eq x.proc y.proc; have h3 := cmpI_lt x.index y.index
  split
  · rw [h1]; rename_i h; rw [ne_eq, h2] at h; apply propext; omega
  · rename_i h; simp only [ne_eq, Decidable.not_not] at h; rw [h2] at h; rw [h3]; apply propext; omega
theorem cmpP_eq (x y : Pt) : (cmpP_cf x y = 0) = (x.proc = y.proc ∧ x.index = y.index) := by
  unfold cmpP_cf
  have h2 := cmpI_eq x.proc y.proc; have h3 := cmpI_eq x.index y.index
  split
  · rename_i h; rw [h2]; rw [ne_eq, h2] at h; apply propext; omega
  · rename_i h; simp only [ne_eq, Decidable.not_not] at h; rw [h2] at h; rw [h3]; apply propext; omega
theorem sortP_lt (x y : Pt2) : Go.Proofs.ltOf sortP_cf x y = decide (x.x0.proc < y.x0.proc ∨ x.x0.proc = y.x0.proc ∧ (x.x0.index < y.x0.index ∨ x.x0.index = y.x0.index ∧ (x.x1.proc < y.x1.proc ∨ x.x1.proc = y.x1.proc ∧ x.x1.index < y.x1.index))) := by
  unfold Go.Proofs.ltOf sortP_cf
  have h1 := cmpP_lt x.x0 y.x0; have h2 := cmpP_eq x.x0 y.x0; have h3 := cmpP_lt x.x1 y.x1
  congr 1
  split
  · rw [h1]; rename_i h; rw [ne_eq, h2] at h; apply propext; omega
  · rename_i h; simp only [ne_eq, Decidable.not_not] at h; rw [h2] at h; rw [h3]; apply propext; omega
theorem sortP_swo : Go.Sort.SWO (Go.Proofs.ltOf sortP_cf) where
  irrefl x := by rw [sortP_lt]; simp
  trans x y z h1 h2 := by rw [sortP_lt] at *; simp only [decide_eq_true_eq] at *; omega
  ntrans x y z h1 h2 := by rw [sortP_lt] at *; simp only [decide_eq_false_iff_not] at *; omega
def sortP (fuel : Nat) (c0_0 : List Pt2) : Option (List Pt2) := if c0_0.length < 4611686018427387904 then some (sortL sortP_cf c0_0) else none
def rgraph_Edges_K2 (fuel : Nat) (x812 : (List Pt2)) : Option ((List Pt2)) :=
  (sortP fuel x812).bind fun r815 => (Compact fuel r815).bind fun r819 => some r819
def rgraph_Edges_B1 (fuel : Nat) (a0 : Pat) (x758 : (List Pt2)) (x760 : Int) : Option (((List Pt2) × Int) ⊕ ((List Pt2))) :=
  (if (decide (x760 < (a0.arcs.length : Int))) = true then (ati a0.arcs x760).bind fun x826 => (if (x826.rcv != 0) = true then (pattern_Interval fuel (⟨a0.lens, a0.ckpts, a0.arcs⟩ : Pat) x826.fr x826.ix).bind fun r843 => (pattern_Interval fuel (⟨a0.lens, a0.ckpts, a0.arcs⟩ : Pat) x826.to x826.rcv).bind fun r845 => (snoc x758 (⟨(⟨x826.fr, r843⟩ : Pt), (⟨x826.to, r845⟩ : Pt)⟩ : Pt2)).bind fun x849 => some (Sum.inl (x849, (w64 (x760 + 1)))) else some (Sum.inl (x758, (w64 (x760 + 1))))) else some (Sum.inr x758))
def rgraph_Edges_K1 (fuel : Nat) (a0 : Pat) (x693 : (List Pt2)) : Option ((List Pt2)) :=
  (iter (fun s => rgraph_Edges_B1 fuel a0 s.1 s.2) fuel (x693, 0)).bind (fun t => rgraph_Edges_K2 fuel t)
def rgraph_Edges_K3 (fuel : Nat) (x592 : Int) (x923 : (List Pt2)) : Option (((List Pt2) × Int) ⊕ ((List Pt2))) :=
  some (Sum.inl (x923, (w64 (x592 + 1))))
def rgraph_Edges_B3 (fuel : Nat) (x856 : (List Int)) (x592 : Int) (x894 : (List Pt2)) (x896 : Int) : Option (((List Pt2) × Int) ⊕ ((List Pt2))) :=
  (if (decide (x896 < (x856.length : Int))) = true then (snoc x894 (⟨(⟨x592, x896⟩ : Pt), (⟨x592, w64 (x896 + 1)⟩ : Pt)⟩ : Pt2)).bind fun x933 => some (Sum.inl (x933, (w64 (x896 + 1)))) else some (Sum.inr x894))
def rgraph_Edges_B2 (fuel : Nat) (a0 : Pat) (x590 : (List Pt2)) (x592 : Int) : Option (((List Pt2) × Int) ⊕ ((List Pt2))) :=
  (if (decide (x592 < (a0.ckpts.length : Int))) = true then (ati a0.ckpts x592).bind fun x856 => (iter (fun s => rgraph_Edges_B3 fuel x856 x592 s.1 s.2) fuel (x590, 0)).bind (fun t => rgraph_Edges_K3 fuel x592 t) else some (Sum.inr x590))
def rgraph_Edges (fuel : Nat) (a0 : Pat) : Option ((List Pt2)) :=
  (pattern_Check fuel (⟨a0.lens, a0.ckpts, a0.arcs⟩ : Pat)).bind fun r476 => (if (r476 != 0) = true then some ([] : List Pt2) else (iter (fun s => rgraph_Edges_B2 fuel a0 s.1 s.2) fuel (([] : List Pt2), 0)).bind (fun t => rgraph_Edges_K1 fuel a0 t))
end Go.Mine
namespace Go.Proofs.Ytbmjcbhappjnaaa
open Go.RowKit Go.Mine
attribute [local irreducible] eseq ewp iter
theorem sortP_w {F R : Nat → Prop} {w : World} {fuel : Nat} {c0_0 : List Pt2} {v1 : Value} {r : List Pt2} (hS : Sep F R R w w [HP.own pt2Ty (fun _ => False) 189 v1 c0_0]) (h : sortP fuel c0_0 = some r) :
    Gives Try.prog 139 [v1, .func (.func 140) #[] #[]] w fun u w1 => ∃ (R1 : Nat → Prop), u = .tuple #[] ∧ Sep F R R1 w w1 [HP.own pt2Ty (fun _ => False) 189 v1 r] := by
  unfold sortP at h
  split at h
  · rename_i hn
    cases h
    exact sortOwn Try.sort139 (T := pt2Ty) (enc := Pt2.cells_) Try.isAgg189 Try.sizeOf189 (fun _ => rfl) (fun x v hv => by unfold Pt2.cells_ at hv; simp at hv; rcases hv with rfl | rfl | rfl | rfl <;> rfl) sortP_swo (enters_of Try.func140 (by kernel_rfl) rfl) sortP_cmp hS hn
  · cases h
theorem rgraph_Edges_w {F R : Nat → Prop} {w : World} {fuel : Nat} {a0 : Pat} {v1 : Value} {v2 : Value} {v3 : Value} {r : ((List Pt2))} (hS : Sep F R R w w []) (f1 : IsSlice Ty.int w R v1 a0.lens) (f2 : IsSlice (Ty.slice Ty.int) w R v2 a0.ckpts) (f3 : IsSlice arcTy w R v3 a0.arcs) (h : rgraph_Edges fuel a0 = some r) :
    Gives Try.prog 119 [.agg #[v1, v2, v3]] w fun u w1 => ∃ (v469 : Value), ∃ (R1 : Nat → Prop), u = v469 ∧ Sep F R R1 w w1 [] ∧ IsSlice pt2Ty w1 R1 v469 r := by
  refine fn_of Try.func119 rfl Try.ntmps119 (Nat.le_of_ble_eq_true rfl) ?_
  unfold rgraph_Edges at h
  refine e_seq fun K470 hK470 => ?_
  refine e_region_text rfl ?_
  refine q_boxB rfl rfl rfl fun w471 bl471 hg471 hb471 hB471 => ?_
  replace f1 := f1.ext hB471
  replace f2 := f2.ext hB471
  replace f3 := f3.ext hB471
  replace hS := hS.newBlk hB471 hg471 hb471
  refine q_assign rfl rfl ?_
  refine eseq_nil ?_
  refine hK470 _ _ ?_
  refine e_seq fun K473 hK473 => ?_
  refine e_seq fun K474 hK474 => ?_
  refine e_region_text rfl ?_
  refine q_loadAgg rfl (Blk.cellsAt (hS.blk 0 rfl) 0 3 rfl) rfl rfl ?_
  obtain ⟨r476, hr476, h⟩ := Option.of_bind h
  refine q_call rfl (pattern_Check_w (a0 := (⟨a0.lens, a0.ckpts, a0.arcs⟩ : Pat)) (Sep.enter (As := []) hS) f1 f2 f3 hr476) rfl ?_
  rintro _ w475 ⟨R475, rfl, hC475⟩
  have hB475 : Below (World.heap w471).size w471 w475 := hC475.stepB0
  refine ⟨fun _ => .of_below hB475, ?_⟩
  replace f1 := (f1.ext hB475).mono fun k hk _ => hC475.ro0 k hk
  replace f2 := (f2.ext hB475).mono fun k hk _ => hC475.ro0 k hk
  replace f3 := (f3.ext hB475).mono fun k hk _ => hC475.ro0 k hk
  replace hS := Sep.leave (As := []) hS hC475; simp only [List.cons_append, List.nil_append] at hS
  refine q_neq rfl rfl rfl ?_
  refine eseq_nil ?_
  refine hK474 _ _ ?_
  refine e_cond rfl (fun hc477 => ?_) (fun hc477 => ?_)
  · replace h := (if_pos hc477).symm.trans h
    refine e_seq fun K478 hK478 => ?_
    refine e_region_text rfl ?_
    refine q_assign rfl rfl ?_
    refine eseq_nil ?_
    refine hK478 _ _ ?_
    refine e_ret ?_
    obtain rfl := Option.some.inj h
    exact ⟨_, res1 rfl rfl, (.slice none 0 0), _, rfl, (hS.pickB [] 1 rfl rfl), (IsSlice.nil _ _ _)⟩
  · replace h := (if_neg (not_true hc477)).symm.trans h
    refine e_skip ?_
    refine hK473 _ _ ?_
    refine e_seq fun K479 hK479 => ?_
    refine e_region_text rfl ?_
    refine q_assign rfl rfl ?_
    refine eseq_nil ?_
    refine hK479 _ _ ?_
    refine e_seq fun K480 hK480 => ?_
    refine e_seq fun K481 hK481 => ?_
    refine e_region_text rfl ?_
    refine q_field rfl rfl ?_
    refine q_load rfl (Blk.cell (hS.blk 0 rfl) rfl) rfl ?_
    refine q_lenS rfl f2 rfl ?_
    refine q_move rfl rfl ?_
    refine eseq_nil ?_
    refine hK481 _ _ ?_
    refine e_block ?_
    obtain ⟨tl482, ht482, h⟩ := Option.of_bind h
    have hX482_0 : ∀ (x693 : (List Pt2)) (v692 : Value) (R686 : Nat → Prop) (w687 : World) (E_ : Env), rgraph_Edges_K1 fuel a0 x693 = some r → Sep F R R686 w w687 [HP.blk bl471 [v1, v2, v3] 31, HP.own pt2Ty (fun _ => False) 189 v692 x693] → IsSlice Ty.int w687 R686 v1 a0.lens → IsSlice (Ty.slice Ty.int) w687 R686 v2 a0.ckpts → IsSlice arcTy w687 R686 v3 a0.arcs → Sub [(1, .pointer (some ⟨bl471, 0, none⟩)), (3, v692)] E_ → K480 E_ w687 := by
      intro x693 v692 R686 w687 E_ h hS f688 f689 f690 hsub
      refine hK480 _ _ (e_sub hsub ?_); clear hsub
      unfold rgraph_Edges_K1 at h
      refine e_seq fun K694 hK694 => ?_
      refine e_seq fun K695 hK695 => ?_
      refine e_region_text rfl ?_
      refine q_field rfl rfl ?_
      refine q_load rfl (Blk.cell (hS.blk 0 rfl) rfl) rfl ?_
      refine q_lenS rfl f690 rfl ?_
      refine q_move rfl rfl ?_
      refine eseq_nil ?_
      refine hK695 _ _ ?_
      refine e_block ?_
      obtain ⟨tl696, ht696, h⟩ := Option.of_bind h
      have hX696_4 : ∀ (x812 : (List Pt2)) (v811 : Value) (R808 : Nat → Prop) (w809 : World) (E_ : Env), rgraph_Edges_K2 fuel x812 = some r → Sep F R R808 w w809 [HP.own pt2Ty (fun _ => False) 189 v811 x812] → Sub [(3, v811)] E_ → K694 E_ w809 := by
        intro x812 v811 R808 w809 E_ h hS  hsub
        refine hK694 _ _ (e_sub hsub ?_); clear hsub
        unfold rgraph_Edges_K2 at h
        refine e_seq fun K813 hK813 => ?_
        refine e_region_text rfl ?_
        refine q_move rfl rfl ?_
        obtain ⟨r815, hr815, h⟩ := Option.of_bind h
        refine q_call rfl (sortP_w (Sep.enter (As := [_]) hS)  hr815) rfl ?_
        rintro _ w814 ⟨R814, rfl, hC814⟩
        refine ⟨(fun h => by cases h), ?_⟩
        have hk814 := hC814.keptR (Sep.offFeet (As := [_]) hS)
        replace hS := Sep.leave (As := [_]) hS hC814; simp only [List.cons_append, List.nil_append] at hS
        refine eseq_nil ?_
        refine hK813 _ _ ?_
        refine e_seq fun K817 hK817 => ?_
        refine e_region_text rfl ?_
        refine q_move rfl rfl ?_
        obtain ⟨r819, hr819, h⟩ := Option.of_bind h
        refine q_call rfl (Compact_w (Sep.enter (As := [_]) hS)  hr819) rfl ?_
        rintro v820 w818 ⟨_, R818, rfl, hC818, f820⟩
        refine ⟨(fun h => by cases h), ?_⟩
        have hk818 := hC818.keptR (Sep.offFeet (As := [_]) hS)
        replace hS := Sep.leave (As := [_]) hS hC818; simp only [List.cons_append, List.nil_append] at hS
        refine q_assign rfl rfl ?_
        refine eseq_nil ?_
        refine hK817 _ _ ?_
        refine e_ret ?_
        obtain rfl := Option.some.inj h
        exact ⟨_, res1 rfl rfl, v820, _, rfl, hS, f820⟩
      refine e_loop (fun m_ E_ w752 => ∃ (x758 : (List Pt2)), ∃ (x760 : Int), ∃ (v757 : Value), ∃ (R751 : Nat → Prop), iter (fun s => rgraph_Edges_B1 fuel a0 s.1 s.2) m_ (x758, x760) = some tl696 ∧ Sep F R R751 w w752 [HP.blk bl471 [v1, v2, v3] 31, HP.own pt2Ty (fun _ => False) 189 v757 x758] ∧ IsSlice Ty.int w752 R751 v1 a0.lens ∧ IsSlice (Ty.slice Ty.int) w752 R751 v2 a0.ckpts ∧ IsSlice arcTy w752 R751 v3 a0.arcs ∧ IsSlice arcTy w752 R751 v3 a0.arcs ∧ E_ = [(1, .pointer (some ⟨bl471, 0, none⟩)), (3, v757), (39, v3), (40, .int .i64 (a0.arcs.length : Int)), (41, .int .i64 x760)]) _ ⟨_, ⟨x693, 0, v692, _, ht696, hS, f688, f689, f690, f690, rfl⟩, Sub.cons rfl (Sub.cons rfl (Sub.cons rfl (Sub.cons rfl (Sub.cons rfl (Sub.nil _)))))⟩ ?_
      clear ht696 hS
      rintro m696 _ w752 ⟨x758, x760, v757, R751, ht696, hS, f753, f754, f755, f759, rfl⟩
      obtain ⟨m696, rfl, o696, ho696, ht696⟩ := iter_some ht696
      replace ho696 : rgraph_Edges_B1 fuel a0 x758 x760 = some o696 := ho696
      unfold rgraph_Edges_B1 at ho696
      refine e_seq fun K821 hK821 => ?_
      refine e_region_text rfl ?_
      refine q_lss rfl rfl rfl ?_
      refine eseq_nil ?_
      refine hK821 _ _ ?_
      refine e_seq fun K822 hK822 => ?_
      refine e_cond rfl (fun hc823 => ?_) (fun hc823 => ?_)
      · replace ho696 := (if_pos hc823).symm.trans ho696
        refine e_skip ?_
        refine hK822 _ _ ?_
        refine e_seq fun K824 hK824 => ?_
        refine e_block ?_
        refine e_seq fun K825 hK825 => ?_
        refine e_region_text rfl ?_
        obtain ⟨x826, hx826, ho696⟩ := Option.of_bind ho696
        refine q_atS (by infer_instance) rfl f759 rfl hx826 rfl fun b827 o827 hm827 f827 => ?_
        have hc828 := Arc_open f827
        refine q_loadAgg rfl hc828 rfl rfl ?_
        refine q_allocB rfl fun w829 bl829 hg829 hb829 hB829 => ?_
        replace f753 := f753.ext hB829
        replace f754 := f754.ext hB829
        replace f755 := f755.ext hB829
        replace f759 := f759.ext hB829
        replace hS := hS.newBlk hB829 hg829 hb829
        refine q_storeAgg rfl rfl (hS.blk 0 rfl) rfl (Nat.le_of_ble_eq_true rfl) (all_cons rfl (all_cons rfl (all_cons rfl (all_cons rfl (all_nil))))) rfl rfl fun w831 hb831 hO831 => ?_
        simp only [setN, List.set, List.take, List.drop] at hb831
        have hk831 := hS.keptBlk 0 rfl hO831
        replace f753 := f753.kept hk831
        replace f754 := f754.kept hk831
        replace f755 := f755.kept hk831
        replace f759 := f759.kept hk831
        replace hS := hS.setBlk 0 rfl hb831 hO831; simp only [List.set] at hS
        refine eseq_nil ?_
        refine hK825 _ _ ?_
        refine e_seq fun K832 hK832 => ?_
        refine e_region_text rfl ?_
        refine q_field rfl rfl ?_
        refine q_load rfl (Blk.cell (hS.blk 0 rfl) rfl) rfl ?_
        refine q_neq rfl rfl rfl ?_
        refine eseq_nil ?_
        refine hK832 _ _ ?_
        refine e_cond rfl (fun hc833 => ?_) (fun hc833 => ?_)
        · replace ho696 := (if_pos hc833).symm.trans ho696
          refine e_region_draw mixed (fun _ => False) [0, 0, 2, 0, 0, 16, 0, 64, 248, 510, 0, 1024, 0, 0, 8192, 0, 32768, 127480, 261624, 524286, 1048574, 2097151, 4194303] [8, 17] [0, 1, 2, 3, 4, 5, 6, 7, 10, 11, 12, 13, 14, 15, 16, 8, 9, 17, 18, 19, 20, 21, 22] (by kernel_rfl) ?_
          refine q_move rfl rfl ?_
          refine q_field rfl rfl ?_
          refine q_load rfl (Blk.cell (hS.blk 0 rfl) rfl) rfl ?_
          refine q_loadAgg rfl (Blk.cellsAt (hS.blk 1 rfl) 0 3 rfl) rfl rfl ?_
          refine q_field rfl rfl ?_
          refine q_load rfl (Blk.cell (hS.blk 0 rfl) rfl) rfl ?_
          refine q_field rfl rfl ?_
          refine q_load rfl (Blk.cell (hS.blk 0 rfl) rfl) rfl ?_
          refine q_field rfl rfl ?_
          refine q_load rfl (Blk.cell (hS.blk 0 rfl) rfl) rfl ?_
          refine q_loadAgg rfl (Blk.cellsAt (hS.blk 1 rfl) 0 3 rfl) rfl rfl ?_
          refine q_field rfl rfl ?_
          refine q_load rfl (Blk.cell (hS.blk 0 rfl) rfl) rfl ?_
          refine q_field rfl rfl ?_
          refine q_load rfl (Blk.cell (hS.blk 0 rfl) rfl) rfl ?_
          obtain ⟨r843, hr843, ho696⟩ := Option.of_bind ho696
          refine q_call rfl (pattern_Interval_w (a0 := (⟨a0.lens, a0.ckpts, a0.arcs⟩ : Pat)) (Sep.enter (As := []) hS) f753 f754 f755 hr843) rfl ?_
          rintro _ w842 ⟨R842, rfl, hC842⟩
          have hB842 : Below (World.heap w831).size w831 w842 := hC842.stepB0
          refine ⟨fun _ => .of_below hB842, ?_⟩
          replace f753 := (f753.ext hB842).mono fun k hk _ => hC842.ro0 k hk
          replace f754 := (f754.ext hB842).mono fun k hk _ => hC842.ro0 k hk
          replace f755 := (f755.ext hB842).mono fun k hk _ => hC842.ro0 k hk
          replace f759 := (f759.ext hB842).mono fun k hk _ => hC842.ro0 k hk
          replace hS := Sep.leave (As := []) hS hC842; simp only [List.cons_append, List.nil_append] at hS
          refine q_build (Parts.cons rfl rfl (Parts.cons rfl rfl Parts.nil)) rfl rfl ?_
          obtain ⟨r845, hr845, ho696⟩ := Option.of_bind ho696
          refine q_call rfl (pattern_Interval_w (a0 := (⟨a0.lens, a0.ckpts, a0.arcs⟩ : Pat)) (Sep.enter (As := []) hS) f753 f754 f755 hr845) rfl ?_
          rintro _ w844 ⟨R844, rfl, hC844⟩
          have hB844 : Below (World.heap w842).size w842 w844 := hC844.stepB0
          refine ⟨fun _ => .of_below hB844, ?_⟩
          replace f753 := (f753.ext hB844).mono fun k hk _ => hC844.ro0 k hk
          replace f754 := (f754.ext hB844).mono fun k hk _ => hC844.ro0 k hk
          replace f755 := (f755.ext hB844).mono fun k hk _ => hC844.ro0 k hk
          replace f759 := (f759.ext hB844).mono fun k hk _ => hC844.ro0 k hk
          replace hS := Sep.leave (As := []) hS hC844; simp only [List.cons_append, List.nil_append] at hS
          refine q_build (Parts.cons rfl rfl (Parts.cons rfl rfl Parts.nil)) rfl rfl ?_
          refine q_buildA (Parts.cons rfl rfl (Parts.cons rfl rfl Parts.nil)) rfl rfl ?_
          refine q_litO (T := pt2Ty) (S := (fun _ => False)) (cells := [[.int .i64 x826.fr, .int .i64 r843, .int .i64 x826.to, .int .i64 r845]]) (ys := [(⟨(⟨x826.fr, r843⟩ : Pt), (⟨x826.to, r845⟩ : Pt)⟩ : Pt2)]) ((Parts.cons rfl rfl Parts.nil)) rfl rfl rfl rfl rfl rfl rfl (fun w1 hB => ⟨⟨[_, _], _, rfl, ⟨[_], _, rfl, rfl, rfl⟩, ⟨[_], _, rfl, rfl, rfl⟩⟩, trivial⟩) (fun _ h => h.elim) rfl fun w846 v846 ho846 hv846 hB846 => ?_
          replace f753 := f753.ext hB846
          replace f754 := f754.ext hB846
          replace f755 := f755.ext hB846
          replace f759 := f759.ext hB846
          replace hS := hS.newOwnS hB846 ho846 hv846 (fun _ h => h.elim)
          obtain ⟨x849, hx849, ho696⟩ := Option.of_bind ho696
          refine q_catOwn (T := pt2Ty) rfl rfl rfl rfl (hS.own 3 rfl) rfl (hS.own 0 rfl) (fun _ h _ => h.elim) (snoc_cat hx849) (Nat.zero_le _) rfl (fun h => by cases h) fun v848 w848 hw848 hgr848 hnw848 => ?_
          have hk848 := hS.keptOwn 3 rfl hgr848
          replace f753 := f753.kept hk848
          replace f754 := f754.kept hk848
          replace f755 := f755.kept hk848
          replace f759 := f759.kept hk848
          replace hS := hS.setOwn 3 rfl hw848 hgr848 hnw848; simp only [List.set] at hS
          refine q_assign rfl rfl ?_
          refine eseq_nil ?_
          refine hK824 _ _ ?_
          refine e_region_text rfl ?_
          refine q_addW rfl rfl rfl ?_
          refine q_move rfl rfl ?_
          refine eseq_nil ?_
          obtain rfl := Option.some.inj ho696
          exact ⟨m696, _, Nat.lt_succ_self _, ⟨x849, (w64 (x760 + 1)), v848, _, ht696, (hS.pickB [2, 3] 4 rfl rfl), f753, f754, f755, f759, rfl⟩, Sub.cons rfl (Sub.cons rfl (Sub.cons rfl (Sub.cons rfl (Sub.cons rfl (Sub.nil _)))))⟩
        · replace ho696 := (if_neg (not_true hc833)).symm.trans ho696
          refine e_skip ?_
          refine hK824 _ _ ?_
          refine e_region_text rfl ?_
          refine q_addW rfl rfl rfl ?_
          refine q_move rfl rfl ?_
          refine eseq_nil ?_
          obtain rfl := Option.some.inj ho696
          exact ⟨m696, _, Nat.lt_succ_self _, ⟨x758, (w64 (x760 + 1)), v757, _, ht696, (hS.pickB [1, 2] 3 rfl rfl), f753, f754, f755, f759, rfl⟩, Sub.cons rfl (Sub.cons rfl (Sub.cons rfl (Sub.cons rfl (Sub.cons rfl (Sub.nil _)))))⟩
      · replace ho696 := (if_neg (not_true hc823)).symm.trans ho696
        refine e_exit ?_
        obtain rfl := Option.some.inj ho696
        obtain rfl := Option.some.inj ht696
        exact hX696_4 x758 v757 _ _ _ h (hS.pickB [1] 2 rfl rfl)  (Sub.cons rfl (Sub.nil _))
    replace hS := hS.nilOwn0 pt2Ty 189
    refine e_loop (fun m_ E_ w584 => ∃ (x590 : (List Pt2)), ∃ (x592 : Int), ∃ (v589 : Value), ∃ (R583 : Nat → Prop), iter (fun s => rgraph_Edges_B2 fuel a0 s.1 s.2) m_ (x590, x592) = some tl482 ∧ Sep F R R583 w w584 [HP.blk bl471 [v1, v2, v3] 31, HP.own pt2Ty (fun _ => False) 189 v589 x590] ∧ IsSlice Ty.int w584 R583 v1 a0.lens ∧ IsSlice (Ty.slice Ty.int) w584 R583 v2 a0.ckpts ∧ IsSlice arcTy w584 R583 v3 a0.arcs ∧ IsSlice (Ty.slice Ty.int) w584 R583 v2 a0.ckpts ∧ E_ = [(1, .pointer (some ⟨bl471, 0, none⟩)), (3, v589), (13, v2), (14, .int .i64 (a0.ckpts.length : Int)), (15, .int .i64 x592)]) _ ⟨_, ⟨([] : List Pt2), 0, (.slice none 0 0), _, ht482, (hS.pickB [1, 0] 2 rfl rfl), f1, f2, f3, f2, rfl⟩, Sub.cons rfl (Sub.cons rfl (Sub.cons rfl (Sub.cons rfl (Sub.cons rfl (Sub.nil _)))))⟩ ?_
    clear ht482 hS
    rintro m482 _ w584 ⟨x590, x592, v589, R583, ht482, hS, f585, f586, f587, f591, rfl⟩
    obtain ⟨m482, rfl, o482, ho482, ht482⟩ := iter_some ht482
    replace ho482 : rgraph_Edges_B2 fuel a0 x590 x592 = some o482 := ho482
    unfold rgraph_Edges_B2 at ho482
    refine e_seq fun K851 hK851 => ?_
    refine e_region_text rfl ?_
    refine q_lss rfl rfl rfl ?_
    refine eseq_nil ?_
    refine hK851 _ _ ?_
    refine e_seq fun K852 hK852 => ?_
    refine e_cond rfl (fun hc853 => ?_) (fun hc853 => ?_)
    · replace ho482 := (if_pos hc853).symm.trans ho482
      refine e_skip ?_
      refine hK852 _ _ ?_
      refine e_seq fun K854 hK854 => ?_
      refine e_block ?_
      refine e_seq fun K855 hK855 => ?_
      refine e_region_text rfl ?_
      refine q_move rfl rfl ?_
      obtain ⟨x856, hx856, ho482⟩ := Option.of_bind ho482
      refine q_atS (by infer_instance) rfl f591 rfl hx856 rfl fun b857 o857 hm857 f857 => ?_
      refine q_loadE rfl f857 rfl (fun v858 f858 => ?_)
      refine q_assign rfl rfl ?_
      refine q_assign rfl rfl ?_
      refine eseq_nil ?_
      refine hK855 _ _ ?_
      refine e_seq fun K859 hK859 => ?_
      refine e_region_text rfl ?_
      refine q_move rfl rfl ?_
      refine q_lenS rfl f858 rfl ?_
      refine q_move rfl rfl ?_
      refine eseq_nil ?_
      refine hK859 _ _ ?_
      refine e_block ?_
      obtain ⟨tl860, ht860, ho482⟩ := Option.of_bind ho482
      have hX860_2 : ∀ (x923 : (List Pt2)) (v922 : Value) (R916 : Nat → Prop) (w917 : World) (E_ : Env), rgraph_Edges_K3 fuel x592 x923 = some o482 → Sep F R R916 w w917 [HP.blk bl471 [v1, v2, v3] 31, HP.own pt2Ty (fun _ => False) 189 v922 x923] → IsSlice Ty.int w917 R916 v1 a0.lens → IsSlice (Ty.slice Ty.int) w917 R916 v2 a0.ckpts → IsSlice arcTy w917 R916 v3 a0.arcs → IsSlice (Ty.slice Ty.int) w917 R916 v2 a0.ckpts → Sub [(1, .pointer (some ⟨bl471, 0, none⟩)), (3, v922), (13, v2), (14, .int .i64 (a0.ckpts.length : Int)), (15, .int .i64 x592)] E_ → K854 E_ w917 := by
        intro x923 v922 R916 w917 E_ ho482 hS f918 f919 f920 f924 hsub
        refine hK854 _ _ (e_sub hsub ?_); clear hsub
        unfold rgraph_Edges_K3 at ho482
        refine e_region_text rfl ?_
        refine q_addW rfl rfl rfl ?_
        refine q_move rfl rfl ?_
        refine eseq_nil ?_
        obtain rfl := Option.some.inj ho482
        exact ⟨m482, _, Nat.lt_succ_self _, ⟨x923, (w64 (x592 + 1)), v922, _, ht482, hS, f918, f919, f920, f924, rfl⟩, Sub.cons rfl (Sub.cons rfl (Sub.cons rfl (Sub.cons rfl (Sub.cons rfl (Sub.nil _)))))⟩
      refine e_loop (fun m_ E_ w888 => ∃ (x894 : (List Pt2)), ∃ (x896 : Int), ∃ (v893 : Value), ∃ (R887 : Nat → Prop), iter (fun s => rgraph_Edges_B3 fuel x856 x592 s.1 s.2) m_ (x894, x896) = some tl860 ∧ Sep F R R887 w w888 [HP.blk bl471 [v1, v2, v3] 31, HP.own pt2Ty (fun _ => False) 189 v893 x894] ∧ IsSlice Ty.int w888 R887 v1 a0.lens ∧ IsSlice (Ty.slice Ty.int) w888 R887 v2 a0.ckpts ∧ IsSlice arcTy w888 R887 v3 a0.arcs ∧ IsSlice (Ty.slice Ty.int) w888 R887 v2 a0.ckpts ∧ E_ = [(1, .pointer (some ⟨bl471, 0, none⟩)), (3, v893), (4, .int .i64 x592), (13, v2), (14, .int .i64 (a0.ckpts.length : Int)), (15, .int .i64 x592), (21, .int .i64 (x856.length : Int)), (22, .int .i64 x896)]) _ ⟨_, ⟨x590, 0, v589, _, ht860, hS, f585, f586, f587, f591, rfl⟩, Sub.cons rfl (Sub.cons rfl (Sub.cons rfl (Sub.cons rfl (Sub.cons rfl (Sub.cons rfl (Sub.cons rfl (Sub.cons rfl (Sub.nil _))))))))⟩ ?_
      clear ht860 hS
      rintro m860 _ w888 ⟨x894, x896, v893, R887, ht860, hS, f889, f890, f891, f895, rfl⟩
      obtain ⟨m860, rfl, o860, ho860, ht860⟩ := iter_some ht860
      replace ho860 : rgraph_Edges_B3 fuel x856 x592 x894 x896 = some o860 := ho860
      unfold rgraph_Edges_B3 at ho860
      refine e_seq fun K925 hK925 => ?_
      refine e_region_text rfl ?_
      refine q_lss rfl rfl rfl ?_
      refine eseq_nil ?_
      refine hK925 _ _ ?_
      refine e_seq fun K926 hK926 => ?_
      refine e_cond rfl (fun hc927 => ?_) (fun hc927 => ?_)
      · replace ho860 := (if_pos hc927).symm.trans ho860
        refine e_skip ?_
        refine hK926 _ _ ?_
        refine e_seq fun K928 hK928 => ?_
        refine e_block ?_
        refine e_seq fun K929 hK929 => ?_
        refine e_region_text rfl ?_
        refine q_move rfl rfl ?_
        refine q_assign rfl rfl ?_
        refine eseq_nil ?_
        refine hK929 _ _ ?_
        refine e_region_text rfl ?_
        refine q_move rfl rfl ?_
        refine q_move rfl rfl ?_
        refine q_move rfl rfl ?_
        refine q_build (Parts.cons rfl rfl (Parts.cons rfl rfl Parts.nil)) rfl rfl ?_
        refine q_move rfl rfl ?_
        refine q_move rfl rfl ?_
        refine q_addW rfl rfl rfl ?_
        refine q_build (Parts.cons rfl rfl (Parts.cons rfl rfl Parts.nil)) rfl rfl ?_
        refine q_buildA (Parts.cons rfl rfl (Parts.cons rfl rfl Parts.nil)) rfl rfl ?_
        refine q_litO (T := pt2Ty) (S := (fun _ => False)) (cells := [[.int .i64 x592, .int .i64 x896, .int .i64 x592, .int .i64 (w64 (x896 + 1))]]) (ys := [(⟨(⟨x592, x896⟩ : Pt), (⟨x592, w64 (x896 + 1)⟩ : Pt)⟩ : Pt2)]) ((Parts.cons rfl rfl Parts.nil)) rfl rfl rfl rfl rfl rfl rfl (fun w1 hB => ⟨⟨[_, _], _, rfl, ⟨[_], _, rfl, rfl, rfl⟩, ⟨[_], _, rfl, rfl, rfl⟩⟩, trivial⟩) (fun _ h => h.elim) rfl fun w930 v930 ho930 hv930 hB930 => ?_
        replace f889 := f889.ext hB930
        replace f890 := f890.ext hB930
        replace f891 := f891.ext hB930
        replace f895 := f895.ext hB930
        replace hS := hS.newOwnS hB930 ho930 hv930 (fun _ h => h.elim)
        obtain ⟨x933, hx933, ho860⟩ := Option.of_bind ho860
        refine q_catOwn (T := pt2Ty) rfl rfl rfl rfl (hS.own 2 rfl) rfl (hS.own 0 rfl) (fun _ h _ => h.elim) (snoc_cat hx933) (Nat.zero_le _) rfl (fun h => by cases h) fun v932 w932 hw932 hgr932 hnw932 => ?_
        have hk932 := hS.keptOwn 2 rfl hgr932
        replace f889 := f889.kept hk932
        replace f890 := f890.kept hk932
        replace f891 := f891.kept hk932
        replace f895 := f895.kept hk932
        replace hS := hS.setOwn 2 rfl hw932 hgr932 hnw932; simp only [List.set] at hS
        refine q_assign rfl rfl ?_
        refine eseq_nil ?_
        refine hK928 _ _ ?_
        refine e_region_text rfl ?_
        refine q_addW rfl rfl rfl ?_
        refine q_move rfl rfl ?_
        refine eseq_nil ?_
        obtain rfl := Option.some.inj ho860
        exact ⟨m860, _, Nat.lt_succ_self _, ⟨x933, (w64 (x896 + 1)), v932, _, ht860, (hS.pickB [1, 2] 3 rfl rfl), f889, f890, f891, f895, rfl⟩, Sub.cons rfl (Sub.cons rfl (Sub.cons rfl (Sub.cons rfl (Sub.cons rfl (Sub.cons rfl (Sub.cons rfl (Sub.cons rfl (Sub.nil _))))))))⟩
      · replace ho860 := (if_neg (not_true hc927)).symm.trans ho860
        refine e_exit ?_
        obtain rfl := Option.some.inj ho860
        obtain rfl := Option.some.inj ht860
        exact hX860_2 x894 v893 _ _ _ ho482 hS f889 f890 f891 f895 (Sub.cons rfl (Sub.cons rfl (Sub.cons rfl (Sub.cons rfl (Sub.cons rfl (Sub.nil _))))))
    · replace ho482 := (if_neg (not_true hc853)).symm.trans ho482
      refine e_exit ?_
      obtain rfl := Option.some.inj ho482
      obtain rfl := Option.some.inj ht482
      exact hX482_0 x590 v589 _ _ _ h hS f585 f586 f587 (Sub.cons rfl (Sub.cons rfl (Sub.nil _)))
end Go.Proofs.Ytbmjcbhappjnaaa
