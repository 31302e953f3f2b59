/- Printed walks: A33a. -/
import Derived.Test.YtddohdppmejjoaaDfr
import Derived.Test.YtddohdppmejjoaaAcdat
import Derived.Test.YtddohdppmejjoaaA31b
set_option linter.unusedVariables false
set_option linter.unusedSimpArgs false
namespace Go.Mine
open Go.RowKit
def cascade_New (fuel : Nat) (a0 : Int) : Option (Cascade × Int) :=
  (orM (decide (a0 < 1)) (some (decide (5 < a0)))).bind fun x28 => (if x28 = true then some ((⟨([] : List Branch), ([] : List Letter)⟩ : Cascade), 3) else (mkL a0 (⟨(0 : Int), ([] : List Evt), (0 : Int), ([] : List EndI)⟩ : Branch)).bind fun x34 => some ((⟨x34, ([] : List Letter)⟩ : Cascade), 0))
def ref33_New (fuel : Nat) (a0 : Int) : Option (Cascade × Int) :=
  (orM (decide (a0 < 1)) (some (decide (5 < a0)))).bind fun x28 => (if x28 = true then some ((⟨([] : List Branch), ([] : List Letter)⟩ : Cascade), 3) else (mkL a0 (⟨(0 : Int), ([] : List Evt), (0 : Int), ([] : List EndI)⟩ : Branch)).bind fun x34 => some ((⟨x34, ([] : List Letter)⟩ : Cascade), 0))
def cascade_refusal_J1 (fuel : Nat) (a1 : Shock) (a0 : Cascade) (x177 : Bool) : Option (Int) :=
  (if x177 = true then (orM (decide (a1.proc < 0)) (some (decide ((a0.branches.length : Int) ≤ a1.proc)))).bind fun x183 => (if x183 = true then some 3 else some 0) else some 3)
def cascade_refusal (fuel : Nat) (a0 : Cascade) (a1 : Shock) : Option (Int) :=
  (if (a1.kind == 1) = true then (orM (decide (a1.proc < 0)) (some (decide ((a0.branches.length : Int) ≤ a1.proc)))).bind fun x112 => (orM x112 (some (decide (a1.other < 0)))).bind fun x116 => (orM x116 (some (decide ((a0.branches.length : Int) ≤ a1.other)))).bind fun x120 => (orM x120 (some (a1.other == a1.proc))).bind fun x124 => (if x124 = true then some 3 else (ati a0.branches a1.proc).bind fun x128 => (orM (decide (64 ≤ (x128.events.length : Int))) (some (decide (256 ≤ (a0.flight.length : Int))))).bind fun x135 => (if x135 = true then some 4 else some 0)) else (if (a1.kind == 2) = true then (orM (decide (a1.other < 0)) (some (decide ((a0.flight.length : Int) ≤ a1.other)))).bind fun x146 => (if x146 = true then some 11 else (ati a0.flight a1.other).bind fun x150 => (andM (!x150.news) ((ati a0.branches x150.to).bind fun x165 => some (decide (64 ≤ (x165.events.length : Int))))).bind fun x164 => (if x164 = true then some 4 else some 0)) else (if (a1.kind == 3) = true then cascade_refusal_J1 fuel a1 a0 (a1.kind == 3) else cascade_refusal_J1 fuel a1 a0 (a1.kind == 4))))
def ref33_refuse (fuel : Nat) (a0 : Cascade) (a1 : Shock) : Option (Int) :=
  (orM (decide (a1.kind < 1)) (some (decide (4 < a1.kind)))).bind fun x122 => (orM x122 ((andM (a1.kind != 2) ((orM (decide (a1.proc < 0)) (some (decide ((a0.branches.length : Int) ≤ a1.proc)))).bind fun x134 => some x134)).bind fun x132 => some x132)).bind fun x130 => (orM x130 ((andM (a1.kind == 1) ((orM (decide (a1.other < 0)) (some (decide ((a0.branches.length : Int) ≤ a1.other)))).bind fun x148 => (orM x148 (some (a1.other == a1.proc))).bind fun x150 => some x150)).bind fun x146 => some x146)).bind fun x144 => (if x144 = true then some 3 else (andM (a1.kind == 2) ((orM (decide (a1.other < 0)) (some (decide ((a0.flight.length : Int) ≤ a1.other)))).bind fun x162 => some x162)).bind fun x160 => (if x160 = true then some 11 else (andM (a1.kind == 1) ((ati a0.branches a1.proc).bind fun x177 => (orM (decide (64 ≤ (x177.events.length : Int))) (some (decide (256 ≤ (a0.flight.length : Int))))).bind fun x182 => some x182)).bind fun x176 => (if x176 = true then some 4 else (andM (a1.kind == 2) ((ati a0.flight a1.other).bind fun x194 => some (!x194.news))).bind fun x193 => (andM x193 ((ati a0.flight a1.other).bind fun x208 => (ati a0.branches x208.to).bind fun x211 => some (decide (64 ≤ (x211.events.length : Int))))).bind fun x207 => (if x207 = true then some 4 else some 0))))
def cascade_news_1 (fuel : Nat) (a0 : Letter) : Option (Bool) :=
  some a0.news
def IndexNews_K1 (fuel : Nat) : Option (Int) :=
  some (-1)
def IndexNews_B1 (fuel : Nat) (a0 : (List Letter)) (x91 : Int) : Option ((Int) ⊕ (Unit ⊕ (Int))) :=
  (if (decide (x91 < (a0.length : Int))) = true then (ati a0 x91).bind fun x118 => (cascade_news_1 fuel x118).bind fun r122 => (if r122 = true then some (Sum.inr (Sum.inr x91)) else some (Sum.inl (w64 (x91 + 1)))) else some (Sum.inr (Sum.inl ())))
def IndexNews (fuel : Nat) (a0 : (List Letter)) : Option (Int) :=
  (iter (fun s => IndexNews_B1 fuel a0 s) fuel 0).bind (fun t => Sum.elim (fun t => IndexNews_K1 fuel) (fun t => some t) t)
def cascade_news (fuel : Nat) (a0 : Cascade) : Option (Int) :=
  (IndexNews fuel a0.flight).bind fun r14 => some r14
def ref33_news_K1 (fuel : Nat) : Option (Int) :=
  some (-1)
def ref33_news_B1 (fuel : Nat) (a0 : Cascade) (x91 : Int) : Option ((Int) ⊕ (Unit ⊕ (Int))) :=
  (if (decide (x91 < (a0.flight.length : Int))) = true then (ati a0.flight x91).bind fun x115 => (if x115.news = true then some (Sum.inr (Sum.inr x91)) else some (Sum.inl (w64 (x91 + 1)))) else some (Sum.inr (Sum.inl ())))
def ref33_news (fuel : Nat) (a0 : Cascade) : Option (Int) :=
  (iter (fun s => ref33_news_B1 fuel a0 s) fuel 0).bind (fun t => Sum.elim (fun t => ref33_news_K1 fuel) (fun t => some t) t)
def cascade_Quiet (fuel : Nat) (a0 : Cascade) : Option (Bool) :=
  (cascade_news fuel (⟨a0.branches, a0.flight⟩ : Cascade)).bind fun r14 => some (decide (r14 < 0))
def ref33_Quiet (fuel : Nat) (a0 : Cascade) : Option (Bool) :=
  (ref33_news fuel (⟨a0.branches, a0.flight⟩ : Cascade)).bind fun r14 => some (decide (r14 < 0))
def cascade_Lineages_K1 (fuel : Nat) (x165 : (List (List Evt))) : Option ((List (List Evt))) :=
  some x165
def cascade_Lineages_B1 (fuel : Nat) (a0 : Cascade) (x134 : (List (List Evt))) (x136 : Int) : Option (((List (List Evt)) × Int) ⊕ ((List (List Evt)))) :=
  (if (decide (x136 < (a0.branches.length : Int))) = true then (ati a0.branches x136).bind fun x173 => (snoc x134 x173.events).bind fun x184 => some (Sum.inl (x184, (w64 (x136 + 1)))) else some (Sum.inr x134))
def cascade_Lineages (fuel : Nat) (a0 : Cascade) : Option ((List (List Evt))) :=
  (iter (fun s => cascade_Lineages_B1 fuel a0 s.1 s.2) fuel (([] : List (List Evt)), 0)).bind (fun t => cascade_Lineages_K1 fuel t)
def ref33_Lineages_K1 (fuel : Nat) (x186 : (List (List Evt))) : Option ((List (List Evt))) :=
  some x186
def ref33_Lineages_B1 (fuel : Nat) (a0 : Cascade) (x152 : (List (List Evt))) (x155 : Int) : Option (((List (List Evt)) × Int) ⊕ ((List (List Evt)))) :=
  (if (decide (x155 < (a0.branches.length : Int))) = true then (ati a0.branches x155).bind fun x196 => (catL ([] : List Evt) x196.events).bind fun x202 => (snoc x152 x202).bind fun x207 => some (Sum.inl (x207, (w64 (x155 + 1)))) else some (Sum.inr x152))
def ref33_Lineages (fuel : Nat) (a0 : Cascade) : Option ((List (List Evt))) :=
  (iter (fun s => ref33_Lineages_B1 fuel a0 s.1 s.2) fuel (([] : List (List Evt)), 0)).bind (fun t => ref33_Lineages_K1 fuel t)
end Go.Mine
namespace Go.Proofs.Ytddohdppmejjoaa
open Go.RowKit Go.Mine
attribute [local irreducible] eseq ewp iter
theorem cascade_New_w {F R : Nat → Prop} {w : World} {fuel : Nat} {a0 : Int} {r : (Cascade × Int)} (hS : Sep F R R w w []) (h : cascade_New fuel a0 = some r) :
    Gives Try.prog 12 [.int .i64 a0] w fun u w1 => ∃ (v18 : Value), ∃ (R1 : Nat → Prop), u = .tuple #[.agg #[v18, .slice none 0 0], .int .i64 r.2] ∧ Sep F R R1 w w1 [HP.own branchTy R1 48 v18 r.1.branches] := by
  refine fn_of Try.func12 rfl Try.ntmps12 (Nat.le_of_ble_eq_true rfl) ?_
  unfold cascade_New at h
  refine e_seq fun K20 hK20 => ?_
  refine e_region_text rfl ?_
  refine q_allocB rfl fun w21 bl21 hg21 hb21 hB21 => ?_
  replace hS := hS.newBlk hB21 hg21 hb21
  refine q_assign rfl rfl ?_
  refine eseq_nil ?_
  refine hK20 _ _ ?_
  refine e_seq fun K23 hK23 => ?_
  refine e_seq fun K24 hK24 => ?_
  refine e_region_text rfl ?_
  refine q_move rfl rfl ?_
  refine q_lss rfl rfl rfl ?_
  refine q_move rfl rfl ?_
  obtain ⟨x28, hx27, h⟩ := Option.of_bind h
  refine g_orM 2 hx27 rfl trivial rfl rfl ?_ ?_ ?_
  · intro hg27
    refine g_skip rfl rfl rfl ?_
    refine g_skip rfl rfl rfl ?_
    exact eseq_nil ⟨rfl, Sub.set rfl (Sub.set rfl (Sub.bool true rfl hg27))⟩
  · intro hg27 hx27
    clear h
    have hT27 := Below.refl (World.heap w21).size w21
    refine g_run rfl ?_; refine q_move rfl rfl ?_
    refine g_run rfl ?_; refine q_gtr rfl rfl rfl ?_
    cases hx27
    exact eseq_nil ⟨hT27, Sub.set rfl (Sub.set rfl (Sub.bool false rfl hg27)), rfl⟩
  intro wm27 hBm27; clear hx27
  replace hS := hS.below hBm27
  refine eseq_nil ?_
  refine hK24 _ _ ?_
  refine e_cond rfl (fun hc29 => ?_) (fun hc29 => ?_)
  · replace h := (if_pos hc29).symm.trans h
    refine e_seq fun K30 hK30 => ?_
    refine e_region_text rfl ?_
    refine q_build Parts.nil rfl rfl ?_
    refine q_storeAgg rfl rfl (hS.blk 0 rfl) rfl (Nat.le_of_ble_eq_true rfl) (all_cons rfl (all_cons rfl (all_nil))) rfl rfl fun w31 hb31 hO31 => ?_
    simp only [setN, List.set, List.take, List.drop] at hb31
    have hk31 := hS.keptBlk 0 rfl hO31
    replace hS := hS.setBlk 0 rfl hb31 hO31; simp only [List.set] at hS
    refine q_assign rfl rfl ?_
    refine eseq_nil ?_
    refine hK30 _ _ ?_
    refine e_ret ?_
    replace hS := hS.nilOwn branchTy 48
    obtain rfl := Option.some.inj h
    exact ⟨_, resCT rfl rfl ((hS.blk 1 rfl).cellsAt 0 2 rfl) rfl rfl, (.slice none 0 0), _, rfl, (hS.pickB [0] 2 rfl rfl)⟩
  · replace h := (if_neg (not_true hc29)).symm.trans h
    refine e_skip ?_
    refine hK23 _ _ ?_
    refine e_seq fun K33 hK33 => ?_
    refine e_region_text rfl ?_
    refine q_move rfl rfl ?_
    obtain ⟨x34, hx34, h⟩ := Option.of_bind h
    refine q_makeO (T := branchTy) (S := R) rfl rfl rfl hx34 hS.ro rfl fun w35 v35 ho35 hv35 hB35 => ?_
    replace hS := hS.newOwnS hB35 ho35 hv35 (fun _ h => h)
    refine q_build (Parts.cons rfl (cells_one (hS.own 0 rfl).one) Parts.nil) rfl rfl ?_
    refine q_storeAgg rfl rfl (hS.blk 1 rfl) rfl (Nat.le_of_ble_eq_true rfl) (all_cons (hS.own 0 rfl).one (all_cons rfl (all_nil))) rfl rfl fun w37 hb37 hO37 => ?_
    simp only [setN, List.set, List.take, List.drop] at hb37
    have hk37 := hS.keptBlk 1 rfl hO37
    replace hS := hS.setBlk 1 rfl hb37 hO37; simp only [List.set] at hS
    refine q_assign rfl rfl ?_
    refine eseq_nil ?_
    refine hK33 _ _ ?_
    refine e_ret ?_
    obtain rfl := Option.some.inj h
    exact ⟨_, resCT rfl rfl ((hS.blk 1 rfl).cellsAt 0 2 rfl) rfl rfl, v35, _, rfl, (hS.pickB [0] 2 rfl rfl)⟩
theorem ref33_New_w {F R : Nat → Prop} {w : World} {fuel : Nat} {a0 : Int} {r : (Cascade × Int)} (hS : Sep F R R w w []) (h : ref33_New fuel a0 = some r) :
    Gives Try.prog 13 [.int .i64 a0] w fun u w1 => ∃ (v18 : Value), ∃ (R1 : Nat → Prop), u = .tuple #[.agg #[v18, .slice none 0 0], .int .i64 r.2] ∧ Sep F R R1 w w1 [HP.own branchTy R1 48 v18 r.1.branches] := by
  refine fn_of Try.func13 rfl Try.ntmps13 (Nat.le_of_ble_eq_true rfl) ?_
  unfold ref33_New at h
  refine e_seq fun K20 hK20 => ?_
  refine e_region_text rfl ?_
  refine q_allocB rfl fun w21 bl21 hg21 hb21 hB21 => ?_
  replace hS := hS.newBlk hB21 hg21 hb21
  refine q_assign rfl rfl ?_
  refine eseq_nil ?_
  refine hK20 _ _ ?_
  refine e_seq fun K23 hK23 => ?_
  refine e_seq fun K24 hK24 => ?_
  refine e_region_text rfl ?_
  refine q_move rfl rfl ?_
  refine q_lss rfl rfl rfl ?_
  refine q_move rfl rfl ?_
  obtain ⟨x28, hx27, h⟩ := Option.of_bind h
  refine g_orM 2 hx27 rfl trivial rfl rfl ?_ ?_ ?_
  · intro hg27
    refine g_skip rfl rfl rfl ?_
    refine g_skip rfl rfl rfl ?_
    exact eseq_nil ⟨rfl, Sub.set rfl (Sub.set rfl (Sub.bool true rfl hg27))⟩
  · intro hg27 hx27
    clear h
    have hT27 := Below.refl (World.heap w21).size w21
    refine g_run rfl ?_; refine q_move rfl rfl ?_
    refine g_run rfl ?_; refine q_gtr rfl rfl rfl ?_
    cases hx27
    exact eseq_nil ⟨hT27, Sub.set rfl (Sub.set rfl (Sub.bool false rfl hg27)), rfl⟩
  intro wm27 hBm27; clear hx27
  replace hS := hS.below hBm27
  refine eseq_nil ?_
  refine hK24 _ _ ?_
  refine e_cond rfl (fun hc29 => ?_) (fun hc29 => ?_)
  · replace h := (if_pos hc29).symm.trans h
    refine e_seq fun K30 hK30 => ?_
    refine e_region_text rfl ?_
    refine q_build Parts.nil rfl rfl ?_
    refine q_storeAgg rfl rfl (hS.blk 0 rfl) rfl (Nat.le_of_ble_eq_true rfl) (all_cons rfl (all_cons rfl (all_nil))) rfl rfl fun w31 hb31 hO31 => ?_
    simp only [setN, List.set, List.take, List.drop] at hb31
    have hk31 := hS.keptBlk 0 rfl hO31
    replace hS := hS.setBlk 0 rfl hb31 hO31; simp only [List.set] at hS
    refine q_assign rfl rfl ?_
    refine eseq_nil ?_
    refine hK30 _ _ ?_
    refine e_ret ?_
    replace hS := hS.nilOwn branchTy 48
    obtain rfl := Option.some.inj h
    exact ⟨_, resCT rfl rfl ((hS.blk 1 rfl).cellsAt 0 2 rfl) rfl rfl, (.slice none 0 0), _, rfl, (hS.pickB [0] 2 rfl rfl)⟩
  · replace h := (if_neg (not_true hc29)).symm.trans h
    refine e_skip ?_
    refine hK23 _ _ ?_
    refine e_seq fun K33 hK33 => ?_
    refine e_region_text rfl ?_
    refine q_move rfl rfl ?_
    obtain ⟨x34, hx34, h⟩ := Option.of_bind h
    refine q_makeO (T := branchTy) (S := R) rfl rfl rfl hx34 hS.ro rfl fun w35 v35 ho35 hv35 hB35 => ?_
    replace hS := hS.newOwnS hB35 ho35 hv35 (fun _ h => h)
    refine q_build (Parts.cons rfl (cells_one (hS.own 0 rfl).one) Parts.nil) rfl rfl ?_
    refine q_storeAgg rfl rfl (hS.blk 1 rfl) rfl (Nat.le_of_ble_eq_true rfl) (all_cons (hS.own 0 rfl).one (all_cons rfl (all_nil))) rfl rfl fun w37 hb37 hO37 => ?_
    simp only [setN, List.set, List.take, List.drop] at hb37
    have hk37 := hS.keptBlk 1 rfl hO37
    replace hS := hS.setBlk 1 rfl hb37 hO37; simp only [List.set] at hS
    refine q_assign rfl rfl ?_
    refine eseq_nil ?_
    refine hK33 _ _ ?_
    refine e_ret ?_
    obtain rfl := Option.some.inj h
    exact ⟨_, resCT rfl rfl ((hS.blk 1 rfl).cellsAt 0 2 rfl) rfl rfl, v35, _, rfl, (hS.pickB [0] 2 rfl rfl)⟩
theorem cascade_refusal_w {F R : Nat → Prop} {w : World} {fuel : Nat} {a0 : Cascade} {a1 : Shock} {v1 : Value} {v2 : Value} {r : (Int)} (hS : Sep F R R w w []) (f1 : IsSlice branchTy w R v1 a0.branches) (f2 : IsSlice letterTy w R v2 a0.flight) (h : cascade_refusal fuel a0 a1 = some r) :
    Gives Try.prog 38 [.agg #[v1, v2], .agg #[.int .i64 a1.kind, .int .i64 a1.proc, .int .i64 a1.other]] w fun u w1 => ∃ (R1 : Nat → Prop), u = .int .i64 r ∧ Sep F R R1 w w1 [] := by
  refine fn_of Try.func38 rfl Try.ntmps38 (Nat.le_of_ble_eq_true rfl) ?_
  unfold cascade_refusal at h
  refine e_seq fun K97 hK97 => ?_
  refine e_region_text rfl ?_
  refine q_boxB rfl rfl rfl fun w98 bl98 hg98 hb98 hB98 => ?_
  replace f1 := f1.ext hB98
  replace f2 := f2.ext hB98
  replace hS := hS.newBlk hB98 hg98 hb98
  refine q_boxB rfl rfl rfl fun w100 bl100 hg100 hb100 hB100 => ?_
  replace f1 := f1.ext hB100
  replace f2 := f2.ext hB100
  replace hS := hS.newBlk hB100 hg100 hb100
  refine q_assign rfl rfl ?_
  refine eseq_nil ?_
  refine hK97 _ _ ?_
  refine e_seq fun K102 hK102 => ?_
  refine e_region_text rfl ?_
  refine q_field rfl rfl ?_
  refine q_load rfl (Blk.cell (hS.blk 1 rfl) rfl) rfl ?_
  refine q_lenS rfl f1 rfl ?_
  refine q_assign rfl rfl ?_
  refine eseq_nil ?_
  refine hK102 _ _ ?_
  refine e_seq fun K103 hK103 => ?_
  refine e_seq fun K104 hK104 => ?_
  refine e_region_text rfl ?_
  refine q_field rfl rfl ?_
  refine q_load rfl (Blk.cell (hS.blk 0 rfl) rfl) rfl ?_
  refine eseq_nil ?_
  refine hK104 _ _ ?_
  refine e_block ?_
  refine e_seq fun K105 hK105 => ?_
  refine e_region_text rfl ?_
  refine q_eql rfl rfl rfl ?_
  refine q_assign rfl rfl ?_
  refine eseq_nil ?_
  refine hK105 _ _ ?_
  refine e_cond rfl (fun hc106 => ?_) (fun hc106 => ?_)
  · replace h := (if_pos hc106).symm.trans h
    refine e_seq fun K107 hK107 => ?_
    refine e_seq fun K108 hK108 => ?_
    refine e_region_text rfl ?_
    refine q_field rfl rfl ?_
    refine q_load rfl (Blk.cell (hS.blk 0 rfl) rfl) rfl ?_
    refine q_lss rfl rfl rfl ?_
    refine q_move rfl rfl ?_
    obtain ⟨x112, hx111, h⟩ := Option.of_bind h
    refine g_orM 4 hx111 rfl trivial rfl rfl ?_ ?_ ?_
    · intro hg111
      refine g_skip rfl rfl rfl ?_
      refine g_skip rfl rfl rfl ?_
      refine g_skip rfl rfl rfl ?_
      refine g_skip rfl rfl rfl ?_
      exact eseq_nil ⟨rfl, Sub.set rfl (Sub.set rfl (Sub.set rfl (Sub.set rfl (Sub.bool true rfl hg111))))⟩
    · intro hg111 hx111
      clear h
      have hT111 := Below.refl (World.heap w100).size w100
      refine g_run rfl ?_; refine q_field rfl rfl ?_
      refine g_run rfl ?_; refine q_load rfl (Blk.cell (hS.blk 0 rfl) rfl) rfl ?_
      refine g_run rfl ?_; refine q_move rfl rfl ?_
      refine g_run rfl ?_; refine q_geq rfl rfl rfl ?_
      cases hx111
      exact eseq_nil ⟨hT111, Sub.set rfl (Sub.set rfl (Sub.set rfl (Sub.set rfl (Sub.bool false rfl hg111)))), rfl⟩
    intro wm111 hBm111; clear hx111
    replace hS := hS.below hBm111
    replace f1 := f1.ext hBm111
    replace f2 := f2.ext hBm111
    refine q_move rfl rfl ?_
    obtain ⟨x116, hx115, h⟩ := Option.of_bind h
    refine g_orM 3 hx115 rfl trivial rfl rfl ?_ ?_ ?_
    · intro hg115
      refine g_skip rfl rfl rfl ?_
      refine g_skip rfl rfl rfl ?_
      refine g_skip rfl rfl rfl ?_
      exact eseq_nil ⟨rfl, Sub.set rfl (Sub.set rfl (Sub.set rfl (Sub.bool true rfl hg115)))⟩
    · intro hg115 hx115
      clear h
      have hT115 := Below.refl (World.heap wm111).size wm111
      refine g_run rfl ?_; refine q_field rfl rfl ?_
      refine g_run rfl ?_; refine q_load rfl (Blk.cell (hS.blk 0 rfl) rfl) rfl ?_
      refine g_run rfl ?_; refine q_lss rfl rfl rfl ?_
      cases hx115
      exact eseq_nil ⟨hT115, Sub.set rfl (Sub.set rfl (Sub.set rfl (Sub.bool false rfl hg115))), rfl⟩
    intro wm115 hBm115; clear hx115
    replace hS := hS.below hBm115
    replace f1 := f1.ext hBm115
    replace f2 := f2.ext hBm115
    refine q_move rfl rfl ?_
    obtain ⟨x120, hx119, h⟩ := Option.of_bind h
    refine g_orM 4 hx119 rfl trivial rfl rfl ?_ ?_ ?_
    · intro hg119
      refine g_skip rfl rfl rfl ?_
      refine g_skip rfl rfl rfl ?_
      refine g_skip rfl rfl rfl ?_
      refine g_skip rfl rfl rfl ?_
      exact eseq_nil ⟨rfl, Sub.set rfl (Sub.set rfl (Sub.set rfl (Sub.set rfl (Sub.bool true rfl hg119))))⟩
    · intro hg119 hx119
      clear h
      have hT119 := Below.refl (World.heap wm115).size wm115
      refine g_run rfl ?_; refine q_field rfl rfl ?_
      refine g_run rfl ?_; refine q_load rfl (Blk.cell (hS.blk 0 rfl) rfl) rfl ?_
      refine g_run rfl ?_; refine q_move rfl rfl ?_
      refine g_run rfl ?_; refine q_geq rfl rfl rfl ?_
      cases hx119
      exact eseq_nil ⟨hT119, Sub.set rfl (Sub.set rfl (Sub.set rfl (Sub.set rfl (Sub.bool false rfl hg119)))), rfl⟩
    intro wm119 hBm119; clear hx119
    replace hS := hS.below hBm119
    replace f1 := f1.ext hBm119
    replace f2 := f2.ext hBm119
    refine q_move rfl rfl ?_
    obtain ⟨x124, hx123, h⟩ := Option.of_bind h
    refine g_orM 5 hx123 rfl trivial rfl rfl ?_ ?_ ?_
    · intro hg123
      refine g_skip rfl rfl rfl ?_
      refine g_skip rfl rfl rfl ?_
      refine g_skip rfl rfl rfl ?_
      refine g_skip rfl rfl rfl ?_
      refine g_skip rfl rfl rfl ?_
      exact eseq_nil ⟨rfl, Sub.set rfl (Sub.set rfl (Sub.set rfl (Sub.set rfl (Sub.set rfl (Sub.bool true rfl hg123)))))⟩
    · intro hg123 hx123
      clear h
      have hT123 := Below.refl (World.heap wm119).size wm119
      refine g_run rfl ?_; refine q_field rfl rfl ?_
      refine g_run rfl ?_; refine q_load rfl (Blk.cell (hS.blk 0 rfl) rfl) rfl ?_
      refine g_run rfl ?_; refine q_field rfl rfl ?_
      refine g_run rfl ?_; refine q_load rfl (Blk.cell (hS.blk 0 rfl) rfl) rfl ?_
      refine g_run rfl ?_; refine q_eql rfl rfl rfl ?_
      cases hx123
      exact eseq_nil ⟨hT123, Sub.set rfl (Sub.set rfl (Sub.set rfl (Sub.set rfl (Sub.set rfl (Sub.bool false rfl hg123))))), rfl⟩
    intro wm123 hBm123; clear hx123
    replace hS := hS.below hBm123
    replace f1 := f1.ext hBm123
    replace f2 := f2.ext hBm123
    refine eseq_nil ?_
    refine hK108 _ _ ?_
    refine e_cond rfl (fun hc125 => ?_) (fun hc125 => ?_)
    · replace h := (if_pos hc125).symm.trans h
      refine e_seq fun K126 hK126 => ?_
      refine e_region_text rfl ?_
      refine q_assign rfl rfl ?_
      refine eseq_nil ?_
      refine hK126 _ _ ?_
      refine e_ret ?_
      obtain rfl := Option.some.inj h
      exact ⟨_, res1 rfl rfl, _, rfl, (hS.pickB [] 2 rfl rfl)⟩
    · replace h := (if_neg (not_true hc125)).symm.trans h
      refine e_skip ?_
      refine hK107 _ _ ?_
      refine e_seq fun K127 hK127 => ?_
      refine e_region_text rfl ?_
      refine q_field rfl rfl ?_
      refine q_load rfl (Blk.cell (hS.blk 1 rfl) rfl) rfl ?_
      refine q_field rfl rfl ?_
      refine q_load rfl (Blk.cell (hS.blk 0 rfl) rfl) rfl ?_
      obtain ⟨x128, hx128, h⟩ := Option.of_bind h
      refine q_atS (by infer_instance) rfl f1 rfl hx128 rfl fun b129 o129 hm129 f129 => ?_
      refine q_field rfl rfl ?_
      have f130 := Branch_F1 f129
      refine q_loadE rfl f130 rfl (fun v131 f131 => ?_)
      refine q_lenS rfl f131 rfl ?_
      refine q_geq rfl rfl rfl ?_
      refine q_move rfl rfl ?_
      obtain ⟨x135, hx134, h⟩ := Option.of_bind h
      refine g_orM 4 hx134 rfl trivial rfl rfl ?_ ?_ ?_
      · intro hg134
        refine g_skip rfl rfl rfl ?_
        refine g_skip rfl rfl rfl ?_
        refine g_skip rfl rfl rfl ?_
        refine g_skip rfl rfl rfl ?_
        exact eseq_nil ⟨rfl, Sub.set rfl (Sub.set rfl (Sub.set rfl (Sub.set rfl (Sub.bool true rfl hg134))))⟩
      · intro hg134 hx134
        clear h
        have hT134 := Below.refl (World.heap wm123).size wm123
        refine g_run rfl ?_; refine q_field rfl rfl ?_
        refine g_run rfl ?_; refine q_load rfl (Blk.cell (hS.blk 1 rfl) rfl) rfl ?_
        refine g_run rfl ?_; refine q_lenS rfl f2 rfl ?_
        refine g_run rfl ?_; refine q_geq rfl rfl rfl ?_
        cases hx134
        exact eseq_nil ⟨hT134, Sub.set rfl (Sub.set rfl (Sub.set rfl (Sub.set rfl (Sub.bool false rfl hg134)))), rfl⟩
      intro wm134 hBm134; clear hx134
      replace hS := hS.below hBm134
      refine eseq_nil ?_
      refine hK127 _ _ ?_
      refine e_cond rfl (fun hc136 => ?_) (fun hc136 => ?_)
      · replace h := (if_pos hc136).symm.trans h
        refine e_seq fun K137 hK137 => ?_
        refine e_region_text rfl ?_
        refine q_assign rfl rfl ?_
        refine eseq_nil ?_
        refine hK137 _ _ ?_
        refine e_ret ?_
        obtain rfl := Option.some.inj h
        exact ⟨_, res1 rfl rfl, _, rfl, (hS.pickB [] 2 rfl rfl)⟩
      · replace h := (if_neg (not_true hc136)).symm.trans h
        refine e_skip ?_
        refine hK103 _ _ ?_
        refine e_seq fun K138 hK138 => ?_
        refine e_region_text rfl ?_
        refine q_assign rfl rfl ?_
        refine eseq_nil ?_
        refine hK138 _ _ ?_
        refine e_ret ?_
        obtain rfl := Option.some.inj h
        exact ⟨_, res1 rfl rfl, _, rfl, (hS.pickB [] 2 rfl rfl)⟩
  · replace h := (if_neg (not_true hc106)).symm.trans h
    refine e_seq fun K139 hK139 => ?_
    refine e_region_text rfl ?_
    refine q_eql rfl rfl rfl ?_
    refine q_assign rfl rfl ?_
    refine eseq_nil ?_
    refine hK139 _ _ ?_
    refine e_cond rfl (fun hc140 => ?_) (fun hc140 => ?_)
    · replace h := (if_pos hc140).symm.trans h
      refine e_seq fun K141 hK141 => ?_
      refine e_seq fun K142 hK142 => ?_
      refine e_region_text rfl ?_
      refine q_field rfl rfl ?_
      refine q_load rfl (Blk.cell (hS.blk 0 rfl) rfl) rfl ?_
      refine q_lss rfl rfl rfl ?_
      refine q_move rfl rfl ?_
      obtain ⟨x146, hx145, h⟩ := Option.of_bind h
      refine g_orM 6 hx145 rfl trivial rfl rfl ?_ ?_ ?_
      · intro hg145
        refine g_skip rfl rfl rfl ?_
        refine g_skip rfl rfl rfl ?_
        refine g_skip rfl rfl rfl ?_
        refine g_skip rfl rfl rfl ?_
        refine g_skip rfl rfl rfl ?_
        refine g_skip rfl rfl rfl ?_
        exact eseq_nil ⟨rfl, Sub.set rfl (Sub.set rfl (Sub.set rfl (Sub.set rfl (Sub.set rfl (Sub.set rfl (Sub.bool true rfl hg145))))))⟩
      · intro hg145 hx145
        clear h
        have hT145 := Below.refl (World.heap w100).size w100
        refine g_run rfl ?_; refine q_field rfl rfl ?_
        refine g_run rfl ?_; refine q_load rfl (Blk.cell (hS.blk 0 rfl) rfl) rfl ?_
        refine g_run rfl ?_; refine q_field rfl rfl ?_
        refine g_run rfl ?_; refine q_load rfl (Blk.cell (hS.blk 1 rfl) rfl) rfl ?_
        refine g_run rfl ?_; refine q_lenS rfl f2 rfl ?_
        refine g_run rfl ?_; refine q_geq rfl rfl rfl ?_
        cases hx145
        exact eseq_nil ⟨hT145, Sub.set rfl (Sub.set rfl (Sub.set rfl (Sub.set rfl (Sub.set rfl (Sub.set rfl (Sub.bool false rfl hg145)))))), rfl⟩
      intro wm145 hBm145; clear hx145
      replace hS := hS.below hBm145
      replace f1 := f1.ext hBm145
      replace f2 := f2.ext hBm145
      refine eseq_nil ?_
      refine hK142 _ _ ?_
      refine e_cond rfl (fun hc147 => ?_) (fun hc147 => ?_)
      · replace h := (if_pos hc147).symm.trans h
        refine e_seq fun K148 hK148 => ?_
        refine e_region_text rfl ?_
        refine q_assign rfl rfl ?_
        refine eseq_nil ?_
        refine hK148 _ _ ?_
        refine e_ret ?_
        obtain rfl := Option.some.inj h
        exact ⟨_, res1 rfl rfl, _, rfl, (hS.pickB [] 2 rfl rfl)⟩
      · replace h := (if_neg (not_true hc147)).symm.trans h
        refine e_skip ?_
        refine hK141 _ _ ?_
        refine e_seq fun K149 hK149 => ?_
        refine e_region_text rfl ?_
        refine q_field rfl rfl ?_
        refine q_load rfl (Blk.cell (hS.blk 1 rfl) rfl) rfl ?_
        refine q_field rfl rfl ?_
        refine q_load rfl (Blk.cell (hS.blk 0 rfl) rfl) rfl ?_
        obtain ⟨x150, hx150, h⟩ := Option.of_bind h
        refine q_atS (by infer_instance) rfl f2 rfl hx150 rfl fun b151 o151 hm151 f151 => ?_
        have hc152 := Letter_open f151
        refine q_loadAgg rfl hc152 rfl rfl ?_
        refine q_allocB rfl fun w153 bl153 hg153 hb153 hB153 => ?_
        replace f1 := f1.ext hB153
        replace f2 := f2.ext hB153
        replace hS := hS.newBlk hB153 hg153 hb153
        refine q_storeAgg rfl rfl (hS.blk 0 rfl) rfl (Nat.le_of_ble_eq_true rfl) (all_cons rfl (all_cons rfl (all_cons rfl (all_cons rfl (all_cons rfl (all_cons rfl (all_cons rfl (all_cons rfl (all_nil))))))))) rfl rfl fun w155 hb155 hO155 => ?_
        simp only [setN, List.set, List.take, List.drop] at hb155
        have hk155 := hS.keptBlk 0 rfl hO155
        replace f1 := f1.kept hk155
        replace f2 := f2.kept hk155
        replace hS := hS.setBlk 0 rfl hb155 hO155; simp only [List.set] at hS
        refine eseq_nil ?_
        refine hK149 _ _ ?_
        refine e_seq fun K156 hK156 => ?_
        refine e_region_text rfl ?_
        refine q_field rfl rfl ?_
        refine q_load rfl (Blk.cell (hS.blk 0 rfl) rfl) rfl ?_
        refine q_not rfl rfl ?_
        refine q_move rfl rfl ?_
        obtain ⟨x164, hx163, h⟩ := Option.of_bind h
        refine g_andM 9 hx163 rfl trivial rfl rfl ?_ ?_ ?_
        · intro hg163 hx163
          clear h
          have hT163 := Below.refl (World.heap w155).size w155
          refine g_run rfl ?_; refine q_field rfl rfl ?_
          refine g_run rfl ?_; refine q_load rfl (Blk.cell (hS.blk 2 rfl) rfl) rfl ?_
          refine g_run rfl ?_; refine q_field rfl rfl ?_
          refine g_run rfl ?_; refine q_load rfl (Blk.cell (hS.blk 0 rfl) rfl) rfl ?_
          obtain ⟨x165, hx165, hx163⟩ := Option.of_bind hx163
          refine g_run rfl ?_; refine q_atS (by infer_instance) rfl f1 rfl hx165 rfl fun b166 o166 hm166 f166 => ?_
          refine g_run rfl ?_; refine q_field rfl rfl ?_
          have f167 := Branch_F1 f166
          refine g_run rfl ?_; refine q_loadE rfl f167 rfl (fun v168 f168 => ?_)
          refine g_run rfl ?_; refine q_lenS rfl f168 rfl ?_
          refine g_run rfl ?_; refine q_geq rfl rfl rfl ?_
          cases hx163
          exact eseq_nil ⟨hT163, Sub.set rfl (Sub.set rfl (Sub.set rfl (Sub.set rfl (Sub.set rfl (Sub.set rfl (Sub.set rfl (Sub.set rfl (Sub.set rfl (Sub.bool true rfl hg163))))))))), rfl⟩
        · intro hg163
          refine g_skip rfl rfl rfl ?_
          refine g_skip rfl rfl rfl ?_
          refine g_skip rfl rfl rfl ?_
          refine g_skip rfl rfl rfl ?_
          refine g_skip rfl rfl rfl ?_
          refine g_skip rfl rfl rfl ?_
          refine g_skip rfl rfl rfl ?_
          refine g_skip rfl rfl rfl ?_
          refine g_skip rfl rfl rfl ?_
          exact eseq_nil ⟨rfl, Sub.set rfl (Sub.set rfl (Sub.set rfl (Sub.set rfl (Sub.set rfl (Sub.set rfl (Sub.set rfl (Sub.set rfl (Sub.set rfl (Sub.bool false rfl hg163)))))))))⟩
        intro wm163 hBm163; clear hx163
        replace hS := hS.below hBm163
        refine eseq_nil ?_
        refine hK156 _ _ ?_
        refine e_cond rfl (fun hc169 => ?_) (fun hc169 => ?_)
        · replace h := (if_pos hc169).symm.trans h
          refine e_seq fun K170 hK170 => ?_
          refine e_region_text rfl ?_
          refine q_assign rfl rfl ?_
          refine eseq_nil ?_
          refine hK170 _ _ ?_
          refine e_ret ?_
          obtain rfl := Option.some.inj h
          exact ⟨_, res1 rfl rfl, _, rfl, (hS.pickB [] 3 rfl rfl)⟩
        · replace h := (if_neg (not_true hc169)).symm.trans h
          refine e_skip ?_
          refine hK103 _ _ ?_
          refine e_seq fun K171 hK171 => ?_
          refine e_region_text rfl ?_
          refine q_assign rfl rfl ?_
          refine eseq_nil ?_
          refine hK171 _ _ ?_
          refine e_ret ?_
          obtain rfl := Option.some.inj h
          exact ⟨_, res1 rfl rfl, _, rfl, (hS.pickB [] 3 rfl rfl)⟩
    · replace h := (if_neg (not_true hc140)).symm.trans h
      refine e_seq fun K172 hK172 => ?_
      have hJ172 : ∀ (x177 : Bool) (R175 : Nat → Prop) (w176 : World) (E_ : Env), cascade_refusal_J1 fuel a1 a0 x177 = some r → Sep F R R175 w w176 [HP.blk bl100 [.int .i64 a1.kind, .int .i64 a1.proc, .int .i64 a1.other] 51] → Sub [(3, .pointer (some ⟨bl100, 0, none⟩)), (5, .int .i64 (a0.branches.length : Int)), (89, .bool x177)] E_ → K172 E_ w176 := by
        intro x177 R175 w176 E_ h hS  hsub
        refine hK172 _ _ (e_sub hsub ?_); clear hsub
        unfold cascade_refusal_J1 at h
        refine e_cond rfl (fun hc178 => ?_) (fun hc178 => ?_)
        · replace h := (if_pos hc178).symm.trans h
          refine e_seq fun K179 hK179 => ?_
          refine e_region_text rfl ?_
          refine q_field rfl rfl ?_
          refine q_load rfl (Blk.cell (hS.blk 0 rfl) rfl) rfl ?_
          refine q_lss rfl rfl rfl ?_
          refine q_move rfl rfl ?_
          obtain ⟨x183, hx182, h⟩ := Option.of_bind h
          refine g_orM 4 hx182 rfl trivial rfl rfl ?_ ?_ ?_
          · intro hg182
            refine g_skip rfl rfl rfl ?_
            refine g_skip rfl rfl rfl ?_
            refine g_skip rfl rfl rfl ?_
            refine g_skip rfl rfl rfl ?_
            exact eseq_nil ⟨rfl, Sub.set rfl (Sub.set rfl (Sub.set rfl (Sub.set rfl (Sub.bool true rfl hg182))))⟩
          · intro hg182 hx182
            clear h
            have hT182 := Below.refl (World.heap w176).size w176
            refine g_run rfl ?_; refine q_field rfl rfl ?_
            refine g_run rfl ?_; refine q_load rfl (Blk.cell (hS.blk 0 rfl) rfl) rfl ?_
            refine g_run rfl ?_; refine q_move rfl rfl ?_
            refine g_run rfl ?_; refine q_geq rfl rfl rfl ?_
            cases hx182
            exact eseq_nil ⟨hT182, Sub.set rfl (Sub.set rfl (Sub.set rfl (Sub.set rfl (Sub.bool false rfl hg182)))), rfl⟩
          intro wm182 hBm182; clear hx182
          replace hS := hS.below hBm182
          refine eseq_nil ?_
          refine hK179 _ _ ?_
          refine e_cond rfl (fun hc184 => ?_) (fun hc184 => ?_)
          · replace h := (if_pos hc184).symm.trans h
            refine e_seq fun K185 hK185 => ?_
            refine e_region_text rfl ?_
            refine q_assign rfl rfl ?_
            refine eseq_nil ?_
            refine hK185 _ _ ?_
            refine e_ret ?_
            obtain rfl := Option.some.inj h
            exact ⟨_, res1 rfl rfl, _, rfl, (hS.pickB [] 1 rfl rfl)⟩
          · replace h := (if_neg (not_true hc184)).symm.trans h
            refine e_skip ?_
            refine hK103 _ _ ?_
            refine e_seq fun K186 hK186 => ?_
            refine e_region_text rfl ?_
            refine q_assign rfl rfl ?_
            refine eseq_nil ?_
            refine hK186 _ _ ?_
            refine e_ret ?_
            obtain rfl := Option.some.inj h
            exact ⟨_, res1 rfl rfl, _, rfl, (hS.pickB [] 1 rfl rfl)⟩
        · replace h := (if_neg (not_true hc178)).symm.trans h
          refine e_seq fun K187 hK187 => ?_
          refine e_region_text rfl ?_
          refine q_assign rfl rfl ?_
          refine eseq_nil ?_
          refine hK187 _ _ ?_
          refine e_ret ?_
          obtain rfl := Option.some.inj h
          exact ⟨_, res1 rfl rfl, _, rfl, (hS.pickB [] 1 rfl rfl)⟩
      refine e_seq fun K188 hK188 => ?_
      refine e_region_text rfl ?_
      refine q_eql rfl rfl rfl ?_
      refine q_assign rfl rfl ?_
      refine eseq_nil ?_
      refine hK188 _ _ ?_
      refine e_cond rfl (fun hc189 => ?_) (fun hc189 => ?_)
      · replace h := (if_pos hc189).symm.trans h
        refine e_skip ?_
        exact hJ172 (a1.kind == 3) _ _ _ h (hS.pickB [0] 2 rfl rfl)  (Sub.cons rfl (Sub.cons rfl (Sub.cons rfl (Sub.nil _))))
      · replace h := (if_neg (not_true hc189)).symm.trans h
        refine e_region_text rfl ?_
        refine q_eql rfl rfl rfl ?_
        refine q_assign rfl rfl ?_
        refine eseq_nil ?_
        exact hJ172 (a1.kind == 4) _ _ _ h (hS.pickB [0] 2 rfl rfl)  (Sub.cons rfl (Sub.cons rfl (Sub.cons rfl (Sub.nil _))))
theorem ref33_refuse_w {F R : Nat → Prop} {w : World} {fuel : Nat} {a0 : Cascade} {a1 : Shock} {v1 : Value} {v2 : Value} {r : (Int)} (hS : Sep F R R w w []) (f1 : IsSlice branchTy w R v1 a0.branches) (f2 : IsSlice letterTy w R v2 a0.flight) (h : ref33_refuse fuel a0 a1 = some r) :
    Gives Try.prog 45 [.agg #[v1, v2], .agg #[.int .i64 a1.kind, .int .i64 a1.proc, .int .i64 a1.other]] w fun u w1 => ∃ (R1 : Nat → Prop), u = .int .i64 r ∧ Sep F R R1 w w1 [] := by
  refine fn_of Try.func45 rfl Try.ntmps45 (Nat.le_of_ble_eq_true rfl) ?_
  unfold ref33_refuse at h
  refine e_seq fun K111 hK111 => ?_
  refine e_region_text rfl ?_
  refine q_boxB rfl rfl rfl fun w112 bl112 hg112 hb112 hB112 => ?_
  replace f1 := f1.ext hB112
  replace f2 := f2.ext hB112
  replace hS := hS.newBlk hB112 hg112 hb112
  refine q_boxB rfl rfl rfl fun w114 bl114 hg114 hb114 hB114 => ?_
  replace f1 := f1.ext hB114
  replace f2 := f2.ext hB114
  replace hS := hS.newBlk hB114 hg114 hb114
  refine q_assign rfl rfl ?_
  refine eseq_nil ?_
  refine hK111 _ _ ?_
  refine e_seq fun K116 hK116 => ?_
  refine e_region_text rfl ?_
  refine q_field rfl rfl ?_
  refine q_load rfl (Blk.cell (hS.blk 1 rfl) rfl) rfl ?_
  refine q_lenS rfl f1 rfl ?_
  refine q_assign rfl rfl ?_
  refine eseq_nil ?_
  refine hK116 _ _ ?_
  refine e_seq fun K117 hK117 => ?_
  refine e_seq fun K118 hK118 => ?_
  refine e_region_text rfl ?_
  refine q_field rfl rfl ?_
  refine q_load rfl (Blk.cell (hS.blk 0 rfl) rfl) rfl ?_
  refine q_lss rfl rfl rfl ?_
  refine q_move rfl rfl ?_
  obtain ⟨x122, hx121, h⟩ := Option.of_bind h
  refine g_orM 3 hx121 rfl trivial rfl rfl ?_ ?_ ?_
  · intro hg121
    refine g_skip rfl rfl rfl ?_
    refine g_skip rfl rfl rfl ?_
    refine g_skip rfl rfl rfl ?_
    exact eseq_nil ⟨rfl, Sub.set rfl (Sub.set rfl (Sub.set rfl (Sub.bool true rfl hg121)))⟩
  · intro hg121 hx121
    clear h
    have hT121 := Below.refl (World.heap w114).size w114
    refine g_run rfl ?_; refine q_field rfl rfl ?_
    refine g_run rfl ?_; refine q_load rfl (Blk.cell (hS.blk 0 rfl) rfl) rfl ?_
    refine g_run rfl ?_; refine q_gtr rfl rfl rfl ?_
    cases hx121
    exact eseq_nil ⟨hT121, Sub.set rfl (Sub.set rfl (Sub.set rfl (Sub.bool false rfl hg121))), rfl⟩
  intro wm121 hBm121; clear hx121
  replace hS := hS.below hBm121
  replace f1 := f1.ext hBm121
  replace f2 := f2.ext hBm121
  refine q_move rfl rfl ?_
  obtain ⟨x130, hx129, h⟩ := Option.of_bind h
  refine g_orM 14 hx129 rfl trivial rfl rfl ?_ ?_ ?_
  · intro hg129
    refine g_skip rfl rfl rfl ?_
    refine g_skip rfl rfl rfl ?_
    refine g_skip rfl rfl rfl ?_
    refine g_skip rfl rfl rfl ?_
    refine g_skipU rfl rfl ?_
    refine g_skipU rfl rfl ?_
    refine g_skipU rfl rfl ?_
    refine g_skipU rfl rfl ?_
    refine g_skipU rfl rfl ?_
    refine g_skipU rfl rfl ?_
    refine g_skipU rfl rfl ?_
    refine g_skipU rfl rfl ?_
    refine g_skipU rfl rfl ?_
    refine g_skip rfl rfl rfl ?_
    exact eseq_nil ⟨rfl, Sub.set rfl (Sub.set rfl (Sub.set rfl (Sub.set rfl (Sub.set rfl (Sub.set rfl (Sub.set rfl (Sub.set rfl (Sub.set rfl (Sub.set rfl (Sub.set rfl (Sub.set rfl (Sub.set rfl (Sub.set rfl (Sub.bool true rfl hg129))))))))))))))⟩
  · intro hg129 hx129
    clear h
    have hT129 := Below.refl (World.heap wm121).size wm121
    refine g_run rfl ?_; refine q_field rfl rfl ?_
    refine g_run rfl ?_; refine q_load rfl (Blk.cell (hS.blk 0 rfl) rfl) rfl ?_
    refine g_run rfl ?_; refine q_neq rfl rfl rfl ?_
    refine g_run rfl ?_; refine q_move rfl rfl ?_
    obtain ⟨x132, hx131, hx129⟩ := Option.of_bind hx129
    refine g_andM 9 hx131 rfl rfl rfl rfl ?_ ?_ ?_
    · intro hg131 hx131
      clear hx129
      have hT131 := Below.refl (World.heap wm121).size wm121
      refine g_run rfl ?_; refine q_field rfl rfl ?_
      refine g_run rfl ?_; refine q_load rfl (Blk.cell (hS.blk 0 rfl) rfl) rfl ?_
      refine g_run rfl ?_; refine q_lss rfl rfl rfl ?_
      refine g_run rfl ?_; refine q_move rfl rfl ?_
      obtain ⟨x134, hx133, hx131⟩ := Option.of_bind hx131
      refine g_orM 4 hx133 rfl rfl rfl rfl ?_ ?_ ?_
      · intro hg133
        refine g_skip rfl rfl rfl ?_
        refine g_skip rfl rfl rfl ?_
        refine g_skip rfl rfl rfl ?_
        refine g_skip rfl rfl rfl ?_
        exact eseq_nil ⟨rfl, Sub.set rfl (Sub.set rfl (Sub.set rfl (Sub.set rfl (Sub.bool true rfl hg133))))⟩
      · intro hg133 hx133
        clear hx131
        have hT133 := Below.refl (World.heap wm121).size wm121
        refine g_run rfl ?_; refine q_field rfl rfl ?_
        refine g_run rfl ?_; refine q_load rfl (Blk.cell (hS.blk 0 rfl) rfl) rfl ?_
        refine g_run rfl ?_; refine q_move rfl rfl ?_
        refine g_run rfl ?_; refine q_geq rfl rfl rfl ?_
        cases hx133
        exact eseq_nil ⟨hT133, Sub.set rfl (Sub.set rfl (Sub.set rfl (Sub.set rfl (Sub.bool false rfl hg133)))), rfl⟩
      intro wm133 hBm133; clear hx133
      replace hS := hS.below hBm133
      replace f1 := f1.ext hBm133
      replace f2 := f2.ext hBm133
      replace hT129 := hT129.trans (Below.mono hBm133 hT129.size)
      replace hT131 := hT131.trans (Below.mono hBm133 hT131.size)
      cases hx131
      exact eseq_nil ⟨hT131, Sub.set rfl (Sub.set rfl (Sub.set rfl (Sub.set rfl (Sub.set rfl (Sub.bool true rfl hg131))))), rfl⟩
    · intro hg131
      refine g_skip rfl rfl rfl ?_
      refine g_skip rfl rfl rfl ?_
      refine g_skip rfl rfl rfl ?_
      refine g_skip rfl rfl rfl ?_
      refine g_skipU rfl rfl ?_
      refine g_skipU rfl rfl ?_
      refine g_skipU rfl rfl ?_
      refine g_skipU rfl rfl ?_
      refine g_skip rfl rfl rfl ?_
      exact eseq_nil ⟨rfl, Sub.set rfl (Sub.set rfl (Sub.set rfl (Sub.set rfl (Sub.set rfl (Sub.set rfl (Sub.set rfl (Sub.set rfl (Sub.set rfl (Sub.bool false rfl hg131)))))))))⟩
    intro wm131 hBm131; clear hx131
    replace hS := hS.below hBm131
    replace f1 := f1.ext hBm131
    replace f2 := f2.ext hBm131
    replace hT129 := hT129.trans (Below.mono hBm131 hT129.size)
    cases hx129
    exact eseq_nil ⟨hT129, Sub.set rfl (Sub.set rfl (Sub.set rfl (Sub.set rfl (Sub.set rfl (Sub.bool false rfl hg129))))), rfl⟩
  intro wm129 hBm129; clear hx129
  replace hS := hS.below hBm129
  replace f1 := f1.ext hBm129
  replace f2 := f2.ext hBm129
  refine q_move rfl rfl ?_
  obtain ⟨x144, hx143, h⟩ := Option.of_bind h
  refine g_orM 21 hx143 rfl trivial rfl rfl ?_ ?_ ?_
  · intro hg143
    refine g_skip rfl rfl rfl ?_
    refine g_skip rfl rfl rfl ?_
    refine g_skip rfl rfl rfl ?_
    refine g_skip rfl rfl rfl ?_
    refine g_skipU rfl rfl ?_
    refine g_skipU rfl rfl ?_
    refine g_skipU rfl rfl ?_
    refine g_skipU rfl rfl ?_
    refine g_skipU rfl rfl ?_
    refine g_skipU rfl rfl ?_
    refine g_skipU rfl rfl ?_
    refine g_skipU rfl rfl ?_
    refine g_skipU rfl rfl ?_
    refine g_skipU rfl rfl ?_
    refine g_skipU rfl rfl ?_
    refine g_skipU rfl rfl ?_
    refine g_skipU rfl rfl ?_
    refine g_skipU rfl rfl ?_
    refine g_skipU rfl rfl ?_
    refine g_skipU rfl rfl ?_
    refine g_skip rfl rfl rfl ?_
    exact eseq_nil ⟨rfl, Sub.set rfl (Sub.set rfl (Sub.set rfl (Sub.set rfl (Sub.set rfl (Sub.set rfl (Sub.set rfl (Sub.set rfl (Sub.set rfl (Sub.set rfl (Sub.set rfl (Sub.set rfl (Sub.set rfl (Sub.set rfl (Sub.set rfl (Sub.set rfl (Sub.set rfl (Sub.set rfl (Sub.set rfl (Sub.set rfl (Sub.set rfl (Sub.bool true rfl hg143)))))))))))))))))))))⟩
  · intro hg143 hx143
    clear h
    have hT143 := Below.refl (World.heap wm129).size wm129
    refine g_run rfl ?_; refine q_field rfl rfl ?_
    refine g_run rfl ?_; refine q_load rfl (Blk.cell (hS.blk 0 rfl) rfl) rfl ?_
    refine g_run rfl ?_; refine q_eql rfl rfl rfl ?_
    refine g_run rfl ?_; refine q_move rfl rfl ?_
    obtain ⟨x146, hx145, hx143⟩ := Option.of_bind hx143
    refine g_andM 16 hx145 rfl rfl rfl rfl ?_ ?_ ?_
    · intro hg145 hx145
      clear hx143
      have hT145 := Below.refl (World.heap wm129).size wm129
      refine g_run rfl ?_; refine q_field rfl rfl ?_
      refine g_run rfl ?_; refine q_load rfl (Blk.cell (hS.blk 0 rfl) rfl) rfl ?_
      refine g_run rfl ?_; refine q_lss rfl rfl rfl ?_
      refine g_run rfl ?_; refine q_move rfl rfl ?_
      obtain ⟨x148, hx147, hx145⟩ := Option.of_bind hx145
      refine g_orM 4 hx147 rfl rfl rfl rfl ?_ ?_ ?_
      · intro hg147
        refine g_skip rfl rfl rfl ?_
        refine g_skip rfl rfl rfl ?_
        refine g_skip rfl rfl rfl ?_
        refine g_skip rfl rfl rfl ?_
        exact eseq_nil ⟨rfl, Sub.set rfl (Sub.set rfl (Sub.set rfl (Sub.set rfl (Sub.bool true rfl hg147))))⟩
      · intro hg147 hx147
        clear hx145
        have hT147 := Below.refl (World.heap wm129).size wm129
        refine g_run rfl ?_; refine q_field rfl rfl ?_
        refine g_run rfl ?_; refine q_load rfl (Blk.cell (hS.blk 0 rfl) rfl) rfl ?_
        refine g_run rfl ?_; refine q_move rfl rfl ?_
        refine g_run rfl ?_; refine q_geq rfl rfl rfl ?_
        cases hx147
        exact eseq_nil ⟨hT147, Sub.set rfl (Sub.set rfl (Sub.set rfl (Sub.set rfl (Sub.bool false rfl hg147)))), rfl⟩
      intro wm147 hBm147; clear hx147
      replace hS := hS.below hBm147
      replace f1 := f1.ext hBm147
      replace f2 := f2.ext hBm147
      replace hT143 := hT143.trans (Below.mono hBm147 hT143.size)
      replace hT145 := hT145.trans (Below.mono hBm147 hT145.size)
      refine g_run rfl ?_; refine q_move rfl rfl ?_
      obtain ⟨x150, hx149, hx145⟩ := Option.of_bind hx145
      refine g_orM 5 hx149 rfl rfl rfl rfl ?_ ?_ ?_
      · intro hg149
        refine g_skip rfl rfl rfl ?_
        refine g_skip rfl rfl rfl ?_
        refine g_skip rfl rfl rfl ?_
        refine g_skip rfl rfl rfl ?_
        refine g_skip rfl rfl rfl ?_
        exact eseq_nil ⟨rfl, Sub.set rfl (Sub.set rfl (Sub.set rfl (Sub.set rfl (Sub.set rfl (Sub.bool true rfl hg149)))))⟩
      · intro hg149 hx149
        clear hx145
        have hT149 := Below.refl (World.heap wm147).size wm147
        refine g_run rfl ?_; refine q_field rfl rfl ?_
        refine g_run rfl ?_; refine q_load rfl (Blk.cell (hS.blk 0 rfl) rfl) rfl ?_
        refine g_run rfl ?_; refine q_field rfl rfl ?_
        refine g_run rfl ?_; refine q_load rfl (Blk.cell (hS.blk 0 rfl) rfl) rfl ?_
        refine g_run rfl ?_; refine q_eql rfl rfl rfl ?_
        cases hx149
        exact eseq_nil ⟨hT149, Sub.set rfl (Sub.set rfl (Sub.set rfl (Sub.set rfl (Sub.set rfl (Sub.bool false rfl hg149))))), rfl⟩
      intro wm149 hBm149; clear hx149
      replace hS := hS.below hBm149
      replace f1 := f1.ext hBm149
      replace f2 := f2.ext hBm149
      replace hT143 := hT143.trans (Below.mono hBm149 hT143.size)
      replace hT145 := hT145.trans (Below.mono hBm149 hT145.size)
      cases hx145
      exact eseq_nil ⟨hT145, Sub.set rfl (Sub.set rfl (Sub.set rfl (Sub.set rfl (Sub.set rfl (Sub.set rfl (Sub.set rfl (Sub.bool true rfl hg145))))))), rfl⟩
    · intro hg145
      refine g_skip rfl rfl rfl ?_
      refine g_skip rfl rfl rfl ?_
      refine g_skip rfl rfl rfl ?_
      refine g_skip rfl rfl rfl ?_
      refine g_skipU rfl rfl ?_
      refine g_skipU rfl rfl ?_
      refine g_skipU rfl rfl ?_
      refine g_skipU rfl rfl ?_
      refine g_skip rfl rfl rfl ?_
      refine g_skip rfl rfl rfl ?_
      refine g_skipU rfl rfl ?_
      refine g_skipU rfl rfl ?_
      refine g_skipU rfl rfl ?_
      refine g_skipU rfl rfl ?_
      refine g_skipU rfl rfl ?_
      refine g_skip rfl rfl rfl ?_
      exact eseq_nil ⟨rfl, Sub.set rfl (Sub.set rfl (Sub.set rfl (Sub.set rfl (Sub.set rfl (Sub.set rfl (Sub.set rfl (Sub.set rfl (Sub.set rfl (Sub.set rfl (Sub.set rfl (Sub.set rfl (Sub.set rfl (Sub.set rfl (Sub.set rfl (Sub.set rfl (Sub.bool false rfl hg145))))))))))))))))⟩
    intro wm145 hBm145; clear hx145
    replace hS := hS.below hBm145
    replace f1 := f1.ext hBm145
    replace f2 := f2.ext hBm145
    replace hT143 := hT143.trans (Below.mono hBm145 hT143.size)
    cases hx143
    exact eseq_nil ⟨hT143, Sub.set rfl (Sub.set rfl (Sub.set rfl (Sub.set rfl (Sub.set rfl (Sub.bool false rfl hg143))))), rfl⟩
  intro wm143 hBm143; clear hx143
  replace hS := hS.below hBm143
  replace f1 := f1.ext hBm143
  replace f2 := f2.ext hBm143
  refine eseq_nil ?_
  refine hK118 _ _ ?_
  refine e_cond rfl (fun hc151 => ?_) (fun hc151 => ?_)
  · replace h := (if_pos hc151).symm.trans h
    refine e_seq fun K152 hK152 => ?_
    refine e_region_text rfl ?_
    refine q_assign rfl rfl ?_
    refine eseq_nil ?_
    refine hK152 _ _ ?_
    refine e_ret ?_
    obtain rfl := Option.some.inj h
    exact ⟨_, res1 rfl rfl, _, rfl, (hS.pickB [] 2 rfl rfl)⟩
  · replace h := (if_neg (not_true hc151)).symm.trans h
    refine e_skip ?_
    refine hK117 _ _ ?_
    refine e_seq fun K153 hK153 => ?_
    refine e_seq fun K154 hK154 => ?_
    refine e_region_text rfl ?_
    refine q_field rfl rfl ?_
    refine q_load rfl (Blk.cell (hS.blk 0 rfl) rfl) rfl ?_
    refine q_eql rfl rfl rfl ?_
    refine q_move rfl rfl ?_
    obtain ⟨x160, hx159, h⟩ := Option.of_bind h
    refine g_andM 11 hx159 rfl trivial rfl rfl ?_ ?_ ?_
    · intro hg159 hx159
      clear h
      have hT159 := Below.refl (World.heap wm143).size wm143
      refine g_run rfl ?_; refine q_field rfl rfl ?_
      refine g_run rfl ?_; refine q_load rfl (Blk.cell (hS.blk 0 rfl) rfl) rfl ?_
      refine g_run rfl ?_; refine q_lss rfl rfl rfl ?_
      refine g_run rfl ?_; refine q_move rfl rfl ?_
      obtain ⟨x162, hx161, hx159⟩ := Option.of_bind hx159
      refine g_orM 6 hx161 rfl rfl rfl rfl ?_ ?_ ?_
      · intro hg161
        refine g_skip rfl rfl rfl ?_
        refine g_skip rfl rfl rfl ?_
        refine g_skip rfl rfl rfl ?_
        refine g_skip rfl rfl rfl ?_
        refine g_skip rfl rfl rfl ?_
        refine g_skip rfl rfl rfl ?_
        exact eseq_nil ⟨rfl, Sub.set rfl (Sub.set rfl (Sub.set rfl (Sub.set rfl (Sub.set rfl (Sub.set rfl (Sub.bool true rfl hg161))))))⟩
      · intro hg161 hx161
        clear hx159
        have hT161 := Below.refl (World.heap wm143).size wm143
        refine g_run rfl ?_; refine q_field rfl rfl ?_
        refine g_run rfl ?_; refine q_load rfl (Blk.cell (hS.blk 0 rfl) rfl) rfl ?_
        refine g_run rfl ?_; refine q_field rfl rfl ?_
        refine g_run rfl ?_; refine q_load rfl (Blk.cell (hS.blk 1 rfl) rfl) rfl ?_
        refine g_run rfl ?_; refine q_lenS rfl f2 rfl ?_
        refine g_run rfl ?_; refine q_geq rfl rfl rfl ?_
        cases hx161
        exact eseq_nil ⟨hT161, Sub.set rfl (Sub.set rfl (Sub.set rfl (Sub.set rfl (Sub.set rfl (Sub.set rfl (Sub.bool false rfl hg161)))))), rfl⟩
      intro wm161 hBm161; clear hx161
      replace hS := hS.below hBm161
      replace f1 := f1.ext hBm161
      replace f2 := f2.ext hBm161
      replace hT159 := hT159.trans (Below.mono hBm161 hT159.size)
      cases hx159
      exact eseq_nil ⟨hT159, Sub.set rfl (Sub.set rfl (Sub.set rfl (Sub.set rfl (Sub.set rfl (Sub.bool true rfl hg159))))), rfl⟩
    · intro hg159
      refine g_skip rfl rfl rfl ?_
      refine g_skip rfl rfl rfl ?_
      refine g_skip rfl rfl rfl ?_
      refine g_skip rfl rfl rfl ?_
      refine g_skipU rfl rfl ?_
      refine g_skipU rfl rfl ?_
      refine g_skipU rfl rfl ?_
      refine g_skipU rfl rfl ?_
      refine g_skipU rfl rfl ?_
      refine g_skipU rfl rfl ?_
      refine g_skip rfl rfl rfl ?_
      exact eseq_nil ⟨rfl, Sub.set rfl (Sub.set rfl (Sub.set rfl (Sub.set rfl (Sub.set rfl (Sub.set rfl (Sub.set rfl (Sub.set rfl (Sub.set rfl (Sub.set rfl (Sub.set rfl (Sub.bool false rfl hg159)))))))))))⟩
    intro wm159 hBm159; clear hx159
    replace hS := hS.below hBm159
    replace f1 := f1.ext hBm159
    replace f2 := f2.ext hBm159
    refine eseq_nil ?_
    refine hK154 _ _ ?_
    refine e_cond rfl (fun hc163 => ?_) (fun hc163 => ?_)
    · replace h := (if_pos hc163).symm.trans h
      refine e_seq fun K164 hK164 => ?_
      refine e_region_text rfl ?_
      refine q_assign rfl rfl ?_
      refine eseq_nil ?_
      refine hK164 _ _ ?_
      refine e_ret ?_
      obtain rfl := Option.some.inj h
      exact ⟨_, res1 rfl rfl, _, rfl, (hS.pickB [] 2 rfl rfl)⟩
    · replace h := (if_neg (not_true hc163)).symm.trans h
      refine e_skip ?_
      refine hK153 _ _ ?_
      refine e_seq fun K165 hK165 => ?_
      refine e_seq fun K166 hK166 => ?_
      refine e_region_text rfl ?_
      refine q_field rfl rfl ?_
      refine q_load rfl (Blk.cell (hS.blk 0 rfl) rfl) rfl ?_
      refine q_eql rfl rfl rfl ?_
      refine q_move rfl rfl ?_
      obtain ⟨x176, hx175, h⟩ := Option.of_bind h
      refine g_andM 15 hx175 rfl trivial rfl rfl ?_ ?_ ?_
      · intro hg175 hx175
        clear h
        have hT175 := Below.refl (World.heap wm159).size wm159
        refine g_run rfl ?_; refine q_field rfl rfl ?_
        refine g_run rfl ?_; refine q_load rfl (Blk.cell (hS.blk 1 rfl) rfl) rfl ?_
        refine g_run rfl ?_; refine q_field rfl rfl ?_
        refine g_run rfl ?_; refine q_load rfl (Blk.cell (hS.blk 0 rfl) rfl) rfl ?_
        obtain ⟨x177, hx177, hx175⟩ := Option.of_bind hx175
        refine g_run rfl ?_; refine q_atS (by infer_instance) rfl f1 rfl hx177 rfl fun b178 o178 hm178 f178 => ?_
        refine g_run rfl ?_; refine q_field rfl rfl ?_
        have f179 := Branch_F1 f178
        refine g_run rfl ?_; refine q_loadE rfl f179 rfl (fun v180 f180 => ?_)
        refine g_run rfl ?_; refine q_lenS rfl f180 rfl ?_
        refine g_run rfl ?_; refine q_geq rfl rfl rfl ?_
        refine g_run rfl ?_; refine q_move rfl rfl ?_
        obtain ⟨x182, hx181, hx175⟩ := Option.of_bind hx175
        refine g_orM 4 hx181 rfl rfl rfl rfl ?_ ?_ ?_
        · intro hg181
          refine g_skip rfl rfl rfl ?_
          refine g_skip rfl rfl rfl ?_
          refine g_skip rfl rfl rfl ?_
          refine g_skip rfl rfl rfl ?_
          exact eseq_nil ⟨rfl, Sub.set rfl (Sub.set rfl (Sub.set rfl (Sub.set rfl (Sub.bool true rfl hg181))))⟩
        · intro hg181 hx181
          clear hx175
          have hT181 := Below.refl (World.heap wm159).size wm159
          refine g_run rfl ?_; refine q_field rfl rfl ?_
          refine g_run rfl ?_; refine q_load rfl (Blk.cell (hS.blk 1 rfl) rfl) rfl ?_
          refine g_run rfl ?_; refine q_lenS rfl f2 rfl ?_
          refine g_run rfl ?_; refine q_geq rfl rfl rfl ?_
          cases hx181
          exact eseq_nil ⟨hT181, Sub.set rfl (Sub.set rfl (Sub.set rfl (Sub.set rfl (Sub.bool false rfl hg181)))), rfl⟩
        intro wm181 hBm181; clear hx181
        replace hS := hS.below hBm181
        replace f1 := f1.ext hBm181
        replace f2 := f2.ext hBm181
        replace hT175 := hT175.trans (Below.mono hBm181 hT175.size)
        cases hx175
        exact eseq_nil ⟨hT175, Sub.set rfl (Sub.set rfl (Sub.set rfl (Sub.set rfl (Sub.set rfl (Sub.set rfl (Sub.set rfl (Sub.set rfl (Sub.set rfl (Sub.set rfl (Sub.set rfl (Sub.bool true rfl hg175))))))))))), rfl⟩
      · intro hg175
        refine g_skip rfl rfl rfl ?_
        refine g_skip rfl rfl rfl ?_
        refine g_skip rfl rfl rfl ?_
        refine g_skip rfl rfl rfl ?_
        refine g_skip rfl rfl rfl ?_
        refine g_skip rfl rfl rfl ?_
        refine g_skip rfl rfl rfl ?_
        refine g_skip rfl rfl rfl ?_
        refine g_skip rfl rfl rfl ?_
        refine g_skip rfl rfl rfl ?_
        refine g_skipU rfl rfl ?_
        refine g_skipU rfl rfl ?_
        refine g_skipU rfl rfl ?_
        refine g_skipU rfl rfl ?_
        refine g_skip rfl rfl rfl ?_
        exact eseq_nil ⟨rfl, Sub.set rfl (Sub.set rfl (Sub.set rfl (Sub.set rfl (Sub.set rfl (Sub.set rfl (Sub.set rfl (Sub.set rfl (Sub.set rfl (Sub.set rfl (Sub.set rfl (Sub.set rfl (Sub.set rfl (Sub.set rfl (Sub.set rfl (Sub.bool false rfl hg175)))))))))))))))⟩
      intro wm175 hBm175; clear hx175
      replace hS := hS.below hBm175
      replace f1 := f1.ext hBm175
      replace f2 := f2.ext hBm175
      refine eseq_nil ?_
      refine hK166 _ _ ?_
      refine e_cond rfl (fun hc183 => ?_) (fun hc183 => ?_)
      · replace h := (if_pos hc183).symm.trans h
        refine e_seq fun K184 hK184 => ?_
        refine e_region_text rfl ?_
        refine q_assign rfl rfl ?_
        refine eseq_nil ?_
        refine hK184 _ _ ?_
        refine e_ret ?_
        obtain rfl := Option.some.inj h
        exact ⟨_, res1 rfl rfl, _, rfl, (hS.pickB [] 2 rfl rfl)⟩
      · replace h := (if_neg (not_true hc183)).symm.trans h
        refine e_skip ?_
        refine hK165 _ _ ?_
        refine e_seq fun K185 hK185 => ?_
        refine e_seq fun K186 hK186 => ?_
        refine e_region_draw mixed (fun _ => False) [0, 1, 3, 7, 15, 31, 15, 79, 255, 511, 1023, 2047, 4095, 8191, 16383, 32767, 16383, 81919, 16383, 278527, 999423, 2047999, 4145151, 8388607, 16777215, 33554431, 67108863, 134217727, 268435455] [] [0, 1, 2, 3, 4, 5, 6, 7, 8, 9, 10, 11, 12, 13, 14, 15, 16, 17, 18, 19, 20, 21, 22, 23, 24, 25, 26, 27, 28] (by kernel_rfl) ?_
        refine q_field rfl rfl ?_
        refine q_load rfl (Blk.cell (hS.blk 0 rfl) rfl) rfl ?_
        refine q_eql rfl rfl rfl ?_
        refine q_move rfl rfl ?_
        obtain ⟨x193, hx192, h⟩ := Option.of_bind h
        refine g_andM 8 hx192 rfl trivial rfl rfl ?_ ?_ ?_
        · intro hg192 hx192
          clear h
          have hT192 := Below.refl (World.heap wm175).size wm175
          refine g_run rfl ?_; refine q_field rfl rfl ?_
          refine g_run rfl ?_; refine q_load rfl (Blk.cell (hS.blk 1 rfl) rfl) rfl ?_
          refine g_run rfl ?_; refine q_field rfl rfl ?_
          refine g_run rfl ?_; refine q_load rfl (Blk.cell (hS.blk 0 rfl) rfl) rfl ?_
          obtain ⟨x194, hx194, hx192⟩ := Option.of_bind hx192
          refine g_run rfl ?_; refine q_atS (by infer_instance) rfl f2 rfl hx194 rfl fun b195 o195 hm195 f195 => ?_
          refine g_run rfl ?_; refine q_field rfl rfl ?_
          have f196 := Letter_F2 f195
          refine g_run rfl ?_; refine q_load rfl (Elt.boolCell f196) rfl ?_
          refine g_run rfl ?_; refine q_not rfl rfl ?_
          cases hx192
          exact eseq_nil ⟨hT192, Sub.set rfl (Sub.set rfl (Sub.set rfl (Sub.set rfl (Sub.set rfl (Sub.set rfl (Sub.set rfl (Sub.set rfl (Sub.bool true rfl hg192)))))))), rfl⟩
        · intro hg192
          refine g_skip rfl rfl rfl ?_
          refine g_skip rfl rfl rfl ?_
          refine g_skip rfl rfl rfl ?_
          refine g_skip rfl rfl rfl ?_
          refine g_skip rfl rfl rfl ?_
          refine g_skip rfl rfl rfl ?_
          refine g_skip rfl rfl rfl ?_
          refine g_skip rfl rfl rfl ?_
          exact eseq_nil ⟨rfl, Sub.set rfl (Sub.set rfl (Sub.set rfl (Sub.set rfl (Sub.set rfl (Sub.set rfl (Sub.set rfl (Sub.set rfl (Sub.bool false rfl hg192))))))))⟩
        intro wm192 hBm192; clear hx192
        replace hS := hS.below hBm192
        replace f1 := f1.ext hBm192
        replace f2 := f2.ext hBm192
        refine q_move rfl rfl ?_
        obtain ⟨x207, hx206, h⟩ := Option.of_bind h
        refine g_andM 14 hx206 rfl trivial rfl rfl ?_ ?_ ?_
        · intro hg206 hx206
          clear h
          have hT206 := Below.refl (World.heap wm192).size wm192
          refine g_run rfl ?_; refine q_field rfl rfl ?_
          refine g_run rfl ?_; refine q_load rfl (Blk.cell (hS.blk 1 rfl) rfl) rfl ?_
          refine g_run rfl ?_; refine q_field rfl rfl ?_
          refine g_run rfl ?_; refine q_load rfl (Blk.cell (hS.blk 1 rfl) rfl) rfl ?_
          refine g_run rfl ?_; refine q_field rfl rfl ?_
          refine g_run rfl ?_; refine q_load rfl (Blk.cell (hS.blk 0 rfl) rfl) rfl ?_
          obtain ⟨x208, hx208, hx206⟩ := Option.of_bind hx206
          refine g_run rfl ?_; refine q_atS (by infer_instance) rfl f2 rfl hx208 rfl fun b209 o209 hm209 f209 => ?_
          refine g_run rfl ?_; refine q_field rfl rfl ?_
          have f210 := Letter_F1 f209
          refine g_run rfl ?_; refine q_load rfl (Elt.intCell f210) rfl ?_
          obtain ⟨x211, hx211, hx206⟩ := Option.of_bind hx206
          refine g_run rfl ?_; refine q_atS (by infer_instance) rfl f1 rfl hx211 rfl fun b212 o212 hm212 f212 => ?_
          refine g_run rfl ?_; refine q_field rfl rfl ?_
          have f213 := Branch_F1 f212
          refine g_run rfl ?_; refine q_loadE rfl f213 rfl (fun v214 f214 => ?_)
          refine g_run rfl ?_; refine q_lenS rfl f214 rfl ?_
          refine g_run rfl ?_; refine q_geq rfl rfl rfl ?_
          cases hx206
          exact eseq_nil ⟨hT206, Sub.set rfl (Sub.set rfl (Sub.set rfl (Sub.set rfl (Sub.set rfl (Sub.set rfl (Sub.set rfl (Sub.set rfl (Sub.set rfl (Sub.set rfl (Sub.set rfl (Sub.set rfl (Sub.set rfl (Sub.set rfl (Sub.bool true rfl hg206)))))))))))))), rfl⟩
        · intro hg206
          refine g_skip rfl rfl rfl ?_
          refine g_skip rfl rfl rfl ?_
          refine g_skip rfl rfl rfl ?_
          refine g_skip rfl rfl rfl ?_
          refine g_skip rfl rfl rfl ?_
          refine g_skip rfl rfl rfl ?_
          refine g_skip rfl rfl rfl ?_
          refine g_skip rfl rfl rfl ?_
          refine g_skip rfl rfl rfl ?_
          refine g_skip rfl rfl rfl ?_
          refine g_skip rfl rfl rfl ?_
          refine g_skip rfl rfl rfl ?_
          refine g_skip rfl rfl rfl ?_
          refine g_skip rfl rfl rfl ?_
          exact eseq_nil ⟨rfl, Sub.set rfl (Sub.set rfl (Sub.set rfl (Sub.set rfl (Sub.set rfl (Sub.set rfl (Sub.set rfl (Sub.set rfl (Sub.set rfl (Sub.set rfl (Sub.set rfl (Sub.set rfl (Sub.set rfl (Sub.set rfl (Sub.bool false rfl hg206))))))))))))))⟩
        intro wm206 hBm206; clear hx206
        replace hS := hS.below hBm206
        refine eseq_nil ?_
        refine hK186 _ _ ?_
        refine e_cond rfl (fun hc215 => ?_) (fun hc215 => ?_)
        · replace h := (if_pos hc215).symm.trans h
          refine e_seq fun K216 hK216 => ?_
          refine e_region_text rfl ?_
          refine q_assign rfl rfl ?_
          refine eseq_nil ?_
          refine hK216 _ _ ?_
          refine e_ret ?_
          obtain rfl := Option.some.inj h
          exact ⟨_, res1 rfl rfl, _, rfl, (hS.pickB [] 2 rfl rfl)⟩
        · replace h := (if_neg (not_true hc215)).symm.trans h
          refine e_skip ?_
          refine hK185 _ _ ?_
          refine e_seq fun K217 hK217 => ?_
          refine e_region_text rfl ?_
          refine q_assign rfl rfl ?_
          refine eseq_nil ?_
          refine hK217 _ _ ?_
          refine e_ret ?_
          obtain rfl := Option.some.inj h
          exact ⟨_, res1 rfl rfl, _, rfl, (hS.pickB [] 2 rfl rfl)⟩
theorem cascade_news_1_w {F R : Nat → Prop} {w : World} {fuel : Nat} {a0 : Letter} {r : (Bool)} (hS : Sep F R R w w []) (h : cascade_news_1 fuel a0 = some r) :
    Gives Try.prog 64 [.agg #[.int .i64 a0.frm, .int .i64 a0.to, .bool a0.news, .int .i64 a0.sent.inc, .int .i64 a0.sent.index, .int .i64 a0.end_.proc, .int .i64 a0.end_.inc, .int .i64 a0.end_.index]] w fun u w1 => ∃ (R1 : Nat → Prop), u = .bool r ∧ Sep F R R1 w w1 [] := by
  refine fn_of Try.func64 rfl Try.ntmps64 (Nat.le_of_ble_eq_true rfl) ?_
  unfold cascade_news_1 at h
  refine e_seq fun K5 hK5 => ?_
  refine e_region_text rfl ?_
  refine q_boxB rfl rfl rfl fun w6 bl6 hg6 hb6 hB6 => ?_
  replace hS := hS.newBlk hB6 hg6 hb6
  refine q_assign rfl rfl ?_
  refine eseq_nil ?_
  refine hK5 _ _ ?_
  refine e_seq fun K8 hK8 => ?_
  refine e_region_text rfl ?_
  refine q_field rfl rfl ?_
  refine q_load rfl (Blk.cell (hS.blk 0 rfl) rfl) rfl ?_
  refine q_assign rfl rfl ?_
  refine eseq_nil ?_
  refine hK8 _ _ ?_
  refine e_ret ?_
  obtain rfl := Option.some.inj h
  exact ⟨_, res1 rfl rfl, _, rfl, (hS.pickB [] 1 rfl rfl)⟩
theorem IndexNews_w {F R : Nat → Prop} {w : World} {fuel : Nat} {a0 : (List Letter)} {v1 : Value} {r : (Int)} (hS : Sep F R R w w []) (f1 : IsSlice letterTy w R v1 a0) (h : IndexNews fuel a0 = some r) :
    Gives Try.prog 63 [v1, .func (.func 64) #[] #[]] w fun u w1 => ∃ (R1 : Nat → Prop), u = .int .i64 r ∧ Sep F R R1 w w1 [] := by
  refine fn_of Try.func63 rfl Try.ntmps63 (Nat.le_of_ble_eq_true rfl) ?_
  unfold IndexNews at h
  refine e_seq fun K63 hK63 => ?_
  refine e_region_text rfl ?_
  refine q_assign rfl rfl ?_
  refine eseq_nil ?_
  refine hK63 _ _ ?_
  refine e_seq fun K65 hK65 => ?_
  refine e_seq fun K66 hK66 => ?_
  refine e_region_text rfl ?_
  refine q_move rfl rfl ?_
  refine q_lenS rfl f1 rfl ?_
  refine q_move rfl rfl ?_
  refine eseq_nil ?_
  refine hK66 _ _ ?_
  refine e_block ?_
  obtain ⟨tl67, ht67, h⟩ := Option.of_bind h
  have hX67_0 : ∀ (R109 : Nat → Prop) (w110 : World) (E_ : Env), IndexNews_K1 fuel = some r → Sep F R R109 w w110 [] → Sub [] E_ → K65 E_ w110 := by
    intro R109 w110 E_ h hS  hsub
    refine hK65 _ _ (e_sub hsub ?_); clear hsub
    unfold IndexNews_K1 at h
    refine e_seq fun K111 hK111 => ?_
    refine e_region_text rfl ?_
    refine q_assign rfl rfl ?_
    refine eseq_nil ?_
    refine hK111 _ _ ?_
    refine e_ret ?_
    obtain rfl := Option.some.inj h
    exact ⟨_, res1 rfl rfl, _, rfl, hS⟩
  refine e_loop (fun m_ E_ w89 => ∃ (x91 : Int), ∃ (R88 : Nat → Prop), iter (fun s => IndexNews_B1 fuel a0 s) m_ x91 = some tl67 ∧ Sep F R R88 w w89 [] ∧ IsSlice letterTy w89 R88 v1 a0 ∧ E_ = [(0, v1), (1, .func (.func 64) #[] #[]), (7, .int .i64 (a0.length : Int)), (8, .int .i64 x91)]) _ ⟨_, ⟨0, _, ht67, hS, f1, rfl⟩, Sub.cons rfl (Sub.cons rfl (Sub.cons rfl (Sub.cons rfl (Sub.nil _))))⟩ ?_
  clear ht67 hS
  rintro m67 _ w89 ⟨x91, R88, ht67, hS, f90, rfl⟩
  obtain ⟨m67, rfl, o67, ho67, ht67⟩ := iter_some ht67
  replace ho67 : IndexNews_B1 fuel a0 x91 = some o67 := ho67
  unfold IndexNews_B1 at ho67
  refine e_seq fun K112 hK112 => ?_
  refine e_region_text rfl ?_
  refine q_lss rfl rfl rfl ?_
  refine eseq_nil ?_
  refine hK112 _ _ ?_
  refine e_seq fun K113 hK113 => ?_
  refine e_cond rfl (fun hc114 => ?_) (fun hc114 => ?_)
  · replace ho67 := (if_pos hc114).symm.trans ho67
    refine e_skip ?_
    refine hK113 _ _ ?_
    refine e_seq fun K115 hK115 => ?_
    refine e_block ?_
    refine e_seq fun K116 hK116 => ?_
    refine e_region_text rfl ?_
    refine q_move rfl rfl ?_
    refine q_assign rfl rfl ?_
    refine eseq_nil ?_
    refine hK116 _ _ ?_
    refine e_seq fun K117 hK117 => ?_
    refine e_region_text rfl ?_
    refine q_move rfl rfl ?_
    refine q_move rfl rfl ?_
    refine q_move rfl rfl ?_
    obtain ⟨x118, hx118, ho67⟩ := Option.of_bind ho67
    refine q_atS (by infer_instance) rfl f90 rfl hx118 rfl fun b119 o119 hm119 f119 => ?_
    have hc120 := Letter_open f119
    refine q_loadAgg rfl hc120 rfl rfl ?_
    obtain ⟨r122, hr122, ho67⟩ := Option.of_bind ho67
    refine q_callC rfl rfl (cascade_news_1_w (a0 := x118) (Sep.enter (As := []) hS)  hr122) rfl ?_
    rintro _ w121 ⟨R121, rfl, hC121⟩
    have hB121 : Below (World.heap w89).size w89 w121 := hC121.stepB0
    refine ⟨fun _ => .of_below hB121, ?_⟩
    replace f90 := (f90.ext hB121).mono fun k hk _ => hC121.ro0 k hk
    replace hS := Sep.leave (As := []) hS hC121; simp only [List.cons_append, List.nil_append] at hS
    refine eseq_nil ?_
    refine hK117 _ _ ?_
    refine e_cond rfl (fun hc123 => ?_) (fun hc123 => ?_)
    · replace ho67 := (if_pos hc123).symm.trans ho67
      refine e_seq fun K124 hK124 => ?_
      refine e_region_text rfl ?_
      refine q_move rfl rfl ?_
      refine q_assign rfl rfl ?_
      refine eseq_nil ?_
      refine hK124 _ _ ?_
      refine e_ret ?_
      obtain rfl := Option.some.inj ho67
      obtain rfl := Option.some.inj ht67
      obtain rfl := Option.some.inj h
      exact ⟨_, res1 rfl rfl, _, rfl, hS⟩
    · replace ho67 := (if_neg (not_true hc123)).symm.trans ho67
      refine e_skip ?_
      refine hK115 _ _ ?_
      refine e_region_text rfl ?_
      refine q_addW rfl rfl rfl ?_
      refine q_move rfl rfl ?_
      refine eseq_nil ?_
      obtain rfl := Option.some.inj ho67
      exact ⟨m67, _, Nat.lt_succ_self _, ⟨(w64 (x91 + 1)), _, ht67, hS, f90, rfl⟩, Sub.cons rfl (Sub.cons rfl (Sub.cons rfl (Sub.cons rfl (Sub.nil _))))⟩
  · replace ho67 := (if_neg (not_true hc114)).symm.trans ho67
    refine e_exit ?_
    obtain rfl := Option.some.inj ho67
    obtain rfl := Option.some.inj ht67
    exact hX67_0  _ _ _ h hS  (Sub.nil _)
theorem cascade_news_w {F R : Nat → Prop} {w : World} {fuel : Nat} {a0 : Cascade} {v1 : Value} {v2 : Value} {r : (Int)} (hS : Sep F R R w w []) (f1 : IsSlice branchTy w R v1 a0.branches) (f2 : IsSlice letterTy w R v2 a0.flight) (h : cascade_news fuel a0 = some r) :
    Gives Try.prog 51 [.agg #[v1, v2]] w fun u w1 => ∃ (R1 : Nat → Prop), u = .int .i64 r ∧ Sep F R R1 w w1 [] := by
  refine fn_of Try.func51 rfl Try.ntmps51 (Nat.le_of_ble_eq_true rfl) ?_
  unfold cascade_news at h
  refine e_seq fun K9 hK9 => ?_
  refine e_region_text rfl ?_
  refine q_boxB rfl rfl rfl fun w10 bl10 hg10 hb10 hB10 => ?_
  replace f1 := f1.ext hB10
  replace f2 := f2.ext hB10
  replace hS := hS.newBlk hB10 hg10 hb10
  refine q_assign rfl rfl ?_
  refine eseq_nil ?_
  refine hK9 _ _ ?_
  refine e_seq fun K12 hK12 => ?_
  refine e_region_text rfl ?_
  refine q_field rfl rfl ?_
  refine q_load rfl (Blk.cell (hS.blk 0 rfl) rfl) rfl ?_
  obtain ⟨r14, hr14, h⟩ := Option.of_bind h
  refine q_call rfl (IndexNews_w (Sep.enter (As := []) hS) f2 hr14) rfl ?_
  rintro _ w13 ⟨R13, rfl, hC13⟩
  have hB13 : Below (World.heap w10).size w10 w13 := hC13.stepB0
  refine ⟨fun _ => .of_below hB13, ?_⟩
  replace f2 := (f2.ext hB13).mono fun k hk _ => hC13.ro0 k hk
  replace hS := Sep.leave (As := []) hS hC13; simp only [List.cons_append, List.nil_append] at hS
  refine q_assign rfl rfl ?_
  refine eseq_nil ?_
  refine hK12 _ _ ?_
  refine e_ret ?_
  obtain rfl := Option.some.inj h
  exact ⟨_, res1 rfl rfl, _, rfl, (hS.pickB [] 1 rfl rfl)⟩
theorem ref33_news_w {F R : Nat → Prop} {w : World} {fuel : Nat} {a0 : Cascade} {v1 : Value} {v2 : Value} {r : (Int)} (hS : Sep F R R w w []) (f1 : IsSlice branchTy w R v1 a0.branches) (f2 : IsSlice letterTy w R v2 a0.flight) (h : ref33_news fuel a0 = some r) :
    Gives Try.prog 52 [.agg #[v1, v2]] w fun u w1 => ∃ (R1 : Nat → Prop), u = .int .i64 r ∧ Sep F R R1 w w1 [] := by
  refine fn_of Try.func52 rfl Try.ntmps52 (Nat.le_of_ble_eq_true rfl) ?_
  unfold ref33_news at h
  refine e_seq fun K61 hK61 => ?_
  refine e_region_text rfl ?_
  refine q_boxB rfl rfl rfl fun w62 bl62 hg62 hb62 hB62 => ?_
  replace f1 := f1.ext hB62
  replace f2 := f2.ext hB62
  replace hS := hS.newBlk hB62 hg62 hb62
  refine q_assign rfl rfl ?_
  refine eseq_nil ?_
  refine hK61 _ _ ?_
  refine e_seq fun K65 hK65 => ?_
  refine e_seq fun K66 hK66 => ?_
  refine e_region_text rfl ?_
  refine q_assign rfl rfl ?_
  refine eseq_nil ?_
  refine hK66 _ _ ?_
  refine e_block ?_
  obtain ⟨tl67, ht67, h⟩ := Option.of_bind h
  have hX67_0 : ∀ (R107 : Nat → Prop) (w108 : World) (E_ : Env), ref33_news_K1 fuel = some r → Sep F R R107 w w108 [] → Sub [] E_ → K65 E_ w108 := by
    intro R107 w108 E_ h hS  hsub
    refine hK65 _ _ (e_sub hsub ?_); clear hsub
    unfold ref33_news_K1 at h
    refine e_seq fun K109 hK109 => ?_
    refine e_region_text rfl ?_
    refine q_assign rfl rfl ?_
    refine eseq_nil ?_
    refine hK109 _ _ ?_
    refine e_ret ?_
    obtain rfl := Option.some.inj h
    exact ⟨_, res1 rfl rfl, _, rfl, hS⟩
  refine e_loop (fun m_ E_ w88 => ∃ (x91 : Int), ∃ (R87 : Nat → Prop), iter (fun s => ref33_news_B1 fuel a0 s) m_ x91 = some tl67 ∧ Sep F R R87 w w88 [HP.blk bl62 [v1, v2] 28] ∧ IsSlice branchTy w88 R87 v1 a0.branches ∧ IsSlice letterTy w88 R87 v2 a0.flight ∧ E_ = [(1, .pointer (some ⟨bl62, 0, none⟩)), (3, .int .i64 x91)]) _ ⟨_, ⟨0, _, ht67, hS, f1, f2, rfl⟩, Sub.cons rfl (Sub.cons rfl (Sub.nil _))⟩ ?_
  clear ht67 hS
  rintro m67 _ w88 ⟨x91, R87, ht67, hS, f89, f90, rfl⟩
  obtain ⟨m67, rfl, o67, ho67, ht67⟩ := iter_some ht67
  replace ho67 : ref33_news_B1 fuel a0 x91 = some o67 := ho67
  unfold ref33_news_B1 at ho67
  refine e_seq fun K110 hK110 => ?_
  refine e_seq fun K111 hK111 => ?_
  refine e_region_text rfl ?_
  refine q_move rfl rfl ?_
  refine q_field rfl rfl ?_
  refine q_load rfl (Blk.cell (hS.blk 0 rfl) rfl) rfl ?_
  refine q_lenS rfl f90 rfl ?_
  refine q_lss rfl rfl rfl ?_
  refine eseq_nil ?_
  refine hK111 _ _ ?_
  refine e_cond rfl (fun hc112 => ?_) (fun hc112 => ?_)
  · replace ho67 := (if_pos hc112).symm.trans ho67
    refine e_skip ?_
    refine hK110 _ _ ?_
    refine e_seq fun K113 hK113 => ?_
    refine e_block ?_
    refine e_seq fun K114 hK114 => ?_
    refine e_region_text rfl ?_
    refine q_field rfl rfl ?_
    refine q_load rfl (Blk.cell (hS.blk 0 rfl) rfl) rfl ?_
    refine q_move rfl rfl ?_
    obtain ⟨x115, hx115, ho67⟩ := Option.of_bind ho67
    refine q_atS (by infer_instance) rfl f90 rfl hx115 rfl fun b116 o116 hm116 f116 => ?_
    refine q_field rfl rfl ?_
    have f117 := Letter_F2 f116
    refine q_load rfl (Elt.boolCell f117) rfl ?_
    refine eseq_nil ?_
    refine hK114 _ _ ?_
    refine e_cond rfl (fun hc118 => ?_) (fun hc118 => ?_)
    · replace ho67 := (if_pos hc118).symm.trans ho67
      refine e_seq fun K119 hK119 => ?_
      refine e_region_text rfl ?_
      refine q_move rfl rfl ?_
      refine q_assign rfl rfl ?_
      refine eseq_nil ?_
      refine hK119 _ _ ?_
      refine e_ret ?_
      obtain rfl := Option.some.inj ho67
      obtain rfl := Option.some.inj ht67
      obtain rfl := Option.some.inj h
      exact ⟨_, res1 rfl rfl, _, rfl, (hS.pickB [] 1 rfl rfl)⟩
    · replace ho67 := (if_neg (not_true hc118)).symm.trans ho67
      refine e_skip ?_
      refine hK113 _ _ ?_
      refine e_region_text rfl ?_
      refine q_move rfl rfl ?_
      refine q_addW rfl rfl rfl ?_
      refine q_assign rfl rfl ?_
      refine eseq_nil ?_
      obtain rfl := Option.some.inj ho67
      exact ⟨m67, _, Nat.lt_succ_self _, ⟨(w64 (x91 + 1)), _, ht67, hS, f89, f90, rfl⟩, Sub.cons rfl (Sub.cons rfl (Sub.nil _))⟩
  · replace ho67 := (if_neg (not_true hc112)).symm.trans ho67
    refine e_exit ?_
    obtain rfl := Option.some.inj ho67
    obtain rfl := Option.some.inj ht67
    exact hX67_0  _ _ _ h (hS.pickB [] 1 rfl rfl)  (Sub.nil _)
theorem cascade_Quiet_w {F R : Nat → Prop} {w : World} {fuel : Nat} {a0 : Cascade} {v1 : Value} {v2 : Value} {r : (Bool)} (hS : Sep F R R w w []) (f1 : IsSlice branchTy w R v1 a0.branches) (f2 : IsSlice letterTy w R v2 a0.flight) (h : cascade_Quiet fuel a0 = some r) :
    Gives Try.prog 22 [.agg #[v1, v2]] w fun u w1 => ∃ (R1 : Nat → Prop), u = .bool r ∧ Sep F R R1 w w1 [] := by
  refine fn_of Try.func22 rfl Try.ntmps22 (Nat.le_of_ble_eq_true rfl) ?_
  unfold cascade_Quiet at h
  refine e_seq fun K9 hK9 => ?_
  refine e_region_text rfl ?_
  refine q_boxB rfl rfl rfl fun w10 bl10 hg10 hb10 hB10 => ?_
  replace f1 := f1.ext hB10
  replace f2 := f2.ext hB10
  replace hS := hS.newBlk hB10 hg10 hb10
  refine q_assign rfl rfl ?_
  refine eseq_nil ?_
  refine hK9 _ _ ?_
  refine e_seq fun K12 hK12 => ?_
  refine e_region_text rfl ?_
  refine q_loadAgg rfl (Blk.cellsAt (hS.blk 0 rfl) 0 2 rfl) rfl rfl ?_
  obtain ⟨r14, hr14, h⟩ := Option.of_bind h
  refine q_call rfl (cascade_news_w (a0 := (⟨a0.branches, a0.flight⟩ : Cascade)) (Sep.enter (As := []) hS) f1 f2 hr14) rfl ?_
  rintro _ w13 ⟨R13, rfl, hC13⟩
  have hB13 : Below (World.heap w10).size w10 w13 := hC13.stepB0
  refine ⟨fun _ => .of_below hB13, ?_⟩
  replace f1 := (f1.ext hB13).mono fun k hk _ => hC13.ro0 k hk
  replace f2 := (f2.ext hB13).mono fun k hk _ => hC13.ro0 k hk
  replace hS := Sep.leave (As := []) hS hC13; simp only [List.cons_append, List.nil_append] at hS
  refine q_lss rfl rfl rfl ?_
  refine q_assign rfl rfl ?_
  refine eseq_nil ?_
  refine hK12 _ _ ?_
  refine e_ret ?_
  obtain rfl := Option.some.inj h
  exact ⟨_, res1 rfl rfl, _, rfl, (hS.pickB [] 1 rfl rfl)⟩
theorem ref33_Quiet_w {F R : Nat → Prop} {w : World} {fuel : Nat} {a0 : Cascade} {v1 : Value} {v2 : Value} {r : (Bool)} (hS : Sep F R R w w []) (f1 : IsSlice branchTy w R v1 a0.branches) (f2 : IsSlice letterTy w R v2 a0.flight) (h : ref33_Quiet fuel a0 = some r) :
    Gives Try.prog 23 [.agg #[v1, v2]] w fun u w1 => ∃ (R1 : Nat → Prop), u = .bool r ∧ Sep F R R1 w w1 [] := by
  refine fn_of Try.func23 rfl Try.ntmps23 (Nat.le_of_ble_eq_true rfl) ?_
  unfold ref33_Quiet at h
  refine e_seq fun K9 hK9 => ?_
  refine e_region_text rfl ?_
  refine q_boxB rfl rfl rfl fun w10 bl10 hg10 hb10 hB10 => ?_
  replace f1 := f1.ext hB10
  replace f2 := f2.ext hB10
  replace hS := hS.newBlk hB10 hg10 hb10
  refine q_assign rfl rfl ?_
  refine eseq_nil ?_
  refine hK9 _ _ ?_
  refine e_seq fun K12 hK12 => ?_
  refine e_region_text rfl ?_
  refine q_loadAgg rfl (Blk.cellsAt (hS.blk 0 rfl) 0 2 rfl) rfl rfl ?_
  obtain ⟨r14, hr14, h⟩ := Option.of_bind h
  refine q_call rfl (ref33_news_w (a0 := (⟨a0.branches, a0.flight⟩ : Cascade)) (Sep.enter (As := []) hS) f1 f2 hr14) rfl ?_
  rintro _ w13 ⟨R13, rfl, hC13⟩
  have hB13 : Below (World.heap w10).size w10 w13 := hC13.stepB0
  refine ⟨fun _ => .of_below hB13, ?_⟩
  replace f1 := (f1.ext hB13).mono fun k hk _ => hC13.ro0 k hk
  replace f2 := (f2.ext hB13).mono fun k hk _ => hC13.ro0 k hk
  replace hS := Sep.leave (As := []) hS hC13; simp only [List.cons_append, List.nil_append] at hS
  refine q_lss rfl rfl rfl ?_
  refine q_assign rfl rfl ?_
  refine eseq_nil ?_
  refine hK12 _ _ ?_
  refine e_ret ?_
  obtain rfl := Option.some.inj h
  exact ⟨_, res1 rfl rfl, _, rfl, (hS.pickB [] 1 rfl rfl)⟩
theorem cascade_Lineages_w {F R : Nat → Prop} {w : World} {fuel : Nat} {a0 : Cascade} {v1 : Value} {v2 : Value} {r : ((List (List Evt)))} (hS : Sep F R R w w []) (f1 : IsSlice branchTy w R v1 a0.branches) (f2 : IsSlice letterTy w R v2 a0.flight) (h : cascade_Lineages fuel a0 = some r) :
    Gives Try.prog 25 [.agg #[v1, v2]] w fun u w1 => ∃ (v94 : Value), ∃ (R1 : Nat → Prop), u = v94 ∧ Sep F R R1 w w1 [HP.own (Ty.slice evtTy) R1 45 v94 r] := by
  refine fn_of Try.func25 rfl Try.ntmps25 (Nat.le_of_ble_eq_true rfl) ?_
  unfold cascade_Lineages at h
  refine e_seq fun K95 hK95 => ?_
  refine e_region_text rfl ?_
  refine q_boxB rfl rfl rfl fun w96 bl96 hg96 hb96 hB96 => ?_
  replace f1 := f1.ext hB96
  replace f2 := f2.ext hB96
  replace hS := hS.newBlk hB96 hg96 hb96
  refine q_assign rfl rfl ?_
  refine eseq_nil ?_
  refine hK95 _ _ ?_
  refine e_seq fun K98 hK98 => ?_
  refine e_region_text rfl ?_
  refine q_assign rfl rfl ?_
  refine eseq_nil ?_
  refine hK98 _ _ ?_
  refine e_seq fun K99 hK99 => ?_
  refine e_seq fun K100 hK100 => ?_
  refine e_region_text rfl ?_
  refine q_field rfl rfl ?_
  refine q_load rfl (Blk.cell (hS.blk 0 rfl) rfl) rfl ?_
  refine q_lenS rfl f1 rfl ?_
  refine q_move rfl rfl ?_
  refine eseq_nil ?_
  refine hK100 _ _ ?_
  refine e_block ?_
  obtain ⟨tl101, ht101, h⟩ := Option.of_bind h
  have hX101_0 : ∀ (x165 : (List (List Evt))) (v164 : Value) (R161 : Nat → Prop) (w162 : World) (E_ : Env), cascade_Lineages_K1 fuel x165 = some r → Sep F R R161 w w162 [HP.own (Ty.slice evtTy) R161 45 v164 x165] → Sub [(3, v164)] E_ → K99 E_ w162 := by
    intro x165 v164 R161 w162 E_ h hS  hsub
    refine hK99 _ _ (e_sub hsub ?_); clear hsub
    unfold cascade_Lineages_K1 at h
    refine e_seq fun K166 hK166 => ?_
    refine e_region_text rfl ?_
    refine q_move rfl rfl ?_
    refine q_assign rfl rfl ?_
    refine eseq_nil ?_
    refine hK166 _ _ ?_
    refine e_ret ?_
    obtain rfl := Option.some.inj h
    exact ⟨_, res1 rfl rfl, v164, _, rfl, hS⟩
  replace hS := hS.nilOwn (Ty.slice evtTy) 45
  refine e_loop (fun m_ E_ w131 => ∃ (x134 : (List (List Evt))), ∃ (x136 : Int), ∃ (v133 : Value), ∃ (R130 : Nat → Prop), iter (fun s => cascade_Lineages_B1 fuel a0 s.1 s.2) m_ (x134, x136) = some tl101 ∧ Sep F R R130 w w131 [HP.own (Ty.slice evtTy) R130 45 v133 x134] ∧ IsSlice branchTy w131 R130 v1 a0.branches ∧ E_ = [(3, v133), (7, v1), (8, .int .i64 (a0.branches.length : Int)), (9, .int .i64 x136)]) _ ⟨_, ⟨([] : List (List Evt)), 0, (.slice none 0 0), _, ht101, (hS.pickB [0] 2 rfl rfl), f1, rfl⟩, Sub.cons rfl (Sub.cons rfl (Sub.cons rfl (Sub.cons rfl (Sub.nil _))))⟩ ?_
  clear ht101 hS
  rintro m101 _ w131 ⟨x134, x136, v133, R130, ht101, hS, f135, rfl⟩
  obtain ⟨m101, rfl, o101, ho101, ht101⟩ := iter_some ht101
  replace ho101 : cascade_Lineages_B1 fuel a0 x134 x136 = some o101 := ho101
  unfold cascade_Lineages_B1 at ho101
  refine e_seq fun K168 hK168 => ?_
  refine e_region_text rfl ?_
  refine q_lss rfl rfl rfl ?_
  refine eseq_nil ?_
  refine hK168 _ _ ?_
  refine e_seq fun K169 hK169 => ?_
  refine e_cond rfl (fun hc170 => ?_) (fun hc170 => ?_)
  · replace ho101 := (if_pos hc170).symm.trans ho101
    refine e_skip ?_
    refine hK169 _ _ ?_
    refine e_seq fun K171 hK171 => ?_
    refine e_block ?_
    refine e_seq fun K172 hK172 => ?_
    refine e_region_text rfl ?_
    obtain ⟨x173, hx173, ho101⟩ := Option.of_bind ho101
    refine q_atS (by infer_instance) rfl f135 rfl hx173 rfl fun b174 o174 hm174 f174 => ?_
    obtain ⟨v175, v176, hc177, f175, f176⟩ := Branch_open f174
    refine q_loadAgg rfl hc177 rfl rfl ?_
    refine q_allocB rfl fun w178 bl178 hg178 hb178 hB178 => ?_
    replace f135 := f135.ext hB178
    replace f175 := f175.ext hB178
    replace f176 := f176.ext hB178
    replace hS := hS.newBlk hB178 hg178 hb178
    refine q_storeAgg rfl rfl (hS.blk 0 rfl) rfl (Nat.le_of_ble_eq_true rfl) (all_cons rfl (all_cons f175.one (all_cons rfl (all_cons f176.one (all_nil))))) rfl rfl fun w180 hb180 hO180 => ?_
    simp only [setN, List.set, List.take, List.drop] at hb180
    have hk180 := hS.keptBlk 0 rfl hO180
    replace f175 := f175.kept hk180
    replace f176 := f176.kept hk180
    replace f135 := f135.kept hk180
    replace hS := hS.setBlk 0 rfl hb180 hO180; simp only [List.set] at hS
    refine eseq_nil ?_
    refine hK172 _ _ ?_
    refine e_region_text rfl ?_
    refine q_move rfl rfl ?_
    refine q_field rfl rfl ?_
    refine q_load rfl (Blk.cell (hS.blk 0 rfl) rfl) rfl ?_
    refine q_litO (T := (Ty.slice evtTy)) (S := R130) (cells := [[v175]]) (ys := [x173.events]) ((Parts.cons rfl (cells_one f175.one) Parts.nil)) rfl rfl rfl rfl rfl rfl rfl (fun w1 hB => ⟨⟨_, rfl, f175.ext hB⟩, trivial⟩) hS.ro rfl fun w181 v181 ho181 hv181 hB181 => ?_
    replace f135 := f135.ext hB181
    replace f175 := f175.ext hB181
    replace hS := hS.newOwnS hB181 ho181 hv181 (fun _ h => h)
    obtain ⟨x184, hx184, ho101⟩ := Option.of_bind ho101
    refine q_catOwn (T := (Ty.slice evtTy)) rfl rfl rfl rfl (hS.own 2 rfl) rfl (hS.own 0 rfl) (hS.ownOff 2 rfl) (snoc_cat hx184) (Nat.zero_le _) rfl (fun h => by cases h) fun v183 w183 hw183 hgr183 hnw183 => ?_
    have hk183 := hS.keptOwn 2 rfl hgr183
    replace f135 := f135.kept hk183
    replace hS := hS.setOwn 2 rfl hw183 hgr183 hnw183; simp only [List.set] at hS
    refine q_assign rfl rfl ?_
    refine eseq_nil ?_
    refine hK171 _ _ ?_
    refine e_region_text rfl ?_
    refine q_addW rfl rfl rfl ?_
    refine q_move rfl rfl ?_
    refine eseq_nil ?_
    obtain rfl := Option.some.inj ho101
    exact ⟨m101, _, Nat.lt_succ_self _, ⟨x184, (w64 (x136 + 1)), v183, _, ht101, (hS.pickB [2] 3 rfl rfl), f135, rfl⟩, Sub.cons rfl (Sub.cons rfl (Sub.cons rfl (Sub.cons rfl (Sub.nil _))))⟩
  · replace ho101 := (if_neg (not_true hc170)).symm.trans ho101
    refine e_exit ?_
    obtain rfl := Option.some.inj ho101
    obtain rfl := Option.some.inj ht101
    exact hX101_0 x134 v133 _ _ _ h hS  (Sub.cons rfl (Sub.nil _))
theorem ref33_Lineages_w {F R : Nat → Prop} {w : World} {fuel : Nat} {a0 : Cascade} {v1 : Value} {v2 : Value} {r : ((List (List Evt)))} (hS : Sep F R R w w []) (f1 : IsSlice branchTy w R v1 a0.branches) (f2 : IsSlice letterTy w R v2 a0.flight) (h : ref33_Lineages fuel a0 = some r) :
    Gives Try.prog 26 [.agg #[v1, v2]] w fun u w1 => ∃ (v105 : Value), ∃ (v106 : List Value), ∃ (R1 : Nat → Prop), u = v105 ∧ Sep F R R1 w w1 [HP.own Ty.raw (fun _ => False) 45 v105 v106, HP.famS evtTy (fun _ => False) 83 v106 r] := by
  refine fn_of Try.func26 rfl Try.ntmps26 (Nat.le_of_ble_eq_true rfl) ?_
  unfold ref33_Lineages at h
  refine e_seq fun K107 hK107 => ?_
  refine e_region_text rfl ?_
  refine q_boxB rfl rfl rfl fun w108 bl108 hg108 hb108 hB108 => ?_
  replace f1 := f1.ext hB108
  replace f2 := f2.ext hB108
  replace hS := hS.newBlk hB108 hg108 hb108
  refine q_assign rfl rfl ?_
  refine eseq_nil ?_
  refine hK107 _ _ ?_
  refine e_seq fun K110 hK110 => ?_
  refine e_region_text rfl ?_
  refine q_assign rfl rfl ?_
  refine eseq_nil ?_
  refine hK110 _ _ ?_
  refine e_seq fun K111 hK111 => ?_
  refine e_seq fun K112 hK112 => ?_
  refine e_region_text rfl ?_
  refine q_assign rfl rfl ?_
  refine eseq_nil ?_
  refine hK112 _ _ ?_
  refine e_block ?_
  obtain ⟨tl113, ht113, h⟩ := Option.of_bind h
  have hX113_0 : ∀ (x186 : (List (List Evt))) (v184 : Value) (v185 : List Value) (R182 : Nat → Prop) (w183 : World) (E_ : Env), ref33_Lineages_K1 fuel x186 = some r → Sep F R R182 w w183 [HP.own Ty.raw (fun _ => False) 45 v184 v185, HP.famS evtTy (fun _ => False) 83 v185 x186] → Sub [(3, v184)] E_ → K111 E_ w183 := by
    intro x186 v184 v185 R182 w183 E_ h hS  hsub
    refine hK111 _ _ (e_sub hsub ?_); clear hsub
    unfold ref33_Lineages_K1 at h
    refine e_seq fun K189 hK189 => ?_
    refine e_region_text rfl ?_
    refine q_move rfl rfl ?_
    refine q_assign rfl rfl ?_
    refine eseq_nil ?_
    refine hK189 _ _ ?_
    refine e_ret ?_
    obtain rfl := Option.some.inj h
    exact ⟨_, res1 rfl rfl, v184, v185, _, rfl, hS⟩
  replace hS := hS.nilRows0 evtTy 83 45
  refine e_loop (fun m_ E_ w147 => ∃ (x152 : (List (List Evt))), ∃ (x155 : Int), ∃ (v150 : Value), ∃ (v151 : List Value), ∃ (R146 : Nat → Prop), iter (fun s => ref33_Lineages_B1 fuel a0 s.1 s.2) m_ (x152, x155) = some tl113 ∧ Sep F R R146 w w147 [HP.blk bl108 [v1, v2] 28, HP.own Ty.raw (fun _ => False) 45 v150 v151, HP.famS evtTy (fun _ => False) 83 v151 x152] ∧ IsSlice branchTy w147 R146 v1 a0.branches ∧ IsSlice letterTy w147 R146 v2 a0.flight ∧ E_ = [(1, .pointer (some ⟨bl108, 0, none⟩)), (3, v150), (4, .int .i64 x155)]) _ ⟨_, ⟨([] : List (List Evt)), 0, (.slice none 0 0), ([] : List Value), _, ht113, (hS.pickB [2, 0, 1] 3 rfl rfl), f1, f2, rfl⟩, Sub.cons rfl (Sub.cons rfl (Sub.cons rfl (Sub.nil _)))⟩ ?_
  clear ht113 hS
  rintro m113 _ w147 ⟨x152, x155, v150, v151, R146, ht113, hS, f148, f149, rfl⟩
  obtain ⟨m113, rfl, o113, ho113, ht113⟩ := iter_some ht113
  replace ho113 : ref33_Lineages_B1 fuel a0 x152 x155 = some o113 := ho113
  unfold ref33_Lineages_B1 at ho113
  refine e_seq fun K192 hK192 => ?_
  refine e_seq fun K193 hK193 => ?_
  refine e_region_text rfl ?_
  refine q_move rfl rfl ?_
  refine q_field rfl rfl ?_
  refine q_load rfl (Blk.cell (hS.blk 0 rfl) rfl) rfl ?_
  refine q_lenS rfl f148 rfl ?_
  refine q_lss rfl rfl rfl ?_
  refine eseq_nil ?_
  refine hK193 _ _ ?_
  refine e_cond rfl (fun hc194 => ?_) (fun hc194 => ?_)
  · replace ho113 := (if_pos hc194).symm.trans ho113
    refine e_skip ?_
    refine hK192 _ _ ?_
    refine e_seq fun K195 hK195 => ?_
    refine e_block ?_
    refine e_region_text rfl ?_
    refine q_move rfl rfl ?_
    refine q_field rfl rfl ?_
    refine q_load rfl (Blk.cell (hS.blk 0 rfl) rfl) rfl ?_
    refine q_move rfl rfl ?_
    obtain ⟨x196, hx196, ho113⟩ := Option.of_bind ho113
    refine q_atS (by infer_instance) rfl f148 rfl hx196 rfl fun b197 o197 hm197 f197 => ?_
    refine q_field rfl rfl ?_
    have f198 := Branch_F1 f197
    refine q_loadE rfl f198 rfl (fun v199 f199 => ?_)
    replace hS := hS.nilOwn0 evtTy 83
    obtain ⟨x202, hx202, ho113⟩ := Option.of_bind ho113
    refine q_catE (T := evtTy) rfl rfl rfl rfl (hS.own 0 rfl) rfl f199 hx202 (Nat.zero_le _) rfl (fun h => by cases h) fun v201 w201 hw201 hgr201 hnw201 => ?_
    have hk201 := hS.keptOwn 0 rfl hgr201
    replace f148 := f148.kept hk201
    replace f149 := f149.kept hk201
    replace f199 := f199.kept hk201
    replace hS := hS.setOwn 0 rfl hw201 hgr201 hnw201; simp only [List.set] at hS
    refine q_litO (T := Ty.raw) (S := (fun _ => False)) (cells := [[v201]]) (ys := [v201]) ((Parts.cons rfl (cells_one (hS.own 0 rfl).one) Parts.nil)) rfl rfl rfl rfl rfl rfl rfl (fun w1 hB => ⟨⟨rfl, (hS.own 0 rfl).one⟩, trivial⟩) (fun _ h => h.elim) rfl fun w203 v203 ho203 hv203 hB203 => ?_
    replace f148 := f148.ext hB203
    replace f149 := f149.ext hB203
    replace hS := hS.newOwnS hB203 ho203 hv203 (fun _ h => h.elim)
    replace hS := hS.pickB [1, 0, 2, 3, 4] 5 rfl rfl; simp only [List.map_cons, List.map_nil, List.getD_cons_zero, List.getD_cons_succ] at hS
    replace hS := hS.famOne
    obtain ⟨x207, hx207, ho113⟩ := Option.of_bind ho113
    obtain ⟨hcr206, hce206⟩ := catL_raw (hS.famLen 4 rfl) (hS.famLen 0 rfl) (snoc_cat hx207)
    refine q_catOwn (T := Ty.raw) rfl rfl rfl rfl (hS.own 3 rfl) rfl (hS.own 1 rfl) (fun _ h _ => h.elim) hcr206 (Nat.zero_le _) rfl (fun h => by cases h) fun v206 w206 hw206 hgr206 hnw206 => ?_
    have hk206 := hS.keptOwn 3 rfl hgr206
    replace f148 := f148.kept hk206
    replace f149 := f149.kept hk206
    replace hS := hS.setOwn 3 rfl hw206 hgr206 hnw206; simp only [List.set] at hS
    replace hS := hS.pickB [4, 0, 1, 2, 3] 5 rfl rfl; simp only [List.map_cons, List.map_nil, List.getD_cons_zero, List.getD_cons_succ] at hS
    replace hS := hS.famCat; rw [hce206] at hS
    refine q_assign rfl rfl ?_
    refine eseq_nil ?_
    refine hK195 _ _ ?_
    refine e_region_text rfl ?_
    refine q_move rfl rfl ?_
    refine q_addW rfl rfl rfl ?_
    refine q_assign rfl rfl ?_
    refine eseq_nil ?_
    obtain rfl := Option.some.inj ho113
    exact ⟨m113, _, Nat.lt_succ_self _, ⟨x207, (w64 (x155 + 1)), v206, (v151 ++ ([v201])), _, ht113, (hS.pickB [2, 3, 0] 4 rfl rfl), f148, f149, rfl⟩, Sub.cons rfl (Sub.cons rfl (Sub.cons rfl (Sub.nil _)))⟩
  · replace ho113 := (if_neg (not_true hc194)).symm.trans ho113
    refine e_exit ?_
    obtain rfl := Option.some.inj ho113
    obtain rfl := Option.some.inj ht113
    exact hX113_0 x152 v150 v151 _ _ _ h (hS.pickB [1, 2] 3 rfl rfl)  (Sub.cons rfl (Sub.nil _))
end Go.Proofs.Ytddohdppmejjoaa
