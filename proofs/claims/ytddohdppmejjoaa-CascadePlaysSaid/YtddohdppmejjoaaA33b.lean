/- Printed walks: A33b. -/
import Derived.Test.YtddohdppmejjoaaA33a
import Derived.Test.YtddohdppmejjoaaA31c
import Derived.Test.YtddohdppmejjoaaA31d
set_option linter.unusedVariables false
set_option linter.unusedSimpArgs false
namespace Go.Mine
open Go.RowKit
def cloneBranches (fuel : Nat) (a0 : List Branch) : Option (List Branch) := catL [] a0
def cloneLetters (fuel : Nat) (a0 : List Letter) : Option (List Letter) := catL [] a0
def machine_copied (fuel : Nat) (a0 : CascadeMachine) : Option (CascadeMachine) :=
  (cloneBranches fuel a0.cascade.branches).bind fun r29 => (cloneLetters fuel a0.cascade.flight).bind fun r34 => some (⟨(⟨r29, r34⟩ : Cascade)⟩ : CascadeMachine)
def ref33_Copy_K1 (fuel : Nat) (a0 : Cascade) (x257 : (List Branch)) : Option (Cascade) :=
  (catL ([] : List Letter) a0.flight).bind fun x261 => some (⟨x257, x261⟩ : Cascade)
def ref33_Copy_B1 (fuel : Nat) (a0 : Cascade) (x211 : (List Branch)) (x212 : Int) : Option (((List Branch) × Int) ⊕ ((List Branch))) :=
  (if (decide (x212 < (a0.branches.length : Int))) = true then (ati a0.branches x212).bind fun x271 => (catL ([] : List Evt) x271.events).bind fun x282 => (catL ([] : List EndI) x271.ends).bind fun x287 => (snoc x211 (⟨x271.inc, x282, x271.stable, x287⟩ : Branch)).bind fun x294 => some (Sum.inl (x294, (w64 (x212 + 1)))) else some (Sum.inr x211))
def ref33_Copy (fuel : Nat) (a0 : Cascade) : Option (Cascade) :=
  (iter (fun s => ref33_Copy_B1 fuel a0 s.1 s.2) fuel (([] : List Branch), 0)).bind (fun t => ref33_Copy_K1 fuel a0 t)
def ref32_SameLineages_K1 (fuel : Nat) : Option (Bool) :=
  some true
def ref32_SameLineages_K2 (fuel : Nat) (x475 : Int) : Option ((Int) ⊕ (Unit ⊕ (Bool))) :=
  some (Sum.inl (w64 (x475 + 1)))
def ref32_SameLineages_B2 (fuel : Nat) (a0 : (List (List Evt))) (x475 : Int) (a1 : (List (List Evt))) (x640 : Int) : Option ((Int) ⊕ (Unit ⊕ (Bool))) :=
  (ati a0 x475).bind fun x674 => (if (decide (x640 < (x674.length : Int))) = true then (ati a0 x475).bind fun x680 => (ati x680 x640).bind fun x683 => (ati a1 x475).bind fun x686 => (ati x686 x640).bind fun x689 => (if (!((x683.kind == x689.kind) && ((x683.inc == x689.inc) && ((x683.frm == x689.frm) && ((((x683.sent.inc == x689.sent.inc) && ((x683.sent.index == x689.sent.index) && true))) && ((x683.ord == x689.ord) && ((x683.value == x689.value) && true))))))) = true then some (Sum.inr (Sum.inr false)) else some (Sum.inl (w64 (x640 + 1)))) else some (Sum.inr (Sum.inl ())))
def ref32_SameLineages_B1 (fuel : Nat) (a0 : (List (List Evt))) (a1 : (List (List Evt))) (x475 : Int) : Option ((Int) ⊕ (Unit ⊕ (Bool))) :=
  (if (decide (x475 < (a0.length : Int))) = true then (ati a0 x475).bind fun x595 => (ati a1 x475).bind fun x598 => (if ((x595.length : Int) != (x598.length : Int)) = true then some (Sum.inr (Sum.inr false)) else (iter (fun s => ref32_SameLineages_B2 fuel a0 x475 a1 s) fuel 0).bind (fun t => Sum.elim (fun t => ref32_SameLineages_K2 fuel x475) (fun t => some (Sum.inr (Sum.inr t))) t)) else some (Sum.inr (Sum.inl ())))
def ref32_SameLineages (fuel : Nat) (a0 : (List (List Evt))) (a1 : (List (List Evt))) : Option (Bool) :=
  (if ((a0.length : Int) != (a1.length : Int)) = true then some false else (iter (fun s => ref32_SameLineages_B1 fuel a0 a1 s) fuel 0).bind (fun t => Sum.elim (fun t => ref32_SameLineages_K1 fuel) (fun t => some t) t))
def ref33_Same_K2 (fuel : Nat) : Option (Bool) :=
  some true
def ref33_Same_B1 (fuel : Nat) (a0 : Cascade) (a1 : Cascade) (x580 : Int) : Option ((Int) ⊕ (Unit ⊕ (Bool))) :=
  (if (decide (x580 < (a0.flight.length : Int))) = true then (ati a0.flight x580).bind fun x609 => (ati a1.flight x580).bind fun x612 => (if (!((x609.frm == x612.frm) && ((x609.to == x612.to) && ((x609.news == x612.news) && ((((x609.sent.inc == x612.sent.inc) && ((x609.sent.index == x612.sent.index) && true))) && ((((x609.end_.proc == x612.end_.proc) && ((x609.end_.inc == x612.end_.inc) && ((x609.end_.index == x612.end_.index) && true)))) && true)))))) = true then some (Sum.inr (Sum.inr false)) else some (Sum.inl (w64 (x580 + 1)))) else some (Sum.inr (Sum.inl ())))
def ref33_Same_K1 (fuel : Nat) (a0 : Cascade) (a1 : Cascade) : Option (Bool) :=
  (iter (fun s => ref33_Same_B1 fuel a0 a1 s) fuel 0).bind (fun t => Sum.elim (fun t => ref33_Same_K2 fuel) (fun t => some t) t)
def ref33_Same_B2 (fuel : Nat) (a0 : Cascade) (a1 : Cascade) (x478 : Int) : Option ((Int) ⊕ (Unit ⊕ (Bool))) :=
  (if (decide (x478 < (a0.branches.length : Int))) = true then (ati a0.branches x478).bind fun x622 => (ati a1.branches x478).bind fun x625 => (orM (x622.inc != x625.inc) ((ati a0.branches x478).bind fun x638 => (ati a1.branches x478).bind fun x641 => some (x638.stable != x641.stable))).bind fun x637 => (orM x637 ((ati a0.branches x478).bind fun x658 => (ati a1.branches x478).bind fun x662 => (ref31_Same fuel x658.ends x662.ends).bind fun r667 => some (!r667))).bind fun x657 => (if x657 = true then some (Sum.inr (Sum.inr false)) else some (Sum.inl (w64 (x478 + 1)))) else some (Sum.inr (Sum.inl ())))
def ref33_Same (fuel : Nat) (a0 : Cascade) (a1 : Cascade) : Option (Bool) :=
  (orM ((a0.branches.length : Int) != (a1.branches.length : Int)) (some ((a0.flight.length : Int) != (a1.flight.length : Int)))).bind fun x376 => (orM x376 ((ref33_Lineages fuel (⟨a0.branches, a0.flight⟩ : Cascade)).bind fun r392 => (ref33_Lineages fuel (⟨a1.branches, a1.flight⟩ : Cascade)).bind fun r396 => (ref32_SameLineages fuel r392 r396).bind fun r400 => some (!r400))).bind fun x390 => (if x390 = true then some false else (iter (fun s => ref33_Same_B2 fuel a0 a1 s) fuel 0).bind (fun t => Sum.elim (fun t => ref33_Same_K1 fuel a0 a1) (fun t => some t) t))
end Go.Mine
namespace Go.Proofs.Ytddohdppmejjoaa
open Go.RowKit Go.Mine
attribute [local irreducible] eseq ewp iter
theorem cloneBranches_w {F R : Nat → Prop} {w : World} {fuel : Nat} {a0 : List Branch} {v1 : Value} {r : List Branch} (hS : Sep F R R w w []) (f1 : IsSlice branchTy w R v1 a0) (h : cloneBranches fuel a0 = some r) :
    Gives Try.prog 57 [v1] w fun u w1 => ∃ (v2 : Value), ∃ (R1 : Nat → Prop), u = v2 ∧ Sep F R R1 w w1 [HP.own branchTy R1 48 v2 r] := by
  unfold cloneBranches at h
  have hx0 := f1
  obtain ⟨ad, c, rfl, hc0, hnil, -, -⟩ := hx0
  refine fn_of Try.func57 rfl Try.ntmps57 (Nat.le_of_ble_eq_true rfl) ?_
  refine e_seq fun K hK => ?_
  refine e_region_text rfl ?_
  refine q_assign rfl rfl ?_
  refine eseq_nil ?_
  refine hK _ _ ?_; clear hK
  refine e_seq fun K hK => ?_
  refine e_seq fun K hK => ?_
  refine e_region_text rfl ?_
  refine q_move rfl rfl ?_
  refine q_eqlNil rfl rfl rfl ?_
  refine eseq_nil ?_
  refine hK _ _ ?_; clear hK
  refine e_cond rfl (fun hb => ?_) (fun hb => ?_)
  · have e1 : ad = none := by simpa using hb
    have e2 := hnil e1
    have e3 : a0 = [] := List.eq_nil_of_length_eq_zero (by omega)
    subst e3
    obtain rfl := (catL_eq h).2
    refine e_seq fun K hK => ?_
    refine e_region_text rfl ?_
    refine q_assign rfl rfl ?_
    refine eseq_nil ?_
    refine hK _ _ ?_; clear hK
    refine e_ret ?_
    exact ⟨_, res1 rfl rfl, _, R, rfl, hS.nilOwn branchTy 48⟩
  refine e_skip ?_
  refine hK _ _ ?_; clear hK
  refine e_seq fun K hK => ?_
  refine e_region_text rfl ?_
  refine q_slice0 rfl fun wz bz hgz hbz hBz => ?_
  replace f1 := f1.ext hBz
  replace hS := hS.newOwnS hBz (Own.empty branchTy (S := R) hbz (Nat.zero_le _)) (fun k hk => by cases hk; exact hgz) (fun _ h => h)
  refine q_move rfl rfl ?_
  refine q_catO (T := branchTy) rfl rfl rfl rfl (hS.own 0 rfl) rfl f1 (hS.ownOff 0 rfl) h (Nat.zero_le _) rfl (fun h => by cases h) fun v7 w1 hw1 hgr1 hnw1 => ?_
  replace hS := hS.setOwn 0 rfl hw1 hgr1 hnw1; simp only [List.set] at hS
  refine q_assign rfl rfl ?_
  refine eseq_nil ?_
  refine hK _ _ ?_; clear hK
  refine e_ret ?_
  exact ⟨_, res1 rfl rfl, _, R, rfl, hS⟩
theorem cloneLetters_w {F R : Nat → Prop} {w : World} {fuel : Nat} {a0 : List Letter} {v1 : Value} {r : List Letter} (hS : Sep F R R w w []) (f1 : IsSlice letterTy w R v1 a0) (h : cloneLetters fuel a0 = some r) :
    Gives Try.prog 58 [v1] w fun u w1 => ∃ (v2 : Value), ∃ (R1 : Nat → Prop), u = v2 ∧ Sep F R R1 w w1 [HP.own letterTy (fun _ => False) 43 v2 r] := by
  unfold cloneLetters at h
  have hx0 := f1
  obtain ⟨ad, c, rfl, hc0, hnil, -, -⟩ := hx0
  refine fn_of Try.func58 rfl Try.ntmps58 (Nat.le_of_ble_eq_true rfl) ?_
  refine e_seq fun K hK => ?_
  refine e_region_text rfl ?_
  refine q_assign rfl rfl ?_
  refine eseq_nil ?_
  refine hK _ _ ?_; clear hK
  refine e_seq fun K hK => ?_
  refine e_seq fun K hK => ?_
  refine e_region_text rfl ?_
  refine q_move rfl rfl ?_
  refine q_eqlNil rfl rfl rfl ?_
  refine eseq_nil ?_
  refine hK _ _ ?_; clear hK
  refine e_cond rfl (fun hb => ?_) (fun hb => ?_)
  · have e1 : ad = none := by simpa using hb
    have e2 := hnil e1
    have e3 : a0 = [] := List.eq_nil_of_length_eq_zero (by omega)
    subst e3
    obtain rfl := (catL_eq h).2
    refine e_seq fun K hK => ?_
    refine e_region_text rfl ?_
    refine q_assign rfl rfl ?_
    refine eseq_nil ?_
    refine hK _ _ ?_; clear hK
    refine e_ret ?_
    exact ⟨_, res1 rfl rfl, _, R, rfl, hS.nilOwn0 letterTy 43⟩
  refine e_skip ?_
  refine hK _ _ ?_; clear hK
  refine e_seq fun K hK => ?_
  refine e_region_text rfl ?_
  refine q_slice0 rfl fun wz bz hgz hbz hBz => ?_
  replace f1 := f1.ext hBz
  replace hS := hS.newOwnS hBz (Own.empty letterTy (S := (fun _ => False)) hbz (Nat.zero_le _)) (fun k hk => by cases hk; exact hgz) (fun _ h => h.elim)
  refine q_move rfl rfl ?_
  refine q_catE (T := letterTy) rfl rfl rfl rfl (hS.own 0 rfl) rfl f1 h (Nat.zero_le _) rfl (fun h => by cases h) fun v7 w1 hw1 hgr1 hnw1 => ?_
  replace hS := hS.setOwn 0 rfl hw1 hgr1 hnw1; simp only [List.set] at hS
  refine q_assign rfl rfl ?_
  refine eseq_nil ?_
  refine hK _ _ ?_; clear hK
  refine e_ret ?_
  exact ⟨_, res1 rfl rfl, _, R, rfl, hS⟩
theorem machine_copied_w {F R : Nat → Prop} {w : World} {fuel : Nat} {a0 : CascadeMachine} {v1 : Value} {v2 : Value} {r : (CascadeMachine)} (hS : Sep F R R w w []) (f1 : IsSlice branchTy w R v1 a0.cascade.branches) (f2 : IsSlice letterTy w R v2 a0.cascade.flight) (h : machine_copied fuel a0 = some r) :
    Gives Try.prog 39 [.agg #[v1, v2]] w fun u w1 => ∃ (v20 : Value), ∃ (v21 : Value), ∃ (R1 : Nat → Prop), u = .agg #[v20, v21] ∧ Sep F R R1 w w1 [HP.own branchTy R1 48 v20 r.cascade.branches, HP.own letterTy (fun _ => False) 43 v21 r.cascade.flight] := by
  refine fn_of Try.func39 rfl Try.ntmps39 (Nat.le_of_ble_eq_true rfl) ?_
  unfold machine_copied at h
  refine e_seq fun K22 hK22 => ?_
  refine e_region_text rfl ?_
  refine q_boxB rfl rfl rfl fun w23 bl23 hg23 hb23 hB23 => ?_
  replace f1 := f1.ext hB23
  replace f2 := f2.ext hB23
  replace hS := hS.newBlk hB23 hg23 hb23
  refine q_allocB rfl fun w25 bl25 hg25 hb25 hB25 => ?_
  replace f1 := f1.ext hB25
  replace f2 := f2.ext hB25
  replace hS := hS.newBlk hB25 hg25 hb25
  refine eseq_nil ?_
  refine hK22 _ _ ?_
  refine e_seq fun K27 hK27 => ?_
  refine e_region_text rfl ?_
  refine q_field rfl rfl ?_
  refine q_field rfl rfl ?_
  refine q_load rfl (Blk.cell (hS.blk 1 rfl) rfl) rfl ?_
  obtain ⟨r29, hr29, h⟩ := Option.of_bind h
  refine q_call rfl (cloneBranches_w (Sep.enter (As := []) hS) f1 hr29) rfl ?_
  rintro v30 w28 ⟨_, R28, rfl, hC28⟩
  have hB28 : Below (World.heap w25).size w25 w28 := hC28.stepB0
  refine ⟨fun _ => .of_below hB28, ?_⟩
  replace f1 := (f1.ext hB28).mono fun k hk _ => hC28.ro0 k hk
  replace f2 := (f2.ext hB28).mono fun k hk _ => hC28.ro0 k hk
  replace hS := Sep.leave (As := []) hS hC28; simp only [List.cons_append, List.nil_append] at hS
  refine q_field rfl rfl ?_
  refine q_field rfl rfl ?_
  refine q_store rfl rfl (hS.blk 2 rfl) (Nat.le_of_ble_eq_true rfl) (hS.own 0 rfl).one rfl rfl fun w31 hb31 hO31 => ?_
  have hk31 := hS.keptBlk 2 rfl hO31
  replace f2 := f2.kept hk31
  replace hS := hS.setBlk 2 rfl hb31 hO31; simp only [List.set] at hS
  refine eseq_nil ?_
  refine hK27 _ _ ?_
  refine e_seq fun K32 hK32 => ?_
  refine e_region_text rfl ?_
  refine q_field rfl rfl ?_
  refine q_field rfl rfl ?_
  refine q_load rfl (Blk.cell (hS.blk 2 rfl) rfl) rfl ?_
  obtain ⟨r34, hr34, h⟩ := Option.of_bind h
  refine q_call rfl (cloneLetters_w (Sep.enter (As := []) hS) f2 hr34) rfl ?_
  rintro v35 w33 ⟨_, R33, rfl, hC33⟩
  have hB33 : Below (World.heap w31).size w31 w33 := hC33.stepB0
  refine ⟨fun _ => .of_below hB33, ?_⟩
  replace f2 := (f2.ext hB33).mono fun k hk _ => hC33.ro0 k hk
  replace hS := Sep.leave (As := []) hS hC33; simp only [List.cons_append, List.nil_append] at hS
  refine q_field rfl rfl ?_
  refine q_field rfl rfl ?_
  refine q_store rfl rfl (hS.blk 3 rfl) (Nat.le_of_ble_eq_true rfl) (hS.own 0 rfl).one rfl rfl fun w36 hb36 hO36 => ?_
  have hk36 := hS.keptBlk 3 rfl hO36
  replace hS := hS.setBlk 3 rfl hb36 hO36; simp only [List.set] at hS
  refine eseq_nil ?_
  refine hK32 _ _ ?_
  refine e_seq fun K37 hK37 => ?_
  refine e_region_text rfl ?_
  refine q_loadAgg rfl (Blk.cellsAt (hS.blk 3 rfl) 0 2 rfl) rfl rfl ?_
  refine q_storeAgg rfl rfl (hS.blk 2 rfl) rfl (Nat.le_of_ble_eq_true rfl) (all_cons (hS.own 1 rfl).one (all_cons (hS.own 0 rfl).one (all_nil))) rfl rfl fun w38 hb38 hO38 => ?_
  simp only [setN, List.set, List.take, List.drop] at hb38
  have hk38 := hS.keptBlk 2 rfl hO38
  replace hS := hS.setBlk 2 rfl hb38 hO38; simp only [List.set] at hS
  refine eseq_nil ?_
  refine hK37 _ _ ?_
  refine e_ret ?_
  obtain rfl := Option.some.inj h
  replace hS := hS.ownMono 1 rfl; simp only [List.set] at hS
  exact ⟨_, resC1 rfl rfl ((hS.blk 2 rfl).cellsAt 0 2 rfl) rfl, v30, v35, _, rfl, (hS.pickB [1, 0] 4 rfl rfl)⟩
theorem ref33_Copy_w {F R : Nat → Prop} {w : World} {fuel : Nat} {a0 : Cascade} {v1 : Value} {v2 : Value} {r : (Cascade)} (hS : Sep F R R w w []) (f1 : IsSlice branchTy w R v1 a0.branches) (f2 : IsSlice letterTy w R v2 a0.flight) (h : ref33_Copy fuel a0 = some r) :
    Gives Try.prog 46 [.agg #[v1, v2]] w fun u w1 => ∃ (v149 : Value), ∃ (v150 : Value), ∃ (R1 : Nat → Prop), u = .agg #[v149, v150] ∧ Sep F R R1 w w1 [HP.own branchTy R1 48 v149 r.branches, HP.own letterTy (fun _ => False) 43 v150 r.flight] := by
  refine fn_of Try.func46 rfl Try.ntmps46 (Nat.le_of_ble_eq_true rfl) ?_
  unfold ref33_Copy at h
  refine e_seq fun K151 hK151 => ?_
  refine e_region_text rfl ?_
  refine q_boxB rfl rfl rfl fun w152 bl152 hg152 hb152 hB152 => ?_
  replace f1 := f1.ext hB152
  replace f2 := f2.ext hB152
  replace hS := hS.newBlk hB152 hg152 hb152
  refine q_allocB rfl fun w154 bl154 hg154 hb154 hB154 => ?_
  replace f1 := f1.ext hB154
  replace f2 := f2.ext hB154
  replace hS := hS.newBlk hB154 hg154 hb154
  refine eseq_nil ?_
  refine hK151 _ _ ?_
  refine e_seq fun K156 hK156 => ?_
  refine e_region_text rfl ?_
  refine q_allocB rfl fun w157 bl157 hg157 hb157 hB157 => ?_
  replace f1 := f1.ext hB157
  replace f2 := f2.ext hB157
  replace hS := hS.newBlk hB157 hg157 hb157
  refine eseq_nil ?_
  refine hK156 _ _ ?_
  refine e_seq fun K159 hK159 => ?_
  refine e_seq fun K160 hK160 => ?_
  refine e_region_text rfl ?_
  refine q_assign rfl rfl ?_
  refine eseq_nil ?_
  refine hK160 _ _ ?_
  refine e_block ?_
  obtain ⟨tl161, ht161, h⟩ := Option.of_bind h
  have hX161_0 : ∀ (x257 : (List Branch)) (v256 : Value) (R251 : Nat → Prop) (w252 : World) (E_ : Env), ref33_Copy_K1 fuel a0 x257 = some r → Sep F R R251 w w252 [HP.blk bl152 [v1, v2] 28, HP.blk bl154 [.slice none 0 0, .slice none 0 0] 28, HP.blk bl157 [v256, .slice none 0 0] 28, HP.own branchTy R251 48 v256 x257] → IsSlice branchTy w252 R251 v1 a0.branches → IsSlice letterTy w252 R251 v2 a0.flight → Sub [(1, .pointer (some ⟨bl152, 0, none⟩)), (2, .pointer (some ⟨bl154, 0, none⟩)), (3, .pointer (some ⟨bl157, 0, none⟩))] E_ → K159 E_ w252 := by
    intro x257 v256 R251 w252 E_ h hS f253 f254 hsub
    refine hK159 _ _ (e_sub hsub ?_); clear hsub
    unfold ref33_Copy_K1 at h
    refine e_seq fun K258 hK258 => ?_
    refine e_region_text rfl ?_
    refine q_field rfl rfl ?_
    refine q_load rfl (Blk.cell (hS.blk 0 rfl) rfl) rfl ?_
    replace hS := hS.nilOwn0 letterTy 43
    obtain ⟨x261, hx261, h⟩ := Option.of_bind h
    refine q_catE (T := letterTy) rfl rfl rfl rfl (hS.own 0 rfl) rfl f254 hx261 (Nat.zero_le _) rfl (fun h => by cases h) fun v260 w260 hw260 hgr260 hnw260 => ?_
    have hk260 := hS.keptOwn 0 rfl hgr260
    replace f254 := f254.kept hk260
    replace hS := hS.setOwn 0 rfl hw260 hgr260 hnw260; simp only [List.set] at hS
    refine q_field rfl rfl ?_
    refine q_store rfl rfl (hS.blk 3 rfl) (Nat.le_of_ble_eq_true rfl) (hS.own 0 rfl).one rfl rfl fun w262 hb262 hO262 => ?_
    have hk262 := hS.keptBlk 3 rfl hO262
    replace hS := hS.setBlk 3 rfl hb262 hO262; simp only [List.set] at hS
    refine eseq_nil ?_
    refine hK258 _ _ ?_
    refine e_seq fun K263 hK263 => ?_
    refine e_region_text rfl ?_
    refine q_loadAgg rfl (Blk.cellsAt (hS.blk 3 rfl) 0 2 rfl) rfl rfl ?_
    refine q_storeAgg rfl rfl (hS.blk 2 rfl) rfl (Nat.le_of_ble_eq_true rfl) (all_cons (hS.own 4 rfl).one (all_cons (hS.own 0 rfl).one (all_nil))) rfl rfl fun w264 hb264 hO264 => ?_
    simp only [setN, List.set, List.take, List.drop] at hb264
    have hk264 := hS.keptBlk 2 rfl hO264
    replace hS := hS.setBlk 2 rfl hb264 hO264; simp only [List.set] at hS
    refine eseq_nil ?_
    refine hK263 _ _ ?_
    refine e_ret ?_
    obtain rfl := Option.some.inj h
    exact ⟨_, resC1 rfl rfl ((hS.blk 2 rfl).cellsAt 0 2 rfl) rfl, v256, v260, _, rfl, (hS.pickB [4, 0] 5 rfl rfl)⟩
  replace hS := hS.nilOwn branchTy 48
  refine e_loop (fun m_ E_ w206 => ∃ (x211 : (List Branch)), ∃ (x212 : Int), ∃ (v210 : Value), ∃ (R205 : Nat → Prop), iter (fun s => ref33_Copy_B1 fuel a0 s.1 s.2) m_ (x211, x212) = some tl161 ∧ Sep F R R205 w w206 [HP.blk bl152 [v1, v2] 28, HP.blk bl154 [.slice none 0 0, .slice none 0 0] 28, HP.blk bl157 [v210, .slice none 0 0] 28, HP.own branchTy R205 48 v210 x211] ∧ IsSlice branchTy w206 R205 v1 a0.branches ∧ IsSlice letterTy w206 R205 v2 a0.flight ∧ E_ = [(1, .pointer (some ⟨bl152, 0, none⟩)), (2, .pointer (some ⟨bl154, 0, none⟩)), (3, .pointer (some ⟨bl157, 0, none⟩)), (4, .int .i64 x212)]) _ ⟨_, ⟨([] : List Branch), 0, (.slice none 0 0), _, ht161, (hS.pickB [3, 2, 1, 0] 4 rfl rfl), f1, f2, rfl⟩, Sub.cons rfl (Sub.cons rfl (Sub.cons rfl (Sub.cons rfl (Sub.nil _))))⟩ ?_
  clear ht161 hS
  rintro m161 _ w206 ⟨x211, x212, v210, R205, ht161, hS, f207, f208, rfl⟩
  obtain ⟨m161, rfl, o161, ho161, ht161⟩ := iter_some ht161
  replace ho161 : ref33_Copy_B1 fuel a0 x211 x212 = some o161 := ho161
  unfold ref33_Copy_B1 at ho161
  refine e_seq fun K266 hK266 => ?_
  refine e_seq fun K267 hK267 => ?_
  refine e_region_text rfl ?_
  refine q_move rfl rfl ?_
  refine q_field rfl rfl ?_
  refine q_load rfl (Blk.cell (hS.blk 0 rfl) rfl) rfl ?_
  refine q_lenS rfl f207 rfl ?_
  refine q_lss rfl rfl rfl ?_
  refine eseq_nil ?_
  refine hK267 _ _ ?_
  refine e_cond rfl (fun hc268 => ?_) (fun hc268 => ?_)
  · replace ho161 := (if_pos hc268).symm.trans ho161
    refine e_skip ?_
    refine hK266 _ _ ?_
    refine e_seq fun K269 hK269 => ?_
    refine e_block ?_
    refine e_seq fun K270 hK270 => ?_
    refine e_region_text rfl ?_
    refine q_field rfl rfl ?_
    refine q_load rfl (Blk.cell (hS.blk 0 rfl) rfl) rfl ?_
    refine q_move rfl rfl ?_
    obtain ⟨x271, hx271, ho161⟩ := Option.of_bind ho161
    refine q_atS (by infer_instance) rfl f207 rfl hx271 rfl fun b272 o272 hm272 f272 => ?_
    obtain ⟨v273, v274, hc275, f273, f274⟩ := Branch_open f272
    refine q_loadAgg rfl hc275 rfl rfl ?_
    refine q_allocB rfl fun w276 bl276 hg276 hb276 hB276 => ?_
    replace f207 := f207.ext hB276
    replace f208 := f208.ext hB276
    replace f273 := f273.ext hB276
    replace f274 := f274.ext hB276
    replace hS := hS.newBlk hB276 hg276 hb276
    refine q_storeAgg rfl rfl (hS.blk 0 rfl) rfl (Nat.le_of_ble_eq_true rfl) (all_cons rfl (all_cons f273.one (all_cons rfl (all_cons f274.one (all_nil))))) rfl rfl fun w278 hb278 hO278 => ?_
    simp only [setN, List.set, List.take, List.drop] at hb278
    have hk278 := hS.keptBlk 0 rfl hO278
    replace f207 := f207.kept hk278
    replace f208 := f208.kept hk278
    replace f273 := f273.kept hk278
    replace f274 := f274.kept hk278
    replace hS := hS.setBlk 0 rfl hb278 hO278; simp only [List.set] at hS
    refine eseq_nil ?_
    refine hK270 _ _ ?_
    refine e_seq fun K279 hK279 => ?_
    refine e_region_text rfl ?_
    refine q_field rfl rfl ?_
    refine q_load rfl (Blk.cell (hS.blk 0 rfl) rfl) rfl ?_
    replace hS := hS.nilOwn0 evtTy 83
    obtain ⟨x282, hx282, ho161⟩ := Option.of_bind ho161
    refine q_catE (T := evtTy) rfl rfl rfl rfl (hS.own 0 rfl) rfl f273 hx282 (Nat.zero_le _) rfl (fun h => by cases h) fun v281 w281 hw281 hgr281 hnw281 => ?_
    have hk281 := hS.keptOwn 0 rfl hgr281
    replace f207 := f207.kept hk281
    replace f208 := f208.kept hk281
    replace f273 := f273.kept hk281
    replace f274 := f274.kept hk281
    replace hS := hS.setOwn 0 rfl hw281 hgr281 hnw281; simp only [List.set] at hS
    refine q_field rfl rfl ?_
    refine q_store rfl rfl (hS.blk 1 rfl) (Nat.le_of_ble_eq_true rfl) (hS.own 0 rfl).one rfl rfl fun w283 hb283 hO283 => ?_
    have hk283 := hS.keptBlk 1 rfl hO283
    replace f207 := f207.kept hk283
    replace f208 := f208.kept hk283
    replace f274 := f274.kept hk283
    replace hS := hS.setBlk 1 rfl hb283 hO283; simp only [List.set] at hS
    refine eseq_nil ?_
    refine hK279 _ _ ?_
    refine e_seq fun K284 hK284 => ?_
    refine e_region_text rfl ?_
    refine q_field rfl rfl ?_
    refine q_load rfl (Blk.cell (hS.blk 1 rfl) rfl) rfl ?_
    replace hS := hS.nilOwn0 endITy 41
    obtain ⟨x287, hx287, ho161⟩ := Option.of_bind ho161
    refine q_catE (T := endITy) rfl rfl rfl rfl (hS.own 0 rfl) rfl f274 hx287 (Nat.zero_le _) rfl (fun h => by cases h) fun v286 w286 hw286 hgr286 hnw286 => ?_
    have hk286 := hS.keptOwn 0 rfl hgr286
    replace f207 := f207.kept hk286
    replace f208 := f208.kept hk286
    replace f274 := f274.kept hk286
    replace hS := hS.setOwn 0 rfl hw286 hgr286 hnw286; simp only [List.set] at hS
    refine q_field rfl rfl ?_
    refine q_store rfl rfl (hS.blk 2 rfl) (Nat.le_of_ble_eq_true rfl) (hS.own 0 rfl).one rfl rfl fun w288 hb288 hO288 => ?_
    have hk288 := hS.keptBlk 2 rfl hO288
    replace f207 := f207.kept hk288
    replace f208 := f208.kept hk288
    replace hS := hS.setBlk 2 rfl hb288 hO288; simp only [List.set] at hS
    refine eseq_nil ?_
    refine hK284 _ _ ?_
    refine e_region_text rfl ?_
    refine q_field rfl rfl ?_
    refine q_load rfl (Blk.cell (hS.blk 5 rfl) rfl) rfl ?_
    refine q_loadAgg rfl (Blk.cellsAt (hS.blk 2 rfl) 0 4 rfl) rfl rfl ?_
    obtain ⟨R290, hS, hm290, f290⟩ := hS.freezeOwn 1 rfl; simp only [List.eraseIdx] at hS
    replace f207 := f207.mono fun k hk _ => hm290 k hk
    replace f208 := f208.mono fun k hk _ => hm290 k hk
    obtain ⟨R291, hS, hm291, f291⟩ := hS.freezeOwn 0 rfl; simp only [List.eraseIdx] at hS
    replace f207 := f207.mono fun k hk _ => hm291 k hk
    replace f208 := f208.mono fun k hk _ => hm291 k hk
    replace f290 := f290.mono fun k hk _ => hm291 k hk
    refine q_litO (T := branchTy) (S := R291) (cells := [[.int .i64 x271.inc, v281, .int .i64 x271.stable, v286]]) (ys := [(⟨x271.inc, x282, x271.stable, x287⟩ : Branch)]) ((Parts.cons rfl rfl Parts.nil)) rfl rfl rfl rfl rfl rfl rfl (fun w1 hB => ⟨⟨[_], _, rfl, rfl, ⟨[_], _, rfl, ⟨_, rfl, f290.ext hB⟩, ⟨[_], _, rfl, rfl, ⟨_, rfl, f291.ext hB⟩⟩⟩⟩, trivial⟩) hS.ro rfl fun w289 v289 ho289 hv289 hB289 => ?_
    replace f207 := f207.ext hB289
    replace f208 := f208.ext hB289
    replace f290 := f290.ext hB289
    replace f291 := f291.ext hB289
    replace hS := hS.newOwnS hB289 ho289 hv289 (fun _ h => h)
    replace hS := hS.ownMono 5 rfl; simp only [List.set] at hS
    obtain ⟨x294, hx294, ho161⟩ := Option.of_bind ho161
    refine q_catOwn (T := branchTy) rfl rfl rfl rfl (hS.own 5 rfl) rfl (hS.own 0 rfl) (hS.ownOff 5 rfl) (snoc_cat hx294) (Nat.zero_le _) rfl (fun h => by cases h) fun v293 w293 hw293 hgr293 hnw293 => ?_
    have hk293 := hS.keptOwn 5 rfl hgr293
    replace f207 := f207.kept hk293
    replace f208 := f208.kept hk293
    replace hS := hS.setOwn 5 rfl hw293 hgr293 hnw293; simp only [List.set] at hS
    refine q_field rfl rfl ?_
    refine q_store rfl rfl (hS.blk 4 rfl) (Nat.le_of_ble_eq_true rfl) (hS.own 5 rfl).one rfl rfl fun w295 hb295 hO295 => ?_
    have hk295 := hS.keptBlk 4 rfl hO295
    replace f207 := f207.kept hk295
    replace f208 := f208.kept hk295
    replace hS := hS.setBlk 4 rfl hb295 hO295; simp only [List.set] at hS
    refine eseq_nil ?_
    refine hK269 _ _ ?_
    refine e_region_text rfl ?_
    refine q_move rfl rfl ?_
    refine q_addW rfl rfl rfl ?_
    refine q_assign rfl rfl ?_
    refine eseq_nil ?_
    obtain rfl := Option.some.inj ho161
    exact ⟨m161, _, Nat.lt_succ_self _, ⟨x294, (w64 (x212 + 1)), v293, _, ht161, (hS.pickB [2, 3, 4, 5] 6 rfl rfl), f207, f208, rfl⟩, Sub.cons rfl (Sub.cons rfl (Sub.cons rfl (Sub.cons rfl (Sub.nil _))))⟩
  · replace ho161 := (if_neg (not_true hc268)).symm.trans ho161
    refine e_exit ?_
    obtain rfl := Option.some.inj ho161
    obtain rfl := Option.some.inj ht161
    exact hX161_0 x211 v210 _ _ _ h hS f207 f208 (Sub.cons rfl (Sub.cons rfl (Sub.cons rfl (Sub.nil _))))
theorem ref32_SameLineages_w {F R : Nat → Prop} {w : World} {fuel : Nat} {a0 : (List (List Evt))} {a1 : (List (List Evt))} {v1 : Value} {v2 : Value} {r : (Bool)} (hS : Sep F R R w w []) (f1 : IsSlice (Ty.slice evtTy) w R v1 a0) (f2 : IsSlice (Ty.slice evtTy) w R v2 a1) (h : ref32_SameLineages fuel a0 a1 = some r) :
    Gives Try.prog 24 [v1, v2] w fun u w1 => ∃ (R1 : Nat → Prop), u = .bool r ∧ Sep F R R1 w w1 [] := by
  refine fn_of Try.func24 rfl Try.ntmps24 (Nat.le_of_ble_eq_true rfl) ?_
  unfold ref32_SameLineages at h
  refine e_seq fun K349 hK349 => ?_
  refine e_region_text rfl ?_
  refine q_assign rfl rfl ?_
  refine eseq_nil ?_
  refine hK349 _ _ ?_
  refine e_seq fun K350 hK350 => ?_
  refine e_seq fun K351 hK351 => ?_
  refine e_region_text rfl ?_
  refine q_move rfl rfl ?_
  refine q_lenS rfl f1 rfl ?_
  refine q_move rfl rfl ?_
  refine q_lenS rfl f2 rfl ?_
  refine q_neq rfl rfl rfl ?_
  refine eseq_nil ?_
  refine hK351 _ _ ?_
  refine e_cond rfl (fun hc352 => ?_) (fun hc352 => ?_)
  · replace h := (if_pos hc352).symm.trans h
    refine e_seq fun K353 hK353 => ?_
    refine e_region_text rfl ?_
    refine q_assign rfl rfl ?_
    refine eseq_nil ?_
    refine hK353 _ _ ?_
    refine e_ret ?_
    obtain rfl := Option.some.inj h
    exact ⟨_, res1 rfl rfl, _, rfl, hS⟩
  · replace h := (if_neg (not_true hc352)).symm.trans h
    refine e_skip ?_
    refine hK350 _ _ ?_
    refine e_seq fun K354 hK354 => ?_
    refine e_seq fun K355 hK355 => ?_
    refine e_region_text rfl ?_
    refine q_assign rfl rfl ?_
    refine eseq_nil ?_
    refine hK355 _ _ ?_
    refine e_block ?_
    obtain ⟨tl356, ht356, h⟩ := Option.of_bind h
    have hX356_0 : ∀ (R586 : Nat → Prop) (w587 : World) (E_ : Env), ref32_SameLineages_K1 fuel = some r → Sep F R R586 w w587 [] → Sub [] E_ → K354 E_ w587 := by
      intro R586 w587 E_ h hS  hsub
      refine hK354 _ _ (e_sub hsub ?_); clear hsub
      unfold ref32_SameLineages_K1 at h
      refine e_seq fun K588 hK588 => ?_
      refine e_region_text rfl ?_
      refine q_assign rfl rfl ?_
      refine eseq_nil ?_
      refine hK588 _ _ ?_
      refine e_ret ?_
      obtain rfl := Option.some.inj h
      exact ⟨_, res1 rfl rfl, _, rfl, hS⟩
    refine e_loop (fun m_ E_ w472 => ∃ (x475 : Int), ∃ (R471 : Nat → Prop), iter (fun s => ref32_SameLineages_B1 fuel a0 a1 s) m_ x475 = some tl356 ∧ Sep F R R471 w w472 [] ∧ IsSlice (Ty.slice evtTy) w472 R471 v1 a0 ∧ IsSlice (Ty.slice evtTy) w472 R471 v2 a1 ∧ E_ = [(0, v1), (1, v2), (5, .int .i64 x475)]) _ ⟨_, ⟨0, _, ht356, hS, f1, f2, rfl⟩, Sub.cons rfl (Sub.cons rfl (Sub.cons rfl (Sub.nil _)))⟩ ?_
    clear ht356 hS
    rintro m356 _ w472 ⟨x475, R471, ht356, hS, f473, f474, rfl⟩
    obtain ⟨m356, rfl, o356, ho356, ht356⟩ := iter_some ht356
    replace ho356 : ref32_SameLineages_B1 fuel a0 a1 x475 = some o356 := ho356
    unfold ref32_SameLineages_B1 at ho356
    refine e_seq fun K589 hK589 => ?_
    refine e_seq fun K590 hK590 => ?_
    refine e_region_text rfl ?_
    refine q_move rfl rfl ?_
    refine q_move rfl rfl ?_
    refine q_lenS rfl f473 rfl ?_
    refine q_lss rfl rfl rfl ?_
    refine eseq_nil ?_
    refine hK590 _ _ ?_
    refine e_cond rfl (fun hc591 => ?_) (fun hc591 => ?_)
    · replace ho356 := (if_pos hc591).symm.trans ho356
      refine e_skip ?_
      refine hK589 _ _ ?_
      refine e_seq fun K592 hK592 => ?_
      refine e_block ?_
      refine e_seq fun K593 hK593 => ?_
      refine e_seq fun K594 hK594 => ?_
      refine e_region_draw mixed (fun _ => False) [0, 0, 3, 7, 15, 0, 0, 96, 224, 480, 1023] [] [0, 1, 2, 3, 4, 5, 6, 7, 8, 9, 10] (by kernel_rfl) ?_
      refine q_move rfl rfl ?_
      refine q_move rfl rfl ?_
      obtain ⟨x595, hx595, ho356⟩ := Option.of_bind ho356
      refine q_atS (by infer_instance) rfl f473 rfl hx595 rfl fun b596 o596 hm596 f596 => ?_
      refine q_loadE rfl f596 rfl (fun v597 f597 => ?_)
      refine q_lenS rfl f597 rfl ?_
      refine q_move rfl rfl ?_
      refine q_move rfl rfl ?_
      obtain ⟨x598, hx598, ho356⟩ := Option.of_bind ho356
      refine q_atS (by infer_instance) rfl f474 rfl hx598 rfl fun b599 o599 hm599 f599 => ?_
      refine q_loadE rfl f599 rfl (fun v600 f600 => ?_)
      refine q_lenS rfl f600 rfl ?_
      refine q_neq rfl rfl rfl ?_
      refine eseq_nil ?_
      refine hK594 _ _ ?_
      refine e_cond rfl (fun hc601 => ?_) (fun hc601 => ?_)
      · replace ho356 := (if_pos hc601).symm.trans ho356
        refine e_seq fun K602 hK602 => ?_
        refine e_region_text rfl ?_
        refine q_assign rfl rfl ?_
        refine eseq_nil ?_
        refine hK602 _ _ ?_
        refine e_ret ?_
        obtain rfl := Option.some.inj ho356
        obtain rfl := Option.some.inj ht356
        obtain rfl := Option.some.inj h
        exact ⟨_, res1 rfl rfl, _, rfl, hS⟩
      · replace ho356 := (if_neg (not_true hc601)).symm.trans ho356
        refine e_skip ?_
        refine hK593 _ _ ?_
        refine e_seq fun K603 hK603 => ?_
        refine e_region_text rfl ?_
        refine q_assign rfl rfl ?_
        refine eseq_nil ?_
        refine hK603 _ _ ?_
        refine e_block ?_
        obtain ⟨tl604, ht604, ho356⟩ := Option.of_bind ho356
        have hX604_2 : ∀ (R668 : Nat → Prop) (w669 : World) (E_ : Env), ref32_SameLineages_K2 fuel x475 = some o356 → Sep F R R668 w w669 [] → IsSlice (Ty.slice evtTy) w669 R668 v1 a0 → IsSlice (Ty.slice evtTy) w669 R668 v2 a1 → Sub [(0, v1), (1, v2), (5, .int .i64 x475)] E_ → K592 E_ w669 := by
          intro R668 w669 E_ ho356 hS f670 f671 hsub
          refine hK592 _ _ (e_sub hsub ?_); clear hsub
          unfold ref32_SameLineages_K2 at ho356
          refine e_region_text rfl ?_
          refine q_move rfl rfl ?_
          refine q_addW rfl rfl rfl ?_
          refine q_assign rfl rfl ?_
          refine eseq_nil ?_
          obtain rfl := Option.some.inj ho356
          exact ⟨m356, _, Nat.lt_succ_self _, ⟨(w64 (x475 + 1)), _, ht356, hS, f670, f671, rfl⟩, Sub.cons rfl (Sub.cons rfl (Sub.cons rfl (Sub.nil _)))⟩
        refine e_loop (fun m_ E_ w637 => ∃ (x640 : Int), ∃ (R636 : Nat → Prop), iter (fun s => ref32_SameLineages_B2 fuel a0 x475 a1 s) m_ x640 = some tl604 ∧ Sep F R R636 w w637 [] ∧ IsSlice (Ty.slice evtTy) w637 R636 v1 a0 ∧ IsSlice (Ty.slice evtTy) w637 R636 v2 a1 ∧ E_ = [(0, v1), (1, v2), (5, .int .i64 x475), (6, .int .i64 x640)]) _ ⟨_, ⟨0, _, ht604, hS, f473, f474, rfl⟩, Sub.cons rfl (Sub.cons rfl (Sub.cons rfl (Sub.cons rfl (Sub.nil _))))⟩ ?_
        clear ht604 hS
        rintro m604 _ w637 ⟨x640, R636, ht604, hS, f638, f639, rfl⟩
        obtain ⟨m604, rfl, o604, ho604, ht604⟩ := iter_some ht604
        replace ho604 : ref32_SameLineages_B2 fuel a0 x475 a1 x640 = some o604 := ho604
        unfold ref32_SameLineages_B2 at ho604
        refine e_seq fun K672 hK672 => ?_
        refine e_seq fun K673 hK673 => ?_
        refine e_region_text rfl ?_
        refine q_move rfl rfl ?_
        refine q_move rfl rfl ?_
        refine q_move rfl rfl ?_
        obtain ⟨x674, hx674, ho604⟩ := Option.of_bind ho604
        refine q_atS (by infer_instance) rfl f638 rfl hx674 rfl fun b675 o675 hm675 f675 => ?_
        refine q_loadE rfl f675 rfl (fun v676 f676 => ?_)
        refine q_lenS rfl f676 rfl ?_
        refine q_lss rfl rfl rfl ?_
        refine eseq_nil ?_
        refine hK673 _ _ ?_
        refine e_cond rfl (fun hc677 => ?_) (fun hc677 => ?_)
        · replace ho604 := (if_pos hc677).symm.trans ho604
          refine e_skip ?_
          refine hK672 _ _ ?_
          refine e_seq fun K678 hK678 => ?_
          refine e_block ?_
          refine e_seq fun K679 hK679 => ?_
          refine e_region_draw mixed (fun _ => False) [0, 0, 3, 7, 0, 31, 63, 0, 0, 384, 896, 0, 3968, 8064, 16383] [] [0, 1, 2, 3, 4, 5, 6, 7, 8, 9, 10, 11, 12, 13, 14] (by kernel_rfl) ?_
          refine q_move rfl rfl ?_
          refine q_move rfl rfl ?_
          obtain ⟨x680, hx680, ho604⟩ := Option.of_bind ho604
          refine q_atS (by infer_instance) rfl f638 rfl hx680 rfl fun b681 o681 hm681 f681 => ?_
          refine q_loadE rfl f681 rfl (fun v682 f682 => ?_)
          refine q_move rfl rfl ?_
          obtain ⟨x683, hx683, ho604⟩ := Option.of_bind ho604
          refine q_atS (by infer_instance) rfl f682 rfl hx683 rfl fun b684 o684 hm684 f684 => ?_
          have hc685 := Evt_open f684
          refine q_loadAgg rfl hc685 rfl rfl ?_
          refine q_move rfl rfl ?_
          refine q_move rfl rfl ?_
          obtain ⟨x686, hx686, ho604⟩ := Option.of_bind ho604
          refine q_atS (by infer_instance) rfl f639 rfl hx686 rfl fun b687 o687 hm687 f687 => ?_
          refine q_loadE rfl f687 rfl (fun v688 f688 => ?_)
          refine q_move rfl rfl ?_
          obtain ⟨x689, hx689, ho604⟩ := Option.of_bind ho604
          refine q_atS (by infer_instance) rfl f688 rfl hx689 rfl fun b690 o690 hm690 f690 => ?_
          have hc691 := Evt_open f690
          refine q_loadAgg rfl hc691 rfl rfl ?_
          refine q_neqA eqT83 (by kernel_rfl) rfl rfl rfl ?_
          refine eseq_nil ?_
          refine hK679 _ _ ?_
          refine e_cond rfl (fun hc692 => ?_) (fun hc692 => ?_)
          · replace ho604 := (if_pos hc692).symm.trans ho604
            refine e_seq fun K693 hK693 => ?_
            refine e_region_text rfl ?_
            refine q_assign rfl rfl ?_
            refine eseq_nil ?_
            refine hK693 _ _ ?_
            refine e_ret ?_
            obtain rfl := Option.some.inj ho604
            obtain rfl := Option.some.inj ht604
            obtain rfl := Option.some.inj ho356
            obtain rfl := Option.some.inj ht356
            obtain rfl := Option.some.inj h
            exact ⟨_, res1 rfl rfl, _, rfl, hS⟩
          · replace ho604 := (if_neg (not_true hc692)).symm.trans ho604
            refine e_skip ?_
            refine hK678 _ _ ?_
            refine e_region_text rfl ?_
            refine q_move rfl rfl ?_
            refine q_addW rfl rfl rfl ?_
            refine q_assign rfl rfl ?_
            refine eseq_nil ?_
            obtain rfl := Option.some.inj ho604
            exact ⟨m604, _, Nat.lt_succ_self _, ⟨(w64 (x640 + 1)), _, ht604, hS, f638, f639, rfl⟩, Sub.cons rfl (Sub.cons rfl (Sub.cons rfl (Sub.cons rfl (Sub.nil _))))⟩
        · replace ho604 := (if_neg (not_true hc677)).symm.trans ho604
          refine e_exit ?_
          obtain rfl := Option.some.inj ho604
          obtain rfl := Option.some.inj ht604
          exact hX604_2  _ _ _ ho356 hS f638 f639 (Sub.cons rfl (Sub.cons rfl (Sub.cons rfl (Sub.nil _))))
    · replace ho356 := (if_neg (not_true hc591)).symm.trans ho356
      refine e_exit ?_
      obtain rfl := Option.some.inj ho356
      obtain rfl := Option.some.inj ht356
      exact hX356_0  _ _ _ h hS  (Sub.nil _)
theorem ref33_Same_w {F R : Nat → Prop} {w : World} {fuel : Nat} {a0 : Cascade} {a1 : Cascade} {v1 : Value} {v2 : Value} {v3 : Value} {v4 : Value} {r : (Bool)} (hS : Sep F R R w w []) (f1 : IsSlice branchTy w R v1 a0.branches) (f2 : IsSlice letterTy w R v2 a0.flight) (f3 : IsSlice branchTy w R v3 a1.branches) (f4 : IsSlice letterTy w R v4 a1.flight) (h : ref33_Same fuel a0 a1 = some r) :
    Gives Try.prog 14 [.agg #[v1, v2], .agg #[v3, v4]] w fun u w1 => ∃ (R1 : Nat → Prop), u = .bool r ∧ Sep F R R1 w w1 [] := by
  refine fn_of Try.func14 rfl Try.ntmps14 (Nat.le_of_ble_eq_true rfl) ?_
  unfold ref33_Same at h
  refine e_seq fun K338 hK338 => ?_
  refine e_region_text rfl ?_
  refine q_boxB rfl rfl rfl fun w339 bl339 hg339 hb339 hB339 => ?_
  replace f1 := f1.ext hB339
  replace f2 := f2.ext hB339
  replace f3 := f3.ext hB339
  replace f4 := f4.ext hB339
  replace hS := hS.newBlk hB339 hg339 hb339
  refine q_boxB rfl rfl rfl fun w341 bl341 hg341 hb341 hB341 => ?_
  replace f3 := f3.ext hB341
  replace f4 := f4.ext hB341
  replace f1 := f1.ext hB341
  replace f2 := f2.ext hB341
  replace hS := hS.newBlk hB341 hg341 hb341
  refine q_assign rfl rfl ?_
  refine eseq_nil ?_
  refine hK338 _ _ ?_
  refine e_seq fun K343 hK343 => ?_
  refine e_seq fun K344 hK344 => ?_
  refine e_region_draw mixed (fun _ => False) [0, 1, 3, 0, 8, 24, 63, 127, 255, 511, 1023, 255, 2303, 6399, 16383, 32767, 65535, 131071, 262143, 131071, 1048575, 2097151, 4194303, 8388607] [18] [0, 1, 2, 3, 4, 5, 6, 7, 8, 9, 10, 11, 12, 13, 14, 15, 16, 17, 19, 18, 20, 21, 22, 23] (by kernel_rfl) ?_
  refine q_field rfl rfl ?_
  refine q_load rfl (Blk.cell (hS.blk 1 rfl) rfl) rfl ?_
  refine q_lenS rfl f1 rfl ?_
  refine q_field rfl rfl ?_
  refine q_load rfl (Blk.cell (hS.blk 0 rfl) rfl) rfl ?_
  refine q_lenS rfl f3 rfl ?_
  refine q_neq rfl rfl rfl ?_
  refine q_move rfl rfl ?_
  obtain ⟨x376, hx375, h⟩ := Option.of_bind h
  refine g_orM 7 hx375 rfl trivial rfl rfl ?_ ?_ ?_
  · intro hg375
    refine g_skip rfl rfl rfl ?_
    refine g_skip rfl rfl rfl ?_
    refine g_skip rfl rfl rfl ?_
    refine g_skip rfl rfl rfl ?_
    refine g_skip rfl rfl rfl ?_
    refine g_skip rfl rfl rfl ?_
    refine g_skip rfl rfl rfl ?_
    exact eseq_nil ⟨rfl, Sub.set rfl (Sub.set rfl (Sub.set rfl (Sub.set rfl (Sub.set rfl (Sub.set rfl (Sub.set rfl (Sub.bool true rfl hg375)))))))⟩
  · intro hg375 hx375
    clear h
    have hT375 := Below.refl (World.heap w341).size w341
    refine g_run rfl ?_; refine q_field rfl rfl ?_
    refine g_run rfl ?_; refine q_load rfl (Blk.cell (hS.blk 1 rfl) rfl) rfl ?_
    refine g_run rfl ?_; refine q_lenS rfl f2 rfl ?_
    refine g_run rfl ?_; refine q_field rfl rfl ?_
    refine g_run rfl ?_; refine q_load rfl (Blk.cell (hS.blk 0 rfl) rfl) rfl ?_
    refine g_run rfl ?_; refine q_lenS rfl f4 rfl ?_
    refine g_run rfl ?_; refine q_neq rfl rfl rfl ?_
    cases hx375
    exact eseq_nil ⟨hT375, Sub.set rfl (Sub.set rfl (Sub.set rfl (Sub.set rfl (Sub.set rfl (Sub.set rfl (Sub.set rfl (Sub.bool false rfl hg375))))))), rfl⟩
  intro wm375 hBm375; clear hx375
  replace hS := hS.below hBm375
  replace f1 := f1.ext hBm375
  replace f2 := f2.ext hBm375
  replace f3 := f3.ext hBm375
  replace f4 := f4.ext hBm375
  refine q_move rfl rfl ?_
  obtain ⟨x390, hx389, h⟩ := Option.of_bind h
  refine g_orM 6 hx389 rfl trivial rfl rfl ?_ ?_ ?_
  · intro hg389
    refine g_skip rfl rfl rfl ?_
    refine g_skip rfl rfl rfl ?_
    refine g_skip rfl rfl rfl ?_
    refine g_skip rfl rfl rfl ?_
    refine g_skip rfl rfl rfl ?_
    refine g_skip rfl rfl rfl ?_
    exact eseq_nil ⟨rfl, Sub.set rfl (Sub.set rfl (Sub.set rfl (Sub.set rfl (Sub.set rfl (Sub.set rfl (Sub.bool true rfl hg389))))))⟩
  · intro hg389 hx389
    clear h
    have hT389 := Below.refl (World.heap wm375).size wm375
    refine g_run rfl ?_; refine q_loadAgg rfl (Blk.cellsAt (hS.blk 1 rfl) 0 2 rfl) rfl rfl ?_
    refine g_run rfl ?_; refine q_loadAgg rfl (Blk.cellsAt (hS.blk 0 rfl) 0 2 rfl) rfl rfl ?_
    obtain ⟨r392, hr392, hx389⟩ := Option.of_bind hx389
    refine g_run rfl ?_; refine q_call rfl (ref33_Lineages_w (a0 := (⟨a0.branches, a0.flight⟩ : Cascade)) (Sep.enter (As := []) hS) f1 f2 hr392) rfl ?_
    rintro v393 w391 ⟨_, v394, R391, rfl, hC391⟩
    have hB391 : Below (World.heap wm375).size wm375 w391 := hC391.stepB0
    refine ⟨fun _ => .of_below hB391, ?_⟩
    replace f1 := (f1.ext hB391).mono fun k hk _ => hC391.ro0 k hk
    replace f2 := (f2.ext hB391).mono fun k hk _ => hC391.ro0 k hk
    replace f3 := (f3.ext hB391).mono fun k hk _ => hC391.ro0 k hk
    replace f4 := (f4.ext hB391).mono fun k hk _ => hC391.ro0 k hk
    replace hT389 := hT389.trans (Below.mono hB391 hT389.size)
    replace hS := Sep.leave (As := []) hS hC391; simp only [List.cons_append, List.nil_append] at hS
    obtain ⟨r396, hr396, hx389⟩ := Option.of_bind hx389
    refine g_run rfl ?_; refine q_call rfl (ref33_Lineages_w (a0 := (⟨a1.branches, a1.flight⟩ : Cascade)) (Sep.enter (As := []) hS) f3 f4 hr396) rfl ?_
    rintro v397 w395 ⟨_, v398, R395, rfl, hC395⟩
    have hB395 : Below (World.heap w391).size w391 w395 := hC395.stepB0
    refine ⟨fun _ => .of_below hB395, ?_⟩
    replace f1 := (f1.ext hB395).mono fun k hk _ => hC395.ro0 k hk
    replace f2 := (f2.ext hB395).mono fun k hk _ => hC395.ro0 k hk
    replace f3 := (f3.ext hB395).mono fun k hk _ => hC395.ro0 k hk
    replace f4 := (f4.ext hB395).mono fun k hk _ => hC395.ro0 k hk
    replace hT389 := hT389.trans (Below.mono hB395 hT389.size)
    replace hS := Sep.leave (As := []) hS hC395; simp only [List.cons_append, List.nil_append] at hS
    obtain ⟨r400, hr400, hx389⟩ := Option.of_bind hx389
    refine g_run rfl ?_; refine q_call rfl (ref32_SameLineages_w (Sep.all w395) ((hS.rowsI 2 3 rfl rfl (by decide))).old ((hS.rowsI 0 1 rfl rfl (by decide))).old hr400) rfl ?_
    rintro _ w399 ⟨R399, rfl, hC399⟩
    have hB399 : Below (World.heap w395).size w395 w399 := hC399.stepBF
    refine ⟨fun _ => .of_below hB399, ?_⟩
    replace f1 := f1.ext hB399
    replace f2 := f2.ext hB399
    replace f3 := f3.ext hB399
    replace f4 := f4.ext hB399
    replace hT389 := hT389.trans (Below.mono hB399 hT389.size)
    replace hS := hS.below hB399
    refine g_run rfl ?_; refine q_not rfl rfl ?_
    cases hx389
    exact eseq_nil ⟨hT389, Sub.set rfl (Sub.set rfl (Sub.set rfl (Sub.set rfl (Sub.set rfl (Sub.set rfl (Sub.bool false rfl hg389)))))), rfl⟩
  intro wm389 hBm389; clear hx389
  replace hS := hS.below hBm389
  replace f1 := f1.ext hBm389
  replace f2 := f2.ext hBm389
  replace f3 := f3.ext hBm389
  replace f4 := f4.ext hBm389
  refine eseq_nil ?_
  refine hK344 _ _ ?_
  refine e_cond rfl (fun hc401 => ?_) (fun hc401 => ?_)
  · replace h := (if_pos hc401).symm.trans h
    refine e_seq fun K402 hK402 => ?_
    refine e_region_text rfl ?_
    refine q_assign rfl rfl ?_
    refine eseq_nil ?_
    refine hK402 _ _ ?_
    refine e_ret ?_
    obtain rfl := Option.some.inj h
    exact ⟨_, res1 rfl rfl, _, rfl, (hS.pickB [] 2 rfl rfl)⟩
  · replace h := (if_neg (not_true hc401)).symm.trans h
    refine e_skip ?_
    refine hK343 _ _ ?_
    refine e_seq fun K403 hK403 => ?_
    refine e_seq fun K404 hK404 => ?_
    refine e_region_text rfl ?_
    refine q_assign rfl rfl ?_
    refine eseq_nil ?_
    refine hK404 _ _ ?_
    refine e_block ?_
    obtain ⟨tl405, ht405, h⟩ := Option.of_bind h
    have hX405_0 : ∀ (R539 : Nat → Prop) (w540 : World) (E_ : Env), ref33_Same_K1 fuel a0 a1 = some r → Sep F R R539 w w540 [HP.blk bl339 [v1, v2] 28, HP.blk bl341 [v3, v4] 28] → IsSlice branchTy w540 R539 v1 a0.branches → IsSlice letterTy w540 R539 v2 a0.flight → IsSlice branchTy w540 R539 v3 a1.branches → IsSlice letterTy w540 R539 v4 a1.flight → Sub [(2, .pointer (some ⟨bl339, 0, none⟩)), (3, .pointer (some ⟨bl341, 0, none⟩))] E_ → K403 E_ w540 := by
      intro R539 w540 E_ h hS f541 f542 f543 f544 hsub
      refine hK403 _ _ (e_sub hsub ?_); clear hsub
      unfold ref33_Same_K1 at h
      refine e_seq fun K545 hK545 => ?_
      refine e_seq fun K546 hK546 => ?_
      refine e_region_text rfl ?_
      refine q_assign rfl rfl ?_
      refine eseq_nil ?_
      refine hK546 _ _ ?_
      refine e_block ?_
      obtain ⟨tl547, ht547, h⟩ := Option.of_bind h
      have hX547_2 : ∀ (R601 : Nat → Prop) (w602 : World) (E_ : Env), ref33_Same_K2 fuel = some r → Sep F R R601 w w602 [] → Sub [] E_ → K545 E_ w602 := by
        intro R601 w602 E_ h hS  hsub
        refine hK545 _ _ (e_sub hsub ?_); clear hsub
        unfold ref33_Same_K2 at h
        refine e_seq fun K603 hK603 => ?_
        refine e_region_text rfl ?_
        refine q_assign rfl rfl ?_
        refine eseq_nil ?_
        refine hK603 _ _ ?_
        refine e_ret ?_
        obtain rfl := Option.some.inj h
        exact ⟨_, res1 rfl rfl, _, rfl, hS⟩
      refine e_loop (fun m_ E_ w575 => ∃ (x580 : Int), ∃ (R574 : Nat → Prop), iter (fun s => ref33_Same_B1 fuel a0 a1 s) m_ x580 = some tl547 ∧ Sep F R R574 w w575 [HP.blk bl339 [v1, v2] 28, HP.blk bl341 [v3, v4] 28] ∧ IsSlice branchTy w575 R574 v1 a0.branches ∧ IsSlice letterTy w575 R574 v2 a0.flight ∧ IsSlice branchTy w575 R574 v3 a1.branches ∧ IsSlice letterTy w575 R574 v4 a1.flight ∧ E_ = [(2, .pointer (some ⟨bl339, 0, none⟩)), (3, .pointer (some ⟨bl341, 0, none⟩)), (6, .int .i64 x580)]) _ ⟨_, ⟨0, _, ht547, hS, f541, f542, f543, f544, rfl⟩, Sub.cons rfl (Sub.cons rfl (Sub.cons rfl (Sub.nil _)))⟩ ?_
      clear ht547 hS
      rintro m547 _ w575 ⟨x580, R574, ht547, hS, f576, f577, f578, f579, rfl⟩
      obtain ⟨m547, rfl, o547, ho547, ht547⟩ := iter_some ht547
      replace ho547 : ref33_Same_B1 fuel a0 a1 x580 = some o547 := ho547
      unfold ref33_Same_B1 at ho547
      refine e_seq fun K604 hK604 => ?_
      refine e_seq fun K605 hK605 => ?_
      refine e_region_text rfl ?_
      refine q_move rfl rfl ?_
      refine q_field rfl rfl ?_
      refine q_load rfl (Blk.cell (hS.blk 0 rfl) rfl) rfl ?_
      refine q_lenS rfl f577 rfl ?_
      refine q_lss rfl rfl rfl ?_
      refine eseq_nil ?_
      refine hK605 _ _ ?_
      refine e_cond rfl (fun hc606 => ?_) (fun hc606 => ?_)
      · replace ho547 := (if_pos hc606).symm.trans ho547
        refine e_skip ?_
        refine hK604 _ _ ?_
        refine e_seq fun K607 hK607 => ?_
        refine e_block ?_
        refine e_seq fun K608 hK608 => ?_
        refine e_region_draw mixed (fun _ => False) [0, 1, 0, 7, 15, 0, 32, 0, 224, 480, 1023] [] [0, 1, 2, 3, 4, 5, 6, 7, 8, 9, 10] (by kernel_rfl) ?_
        refine q_field rfl rfl ?_
        refine q_load rfl (Blk.cell (hS.blk 0 rfl) rfl) rfl ?_
        refine q_move rfl rfl ?_
        obtain ⟨x609, hx609, ho547⟩ := Option.of_bind ho547
        refine q_atS (by infer_instance) rfl f577 rfl hx609 rfl fun b610 o610 hm610 f610 => ?_
        have hc611 := Letter_open f610
        refine q_loadAgg rfl hc611 rfl rfl ?_
        refine q_field rfl rfl ?_
        refine q_load rfl (Blk.cell (hS.blk 1 rfl) rfl) rfl ?_
        refine q_move rfl rfl ?_
        obtain ⟨x612, hx612, ho547⟩ := Option.of_bind ho547
        refine q_atS (by infer_instance) rfl f579 rfl hx612 rfl fun b613 o613 hm613 f613 => ?_
        have hc614 := Letter_open f613
        refine q_loadAgg rfl hc614 rfl rfl ?_
        refine q_neqA eqT43 (by kernel_rfl) rfl rfl rfl ?_
        refine eseq_nil ?_
        refine hK608 _ _ ?_
        refine e_cond rfl (fun hc615 => ?_) (fun hc615 => ?_)
        · replace ho547 := (if_pos hc615).symm.trans ho547
          refine e_seq fun K616 hK616 => ?_
          refine e_region_text rfl ?_
          refine q_assign rfl rfl ?_
          refine eseq_nil ?_
          refine hK616 _ _ ?_
          refine e_ret ?_
          obtain rfl := Option.some.inj ho547
          obtain rfl := Option.some.inj ht547
          obtain rfl := Option.some.inj h
          exact ⟨_, res1 rfl rfl, _, rfl, (hS.pickB [] 2 rfl rfl)⟩
        · replace ho547 := (if_neg (not_true hc615)).symm.trans ho547
          refine e_skip ?_
          refine hK607 _ _ ?_
          refine e_region_text rfl ?_
          refine q_move rfl rfl ?_
          refine q_addW rfl rfl rfl ?_
          refine q_assign rfl rfl ?_
          refine eseq_nil ?_
          obtain rfl := Option.some.inj ho547
          exact ⟨m547, _, Nat.lt_succ_self _, ⟨(w64 (x580 + 1)), _, ht547, hS, f576, f577, f578, f579, rfl⟩, Sub.cons rfl (Sub.cons rfl (Sub.cons rfl (Sub.nil _)))⟩
      · replace ho547 := (if_neg (not_true hc606)).symm.trans ho547
        refine e_exit ?_
        obtain rfl := Option.some.inj ho547
        obtain rfl := Option.some.inj ht547
        exact hX547_2  _ _ _ h (hS.pickB [] 2 rfl rfl)  (Sub.nil _)
    refine e_loop (fun m_ E_ w473 => ∃ (x478 : Int), ∃ (R472 : Nat → Prop), iter (fun s => ref33_Same_B2 fuel a0 a1 s) m_ x478 = some tl405 ∧ Sep F R R472 w w473 [HP.blk bl339 [v1, v2] 28, HP.blk bl341 [v3, v4] 28] ∧ IsSlice branchTy w473 R472 v1 a0.branches ∧ IsSlice letterTy w473 R472 v2 a0.flight ∧ IsSlice branchTy w473 R472 v3 a1.branches ∧ IsSlice letterTy w473 R472 v4 a1.flight ∧ E_ = [(2, .pointer (some ⟨bl339, 0, none⟩)), (3, .pointer (some ⟨bl341, 0, none⟩)), (5, .int .i64 x478)]) _ ⟨_, ⟨0, _, ht405, (hS.pickB [1, 0] 2 rfl rfl), f1, f2, f3, f4, rfl⟩, Sub.cons rfl (Sub.cons rfl (Sub.cons rfl (Sub.nil _)))⟩ ?_
    clear ht405 hS
    rintro m405 _ w473 ⟨x478, R472, ht405, hS, f474, f475, f476, f477, rfl⟩
    obtain ⟨m405, rfl, o405, ho405, ht405⟩ := iter_some ht405
    replace ho405 : ref33_Same_B2 fuel a0 a1 x478 = some o405 := ho405
    unfold ref33_Same_B2 at ho405
    refine e_seq fun K617 hK617 => ?_
    refine e_seq fun K618 hK618 => ?_
    refine e_region_text rfl ?_
    refine q_move rfl rfl ?_
    refine q_field rfl rfl ?_
    refine q_load rfl (Blk.cell (hS.blk 0 rfl) rfl) rfl ?_
    refine q_lenS rfl f474 rfl ?_
    refine q_lss rfl rfl rfl ?_
    refine eseq_nil ?_
    refine hK618 _ _ ?_
    refine e_cond rfl (fun hc619 => ?_) (fun hc619 => ?_)
    · replace ho405 := (if_pos hc619).symm.trans ho405
      refine e_skip ?_
      refine hK617 _ _ ?_
      refine e_seq fun K620 hK620 => ?_
      refine e_block ?_
      refine e_seq fun K621 hK621 => ?_
      refine e_region_draw mixed (fun _ => False) [0, 1, 0, 7, 15, 31, 0, 64, 0, 448, 960, 1984, 4095, 8191, 16383, 32767, 16383, 131071, 262143, 524287, 16383, 1064959, 16383, 7356415, 15745023, 32522239, 67108863, 134217727, 268435455, 536870911, 1073741823, 536870911, 4294967295, 8589934591, 17179869183, 536870911, 34896609279, 536870911, 241055039487, 515932946431, 1065688760319, 2199023255551, 4398046511103, 8796093022207] [] [0, 1, 2, 3, 4, 5, 6, 7, 8, 9, 10, 11, 12, 13, 14, 15, 16, 17, 18, 19, 20, 21, 22, 23, 24, 25, 26, 27, 28, 29, 30, 31, 32, 33, 34, 35, 36, 37, 38, 39, 40, 41, 42, 43] (by kernel_rfl) ?_
      refine q_field rfl rfl ?_
      refine q_load rfl (Blk.cell (hS.blk 0 rfl) rfl) rfl ?_
      refine q_move rfl rfl ?_
      obtain ⟨x622, hx622, ho405⟩ := Option.of_bind ho405
      refine q_atS (by infer_instance) rfl f474 rfl hx622 rfl fun b623 o623 hm623 f623 => ?_
      refine q_field rfl rfl ?_
      have f624 := Branch_F0 f623
      refine q_load rfl (Elt.intCell f624) rfl ?_
      refine q_field rfl rfl ?_
      refine q_load rfl (Blk.cell (hS.blk 1 rfl) rfl) rfl ?_
      refine q_move rfl rfl ?_
      obtain ⟨x625, hx625, ho405⟩ := Option.of_bind ho405
      refine q_atS (by infer_instance) rfl f476 rfl hx625 rfl fun b626 o626 hm626 f626 => ?_
      refine q_field rfl rfl ?_
      have f627 := Branch_F0 f626
      refine q_load rfl (Elt.intCell f627) rfl ?_
      refine q_neq rfl rfl rfl ?_
      refine q_move rfl rfl ?_
      obtain ⟨x637, hx636, ho405⟩ := Option.of_bind ho405
      refine g_orM 13 hx636 rfl trivial rfl rfl ?_ ?_ ?_
      · intro hg636
        refine g_skip rfl rfl rfl ?_
        refine g_skip rfl rfl rfl ?_
        refine g_skip rfl rfl rfl ?_
        refine g_skip rfl rfl rfl ?_
        refine g_skip rfl rfl rfl ?_
        refine g_skip rfl rfl rfl ?_
        refine g_skip rfl rfl rfl ?_
        refine g_skip rfl rfl rfl ?_
        refine g_skip rfl rfl rfl ?_
        refine g_skip rfl rfl rfl ?_
        refine g_skip rfl rfl rfl ?_
        refine g_skip rfl rfl rfl ?_
        refine g_skip rfl rfl rfl ?_
        exact eseq_nil ⟨rfl, Sub.set rfl (Sub.set rfl (Sub.set rfl (Sub.set rfl (Sub.set rfl (Sub.set rfl (Sub.set rfl (Sub.set rfl (Sub.set rfl (Sub.set rfl (Sub.set rfl (Sub.set rfl (Sub.set rfl (Sub.bool true rfl hg636)))))))))))))⟩
      · intro hg636 hx636
        clear ho405
        have hT636 := Below.refl (World.heap w473).size w473
        refine g_run rfl ?_; refine q_field rfl rfl ?_
        refine g_run rfl ?_; refine q_load rfl (Blk.cell (hS.blk 0 rfl) rfl) rfl ?_
        refine g_run rfl ?_; refine q_move rfl rfl ?_
        obtain ⟨x638, hx638, hx636⟩ := Option.of_bind hx636
        refine g_run rfl ?_; refine q_atS (by infer_instance) rfl f474 rfl hx638 rfl fun b639 o639 hm639 f639 => ?_
        refine g_run rfl ?_; refine q_field rfl rfl ?_
        have f640 := Branch_F2 f639
        refine g_run rfl ?_; refine q_load rfl (Elt.intCell f640) rfl ?_
        refine g_run rfl ?_; refine q_field rfl rfl ?_
        refine g_run rfl ?_; refine q_load rfl (Blk.cell (hS.blk 1 rfl) rfl) rfl ?_
        refine g_run rfl ?_; refine q_move rfl rfl ?_
        obtain ⟨x641, hx641, hx636⟩ := Option.of_bind hx636
        refine g_run rfl ?_; refine q_atS (by infer_instance) rfl f476 rfl hx641 rfl fun b642 o642 hm642 f642 => ?_
        refine g_run rfl ?_; refine q_field rfl rfl ?_
        have f643 := Branch_F2 f642
        refine g_run rfl ?_; refine q_load rfl (Elt.intCell f643) rfl ?_
        refine g_run rfl ?_; refine q_neq rfl rfl rfl ?_
        cases hx636
        exact eseq_nil ⟨hT636, Sub.set rfl (Sub.set rfl (Sub.set rfl (Sub.set rfl (Sub.set rfl (Sub.set rfl (Sub.set rfl (Sub.set rfl (Sub.set rfl (Sub.set rfl (Sub.set rfl (Sub.set rfl (Sub.set rfl (Sub.bool false rfl hg636))))))))))))), rfl⟩
      intro wm636 hBm636; clear hx636
      replace hS := hS.below hBm636
      replace f474 := f474.ext hBm636
      replace f475 := f475.ext hBm636
      replace f476 := f476.ext hBm636
      replace f477 := f477.ext hBm636
      refine q_move rfl rfl ?_
      obtain ⟨x657, hx656, ho405⟩ := Option.of_bind ho405
      refine g_orM 14 hx656 rfl trivial rfl rfl ?_ ?_ ?_
      · intro hg656
        refine g_skip rfl rfl rfl ?_
        refine g_skip rfl rfl rfl ?_
        refine g_skip rfl rfl rfl ?_
        refine g_skip rfl rfl rfl ?_
        refine g_skip rfl rfl rfl ?_
        refine g_skip rfl rfl rfl ?_
        refine g_skip rfl rfl rfl ?_
        refine g_skip rfl rfl rfl ?_
        refine g_skip rfl rfl rfl ?_
        refine g_skip rfl rfl rfl ?_
        refine g_skip rfl rfl rfl ?_
        refine g_skip rfl rfl rfl ?_
        refine g_skip rfl rfl rfl ?_
        refine g_skip rfl rfl rfl ?_
        exact eseq_nil ⟨rfl, Sub.set rfl (Sub.set rfl (Sub.set rfl (Sub.set rfl (Sub.set rfl (Sub.set rfl (Sub.set rfl (Sub.set rfl (Sub.set rfl (Sub.set rfl (Sub.set rfl (Sub.set rfl (Sub.set rfl (Sub.set rfl (Sub.bool true rfl hg656))))))))))))))⟩
      · intro hg656 hx656
        clear ho405
        have hT656 := Below.refl (World.heap wm636).size wm636
        refine g_run rfl ?_; refine q_field rfl rfl ?_
        refine g_run rfl ?_; refine q_load rfl (Blk.cell (hS.blk 0 rfl) rfl) rfl ?_
        refine g_run rfl ?_; refine q_move rfl rfl ?_
        obtain ⟨x658, hx658, hx656⟩ := Option.of_bind hx656
        refine g_run rfl ?_; refine q_atS (by infer_instance) rfl f474 rfl hx658 rfl fun b659 o659 hm659 f659 => ?_
        refine g_run rfl ?_; refine q_field rfl rfl ?_
        have f660 := Branch_F3 f659
        refine g_run rfl ?_; refine q_loadE rfl f660 rfl (fun v661 f661 => ?_)
        refine g_run rfl ?_; refine q_field rfl rfl ?_
        refine g_run rfl ?_; refine q_load rfl (Blk.cell (hS.blk 1 rfl) rfl) rfl ?_
        refine g_run rfl ?_; refine q_move rfl rfl ?_
        obtain ⟨x662, hx662, hx656⟩ := Option.of_bind hx656
        refine g_run rfl ?_; refine q_atS (by infer_instance) rfl f476 rfl hx662 rfl fun b663 o663 hm663 f663 => ?_
        refine g_run rfl ?_; refine q_field rfl rfl ?_
        have f664 := Branch_F3 f663
        refine g_run rfl ?_; refine q_loadE rfl f664 rfl (fun v665 f665 => ?_)
        obtain ⟨r667, hr667, hx656⟩ := Option.of_bind hx656
        refine g_run rfl ?_; refine q_call rfl (ref31_Same_w (Sep.enter (As := []) hS) f661 f665 hr667) rfl ?_
        rintro _ w666 ⟨R666, rfl, hC666⟩
        have hB666 : Below (World.heap wm636).size wm636 w666 := hC666.stepB0
        refine ⟨fun _ => .of_below hB666, ?_⟩
        replace f474 := (f474.ext hB666).mono fun k hk _ => hC666.ro0 k hk
        replace f475 := (f475.ext hB666).mono fun k hk _ => hC666.ro0 k hk
        replace f476 := (f476.ext hB666).mono fun k hk _ => hC666.ro0 k hk
        replace f477 := (f477.ext hB666).mono fun k hk _ => hC666.ro0 k hk
        replace f661 := (f661.ext hB666).mono fun k hk _ => hC666.ro0 k hk
        replace f665 := (f665.ext hB666).mono fun k hk _ => hC666.ro0 k hk
        replace f659 := (f659.ext hB666).mono fun k hk _ => hC666.ro0 k hk
        replace f660 := (f660.ext hB666).mono fun k hk _ => hC666.ro0 k hk
        replace f663 := (f663.ext hB666).mono fun k hk _ => hC666.ro0 k hk
        replace f664 := (f664.ext hB666).mono fun k hk _ => hC666.ro0 k hk
        replace hT656 := hT656.trans (Below.mono hB666 hT656.size)
        replace hS := Sep.leave (As := []) hS hC666; simp only [List.cons_append, List.nil_append] at hS
        refine g_run rfl ?_; refine q_not rfl rfl ?_
        cases hx656
        exact eseq_nil ⟨hT656, Sub.set rfl (Sub.set rfl (Sub.set rfl (Sub.set rfl (Sub.set rfl (Sub.set rfl (Sub.set rfl (Sub.set rfl (Sub.set rfl (Sub.set rfl (Sub.set rfl (Sub.set rfl (Sub.set rfl (Sub.set rfl (Sub.bool false rfl hg656)))))))))))))), rfl⟩
      intro wm656 hBm656; clear hx656
      replace hS := hS.below hBm656
      replace f474 := f474.ext hBm656
      replace f475 := f475.ext hBm656
      replace f476 := f476.ext hBm656
      replace f477 := f477.ext hBm656
      refine eseq_nil ?_
      refine hK621 _ _ ?_
      refine e_cond rfl (fun hc668 => ?_) (fun hc668 => ?_)
      · replace ho405 := (if_pos hc668).symm.trans ho405
        refine e_seq fun K669 hK669 => ?_
        refine e_region_text rfl ?_
        refine q_assign rfl rfl ?_
        refine eseq_nil ?_
        refine hK669 _ _ ?_
        refine e_ret ?_
        obtain rfl := Option.some.inj ho405
        obtain rfl := Option.some.inj ht405
        obtain rfl := Option.some.inj h
        exact ⟨_, res1 rfl rfl, _, rfl, (hS.pickB [] 2 rfl rfl)⟩
      · replace ho405 := (if_neg (not_true hc668)).symm.trans ho405
        refine e_skip ?_
        refine hK620 _ _ ?_
        refine e_region_text rfl ?_
        refine q_move rfl rfl ?_
        refine q_addW rfl rfl rfl ?_
        refine q_assign rfl rfl ?_
        refine eseq_nil ?_
        obtain rfl := Option.some.inj ho405
        exact ⟨m405, _, Nat.lt_succ_self _, ⟨(w64 (x478 + 1)), _, ht405, hS, f474, f475, f476, f477, rfl⟩, Sub.cons rfl (Sub.cons rfl (Sub.cons rfl (Sub.nil _)))⟩
    · replace ho405 := (if_neg (not_true hc619)).symm.trans ho405
      refine e_exit ?_
      obtain rfl := Option.some.inj ho405
      obtain rfl := Option.some.inj ht405
      exact hX405_0  _ _ _ h hS f474 f475 f476 f477 (Sub.cons rfl (Sub.cons rfl (Sub.nil _)))
end Go.Proofs.Ytddohdppmejjoaa
