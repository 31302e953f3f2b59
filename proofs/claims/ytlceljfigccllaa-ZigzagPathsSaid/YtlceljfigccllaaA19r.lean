/- Printed walks: A19r. -/
import Derived.Test.YtlceljfigccllaaA20x
set_option linter.unusedVariables false
set_option linter.unusedSimpArgs false
namespace Go.Mine
open Go.RowKit
def ref19_All_K1 (fuel : Nat) (x497 : (List Pt)) : Option ((List Pt)) :=
  some x497
def ref19_All_K2 (fuel : Nat) (x403 : Int) (x568 : (List Pt)) : Option (((List Pt) × Int) ⊕ ((List Pt))) :=
  some (Sum.inl (x568, (w64 (x403 + 1))))
def ref19_All_B2 (fuel : Nat) (a0 : Pat) (x403 : Int) (x539 : (List Pt)) (x540 : Int) : Option (((List Pt) × Int) ⊕ ((List Pt))) :=
  (ati a0.ckpts x403).bind fun x571 => (if (decide (x540 ≤ (x571.length : Int))) = true then (snoc x539 (⟨x403, x540⟩ : Pt)).bind fun x579 => some (Sum.inl (x579, (w64 (x540 + 1)))) else some (Sum.inr x539))
def ref19_All_B1 (fuel : Nat) (a0 : Pat) (x402 : (List Pt)) (x403 : Int) : Option (((List Pt) × Int) ⊕ ((List Pt))) :=
  (if (decide (x403 < (a0.ckpts.length : Int))) = true then (iter (fun s => ref19_All_B2 fuel a0 x403 s.1 s.2) fuel (x402, 0)).bind (fun t => ref19_All_K2 fuel x403 t) else some (Sum.inr x402))
def ref19_All (fuel : Nat) (a0 : Pat) : Option ((List Pt)) :=
  (iter (fun s => ref19_All_B1 fuel a0 s.1 s.2) fuel (([] : List Pt), 0)).bind (fun t => ref19_All_K1 fuel t)
end Go.Mine
namespace Go.Proofs.Ytlceljfigccllaa
open Go.RowKit Go.Mine
attribute [local irreducible] eseq ewp iter
theorem ref19_All_w {F R : Nat → Prop} {w : World} {fuel : Nat} {a0 : Pat} {v1 : Value} {v2 : Value} {v3 : Value} {r : ((List Pt))} (hS : Sep F R R w w []) (f1 : IsSlice Ty.int w R v1 a0.lens) (f2 : IsSlice (Ty.slice Ty.int) w R v2 a0.ckpts) (f3 : IsSlice arcTy w R v3 a0.arcs) (h : ref19_All fuel a0 = some r) :
    Gives Try.prog 18 [.agg #[v1, v2, v3]] w fun u w1 => ∃ (v292 : Value), ∃ (R1 : Nat → Prop), u = v292 ∧ Sep F R R1 w w1 [HP.own ptTy (fun _ => False) 36 v292 r] := by
  refine fn_of Try.func18 rfl Try.ntmps18 (Nat.le_of_ble_eq_true rfl) ?_
  unfold ref19_All at h
  refine e_seq fun K293 hK293 => ?_
  refine e_region_text rfl ?_
  refine q_boxB rfl rfl rfl fun w294 bl294 hg294 hb294 hB294 => ?_
  replace f1 := f1.ext hB294
  replace f2 := f2.ext hB294
  replace f3 := f3.ext hB294
  replace hS := hS.newBlk hB294 hg294 hb294
  refine q_assign rfl rfl ?_
  refine eseq_nil ?_
  refine hK293 _ _ ?_
  refine e_seq fun K296 hK296 => ?_
  refine e_region_text rfl ?_
  refine q_assign rfl rfl ?_
  refine eseq_nil ?_
  refine hK296 _ _ ?_
  refine e_seq fun K297 hK297 => ?_
  refine e_seq fun K298 hK298 => ?_
  refine e_region_text rfl ?_
  refine q_assign rfl rfl ?_
  refine eseq_nil ?_
  refine hK298 _ _ ?_
  refine e_block ?_
  obtain ⟨tl299, ht299, h⟩ := Option.of_bind h
  have hX299_0 : ∀ (x497 : (List Pt)) (v496 : Value) (R493 : Nat → Prop) (w494 : World) (E_ : Env), ref19_All_K1 fuel x497 = some r → Sep F R R493 w w494 [HP.own ptTy (fun _ => False) 36 v496 x497] → Sub [(3, v496)] E_ → K297 E_ w494 := by
    intro x497 v496 R493 w494 E_ h hS  hsub
    refine hK297 _ _ (e_sub hsub ?_); clear hsub
    unfold ref19_All_K1 at h
    refine e_seq fun K498 hK498 => ?_
    refine e_region_text rfl ?_
    refine q_move rfl rfl ?_
    refine q_assign rfl rfl ?_
    refine eseq_nil ?_
    refine hK498 _ _ ?_
    refine e_ret ?_
    obtain rfl := Option.some.inj h
    exact ⟨_, res1 rfl rfl, v496, _, rfl, hS⟩
  replace hS := hS.nilOwn0 ptTy 36
  refine e_loop (fun m_ E_ w396 => ∃ (x402 : (List Pt)), ∃ (x403 : Int), ∃ (v401 : Value), ∃ (R395 : Nat → Prop), iter (fun s => ref19_All_B1 fuel a0 s.1 s.2) m_ (x402, x403) = some tl299 ∧ Sep F R R395 w w396 [HP.blk bl294 [v1, v2, v3] 28, HP.own ptTy (fun _ => False) 36 v401 x402] ∧ IsSlice Ty.int w396 R395 v1 a0.lens ∧ IsSlice (Ty.slice Ty.int) w396 R395 v2 a0.ckpts ∧ IsSlice arcTy w396 R395 v3 a0.arcs ∧ E_ = [(1, .pointer (some ⟨bl294, 0, none⟩)), (3, v401), (4, .int .i64 x403)]) _ ⟨_, ⟨([] : List Pt), 0, (.slice none 0 0), _, ht299, (hS.pickB [1, 0] 2 rfl rfl), f1, f2, f3, rfl⟩, Sub.cons rfl (Sub.cons rfl (Sub.cons rfl (Sub.nil _)))⟩ ?_
  clear ht299 hS
  rintro m299 _ w396 ⟨x402, x403, v401, R395, ht299, hS, f397, f398, f399, rfl⟩
  obtain ⟨m299, rfl, o299, ho299, ht299⟩ := iter_some ht299
  replace ho299 : ref19_All_B1 fuel a0 x402 x403 = some o299 := ho299
  unfold ref19_All_B1 at ho299
  refine e_seq fun K500 hK500 => ?_
  refine e_seq fun K501 hK501 => ?_
  refine e_region_text rfl ?_
  refine q_move rfl rfl ?_
  refine q_field rfl rfl ?_
  refine q_load rfl (Blk.cell (hS.blk 0 rfl) rfl) rfl ?_
  refine q_lenS rfl f398 rfl ?_
  refine q_lss rfl rfl rfl ?_
  refine eseq_nil ?_
  refine hK501 _ _ ?_
  refine e_cond rfl (fun hc502 => ?_) (fun hc502 => ?_)
  · replace ho299 := (if_pos hc502).symm.trans ho299
    refine e_skip ?_
    refine hK500 _ _ ?_
    refine e_seq fun K503 hK503 => ?_
    refine e_block ?_
    refine e_seq fun K504 hK504 => ?_
    refine e_region_text rfl ?_
    refine q_assign rfl rfl ?_
    refine eseq_nil ?_
    refine hK504 _ _ ?_
    refine e_block ?_
    obtain ⟨tl505, ht505, ho299⟩ := Option.of_bind ho299
    have hX505_2 : ∀ (x568 : (List Pt)) (v567 : Value) (R561 : Nat → Prop) (w562 : World) (E_ : Env), ref19_All_K2 fuel x403 x568 = some o299 → Sep F R R561 w w562 [HP.blk bl294 [v1, v2, v3] 28, HP.own ptTy (fun _ => False) 36 v567 x568] → IsSlice Ty.int w562 R561 v1 a0.lens → IsSlice (Ty.slice Ty.int) w562 R561 v2 a0.ckpts → IsSlice arcTy w562 R561 v3 a0.arcs → Sub [(1, .pointer (some ⟨bl294, 0, none⟩)), (3, v567), (4, .int .i64 x403)] E_ → K503 E_ w562 := by
      intro x568 v567 R561 w562 E_ ho299 hS f563 f564 f565 hsub
      refine hK503 _ _ (e_sub hsub ?_); clear hsub
      unfold ref19_All_K2 at ho299
      refine e_region_text rfl ?_
      refine q_move rfl rfl ?_
      refine q_addW rfl rfl rfl ?_
      refine q_assign rfl rfl ?_
      refine eseq_nil ?_
      obtain rfl := Option.some.inj ho299
      exact ⟨m299, _, Nat.lt_succ_self _, ⟨x568, (w64 (x403 + 1)), v567, _, ht299, hS, f563, f564, f565, rfl⟩, Sub.cons rfl (Sub.cons rfl (Sub.cons rfl (Sub.nil _)))⟩
    refine e_loop (fun m_ E_ w533 => ∃ (x539 : (List Pt)), ∃ (x540 : Int), ∃ (v538 : Value), ∃ (R532 : Nat → Prop), iter (fun s => ref19_All_B2 fuel a0 x403 s.1 s.2) m_ (x539, x540) = some tl505 ∧ Sep F R R532 w w533 [HP.blk bl294 [v1, v2, v3] 28, HP.own ptTy (fun _ => False) 36 v538 x539] ∧ IsSlice Ty.int w533 R532 v1 a0.lens ∧ IsSlice (Ty.slice Ty.int) w533 R532 v2 a0.ckpts ∧ IsSlice arcTy w533 R532 v3 a0.arcs ∧ E_ = [(1, .pointer (some ⟨bl294, 0, none⟩)), (3, v538), (4, .int .i64 x403), (5, .int .i64 x540)]) _ ⟨_, ⟨x402, 0, v401, _, ht505, hS, f397, f398, f399, rfl⟩, Sub.cons rfl (Sub.cons rfl (Sub.cons rfl (Sub.cons rfl (Sub.nil _))))⟩ ?_
    clear ht505 hS
    rintro m505 _ w533 ⟨x539, x540, v538, R532, ht505, hS, f534, f535, f536, rfl⟩
    obtain ⟨m505, rfl, o505, ho505, ht505⟩ := iter_some ht505
    replace ho505 : ref19_All_B2 fuel a0 x403 x539 x540 = some o505 := ho505
    unfold ref19_All_B2 at ho505
    refine e_seq fun K569 hK569 => ?_
    refine e_seq fun K570 hK570 => ?_
    refine e_region_text rfl ?_
    refine q_move rfl rfl ?_
    refine q_field rfl rfl ?_
    refine q_load rfl (Blk.cell (hS.blk 0 rfl) rfl) rfl ?_
    refine q_move rfl rfl ?_
    obtain ⟨x571, hx571, ho505⟩ := Option.of_bind ho505
    refine q_atS (by infer_instance) rfl f535 rfl hx571 rfl fun b572 o572 hm572 f572 => ?_
    refine q_loadE rfl f572 rfl (fun v573 f573 => ?_)
    refine q_lenS rfl f573 rfl ?_
    refine q_leq rfl rfl rfl ?_
    refine eseq_nil ?_
    refine hK570 _ _ ?_
    refine e_cond rfl (fun hc574 => ?_) (fun hc574 => ?_)
    · replace ho505 := (if_pos hc574).symm.trans ho505
      refine e_skip ?_
      refine hK569 _ _ ?_
      refine e_seq fun K575 hK575 => ?_
      refine e_block ?_
      refine e_region_text rfl ?_
      refine q_move rfl rfl ?_
      refine q_move rfl rfl ?_
      refine q_move rfl rfl ?_
      refine q_build (Parts.cons rfl rfl (Parts.cons rfl rfl Parts.nil)) rfl rfl ?_
      refine q_litO (T := ptTy) (S := (fun _ => False)) (cells := [[.int .i64 x403, .int .i64 x540]]) (ys := [(⟨x403, x540⟩ : Pt)]) ((Parts.cons rfl rfl Parts.nil)) rfl rfl rfl rfl rfl rfl rfl (fun w1 hB => ⟨⟨[_], _, rfl, rfl, rfl⟩, trivial⟩) (fun _ h => h.elim) rfl fun w576 v576 ho576 hv576 hB576 => ?_
      replace f534 := f534.ext hB576
      replace f535 := f535.ext hB576
      replace f536 := f536.ext hB576
      replace hS := hS.newOwnS hB576 ho576 hv576 (fun _ h => h.elim)
      obtain ⟨x579, hx579, ho505⟩ := Option.of_bind ho505
      refine q_catOwn (T := ptTy) rfl rfl rfl rfl (hS.own 2 rfl) rfl (hS.own 0 rfl) (fun _ h _ => h.elim) (snoc_cat hx579) (Nat.zero_le _) rfl (fun h => by cases h) fun v578 w578 hw578 hgr578 hnw578 => ?_
      have hk578 := hS.keptOwn 2 rfl hgr578
      replace f534 := f534.kept hk578
      replace f535 := f535.kept hk578
      replace f536 := f536.kept hk578
      replace hS := hS.setOwn 2 rfl hw578 hgr578 hnw578; simp only [List.set] at hS
      refine q_assign rfl rfl ?_
      refine eseq_nil ?_
      refine hK575 _ _ ?_
      refine e_region_text rfl ?_
      refine q_move rfl rfl ?_
      refine q_addW rfl rfl rfl ?_
      refine q_assign rfl rfl ?_
      refine eseq_nil ?_
      obtain rfl := Option.some.inj ho505
      exact ⟨m505, _, Nat.lt_succ_self _, ⟨x579, (w64 (x540 + 1)), v578, _, ht505, (hS.pickB [1, 2] 3 rfl rfl), f534, f535, f536, rfl⟩, Sub.cons rfl (Sub.cons rfl (Sub.cons rfl (Sub.cons rfl (Sub.nil _))))⟩
    · replace ho505 := (if_neg (not_true hc574)).symm.trans ho505
      refine e_exit ?_
      obtain rfl := Option.some.inj ho505
      obtain rfl := Option.some.inj ht505
      exact hX505_2 x539 v538 _ _ _ ho299 hS f534 f535 f536 (Sub.cons rfl (Sub.cons rfl (Sub.cons rfl (Sub.nil _))))
  · replace ho299 := (if_neg (not_true hc502)).symm.trans ho299
    refine e_exit ?_
    obtain rfl := Option.some.inj ho299
    obtain rfl := Option.some.inj ht299
    exact hX299_0 x402 v401 _ _ _ h (hS.pickB [1] 2 rfl rfl)  (Sub.cons rfl (Sub.nil _))
end Go.Proofs.Ytlceljfigccllaa
