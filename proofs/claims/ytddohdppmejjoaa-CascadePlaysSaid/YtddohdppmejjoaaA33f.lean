/- Printed walks: A33f. -/
import Derived.Test.YtddohdppmejjoaaA33e
set_option linter.unusedVariables false
set_option linter.unusedSimpArgs false
namespace Go.Mine
open Go.RowKit
def law33_awake_K1 (fuel : Nat) (x269 : (List Branch)) (x272 : (List Letter)) (x273 : Int) : Option (Bool) :=
  (orM (x273 != 0) ((cascade_Quiet fuel (⟨x269, x272⟩ : Cascade)).bind fun r283 => some r283)).bind fun x281 => (if x281 = true then some false else (cascade_Settle fuel (⟨x269, x272⟩ : Cascade)).bind fun r290 => (cascade_Quiet fuel (⟨r290.branches, r290.flight⟩ : Cascade)).bind fun r296 => (andM r296 (some ((r290.branches.length : Int) == 3))).bind fun x300 => (andM x300 ((ati r290.branches 1).bind fun x309 => some ((x309.events.length : Int) == 0))).bind fun x308 => (andM x308 ((ati r290.branches 2).bind fun x321 => some ((x321.events.length : Int) == 0))).bind fun x320 => (andM x320 ((ati r290.branches 2).bind fun x332 => some (x332.inc == 1))).bind fun x331 => some x331)
def law33_awake_B1 (fuel : Nat) (x229 : (List Branch)) (x232 : (List Letter)) (x233 : Int) (x235 : Int) : Option (((List Branch) × (List Letter) × Int × Int) ⊕ ((List Branch) × (List Letter) × Int)) :=
  (andM (decide (x235 < (([(⟨1, 0, 1⟩ : Shock), (⟨2, 0, 0⟩ : Shock), (⟨1, 1, 2⟩ : Shock), (⟨2, 0, 0⟩ : Shock), (⟨4, 0, 0⟩ : Shock)]).length : Int))) (some (x233 == 0))).bind fun x341 => (if x341 = true then (ati ([(⟨1, 0, 1⟩ : Shock), (⟨2, 0, 0⟩ : Shock), (⟨1, 1, 2⟩ : Shock), (⟨2, 0, 0⟩ : Shock), (⟨4, 0, 0⟩ : Shock)]) x235).bind fun x344 => (cascade_Step fuel (⟨x229, x232⟩ : Cascade) x344).bind fun r350 => some (Sum.inl (r350.1.branches, r350.1.flight, r350.2, (w64 (x235 + 1)))) else some (Sum.inr (x229, x232, x233)))
def law33_awake (fuel : Nat) : Option (Bool) :=
  (cascade_New fuel 3).bind fun r181 => (iter (fun s => law33_awake_B1 fuel s.1 s.2.1 s.2.2.1 s.2.2.2) fuel (r181.1.branches, ([] : List Letter), r181.2, 0)).bind (fun t => law33_awake_K1 fuel t.1 t.2.1 t.2.2)
def make_Mod (fuel : Nat) (a0 : Int) (a1 : Int) : Option (Int) :=
  (remI a0 a1).bind fun x11 => (if (decide (x11 < 0)) = true then some (w64 (x11 + a1)) else some x11)
def law33_CascadeBegins_K1 (fuel : Nat) : Option (Bool) :=
  some true
def law33_CascadeBegins_B1 (fuel : Nat) (a0 : Int) (r146 : (Int)) (x194 : Int) : Option ((Int) ⊕ (Unit ⊕ (Bool))) :=
  (if (decide (x194 < (([a0, w64 (r146 - 1)]).length : Int))) = true then (ati ([a0, w64 (r146 - 1)]) x194).bind fun x241 => (cascade_New fuel x241).bind fun r245 => (ref33_New fuel x241).bind fun r253 => (orM (r245.2 != r253.2) ((ref33_Same fuel (⟨r245.1.branches, ([] : List Letter)⟩ : Cascade) (⟨r253.1.branches, ([] : List Letter)⟩ : Cascade)).bind fun r267 => some (!r267))).bind fun x265 => (if x265 = true then some (Sum.inr (Sum.inr false)) else some (Sum.inl (w64 (x194 + 1)))) else some (Sum.inr (Sum.inl ())))
def law33_CascadeBegins (fuel : Nat) (a0 : Int) : Option (Bool) :=
  (law33_awake fuel).bind fun r140 => (if (!r140) = true then some false else (make_Mod fuel a0 8).bind fun r146 => (iter (fun s => law33_CascadeBegins_B1 fuel a0 r146 s) fuel 0).bind (fun t => Sum.elim (fun t => law33_CascadeBegins_K1 fuel) (fun t => some t) t))
end Go.Mine
namespace Go.Proofs.Ytddohdppmejjoaa
open Go.RowKit Go.Mine
attribute [local irreducible] eseq ewp iter
theorem law33_awake_w {F R : Nat → Prop} {w : World} {fuel : Nat} {r : (Bool)} (hS : Sep F R R w w []) (h : law33_awake fuel = some r) :
    Gives Try.prog 10 [] w fun u w1 => ∃ (R1 : Nat → Prop), u = .bool r ∧ Sep F R R1 w w1 [] := by
  refine fn_of Try.func10 rfl Try.ntmps10 (Nat.le_of_ble_eq_true rfl) ?_
  unfold law33_awake at h
  refine e_seq fun K178 hK178 => ?_
  refine e_region_text rfl ?_
  refine q_assign rfl rfl ?_
  refine eseq_nil ?_
  refine hK178 _ _ ?_
  refine e_seq fun K179 hK179 => ?_
  refine e_region_text rfl ?_
  obtain ⟨r181, hr181, h⟩ := Option.of_bind h
  refine q_call rfl (cascade_New_w (Sep.enter (As := []) hS)  hr181) rfl ?_
  rintro _ w180 ⟨v182, R180, rfl, hC180⟩
  have hB180 : Below (World.heap w).size w w180 := hC180.stepB0
  refine ⟨fun _ => .of_below hB180, ?_⟩
  replace hS := Sep.leave (As := []) hS hC180; simp only [List.cons_append, List.nil_append] at hS
  refine q_move rfl rfl ?_
  refine q_extract rfl rfl rfl ?_
  refine q_extract rfl rfl rfl ?_
  refine q_allocB rfl fun w184 bl184 hg184 hb184 hB184 => ?_
  replace hS := hS.newBlk hB184 hg184 hb184
  refine q_storeAgg rfl rfl (hS.blk 0 rfl) rfl (Nat.le_of_ble_eq_true rfl) (all_cons (hS.own 1 rfl).one (all_cons rfl (all_nil))) rfl rfl fun w186 hb186 hO186 => ?_
  simp only [setN, List.set, List.take, List.drop] at hb186
  have hk186 := hS.keptBlk 0 rfl hO186
  replace hS := hS.setBlk 0 rfl hb186 hO186; simp only [List.set] at hS
  refine q_assign rfl rfl ?_
  refine eseq_nil ?_
  refine hK179 _ _ ?_
  refine e_seq fun K187 hK187 => ?_
  refine e_region_text rfl ?_
  refine q_build (Parts.cons rfl rfl (Parts.cons rfl rfl (Parts.cons rfl rfl Parts.nil))) rfl rfl ?_
  refine q_build (Parts.cons rfl rfl Parts.nil) rfl rfl ?_
  refine q_build (Parts.cons rfl rfl (Parts.cons rfl rfl (Parts.cons rfl rfl Parts.nil))) rfl rfl ?_
  refine q_build (Parts.cons rfl rfl Parts.nil) rfl rfl ?_
  refine q_build (Parts.cons rfl rfl Parts.nil) rfl rfl ?_
  refine q_litO (T := shockTy) (S := (fun _ => False)) (cells := [[.int .i64 1, .int .i64 0, .int .i64 1], [.int .i64 2, .int .i64 0, .int .i64 0], [.int .i64 1, .int .i64 1, .int .i64 2], [.int .i64 2, .int .i64 0, .int .i64 0], [.int .i64 4, .int .i64 0, .int .i64 0]]) (ys := [(⟨1, 0, 1⟩ : Shock), (⟨2, 0, 0⟩ : Shock), (⟨1, 1, 2⟩ : Shock), (⟨2, 0, 0⟩ : Shock), (⟨4, 0, 0⟩ : Shock)]) ((Parts.cons rfl rfl (Parts.cons rfl rfl (Parts.cons rfl rfl (Parts.cons rfl rfl (Parts.cons rfl rfl Parts.nil)))))) rfl rfl rfl rfl rfl rfl rfl (fun w1 hB => ⟨⟨[_], _, rfl, rfl, ⟨[_], _, rfl, rfl, rfl⟩⟩, ⟨[_], _, rfl, rfl, ⟨[_], _, rfl, rfl, rfl⟩⟩, ⟨[_], _, rfl, rfl, ⟨[_], _, rfl, rfl, rfl⟩⟩, ⟨[_], _, rfl, rfl, ⟨[_], _, rfl, rfl, rfl⟩⟩, ⟨[_], _, rfl, rfl, ⟨[_], _, rfl, rfl, rfl⟩⟩, trivial⟩) (fun _ h => h.elim) rfl fun w188 v188 ho188 hv188 hB188 => ?_
  replace hS := hS.newOwnS hB188 ho188 hv188 (fun _ h => h.elim)
  refine q_assign rfl rfl ?_
  refine eseq_nil ?_
  refine hK187 _ _ ?_
  refine e_seq fun K190 hK190 => ?_
  refine e_seq fun K191 hK191 => ?_
  refine e_region_text rfl ?_
  refine q_assign rfl rfl ?_
  refine eseq_nil ?_
  refine hK191 _ _ ?_
  refine e_block ?_
  obtain ⟨tl192, ht192, h⟩ := Option.of_bind h
  have hX192_0 : ∀ (x269 : (List Branch)) (x272 : (List Letter)) (x273 : Int) (v268 : Value) (v271 : Value) (R265 : Nat → Prop) (w266 : World) (E_ : Env), law33_awake_K1 fuel x269 x272 x273 = some r → Sep F R R265 w w266 [HP.blk bl184 [v268, v271] 28, HP.own branchTy R265 48 v268 x269, HP.own letterTy (fun _ => False) 43 v271 x272] → Sub [(1, .pointer (some ⟨bl184, 0, none⟩)), (2, .int .i64 x273)] E_ → K190 E_ w266 := by
    intro x269 x272 x273 v268 v271 R265 w266 E_ h hS  hsub
    refine hK190 _ _ (e_sub hsub ?_); clear hsub
    unfold law33_awake_K1 at h
    refine e_seq fun K274 hK274 => ?_
    refine e_seq fun K275 hK275 => ?_
    refine e_region_text rfl ?_
    refine q_move rfl rfl ?_
    refine q_neq rfl rfl rfl ?_
    refine q_move rfl rfl ?_
    obtain ⟨x281, hx280, h⟩ := Option.of_bind h
    refine g_orM 2 hx280 rfl trivial rfl rfl ?_ ?_ ?_
    · intro hg280
      refine g_skip rfl rfl rfl ?_
      refine g_skip rfl rfl rfl ?_
      exact eseq_nil ⟨rfl, Sub.set rfl (Sub.set rfl (Sub.bool true rfl hg280))⟩
    · intro hg280 hx280
      clear h
      have hT280 := Below.refl (World.heap w266).size w266
      refine g_run rfl ?_; refine q_loadAgg rfl (Blk.cellsAt (hS.blk 0 rfl) 0 2 rfl) rfl rfl ?_
      obtain ⟨r283, hr283, hx280⟩ := Option.of_bind hx280
      refine g_run rfl ?_; refine q_call rfl (cascade_Quiet_w (a0 := (⟨x269, x272⟩ : Cascade)) (Sep.all w266) ((hS.isl 1 rfl)).old ((hS.isl 2 rfl)).old hr283) rfl ?_
      rintro _ w282 ⟨R282, rfl, hC282⟩
      have hB282 : Below (World.heap w266).size w266 w282 := hC282.stepBF
      refine ⟨fun _ => .of_below hB282, ?_⟩
      replace hT280 := hT280.trans (Below.mono hB282 hT280.size)
      replace hS := hS.below hB282
      cases hx280
      exact eseq_nil ⟨hT280, Sub.set rfl (Sub.set rfl (Sub.bool false rfl hg280)), rfl⟩
    intro wm280 hBm280; clear hx280
    replace hS := hS.below hBm280
    refine eseq_nil ?_
    refine hK275 _ _ ?_
    refine e_cond rfl (fun hc284 => ?_) (fun hc284 => ?_)
    · replace h := (if_pos hc284).symm.trans h
      refine e_seq fun K285 hK285 => ?_
      refine e_region_text rfl ?_
      refine q_assign rfl rfl ?_
      refine eseq_nil ?_
      refine hK285 _ _ ?_
      refine e_ret ?_
      obtain rfl := Option.some.inj h
      exact ⟨_, res1 rfl rfl, _, rfl, (hS.pickB [] 3 rfl rfl)⟩
    · replace h := (if_neg (not_true hc284)).symm.trans h
      refine e_skip ?_
      refine hK274 _ _ ?_
      refine e_seq fun K286 hK286 => ?_
      refine e_region_text rfl ?_
      refine q_loadAgg rfl (Blk.cellsAt (hS.blk 0 rfl) 0 2 rfl) rfl rfl ?_
      obtain ⟨R288, hS, hm288, f288⟩ := hS.freezeOwn 1 rfl; simp only [List.eraseIdx] at hS
      obtain ⟨R289, hS, hm289, f289⟩ := hS.freezeOwn 1 rfl; simp only [List.eraseIdx] at hS
      replace f288 := f288.mono fun k hk _ => hm289 k hk
      obtain ⟨r290, hr290, h⟩ := Option.of_bind h
      refine q_call rfl (cascade_Settle_w (a0 := (⟨x269, x272⟩ : Cascade)) (Sep.enter (As := []) hS) f288 f289 hr290) rfl ?_
      rintro _ w287 ⟨v291, v292, R287, rfl, hC287⟩
      have hB287 : Below (World.heap wm280).size wm280 w287 := hC287.stepB0
      refine ⟨fun _ => .of_below hB287, ?_⟩
      replace f288 := (f288.ext hB287).mono fun k hk _ => hC287.ro0 k hk
      replace f289 := (f289.ext hB287).mono fun k hk _ => hC287.ro0 k hk
      replace hS := Sep.leave (As := []) hS hC287; simp only [List.cons_append, List.nil_append] at hS
      refine q_storeAgg rfl rfl (hS.blk 2 rfl) rfl (Nat.le_of_ble_eq_true rfl) (all_cons (hS.own 0 rfl).one (all_cons (hS.own 1 rfl).one (all_nil))) rfl rfl fun w293 hb293 hO293 => ?_
      simp only [setN, List.set, List.take, List.drop] at hb293
      have hk293 := hS.keptBlk 2 rfl hO293
      replace hS := hS.setBlk 2 rfl hb293 hO293; simp only [List.set] at hS
      refine eseq_nil ?_
      refine hK286 _ _ ?_
      refine e_seq fun K294 hK294 => ?_
      refine e_region_text rfl ?_
      refine q_loadAgg rfl (Blk.cellsAt (hS.blk 2 rfl) 0 2 rfl) rfl rfl ?_
      obtain ⟨r296, hr296, h⟩ := Option.of_bind h
      refine q_call rfl (cascade_Quiet_w (a0 := (⟨r290.branches, r290.flight⟩ : Cascade)) (Sep.all w293) ((hS.isl 0 rfl)).old ((hS.isl 1 rfl)).old hr296) rfl ?_
      rintro _ w295 ⟨R295, rfl, hC295⟩
      have hB295 : Below (World.heap w293).size w293 w295 := hC295.stepBF
      refine ⟨fun _ => .of_below hB295, ?_⟩
      replace hS := hS.below hB295
      refine q_move rfl rfl ?_
      obtain ⟨x300, hx299, h⟩ := Option.of_bind h
      refine g_andM 4 hx299 rfl trivial rfl rfl ?_ ?_ ?_
      · intro hg299 hx299
        clear h
        have hT299 := Below.refl (World.heap w295).size w295
        refine g_run rfl ?_; refine q_field rfl rfl ?_
        refine g_run rfl ?_; refine q_load rfl (Blk.cell (hS.blk 2 rfl) rfl) rfl ?_
        refine g_run rfl ?_; refine q_lenS rfl (hS.isl 0 rfl) rfl ?_
        refine g_run rfl ?_; refine q_eql rfl rfl rfl ?_
        cases hx299
        exact eseq_nil ⟨hT299, Sub.set rfl (Sub.set rfl (Sub.set rfl (Sub.set rfl (Sub.bool true rfl hg299)))), rfl⟩
      · intro hg299
        refine g_skip rfl rfl rfl ?_
        refine g_skip rfl rfl rfl ?_
        refine g_skip rfl rfl rfl ?_
        refine g_skip rfl rfl rfl ?_
        exact eseq_nil ⟨rfl, Sub.set rfl (Sub.set rfl (Sub.set rfl (Sub.set rfl (Sub.bool false rfl hg299))))⟩
      intro wm299 hBm299; clear hx299
      replace hS := hS.below hBm299
      refine q_move rfl rfl ?_
      obtain ⟨x308, hx307, h⟩ := Option.of_bind h
      refine g_andM 7 hx307 rfl trivial rfl rfl ?_ ?_ ?_
      · intro hg307 hx307
        clear h
        have hT307 := Below.refl (World.heap wm299).size wm299
        refine g_run rfl ?_; refine q_field rfl rfl ?_
        refine g_run rfl ?_; refine q_load rfl (Blk.cell (hS.blk 2 rfl) rfl) rfl ?_
        obtain ⟨x309, hx309, hx307⟩ := Option.of_bind hx307
        refine g_run rfl ?_; refine q_indexO (by infer_instance) rfl (hS.own 0 rfl) rfl hx309 rfl ?_
        refine g_run rfl ?_; refine q_field rfl rfl ?_
        have f310 := (hS.ownR 0 rfl).elt hx309
        have f311 := Branch_F1 f310
        refine g_run rfl ?_; refine q_loadE rfl f311 rfl (fun v312 f312 => ?_)
        refine g_run rfl ?_; refine q_lenS rfl f312 rfl ?_
        refine g_run rfl ?_; refine q_eql rfl rfl rfl ?_
        cases hx307
        exact eseq_nil ⟨hT307, Sub.set rfl (Sub.set rfl (Sub.set rfl (Sub.set rfl (Sub.set rfl (Sub.set rfl (Sub.set rfl (Sub.bool true rfl hg307))))))), rfl⟩
      · intro hg307
        refine g_skip rfl rfl rfl ?_
        refine g_skip rfl rfl rfl ?_
        refine g_skip rfl rfl rfl ?_
        refine g_skip rfl rfl rfl ?_
        refine g_skip rfl rfl rfl ?_
        refine g_skip rfl rfl rfl ?_
        refine g_skip rfl rfl rfl ?_
        exact eseq_nil ⟨rfl, Sub.set rfl (Sub.set rfl (Sub.set rfl (Sub.set rfl (Sub.set rfl (Sub.set rfl (Sub.set rfl (Sub.bool false rfl hg307)))))))⟩
      intro wm307 hBm307; clear hx307
      replace hS := hS.below hBm307
      refine q_move rfl rfl ?_
      obtain ⟨x320, hx319, h⟩ := Option.of_bind h
      refine g_andM 7 hx319 rfl trivial rfl rfl ?_ ?_ ?_
      · intro hg319 hx319
        clear h
        have hT319 := Below.refl (World.heap wm307).size wm307
        refine g_run rfl ?_; refine q_field rfl rfl ?_
        refine g_run rfl ?_; refine q_load rfl (Blk.cell (hS.blk 2 rfl) rfl) rfl ?_
        obtain ⟨x321, hx321, hx319⟩ := Option.of_bind hx319
        refine g_run rfl ?_; refine q_indexO (by infer_instance) rfl (hS.own 0 rfl) rfl hx321 rfl ?_
        refine g_run rfl ?_; refine q_field rfl rfl ?_
        have f322 := (hS.ownR 0 rfl).elt hx321
        have f323 := Branch_F1 f322
        refine g_run rfl ?_; refine q_loadE rfl f323 rfl (fun v324 f324 => ?_)
        refine g_run rfl ?_; refine q_lenS rfl f324 rfl ?_
        refine g_run rfl ?_; refine q_eql rfl rfl rfl ?_
        cases hx319
        exact eseq_nil ⟨hT319, Sub.set rfl (Sub.set rfl (Sub.set rfl (Sub.set rfl (Sub.set rfl (Sub.set rfl (Sub.set rfl (Sub.bool true rfl hg319))))))), rfl⟩
      · intro hg319
        refine g_skip rfl rfl rfl ?_
        refine g_skip rfl rfl rfl ?_
        refine g_skip rfl rfl rfl ?_
        refine g_skip rfl rfl rfl ?_
        refine g_skip rfl rfl rfl ?_
        refine g_skip rfl rfl rfl ?_
        refine g_skip rfl rfl rfl ?_
        exact eseq_nil ⟨rfl, Sub.set rfl (Sub.set rfl (Sub.set rfl (Sub.set rfl (Sub.set rfl (Sub.set rfl (Sub.set rfl (Sub.bool false rfl hg319)))))))⟩
      intro wm319 hBm319; clear hx319
      replace hS := hS.below hBm319
      refine q_move rfl rfl ?_
      obtain ⟨x331, hx330, h⟩ := Option.of_bind h
      refine g_andM 6 hx330 rfl trivial rfl rfl ?_ ?_ ?_
      · intro hg330 hx330
        clear h
        have hT330 := Below.refl (World.heap wm319).size wm319
        refine g_run rfl ?_; refine q_field rfl rfl ?_
        refine g_run rfl ?_; refine q_load rfl (Blk.cell (hS.blk 2 rfl) rfl) rfl ?_
        obtain ⟨x332, hx332, hx330⟩ := Option.of_bind hx330
        refine g_run rfl ?_; refine q_indexO (by infer_instance) rfl (hS.own 0 rfl) rfl hx332 rfl ?_
        refine g_run rfl ?_; refine q_field rfl rfl ?_
        have f333 := (hS.ownR 0 rfl).elt hx332
        have f334 := Branch_F0 f333
        refine g_run rfl ?_; refine q_load rfl (Elt.intCell f334) rfl ?_
        refine g_run rfl ?_; refine q_eql rfl rfl rfl ?_
        cases hx330
        exact eseq_nil ⟨hT330, Sub.set rfl (Sub.set rfl (Sub.set rfl (Sub.set rfl (Sub.set rfl (Sub.set rfl (Sub.bool true rfl hg330)))))), rfl⟩
      · intro hg330
        refine g_skip rfl rfl rfl ?_
        refine g_skip rfl rfl rfl ?_
        refine g_skip rfl rfl rfl ?_
        refine g_skip rfl rfl rfl ?_
        refine g_skip rfl rfl rfl ?_
        refine g_skip rfl rfl rfl ?_
        exact eseq_nil ⟨rfl, Sub.set rfl (Sub.set rfl (Sub.set rfl (Sub.set rfl (Sub.set rfl (Sub.set rfl (Sub.bool false rfl hg330))))))⟩
      intro wm330 hBm330; clear hx330
      replace hS := hS.below hBm330
      refine q_assign rfl rfl ?_
      refine eseq_nil ?_
      refine hK294 _ _ ?_
      refine e_ret ?_
      obtain rfl := Option.some.inj h
      exact ⟨_, res1 rfl rfl, _, rfl, (hS.pickB [] 3 rfl rfl)⟩
  replace hS := hS.nilOwn0 letterTy 43
  refine e_loop (fun m_ E_ w226 => ∃ (x229 : (List Branch)), ∃ (x232 : (List Letter)), ∃ (x233 : Int), ∃ (x235 : Int), ∃ (v228 : Value), ∃ (v231 : Value), ∃ (R225 : Nat → Prop), iter (fun s => law33_awake_B1 fuel s.1 s.2.1 s.2.2.1 s.2.2.2) m_ (x229, x232, x233, x235) = some tl192 ∧ Sep F R R225 w w226 [HP.blk bl184 [v228, v231] 28, HP.own branchTy R225 48 v228 x229, HP.own letterTy (fun _ => False) 43 v231 x232, HP.own shockTy (fun _ => False) 51 v188 ([(⟨1, 0, 1⟩ : Shock), (⟨2, 0, 0⟩ : Shock), (⟨1, 1, 2⟩ : Shock), (⟨2, 0, 0⟩ : Shock), (⟨4, 0, 0⟩ : Shock)])] ∧ E_ = [(1, .pointer (some ⟨bl184, 0, none⟩)), (2, .int .i64 x233), (3, v188), (4, .int .i64 x235)]) _ ⟨_, ⟨r181.1.branches, ([] : List Letter), r181.2, 0, v182, (.slice none 0 0), _, ht192, (hS.pickB [2, 3, 0, 1] 4 rfl rfl), rfl⟩, Sub.cons rfl (Sub.cons rfl (Sub.cons rfl (Sub.cons rfl (Sub.nil _))))⟩ ?_
  clear ht192 hS
  rintro m192 _ w226 ⟨x229, x232, x233, x235, v228, v231, R225, ht192, hS, rfl⟩
  obtain ⟨m192, rfl, o192, ho192, ht192⟩ := iter_some ht192
  replace ho192 : law33_awake_B1 fuel x229 x232 x233 x235 = some o192 := ho192
  unfold law33_awake_B1 at ho192
  refine e_seq fun K336 hK336 => ?_
  refine e_seq fun K337 hK337 => ?_
  refine e_region_text rfl ?_
  refine q_move rfl rfl ?_
  refine q_move rfl rfl ?_
  refine q_lenS rfl (hS.isl 3 rfl) rfl ?_
  refine q_lss rfl rfl rfl ?_
  refine q_move rfl rfl ?_
  obtain ⟨x341, hx340, ho192⟩ := Option.of_bind ho192
  refine g_andM 2 hx340 rfl trivial rfl rfl ?_ ?_ ?_
  · intro hg340 hx340
    clear ho192
    have hT340 := Below.refl (World.heap w226).size w226
    refine g_run rfl ?_; refine q_move rfl rfl ?_
    refine g_run rfl ?_; refine q_eql rfl rfl rfl ?_
    cases hx340
    exact eseq_nil ⟨hT340, Sub.set rfl (Sub.set rfl (Sub.bool true rfl hg340)), rfl⟩
  · intro hg340
    refine g_skip rfl rfl rfl ?_
    refine g_skip rfl rfl rfl ?_
    exact eseq_nil ⟨rfl, Sub.set rfl (Sub.set rfl (Sub.bool false rfl hg340))⟩
  intro wm340 hBm340; clear hx340
  replace hS := hS.below hBm340
  refine eseq_nil ?_
  refine hK337 _ _ ?_
  refine e_cond rfl (fun hc342 => ?_) (fun hc342 => ?_)
  · replace ho192 := (if_pos hc342).symm.trans ho192
    refine e_skip ?_
    refine hK336 _ _ ?_
    refine e_seq fun K343 hK343 => ?_
    refine e_block ?_
    refine e_region_draw mixed (fun _ => False) [0, 0, 0, 6, 14, 31, 63, 127, 127, 255, 1023] [] [0, 1, 2, 3, 4, 5, 6, 7, 8, 9, 10] (by kernel_rfl) ?_
    refine q_loadAgg rfl (Blk.cellsAt (hS.blk 0 rfl) 0 2 rfl) rfl rfl ?_
    refine q_move rfl rfl ?_
    refine q_move rfl rfl ?_
    obtain ⟨x344, hx344, ho192⟩ := Option.of_bind ho192
    refine q_indexO (by infer_instance) rfl (hS.own 3 rfl) rfl hx344 rfl ?_
    have f345 := (hS.ownR 3 rfl).elt hx344
    have hc346 := Shock_open f345
    refine q_loadAgg rfl hc346 rfl rfl ?_
    obtain ⟨R348, hS, hm348, f348⟩ := hS.freezeOwn 1 rfl; simp only [List.eraseIdx] at hS
    obtain ⟨R349, hS, hm349, f349⟩ := hS.freezeOwn 1 rfl; simp only [List.eraseIdx] at hS
    replace f348 := f348.mono fun k hk _ => hm349 k hk
    obtain ⟨r350, hr350, ho192⟩ := Option.of_bind ho192
    refine q_call rfl (cascade_Step_w (a0 := (⟨x229, x232⟩ : Cascade)) (a1 := x344) (Sep.enter (As := []) hS) f348 f349 hr350) rfl ?_
    rintro _ w347 ⟨v351, v352, R347, rfl, hC347⟩
    have hB347 : Below (World.heap wm340).size wm340 w347 := hC347.stepB0
    refine ⟨fun _ => .of_below hB347, ?_⟩
    replace f348 := (f348.ext hB347).mono fun k hk _ => hC347.ro0 k hk
    replace f349 := (f349.ext hB347).mono fun k hk _ => hC347.ro0 k hk
    replace hS := Sep.leave (As := []) hS hC347; simp only [List.cons_append, List.nil_append] at hS
    refine q_move rfl rfl ?_
    refine q_extract rfl rfl rfl ?_
    refine q_extract rfl rfl rfl ?_
    refine q_storeAgg rfl rfl (hS.blk 2 rfl) rfl (Nat.le_of_ble_eq_true rfl) (all_cons (hS.own 0 rfl).one (all_cons (hS.own 1 rfl).one (all_nil))) rfl rfl fun w353 hb353 hO353 => ?_
    simp only [setN, List.set, List.take, List.drop] at hb353
    have hk353 := hS.keptBlk 2 rfl hO353
    replace hS := hS.setBlk 2 rfl hb353 hO353; simp only [List.set] at hS
    refine q_assign rfl rfl ?_
    refine eseq_nil ?_
    refine hK343 _ _ ?_
    refine e_region_text rfl ?_
    refine q_move rfl rfl ?_
    refine q_addW rfl rfl rfl ?_
    refine q_assign rfl rfl ?_
    refine eseq_nil ?_
    obtain rfl := Option.some.inj ho192
    exact ⟨m192, _, Nat.lt_succ_self _, ⟨r350.1.branches, r350.1.flight, r350.2, (w64 (x235 + 1)), v351, v352, _, ht192, (hS.pickB [2, 0, 1, 3] 4 rfl rfl), rfl⟩, Sub.cons rfl (Sub.cons rfl (Sub.cons rfl (Sub.cons rfl (Sub.nil _))))⟩
  · replace ho192 := (if_neg (not_true hc342)).symm.trans ho192
    refine e_exit ?_
    obtain rfl := Option.some.inj ho192
    obtain rfl := Option.some.inj ht192
    exact hX192_0 x229 x232 x233 v228 v231 _ _ _ h (hS.pickB [0, 1, 2] 4 rfl rfl)  (Sub.cons rfl (Sub.cons rfl (Sub.nil _)))
end Go.Proofs.Ytddohdppmejjoaa
