/- rollbacknetref33.Copy: the copy, its events as rows of one's own (a printed walk, changed by hand). -/
import Derived.Test.YtddohdppmejjoaaW33a
import Derived.Test.YtddohdppmejjoaaA33b
set_option linter.unusedVariables false
set_option linter.unusedSimpArgs false
namespace Go.Proofs.Ytddohdppmejjoaa
open Go.RowKit Go.Mine
attribute [local irreducible] eseq ewp iter
theorem ref33_CopyV_w {F R : Nat → Prop} {w : World} {fuel : Nat} {a0 : Cascade} {v1 : Value} {v2 : Value} {r : (Cascade)} (hS : Sep F R R w w []) (f1 : IsSlice branchTy w R v1 a0.branches) (f2 : IsSlice letterTy w R v2 a0.flight) (h : ref33_Copy fuel a0 = some r) :
    Gives Try.prog 46 [.agg #[v1, v2]] w fun u w1 => ∃ (v149 : Value), ∃ (v150 : Value), ∃ (R1 : Nat → Prop), ∃ (xs : List (Branch × Value)), u = .agg #[v149, v150] ∧ xs.map Prod.fst = r.branches ∧ Sep F R R1 w w1 [HP.own brV R1 48 v149 xs, HP.own letterTy (fun _ => False) 43 v150 r.flight, HP.famS evtTy (fun _ => False) 83 (xs.map Prod.snd) (r.branches.map (·.events))] := by
  refine fn_of Try.func46 rfl Try.ntmps46 (Nat.le_of_ble_eq_true rfl) ?_
  unfold ref33_Copy at h
  refine e_seq fun K151 hK151 => ?_
  refine e_region_text rfl ?_
  refine q_boxB rfl rfl rfl fun w152 bl152 hg152 hb152 hB152 => ?_
  replace f1 := f1.ext hB152
  replace f2 := f2.ext hB152
  replace hS := hS.newBlk hB152 hg152 hb152
  refine q_allocB rfl fun w154 bl154 hg154 hb154 hB154 => ?_
  replace f1 := f1.ext hB154
  replace f2 := f2.ext hB154
  replace hS := hS.newBlk hB154 hg154 hb154
  refine eseq_nil ?_
  refine hK151 _ _ ?_
  refine e_seq fun K156 hK156 => ?_
  refine e_region_text rfl ?_
  refine q_allocB rfl fun w157 bl157 hg157 hb157 hB157 => ?_
  replace f1 := f1.ext hB157
  replace f2 := f2.ext hB157
  replace hS := hS.newBlk hB157 hg157 hb157
  refine eseq_nil ?_
  refine hK156 _ _ ?_
  refine e_seq fun K159 hK159 => ?_
  refine e_seq fun K160 hK160 => ?_
  refine e_region_text rfl ?_
  refine q_assign rfl rfl ?_
  refine eseq_nil ?_
  refine hK160 _ _ ?_
  refine e_block ?_
  obtain ⟨tl161, ht161, h⟩ := Option.of_bind h
  have hX161_0 : ∀ (x257 : (List Branch)) (xs257 : List (Branch × Value)) (v256 : Value) (R251 : Nat → Prop) (w252 : World) (E_ : Env), ref33_Copy_K1 fuel a0 x257 = some r → Sep F R R251 w w252 [HP.blk bl152 [v1, v2] 28, HP.blk bl154 [.slice none 0 0, .slice none 0 0] 28, HP.blk bl157 [v256, .slice none 0 0] 28, HP.own brV R251 48 v256 xs257, HP.famS evtTy (fun _ => False) 83 (xs257.map Prod.snd) (x257.map (·.events))] → xs257.map Prod.fst = x257 → IsSlice branchTy w252 R251 v1 a0.branches → IsSlice letterTy w252 R251 v2 a0.flight → Sub [(1, .pointer (some ⟨bl152, 0, none⟩)), (2, .pointer (some ⟨bl154, 0, none⟩)), (3, .pointer (some ⟨bl157, 0, none⟩))] E_ → K159 E_ w252 := by
    intro x257 xs257 v256 R251 w252 E_ h hS hxs f253 f254 hsub
    refine hK159 _ _ (e_sub hsub ?_); clear hsub
    unfold ref33_Copy_K1 at h
    refine e_seq fun K258 hK258 => ?_
    refine e_region_text rfl ?_
    refine q_field rfl rfl ?_
    refine q_load rfl (Blk.cell (hS.blk 0 rfl) rfl) rfl ?_
    replace hS := hS.nilOwn0 letterTy 43
    obtain ⟨x261, hx261, h⟩ := Option.of_bind h
    refine q_catE (T := letterTy) rfl rfl rfl rfl (hS.own 0 rfl) rfl f254 hx261 (Nat.zero_le _) rfl (fun h => by cases h) fun v260 w260 hw260 hgr260 hnw260 => ?_
    have hk260 := hS.keptOwn 0 rfl hgr260
    replace f254 := f254.kept hk260
    replace hS := hS.setOwn 0 rfl hw260 hgr260 hnw260; simp only [List.set] at hS
    refine q_field rfl rfl ?_
    refine q_store rfl rfl (hS.blk 3 rfl) (Nat.le_of_ble_eq_true rfl) (hS.own 0 rfl).one rfl rfl fun w262 hb262 hO262 => ?_
    have hk262 := hS.keptBlk 3 rfl hO262
    replace hS := hS.setBlk 3 rfl hb262 hO262; simp only [List.set] at hS
    refine eseq_nil ?_
    refine hK258 _ _ ?_
    refine e_seq fun K263 hK263 => ?_
    refine e_region_text rfl ?_
    refine q_loadAgg rfl (Blk.cellsAt (hS.blk 3 rfl) 0 2 rfl) rfl rfl ?_
    refine q_storeAgg rfl rfl (hS.blk 2 rfl) rfl (Nat.le_of_ble_eq_true rfl) (all_cons (hS.own 4 rfl).one (all_cons (hS.own 0 rfl).one (all_nil))) rfl rfl fun w264 hb264 hO264 => ?_
    simp only [setN, List.set, List.take, List.drop] at hb264
    have hk264 := hS.keptBlk 2 rfl hO264
    replace hS := hS.setBlk 2 rfl hb264 hO264; simp only [List.set] at hS
    refine eseq_nil ?_
    refine hK263 _ _ ?_
    refine e_ret ?_
    obtain rfl := Option.some.inj h
    exact ⟨_, resC1 rfl rfl ((hS.blk 2 rfl).cellsAt 0 2 rfl) rfl, v256, v260, _, xs257, rfl, hxs, (hS.pickB [4, 0, 5] 6 rfl rfl)⟩
  replace hS := hS.nilFam evtTy 83
  replace hS := hS.nilOwn brV 48
  refine e_loop (fun m_ E_ w206 => ∃ (x211 : (List Branch)), ∃ (xs211 : List (Branch × Value)), ∃ (x212 : Int), ∃ (v210 : Value), ∃ (R205 : Nat → Prop), iter (fun s => ref33_Copy_B1 fuel a0 s.1 s.2) m_ (x211, x212) = some tl161 ∧ Sep F R R205 w w206 [HP.blk bl152 [v1, v2] 28, HP.blk bl154 [.slice none 0 0, .slice none 0 0] 28, HP.blk bl157 [v210, .slice none 0 0] 28, HP.own brV R205 48 v210 xs211, HP.famS evtTy (fun _ => False) 83 (xs211.map Prod.snd) (x211.map (·.events))] ∧ xs211.map Prod.fst = x211 ∧ IsSlice branchTy w206 R205 v1 a0.branches ∧ IsSlice letterTy w206 R205 v2 a0.flight ∧ E_ = [(1, .pointer (some ⟨bl152, 0, none⟩)), (2, .pointer (some ⟨bl154, 0, none⟩)), (3, .pointer (some ⟨bl157, 0, none⟩)), (4, .int .i64 x212)]) _ ⟨_, ⟨([] : List Branch), [], 0, (.slice none 0 0), _, ht161, (hS.pickB [4, 3, 2, 0, 1] 5 rfl rfl), rfl, f1, f2, rfl⟩, Sub.cons rfl (Sub.cons rfl (Sub.cons rfl (Sub.cons rfl (Sub.nil _))))⟩ ?_
  clear ht161 hS
  rintro m161 _ w206 ⟨x211, xs211, x212, v210, R205, ht161, hS, hxs, f207, f208, rfl⟩
  obtain ⟨m161, rfl, o161, ho161, ht161⟩ := iter_some ht161
  replace ho161 : ref33_Copy_B1 fuel a0 x211 x212 = some o161 := ho161
  unfold ref33_Copy_B1 at ho161
  refine e_seq fun K266 hK266 => ?_
  refine e_seq fun K267 hK267 => ?_
  refine e_region_text rfl ?_
  refine q_move rfl rfl ?_
  refine q_field rfl rfl ?_
  refine q_load rfl (Blk.cell (hS.blk 0 rfl) rfl) rfl ?_
  refine q_lenS rfl f207 rfl ?_
  refine q_lss rfl rfl rfl ?_
  refine eseq_nil ?_
  refine hK267 _ _ ?_
  refine e_cond rfl (fun hc268 => ?_) (fun hc268 => ?_)
  · replace ho161 := (if_pos hc268).symm.trans ho161
    refine e_skip ?_
    refine hK266 _ _ ?_
    refine e_seq fun K269 hK269 => ?_
    refine e_block ?_
    refine e_seq fun K270 hK270 => ?_
    refine e_region_text rfl ?_
    refine q_field rfl rfl ?_
    refine q_load rfl (Blk.cell (hS.blk 0 rfl) rfl) rfl ?_
    refine q_move rfl rfl ?_
    obtain ⟨x271, hx271, ho161⟩ := Option.of_bind ho161
    refine q_atS (by infer_instance) rfl f207 rfl hx271 rfl fun b272 o272 hm272 f272 => ?_
    obtain ⟨v273, v274, hc275, f273, f274⟩ := Branch_open f272
    refine q_loadAgg rfl hc275 rfl rfl ?_
    refine q_allocB rfl fun w276 bl276 hg276 hb276 hB276 => ?_
    replace f207 := f207.ext hB276
    replace f208 := f208.ext hB276
    replace f273 := f273.ext hB276
    replace f274 := f274.ext hB276
    replace hS := hS.newBlk hB276 hg276 hb276
    refine q_storeAgg rfl rfl (hS.blk 0 rfl) rfl (Nat.le_of_ble_eq_true rfl) (all_cons rfl (all_cons f273.one (all_cons rfl (all_cons f274.one (all_nil))))) rfl rfl fun w278 hb278 hO278 => ?_
    simp only [setN, List.set, List.take, List.drop] at hb278
    have hk278 := hS.keptBlk 0 rfl hO278
    replace f207 := f207.kept hk278
    replace f208 := f208.kept hk278
    replace f273 := f273.kept hk278
    replace f274 := f274.kept hk278
    replace hS := hS.setBlk 0 rfl hb278 hO278; simp only [List.set] at hS
    refine eseq_nil ?_
    refine hK270 _ _ ?_
    refine e_seq fun K279 hK279 => ?_
    refine e_region_text rfl ?_
    refine q_field rfl rfl ?_
    refine q_load rfl (Blk.cell (hS.blk 0 rfl) rfl) rfl ?_
    replace hS := hS.nilOwn0 evtTy 83
    obtain ⟨x282, hx282, ho161⟩ := Option.of_bind ho161
    refine q_catE (T := evtTy) rfl rfl rfl rfl (hS.own 0 rfl) rfl f273 hx282 (Nat.zero_le _) rfl (fun h => by cases h) fun v281 w281 hw281 hgr281 hnw281 => ?_
    have hk281 := hS.keptOwn 0 rfl hgr281
    replace f207 := f207.kept hk281
    replace f208 := f208.kept hk281
    replace f273 := f273.kept hk281
    replace f274 := f274.kept hk281
    replace hS := hS.setOwn 0 rfl hw281 hgr281 hnw281; simp only [List.set] at hS
    refine q_field rfl rfl ?_
    refine q_store rfl rfl (hS.blk 1 rfl) (Nat.le_of_ble_eq_true rfl) (hS.own 0 rfl).one rfl rfl fun w283 hb283 hO283 => ?_
    have hk283 := hS.keptBlk 1 rfl hO283
    replace f207 := f207.kept hk283
    replace f208 := f208.kept hk283
    replace f274 := f274.kept hk283
    replace hS := hS.setBlk 1 rfl hb283 hO283; simp only [List.set] at hS
    refine eseq_nil ?_
    refine hK279 _ _ ?_
    refine e_seq fun K284 hK284 => ?_
    refine e_region_text rfl ?_
    refine q_field rfl rfl ?_
    refine q_load rfl (Blk.cell (hS.blk 1 rfl) rfl) rfl ?_
    replace hS := hS.nilOwn0 endITy 41
    obtain ⟨x287, hx287, ho161⟩ := Option.of_bind ho161
    refine q_catE (T := endITy) rfl rfl rfl rfl (hS.own 0 rfl) rfl f274 hx287 (Nat.zero_le _) rfl (fun h => by cases h) fun v286 w286 hw286 hgr286 hnw286 => ?_
    have hk286 := hS.keptOwn 0 rfl hgr286
    replace f207 := f207.kept hk286
    replace f208 := f208.kept hk286
    replace f274 := f274.kept hk286
    replace hS := hS.setOwn 0 rfl hw286 hgr286 hnw286; simp only [List.set] at hS
    refine q_field rfl rfl ?_
    refine q_store rfl rfl (hS.blk 2 rfl) (Nat.le_of_ble_eq_true rfl) (hS.own 0 rfl).one rfl rfl fun w288 hb288 hO288 => ?_
    have hk288 := hS.keptBlk 2 rfl hO288
    replace f207 := f207.kept hk288
    replace f208 := f208.kept hk288
    replace hS := hS.setBlk 2 rfl hb288 hO288; simp only [List.set] at hS
    refine eseq_nil ?_
    refine hK284 _ _ ?_
    refine e_region_text rfl ?_
    refine q_field rfl rfl ?_
    refine q_load rfl (Blk.cell (hS.blk 5 rfl) rfl) rfl ?_
    refine q_loadAgg rfl (Blk.cellsAt (hS.blk 2 rfl) 0 4 rfl) rfl rfl ?_
    obtain ⟨R291, hS, hm291, f291⟩ := hS.freezeOwn 0 rfl; simp only [List.eraseIdx] at hS
    replace f207 := f207.mono fun k hk _ => hm291 k hk
    replace f208 := f208.mono fun k hk _ => hm291 k hk
    have hone281 := (hS.own 0 rfl).one
    refine q_litO (T := brV) (S := R291) (cells := [[.int .i64 x271.inc, v281, .int .i64 x271.stable, v286]]) (ys := [((⟨x271.inc, x282, x271.stable, x287⟩ : Branch), v281)]) ((Parts.cons rfl rfl Parts.nil)) rfl rfl rfl rfl rfl rfl rfl (fun w1 hB => ⟨brV_mk (a := ((⟨x271.inc, x282, x271.stable, x287⟩ : Branch), v281)) hone281 (f291.ext hB), trivial⟩) hS.ro rfl fun w289 v289 ho289 hv289 hB289 => ?_
    replace f207 := f207.ext hB289
    replace f208 := f208.ext hB289
    replace f291 := f291.ext hB289
    replace hS := hS.newOwnS hB289 ho289 hv289 (fun _ h => h)
    replace hS := hS.ownMono 6 rfl; simp only [List.set] at hS
    obtain ⟨x294, hx294, ho161⟩ := Option.of_bind ho161
    have hc294 : catL xs211 [((⟨x271.inc, x282, x271.stable, x287⟩ : Branch), v281)] = some (xs211 ++ [((⟨x271.inc, x282, x271.stable, x287⟩ : Branch), v281)]) := by
      obtain ⟨hl_, _⟩ := snoc_eq hx294
      have hl2_ : xs211.length = x211.length := by rw [← hxs]; simp
      unfold catL; rw [if_pos (by simp; omega)]
    refine q_catOwn (T := brV) rfl rfl rfl rfl (hS.own 6 rfl) rfl (hS.own 0 rfl) (hS.ownOff 6 rfl) hc294 (Nat.zero_le _) rfl (fun h => by cases h) fun v293 w293 hw293 hgr293 hnw293 => ?_
    have hk293 := hS.keptOwn 6 rfl hgr293
    replace f207 := f207.kept hk293
    replace f208 := f208.kept hk293
    replace hS := hS.setOwn 6 rfl hw293 hgr293 hnw293; simp only [List.set] at hS
    refine q_field rfl rfl ?_
    refine q_store rfl rfl (hS.blk 5 rfl) (Nat.le_of_ble_eq_true rfl) (hS.own 6 rfl).one rfl rfl fun w295 hb295 hO295 => ?_
    have hk295 := hS.keptBlk 5 rfl hO295
    replace f207 := f207.kept hk295
    replace f208 := f208.kept hk295
    replace hS := hS.setBlk 5 rfl hb295 hO295; simp only [List.set] at hS
    refine eseq_nil ?_
    refine hK269 _ _ ?_
    refine e_region_text rfl ?_
    refine q_move rfl rfl ?_
    refine q_addW rfl rfl rfl ?_
    refine q_assign rfl rfl ?_
    refine eseq_nil ?_
    obtain rfl := Option.some.inj ho161
    -- the row joins the family
    obtain ⟨_, rfl⟩ := snoc_eq hx294
    replace hS := hS.pickB [1, 3, 4, 5, 6, 7] 8 rfl rfl; simp only [List.map_cons, List.map_nil, List.getD_cons_zero, List.getD_cons_succ] at hS
    replace hS := hS.famOne
    replace hS := hS.pickB [5, 0, 1, 2, 3, 4] 6 rfl rfl; simp only [List.map_cons, List.map_nil, List.getD_cons_zero, List.getD_cons_succ] at hS
    replace hS := hS.famCat
    refine ⟨m161, _, Nat.lt_succ_self _, ⟨_, xs211 ++ [((⟨x271.inc, x282, x271.stable, x287⟩ : Branch), v281)], (w64 (x212 + 1)), v293, _, ht161, ?_, by rw [List.map_append, hxs]; rfl, f207, f208, rfl⟩, Sub.cons rfl (Sub.cons rfl (Sub.cons rfl (Sub.cons rfl (Sub.nil _))))⟩
    rw [List.map_append, List.map_append]
    exact hS.pickB [1, 2, 3, 4, 0] 5 rfl rfl
  · replace ho161 := (if_neg (not_true hc268)).symm.trans ho161
    refine e_exit ?_
    obtain rfl := Option.some.inj ho161
    obtain rfl := Option.some.inj ht161
    exact hX161_0 x211 xs211 v210 _ _ _ h hS hxs f207 f208 (Sub.cons rfl (Sub.cons rfl (Sub.cons rfl (Sub.nil _))))
end Go.Proofs.Ytddohdppmejjoaa
