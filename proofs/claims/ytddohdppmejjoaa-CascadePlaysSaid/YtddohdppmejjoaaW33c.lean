/- rollbacknetref33.Step: what it does (a printed walk, changed by hand: an event joins a row of the copy). -/
import Derived.Test.YtddohdppmejjoaaW33b
import Derived.Test.YtddohdppmejjoaaA33p
set_option linter.unusedVariables false
set_option linter.unusedSimpArgs false
namespace Go.Mine
open Go.RowKit
def ref33_Step_J1 (fuel : Nat) (x496 : (List Branch)) (x499 : (List Letter)) : Option (Cascade × Int) :=
  some ((⟨x496, x499⟩ : Cascade), 0)
def ref33_Step (fuel : Nat) (a0 : Cascade) (a1 : Shock) : Option (Cascade × Int) :=
  (ref33_refuse fuel (⟨a0.branches, a0.flight⟩ : Cascade) (⟨a1.kind, a1.proc, a1.other⟩ : Shock)).bind fun r334 => (if (r334 != 0) = true then some ((⟨([] : List Branch), ([] : List Letter)⟩ : Cascade), r334) else (ref33_Copy fuel (⟨a0.branches, a0.flight⟩ : Cascade)).bind fun r343 => (if (a1.kind == 1) = true then (ati r343.branches a1.proc).bind fun x506 => (snoc x506.events (⟨2, x506.inc, 0, (⟨0, 0⟩ : Lab), 0, 0⟩ : Evt)).bind fun x531 => (some ({ x506 with events := x531 })).bind fun y534 => (seti r343.branches a1.proc y534).bind fun x535 => (snoc r343.flight (⟨a1.proc, a1.other, false, (⟨y534.inc, (y534.events.length : Int)⟩ : Lab), (⟨0, 0, 0⟩ : EndI)⟩ : Letter)).bind fun x554 => ref33_Step_J1 fuel x535 x554 else (if (a1.kind == 2) = true then (ati r343.flight a1.other).bind fun x559 => (takeL r343.flight a1.other).bind fun x566 => (dropL r343.flight (w64 (a1.other + 1))).bind fun x567 => (catL x566 x567).bind fun x569 => (ati r343.branches x559.to).bind fun x572 => (if x559.news = true then (ref31_Add fuel x572.ends (⟨x559.end_.proc, x559.end_.inc, x559.end_.index⟩ : EndI)).bind fun r580 => (some ({ x572 with ends := r580 })).bind fun y584 => (seti r343.branches x559.to y584).bind fun x585 => (ref33_check fuel x559.to x585 x569).bind fun r587 => ref33_Step_J1 fuel r587.1 r587.2 else (ref31_Undone fuel x572.ends x559.frm (⟨x559.sent.inc, x559.sent.index⟩ : Lab)).bind fun r595 => (if (!r595) = true then (snoc x572.events (⟨1, x572.inc, x559.frm, (⟨x559.sent.inc, x559.sent.index⟩ : Lab), 0, 0⟩ : Evt)).bind fun x620 => (some ({ x572 with events := x620 })).bind fun y623 => (seti r343.branches x559.to y623).bind fun x624 => ref33_Step_J1 fuel x624 x569 else ref33_Step_J1 fuel r343.branches x569)) else (if (a1.kind == 3) = true then (ati r343.branches a1.proc).bind fun x627 => (ati r343.branches a1.proc).bind fun x631 => (some ({ x631 with stable := (x627.events.length : Int) })).bind fun y633 => (seti r343.branches a1.proc y633).bind fun x634 => ref33_Step_J1 fuel x634 r343.flight else (if (a1.kind == 4) = true then (ati r343.branches a1.proc).bind fun x637 => (ref33_back fuel a1.proc x637.stable r343.branches r343.flight).bind fun r641 => ref33_Step_J1 fuel r641.1 r641.2 else ref33_Step_J1 fuel r343.branches r343.flight)))))
end Go.Mine
namespace Go.Proofs.Ytddohdppmejjoaa
open Go.RowKit Go.Mine
attribute [local irreducible] eseq ewp iter
theorem ref33_Step_w {F R : Nat → Prop} {w : World} {fuel : Nat} {a0 : Cascade} {a1 : Shock} {v1 : Value} {v2 : Value} {r : (Cascade × Int)} (hS : Sep F R R w w []) (f1 : IsSlice branchTy w R v1 a0.branches) (f2 : IsSlice letterTy w R v2 a0.flight) (h : ref33_Step fuel a0 a1 = some r) :
    Gives Try.prog 21 [.agg #[v1, v2], .agg #[.int .i64 a1.kind, .int .i64 a1.proc, .int .i64 a1.other]] w fun u w1 => ∃ (v322 : Value), ∃ (v323 : Value), ∃ (R1 : Nat → Prop), u = .tuple #[.agg #[v322, v323], .int .i64 r.2] ∧ Sep F R R1 w w1 [HP.own branchTy R1 48 v322 r.1.branches, HP.own letterTy (fun _ => False) 43 v323 r.1.flight] := by
  refine fn_of Try.func21 rfl Try.ntmps21 (Nat.le_of_ble_eq_true rfl) ?_
  unfold ref33_Step at h
  refine e_seq fun K324 hK324 => ?_
  refine e_region_text rfl ?_
  refine q_boxB rfl rfl rfl fun w325 bl325 hg325 hb325 hB325 => ?_
  replace f1 := f1.ext hB325
  replace f2 := f2.ext hB325
  replace hS := hS.newBlk hB325 hg325 hb325
  refine q_boxB rfl rfl rfl fun w327 bl327 hg327 hb327 hB327 => ?_
  replace f1 := f1.ext hB327
  replace f2 := f2.ext hB327
  replace hS := hS.newBlk hB327 hg327 hb327
  refine q_allocB rfl fun w329 bl329 hg329 hb329 hB329 => ?_
  replace f1 := f1.ext hB329
  replace f2 := f2.ext hB329
  replace hS := hS.newBlk hB329 hg329 hb329
  refine q_assign rfl rfl ?_
  refine eseq_nil ?_
  refine hK324 _ _ ?_
  refine e_seq fun K331 hK331 => ?_
  refine e_seq fun K332 hK332 => ?_
  refine e_region_text rfl ?_
  refine q_loadAgg rfl (Blk.cellsAt (hS.blk 2 rfl) 0 2 rfl) rfl rfl ?_
  refine q_loadAgg rfl (Blk.cellsAt (hS.blk 1 rfl) 0 3 rfl) rfl rfl ?_
  obtain ⟨r334, hr334, h⟩ := Option.of_bind h
  refine q_call rfl (ref33_refuse_w (a0 := (⟨a0.branches, a0.flight⟩ : Cascade)) (a1 := (⟨a1.kind, a1.proc, a1.other⟩ : Shock)) (Sep.enter (As := []) hS) f1 f2 hr334) rfl ?_
  rintro _ w333 ⟨R333, rfl, hC333⟩
  have hB333 : Below (World.heap w329).size w329 w333 := hC333.stepB0
  refine ⟨fun _ => .of_below hB333, ?_⟩
  replace f1 := (f1.ext hB333).mono fun k hk _ => hC333.ro0 k hk
  replace f2 := (f2.ext hB333).mono fun k hk _ => hC333.ro0 k hk
  replace hS := Sep.leave (As := []) hS hC333; simp only [List.cons_append, List.nil_append] at hS
  refine q_assign rfl rfl ?_
  refine eseq_nil ?_
  refine hK332 _ _ ?_
  refine e_seq fun K335 hK335 => ?_
  refine e_region_text rfl ?_
  refine q_move rfl rfl ?_
  refine q_neq rfl rfl rfl ?_
  refine eseq_nil ?_
  refine hK335 _ _ ?_
  refine e_cond rfl (fun hc336 => ?_) (fun hc336 => ?_)
  · replace h := (if_pos hc336).symm.trans h
    refine e_seq fun K337 hK337 => ?_
    refine e_region_text rfl ?_
    refine q_build Parts.nil rfl rfl ?_
    refine q_move rfl rfl ?_
    refine q_storeAgg rfl rfl (hS.blk 0 rfl) rfl (Nat.le_of_ble_eq_true rfl) (all_cons rfl (all_cons rfl (all_nil))) rfl rfl fun w338 hb338 hO338 => ?_
    simp only [setN, List.set, List.take, List.drop] at hb338
    have hk338 := hS.keptBlk 0 rfl hO338
    replace hS := hS.setBlk 0 rfl hb338 hO338; simp only [List.set] at hS
    refine q_assign rfl rfl ?_
    refine eseq_nil ?_
    refine hK337 _ _ ?_
    refine e_ret ?_
    replace hS := hS.nilOwn branchTy 48
    replace hS := hS.nilOwn0 letterTy 43
    obtain rfl := Option.some.inj h
    exact ⟨_, resCT rfl rfl ((hS.blk 2 rfl).cellsAt 0 2 rfl) rfl rfl, (.slice none 0 0), (.slice none 0 0), _, rfl, (hS.pickB [1, 0] 5 rfl rfl)⟩
  · replace h := (if_neg (not_true hc336)).symm.trans h
    refine e_skip ?_
    refine hK331 _ _ ?_
    refine e_seq fun K341 hK341 => ?_
    refine e_region_text rfl ?_
    refine q_loadAgg rfl (Blk.cellsAt (hS.blk 2 rfl) 0 2 rfl) rfl rfl ?_
    obtain ⟨r343, hr343, h⟩ := Option.of_bind h
    refine q_call rfl (ref33_CopyV_w (a0 := (⟨a0.branches, a0.flight⟩ : Cascade)) (Sep.enter (As := []) hS) f1 f2 hr343) rfl ?_
    rintro _ w342 ⟨v344, v345, R342, xs342, rfl, hxs, hC342⟩
    have hB342 : Below (World.heap w333).size w333 w342 := hC342.stepB0
    refine ⟨fun _ => .of_below hB342, ?_⟩
    replace f1 := (f1.ext hB342).mono fun k hk _ => hC342.ro0 k hk
    replace f2 := (f2.ext hB342).mono fun k hk _ => hC342.ro0 k hk
    replace hS := Sep.leave (As := []) hS hC342; simp only [List.cons_append, List.nil_append] at hS
    replace hS := hS.pickB [0, 1, 3, 4, 5, 2] 6 rfl rfl; simp only [List.map_cons, List.map_nil, List.getD_cons_zero, List.getD_cons_succ] at hS
    refine q_allocB rfl fun w346 bl346 hg346 hb346 hB346 => ?_
    replace hS := hS.newBlk hB346 hg346 hb346
    refine q_storeAgg rfl rfl (hS.blk 0 rfl) rfl (Nat.le_of_ble_eq_true rfl) (all_cons (hS.own 1 rfl).one (all_cons (hS.own 2 rfl).one (all_nil))) rfl rfl fun w348 hb348 hO348 => ?_
    simp only [setN, List.set, List.take, List.drop] at hb348
    have hk348 := hS.keptBlk 0 rfl hO348
    replace hS := hS.setBlk 0 rfl hb348 hO348; simp only [List.set] at hS
    refine eseq_nil ?_
    refine hK341 _ _ ?_
    refine e_seq fun K349 hK349 => ?_
    have hJ349 : ∀ (x496 : (List Branch)) (x499 : (List Letter)) (v495 : Value) (v498 : Value) (R492 : Nat → Prop) (w493 : World) (E_ : Env), ref33_Step_J1 fuel x496 x499 = some r → Sep F R R492 w w493 [HP.blk bl329 [.slice none 0 0, .slice none 0 0] 28, HP.blk bl346 [v495, v498] 28, HP.own branchTy R492 48 v495 x496, HP.own letterTy (fun _ => False) 43 v498 x499] → Sub [(4, .pointer (some ⟨bl329, 0, none⟩)), (7, .pointer (some ⟨bl346, 0, none⟩))] E_ → K349 E_ w493 := by
      intro x496 x499 v495 v498 R492 w493 E_ h hS  hsub
      refine hK349 _ _ (e_sub hsub ?_); clear hsub
      unfold ref33_Step_J1 at h
      refine e_seq fun K500 hK500 => ?_
      refine e_region_text rfl ?_
      refine q_loadAgg rfl (Blk.cellsAt (hS.blk 1 rfl) 0 2 rfl) rfl rfl ?_
      refine q_storeAgg rfl rfl (hS.blk 0 rfl) rfl (Nat.le_of_ble_eq_true rfl) (all_cons (hS.own 2 rfl).one (all_cons (hS.own 3 rfl).one (all_nil))) rfl rfl fun w501 hb501 hO501 => ?_
      simp only [setN, List.set, List.take, List.drop] at hb501
      have hk501 := hS.keptBlk 0 rfl hO501
      replace hS := hS.setBlk 0 rfl hb501 hO501; simp only [List.set] at hS
      refine q_assign rfl rfl ?_
      refine eseq_nil ?_
      refine hK500 _ _ ?_
      refine e_ret ?_
      obtain rfl := Option.some.inj h
      exact ⟨_, resCT rfl rfl ((hS.blk 0 rfl).cellsAt 0 2 rfl) rfl rfl, v495, v498, _, rfl, (hS.pickB [2, 3] 4 rfl rfl)⟩
    refine e_seq fun K502 hK502 => ?_
    refine e_region_text rfl ?_
    refine q_field rfl rfl ?_
    refine q_load rfl (Blk.cell (hS.blk 4 rfl) rfl) rfl ?_
    refine eseq_nil ?_
    refine hK502 _ _ ?_
    refine e_block ?_
    refine e_seq fun K503 hK503 => ?_
    refine e_region_text rfl ?_
    refine q_eql rfl rfl rfl ?_
    refine q_assign rfl rfl ?_
    refine eseq_nil ?_
    refine hK503 _ _ ?_
    refine e_cond rfl (fun hc504 => ?_) (fun hc504 => ?_)
    · replace h := (if_pos hc504).symm.trans h
      refine e_seq fun K505 hK505 => ?_
      refine e_region_text rfl ?_
      refine q_field rfl rfl ?_
      refine q_load rfl (Blk.cell (hS.blk 0 rfl) rfl) rfl ?_
      refine q_field rfl rfl ?_
      refine q_load rfl (Blk.cell (hS.blk 4 rfl) rfl) rfl ?_
      obtain ⟨x506, hx506, h⟩ := Option.of_bind h
      obtain ⟨u506, hu506⟩ := ati_fst hxs hx506
      refine q_indexO (by infer_instance) rfl (hS.own 1 rfl) rfl hu506 rfl ?_
      refine q_assign rfl rfl ?_
      refine eseq_nil ?_
      refine hK505 _ _ ?_
      refine e_seq fun K507 hK507 => ?_
      refine e_region_draw mixed (fun _ => False) [0, 0, 2, 6, 14, 0, 32, 96, 224, 480, 992, 2046, 4095, 8191, 16383] [10] [0, 1, 2, 3, 4, 5, 6, 7, 8, 9, 10, 11, 12, 13, 14] (by kernel_rfl) ?_
      refine q_move rfl rfl ?_
      refine q_move rfl rfl ?_
      refine q_nilCheck rfl rfl ?_
      refine q_field rfl rfl ?_
      have f522 := (hS.ownR 1 rfl).elt hu506
      have f523 := brV_F1 f522
      refine q_load rfl (Elt.rawCell f523) rfl ?_
      refine q_move rfl rfl ?_
      refine q_nilCheck rfl rfl ?_
      refine q_field rfl rfl ?_
      have f525 := (hS.ownR 1 rfl).elt hu506
      have f526 := brV_F0 f525
      refine q_load rfl (Elt.intCell f526) rfl ?_
      refine q_build (Parts.cons rfl rfl (Parts.cons rfl rfl Parts.nil)) rfl rfl ?_
      refine q_litO (T := evtTy) (S := (fun _ => False)) (cells := [[.int .i64 2, .int .i64 x506.inc, .int .i64 0, .int .i64 0, .int .i64 0, .int .i64 0, .int .i64 0]]) (ys := [(⟨2, x506.inc, 0, (⟨0, 0⟩ : Lab), 0, 0⟩ : Evt)]) ((Parts.cons rfl rfl Parts.nil)) rfl rfl rfl rfl rfl rfl rfl (fun w1 hB => ⟨⟨[_], _, rfl, rfl, ⟨[_], _, rfl, rfl, ⟨[_], _, rfl, rfl, ⟨[_, _], _, rfl, ⟨[_], _, rfl, rfl, rfl⟩, ⟨[_], _, rfl, rfl, rfl⟩⟩⟩⟩⟩, trivial⟩) (fun _ h => h.elim) rfl fun w527 v527 ho527 hv527 hB527 => ?_
      replace hS := hS.newOwnS hB527 ho527 hv527 (fun _ h => h.elim)
      obtain ⟨x531, hx531, h⟩ := Option.of_bind h
      have hrow_ := ati_mapE (fun b : Branch => b.events) hx506
      have hnth_ := nth_snd hu506
      have hOw_ := hS.famO 7 rfl hrow_
      rw [hnth_] at hOw_
      refine q_catOwn (T := evtTy) rfl rfl rfl rfl hOw_ rfl (hS.own 0 rfl) (fun _ h _ => h.elim) (snoc_cat hx531) (Nat.zero_le _) rfl (fun h => by cases h) fun v530 w530 hw530 hgr530 hnw530 => ?_
      rw [← hnth_] at hgr530 hnw530
      have hone_ := hw530.one
      have hk530 := hS.famKeptM 7 rfl hrow_ hgr530
      obtain ⟨y534, hy534, h⟩ := Option.of_bind h
      obtain ⟨x535, hx535, h⟩ := Option.of_bind h
      have hye_ : y534.events = x531 := by rw [← Option.some.inj hy534]
      have hse_ := seti_map (fun b : Branch => b.events) hx535
      rw [hye_] at hse_
      replace hS := hS.famSetM 7 rfl hrow_ hse_ hw530 hgr530 hnw530; simp only [List.set] at hS
      obtain ⟨xs530, hxs530, hxsf_, hxss_⟩ := seti_pair (u := v530) hxs hx535
      refine q_nilCheck rfl rfl ?_
      refine q_field rfl rfl ?_
      refine q_storeO (T := brV) (j := 1) rfl rfl (hS.own 2 rfl) hu506 hxs530 rfl hone_ rfl (fun cs_ hc_ => by obtain ⟨u1_, rfl, g0_, g1_⟩ := brV_R hc_; rw [← Option.some.inj hy534]; exact brV_mk (a := (({ x506 with events := x531 } : Branch), v530)) hone_ g1_) fun w532 ho532 hO532 => ?_
      have hk532 := hS.keptO 2 rfl hu506 hO532
      replace hS := hS.putO 2 rfl hu506 ho532 hO532; simp only [List.set] at hS
      rw [← hxss_] at hS
      obtain ⟨Rf_, hS, hmf_⟩ := hS.brFreeze 2 7 rfl rfl (by decide) hxsf_; simp only [List.eraseIdx, List.set] at hS
      refine eseq_nil ?_
      refine hK507 _ _ ?_
      refine e_region_draw mixed (fun _ => False) [0, 1, 0, 4, 0, 16, 0, 64, 192, 448, 0, 1024, 3072, 7168, 15360, 32704, 65532, 131068, 262143, 524287, 1048575] [17] [0, 1, 2, 3, 4, 5, 6, 7, 8, 9, 10, 11, 12, 13, 14, 15, 16, 17, 18, 19, 20] (by kernel_rfl) ?_
      refine q_field rfl rfl ?_
      refine q_load rfl (Blk.cell (hS.blk 1 rfl) rfl) rfl ?_
      refine q_field rfl rfl ?_
      refine q_load rfl (Blk.cell (hS.blk 5 rfl) rfl) rfl ?_
      refine q_field rfl rfl ?_
      refine q_load rfl (Blk.cell (hS.blk 5 rfl) rfl) rfl ?_
      refine q_move rfl rfl ?_
      refine q_nilCheck rfl rfl ?_
      refine q_field rfl rfl ?_
      have f546 := (hS.ownR 2 rfl).elt (ati_seti_same hx535)
      have f547 := Branch_F0 f546
      refine q_load rfl (Elt.intCell f547) rfl ?_
      refine q_move rfl rfl ?_
      refine q_nilCheck rfl rfl ?_
      refine q_field rfl rfl ?_
      have f548 := (hS.ownR 2 rfl).elt (ati_seti_same hx535)
      have f549 := Branch_F1 f548
      refine q_loadE rfl f549 rfl (fun v550 f550 => ?_)
      refine q_lenS rfl f550 rfl ?_
      refine q_build (Parts.cons rfl rfl (Parts.cons rfl rfl Parts.nil)) rfl rfl ?_
      refine q_build (Parts.cons rfl rfl (Parts.cons rfl rfl (Parts.cons rfl rfl Parts.nil))) rfl rfl ?_
      refine q_litO (T := letterTy) (S := (fun _ => False)) (cells := [[.int .i64 a1.proc, .int .i64 a1.other, .bool false, .int .i64 y534.inc, .int .i64 (y534.events.length : Int), .int .i64 0, .int .i64 0, .int .i64 0]]) (ys := [(⟨a1.proc, a1.other, false, (⟨y534.inc, (y534.events.length : Int)⟩ : Lab), (⟨0, 0, 0⟩ : EndI)⟩ : Letter)]) ((Parts.cons rfl rfl Parts.nil)) rfl rfl rfl rfl rfl rfl rfl (fun w1 hB => ⟨⟨[_], _, rfl, rfl, ⟨[_], _, rfl, rfl, ⟨[_], _, rfl, rfl, ⟨[_, _], _, rfl, ⟨[_], _, rfl, rfl, rfl⟩, ⟨[_], _, rfl, rfl, ⟨[_], _, rfl, rfl, rfl⟩⟩⟩⟩⟩⟩, trivial⟩) (fun _ h => h.elim) rfl fun w551 v551 ho551 hv551 hB551 => ?_
      replace hS := hS.newOwnS hB551 ho551 hv551 (fun _ h => h.elim)
      obtain ⟨x554, hx554, h⟩ := Option.of_bind h
      refine q_catOwn (T := letterTy) rfl rfl rfl rfl (hS.own 4 rfl) rfl (hS.own 0 rfl) (fun _ h _ => h.elim) (snoc_cat hx554) (Nat.zero_le _) rfl (fun h => by cases h) fun v553 w553 hw553 hgr553 hnw553 => ?_
      have hk553 := hS.keptOwn 4 rfl hgr553
      replace hS := hS.setOwn 4 rfl hw553 hgr553 hnw553; simp only [List.set] at hS
      refine q_field rfl rfl ?_
      refine q_store rfl rfl (hS.blk 2 rfl) (Nat.le_of_ble_eq_true rfl) (hS.own 4 rfl).one rfl rfl fun w555 hb555 hO555 => ?_
      have hk555 := hS.keptBlk 2 rfl hO555
      replace hS := hS.setBlk 2 rfl hb555 hO555; simp only [List.set] at hS
      refine eseq_nil ?_
      exact hJ349 x535 x554 v344 v553 _ _ _ h (hS.pickB [5, 2, 3, 4] 8 rfl rfl)  (Sub.cons rfl (Sub.cons rfl (Sub.nil _)))
    · replace h := (if_neg (not_true hc504)).symm.trans h
      refine e_seq fun K556 hK556 => ?_
      refine e_region_text rfl ?_
      refine q_eql rfl rfl rfl ?_
      refine q_assign rfl rfl ?_
      refine eseq_nil ?_
      refine hK556 _ _ ?_
      refine e_cond rfl (fun hc557 => ?_) (fun hc557 => ?_)
      · replace h := (if_pos hc557).symm.trans h
        refine e_seq fun K558 hK558 => ?_
        refine e_region_text rfl ?_
        refine q_field rfl rfl ?_
        refine q_load rfl (Blk.cell (hS.blk 0 rfl) rfl) rfl ?_
        refine q_field rfl rfl ?_
        refine q_load rfl (Blk.cell (hS.blk 4 rfl) rfl) rfl ?_
        obtain ⟨x559, hx559, h⟩ := Option.of_bind h
        refine q_indexO (by infer_instance) rfl (hS.own 2 rfl) rfl hx559 rfl ?_
        have f560 := (hS.ownR 2 rfl).elt hx559
        have hc561 := Letter_open f560
        refine q_loadAgg rfl hc561 rfl rfl ?_
        refine q_allocB rfl fun w562 bl562 hg562 hb562 hB562 => ?_
        replace hS := hS.newBlk hB562 hg562 hb562
        refine q_storeAgg rfl rfl (hS.blk 0 rfl) rfl (Nat.le_of_ble_eq_true rfl) (all_cons rfl (all_cons rfl (all_cons rfl (all_cons rfl (all_cons rfl (all_cons rfl (all_cons rfl (all_cons rfl (all_nil))))))))) rfl rfl fun w564 hb564 hO564 => ?_
        simp only [setN, List.set, List.take, List.drop] at hb564
        have hk564 := hS.keptBlk 0 rfl hO564
        replace hS := hS.setBlk 0 rfl hb564 hO564; simp only [List.set] at hS
        refine eseq_nil ?_
        refine hK558 _ _ ?_
        refine e_seq fun K565 hK565 => ?_
        refine e_region_draw mixed (fun _ => False) [0, 1, 0, 4, 15, 0, 32, 0, 128, 384, 992, 2047, 4095, 8191] [] [0, 1, 2, 3, 4, 5, 6, 7, 8, 9, 10, 11, 12, 13] (by kernel_rfl) ?_
        refine q_field rfl rfl ?_
        refine q_load rfl (Blk.cell (hS.blk 1 rfl) rfl) rfl ?_
        refine q_field rfl rfl ?_
        refine q_load rfl (Blk.cell (hS.blk 5 rfl) rfl) rfl ?_
        obtain ⟨x566, hx566, h⟩ := Option.of_bind h
        refine q_takeO (T := letterTy) (by infer_instance) rfl (hS.own 3 rfl) rfl hx566 rfl ?_
        refine q_field rfl rfl ?_
        refine q_load rfl (Blk.cell (hS.blk 1 rfl) rfl) rfl ?_
        refine q_field rfl rfl ?_
        refine q_load rfl (Blk.cell (hS.blk 5 rfl) rfl) rfl ?_
        refine q_addW rfl rfl rfl ?_
        obtain ⟨x567, hx567, h⟩ := Option.of_bind h
        refine q_sufO (T := letterTy) (by infer_instance) rfl (hS.own 3 rfl) rfl hx567 rfl ?_
        obtain ⟨x569, hx569, h⟩ := Option.of_bind h
        refine q_cutT (T := letterTy) rfl rfl rfl rfl (hS.own 3 rfl) rfl hx566 hx567 hx569 (Nat.zero_le _) rfl (fun h => by cases h) fun v568 w568 hw568 hgr568 hbl568 => ?_
        have hk568 := hS.keptOwn 3 rfl hgr568
        replace hS := hS.setOwnB 3 rfl hw568 hgr568 hbl568; simp only [List.set] at hS
        refine q_field rfl rfl ?_
        refine q_store rfl rfl (hS.blk 1 rfl) (Nat.le_of_ble_eq_true rfl) (hS.own 3 rfl).one rfl rfl fun w570 hb570 hO570 => ?_
        have hk570 := hS.keptBlk 1 rfl hO570
        replace hS := hS.setBlk 1 rfl hb570 hO570; simp only [List.set] at hS
        refine eseq_nil ?_
        refine hK565 _ _ ?_
        refine e_seq fun K571 hK571 => ?_
        refine e_region_text rfl ?_
        refine q_field rfl rfl ?_
        refine q_load rfl (Blk.cell (hS.blk 1 rfl) rfl) rfl ?_
        refine q_field rfl rfl ?_
        refine q_load rfl (Blk.cell (hS.blk 0 rfl) rfl) rfl ?_
        obtain ⟨x572, hx572, h⟩ := Option.of_bind h
        obtain ⟨u572, hu572⟩ := ati_fst hxs hx572
        refine q_indexO (by infer_instance) rfl (hS.own 2 rfl) rfl hu572 rfl ?_
        refine q_assign rfl rfl ?_
        refine eseq_nil ?_
        refine hK571 _ _ ?_
        refine e_seq fun K573 hK573 => ?_
        refine e_region_text rfl ?_
        refine q_field rfl rfl ?_
        refine q_load rfl (Blk.cell (hS.blk 0 rfl) rfl) rfl ?_
        refine eseq_nil ?_
        refine hK573 _ _ ?_
        refine e_cond rfl (fun hc574 => ?_) (fun hc574 => ?_)
        · replace h := (if_pos hc574).symm.trans h
          obtain ⟨Rf_, hS, hmf_⟩ := hS.brFreeze 2 7 rfl rfl (by decide) hxs; simp only [List.eraseIdx, List.set] at hS
          refine e_seq fun K575 hK575 => ?_
          refine e_region_draw mixed (fun _ => False) [0, 0, 2, 6, 14, 0, 32, 126, 255, 511, 1023] [] [0, 1, 2, 3, 4, 5, 6, 7, 8, 9, 10] (by kernel_rfl) ?_
          refine q_move rfl rfl ?_
          refine q_move rfl rfl ?_
          refine q_nilCheck rfl rfl ?_
          refine q_field rfl rfl ?_
          have f576 := (hS.ownR 2 rfl).elt hx572
          have f577 := Branch_F3 f576
          refine q_loadE rfl f577 rfl (fun v578 f578 => ?_)
          refine q_field rfl rfl ?_
          refine q_loadAgg rfl (Blk.cellsAt (hS.blk 0 rfl) 5 3 rfl) rfl rfl ?_
          obtain ⟨r580, hr580, h⟩ := Option.of_bind h
          refine q_call rfl (ref31_Add_w (a1 := (⟨x559.end_.proc, x559.end_.inc, x559.end_.index⟩ : EndI)) (Sep.enter (As := []) hS) f578 hr580) rfl ?_
          rintro v581 w579 ⟨_, R579, rfl, hC579⟩
          have hB579 : Below (World.heap w570).size w570 w579 := hC579.stepB0
          refine ⟨fun _ => .of_below hB579, ?_⟩
          replace f578 := (f578.ext hB579).mono fun k hk _ => hC579.ro0 k hk
          replace hS := Sep.leave (As := []) hS hC579; simp only [List.cons_append, List.nil_append] at hS
          refine q_nilCheck rfl rfl ?_
          refine q_field rfl rfl ?_
          obtain ⟨R583, hS, hm583, f583⟩ := hS.freezeOwn 0 rfl; simp only [List.eraseIdx] at hS
          replace hS := hS.ownMono 2 rfl; simp only [List.set] at hS
          obtain ⟨y584, hy584, h⟩ := Option.of_bind h
          obtain ⟨x585, hx585, h⟩ := Option.of_bind h
          refine q_storeO (T := branchTy) (j := 3) rfl rfl (hS.own 2 rfl) hx572 hx585 rfl f583.one rfl (Option.some.inj hy584 ▸ (fun cs_ hc_ => by obtain ⟨u0_, u1_, rfl, g0_, g1_⟩ := Branch_R hc_; show branchTy.R _ _ [.int .i64 x572.inc, u0_, .int .i64 x572.stable, v581] _; exact ⟨_, _, rfl, rfl, ⟨_, _, rfl, ⟨_, rfl, g0_⟩, ⟨_, _, rfl, rfl, ⟨_, rfl, (f583.mono (hS.ownOff 2 rfl))⟩⟩⟩⟩)) fun w582 ho582 hO582 => ?_
          have hk582 := hS.keptO 2 rfl hx572 hO582
          replace f583 := f583.kept hk582
          replace hS := hS.putO 2 rfl hx572 ho582 hO582; simp only [List.set] at hS
          refine eseq_nil ?_
          refine hK575 _ _ ?_
          refine e_region_text rfl ?_
          refine q_field rfl rfl ?_
          refine q_load rfl (Blk.cell (hS.blk 0 rfl) rfl) rfl ?_
          obtain ⟨r587, hr587, h⟩ := Option.of_bind h
          replace hS := hS.pickB [1, 2, 3, 0, 4, 5, 6] 7 rfl rfl; simp only [List.map_cons, List.map_nil, List.getD_cons_zero, List.getD_cons_succ] at hS
          refine q_call rfl (ref33_check_w (Sep.enter (As := [_, _, _]) hS)  hr587) rfl ?_
          rintro _ w586 ⟨v588, v589, R586, rfl, hC586⟩
          refine ⟨(fun h => by cases h), ?_⟩
          have hk586 := hC586.keptR (Sep.offFeet (As := [_, _, _]) hS)
          replace hS := Sep.leave (As := [_, _, _]) hS hC586; simp only [List.cons_append, List.nil_append] at hS
          refine eseq_nil ?_
          exact hJ349 r587.1 r587.2 v588 v589 _ _ _ h (hS.pickB [4, 0, 1, 2] 7 rfl rfl)  (Sub.cons rfl (Sub.cons rfl (Sub.nil _)))
        · replace h := (if_neg (not_true hc574)).symm.trans h
          refine e_seq fun K590 hK590 => ?_
          refine e_region_draw mixed (fun _ => False) [0, 1, 3, 7, 0, 16, 0, 64, 255, 511] [] [0, 1, 2, 3, 4, 5, 6, 7, 8, 9] (by kernel_rfl) ?_
          refine q_move rfl rfl ?_
          refine q_nilCheck rfl rfl ?_
          refine q_field rfl rfl ?_
          have f591 := (hS.ownR 2 rfl).elt hu572
          have f592 := brV_F3 f591
          refine q_loadE rfl f592 rfl (fun v593 f593 => ?_)
          refine q_field rfl rfl ?_
          refine q_load rfl (Blk.cell (hS.blk 0 rfl) rfl) rfl ?_
          refine q_field rfl rfl ?_
          refine q_loadAgg rfl (Blk.cellsAt (hS.blk 0 rfl) 3 2 rfl) rfl rfl ?_
          obtain ⟨r595, hr595, h⟩ := Option.of_bind h
          refine q_call rfl (ref31_Undone_w (a2 := (⟨x559.sent.inc, x559.sent.index⟩ : Lab)) (Sep.enter (As := []) hS) f593 hr595) rfl ?_
          rintro _ w594 ⟨R594, rfl, hC594⟩
          have hB594 : Below (World.heap w570).size w570 w594 := hC594.stepB0
          refine ⟨fun _ => .of_below hB594, ?_⟩
          replace f593 := (f593.ext hB594).mono fun k hk _ => hC594.ro0 k hk
          replace hS := Sep.leave (As := []) hS hC594; simp only [List.cons_append, List.nil_append] at hS
          refine q_not rfl rfl ?_
          refine eseq_nil ?_
          refine hK590 _ _ ?_
          refine e_cond rfl (fun hc596 => ?_) (fun hc596 => ?_)
          · replace h := (if_pos hc596).symm.trans h
            refine e_region_draw mixed (fun _ => False) [0, 0, 2, 6, 14, 0, 32, 96, 224, 0, 512, 0, 2048, 8160, 16352, 32766, 65535, 131071, 262143] [14] [0, 1, 2, 3, 4, 5, 6, 7, 8, 9, 10, 11, 12, 13, 14, 15, 16, 17, 18] (by kernel_rfl) ?_
            refine q_move rfl rfl ?_
            refine q_move rfl rfl ?_
            refine q_nilCheck rfl rfl ?_
            refine q_field rfl rfl ?_
            have f611 := (hS.ownR 2 rfl).elt hu572
            have f612 := brV_F1 f611
            refine q_load rfl (Elt.rawCell f612) rfl ?_
            refine q_move rfl rfl ?_
            refine q_nilCheck rfl rfl ?_
            refine q_field rfl rfl ?_
            have f614 := (hS.ownR 2 rfl).elt hu572
            have f615 := brV_F0 f614
            refine q_load rfl (Elt.intCell f615) rfl ?_
            refine q_field rfl rfl ?_
            refine q_load rfl (Blk.cell (hS.blk 0 rfl) rfl) rfl ?_
            refine q_field rfl rfl ?_
            refine q_loadAgg rfl (Blk.cellsAt (hS.blk 0 rfl) 3 2 rfl) rfl rfl ?_
            refine q_build (Parts.cons rfl rfl (Parts.cons rfl rfl (Parts.cons rfl rfl (Parts.cons rfl rfl Parts.nil)))) rfl rfl ?_
            refine q_litO (T := evtTy) (S := (fun _ => False)) (cells := [[.int .i64 1, .int .i64 x572.inc, .int .i64 x559.frm, .int .i64 x559.sent.inc, .int .i64 x559.sent.index, .int .i64 0, .int .i64 0]]) (ys := [(⟨1, x572.inc, x559.frm, (⟨x559.sent.inc, x559.sent.index⟩ : Lab), 0, 0⟩ : Evt)]) ((Parts.cons rfl rfl Parts.nil)) rfl rfl rfl rfl rfl rfl rfl (fun w1 hB => ⟨⟨[_], _, rfl, rfl, ⟨[_], _, rfl, rfl, ⟨[_], _, rfl, rfl, ⟨[_, _], _, rfl, ⟨[_], _, rfl, rfl, rfl⟩, ⟨[_], _, rfl, rfl, rfl⟩⟩⟩⟩⟩, trivial⟩) (fun _ h => h.elim) rfl fun w616 v616 ho616 hv616 hB616 => ?_
            replace hS := hS.newOwnS hB616 ho616 hv616 (fun _ h => h.elim)
            obtain ⟨x620, hx620, h⟩ := Option.of_bind h
            have hrow_ := ati_mapE (fun b : Branch => b.events) hx572
            have hnth_ := nth_snd hu572
            have hOw_ := hS.famO 8 rfl hrow_
            rw [hnth_] at hOw_
            refine q_catOwn (T := evtTy) rfl rfl rfl rfl hOw_ rfl (hS.own 0 rfl) (fun _ h _ => h.elim) (snoc_cat hx620) (Nat.zero_le _) rfl (fun h => by cases h) fun v619 w619 hw619 hgr619 hnw619 => ?_
            rw [← hnth_] at hgr619 hnw619
            have hone_ := hw619.one
            have hk619 := hS.famKeptM 8 rfl hrow_ hgr619
            obtain ⟨y623, hy623, h⟩ := Option.of_bind h
            obtain ⟨x624, hx624, h⟩ := Option.of_bind h
            have hye_ : y623.events = x620 := by rw [← Option.some.inj hy623]
            have hse_ := seti_map (fun b : Branch => b.events) hx624
            rw [hye_] at hse_
            replace hS := hS.famSetM 8 rfl hrow_ hse_ hw619 hgr619 hnw619; simp only [List.set] at hS
            obtain ⟨xs619, hxs619, hxsf_, hxss_⟩ := seti_pair (u := v619) hxs hx624
            refine q_nilCheck rfl rfl ?_
            refine q_field rfl rfl ?_
            refine q_storeO (T := brV) (j := 1) rfl rfl (hS.own 3 rfl) hu572 hxs619 rfl hone_ rfl (fun cs_ hc_ => by obtain ⟨u1_, rfl, g0_, g1_⟩ := brV_R hc_; rw [← Option.some.inj hy623]; exact brV_mk (a := (({ x572 with events := x620 } : Branch), v619)) hone_ g1_) fun w621 ho621 hO621 => ?_
            have hk621 := hS.keptO 3 rfl hu572 hO621
            replace hS := hS.putO 3 rfl hu572 ho621 hO621; simp only [List.set] at hS
            rw [← hxss_] at hS
            obtain ⟨Rf_, hS, hmf_⟩ := hS.brFreeze 3 8 rfl rfl (by decide) hxsf_; simp only [List.eraseIdx, List.set] at hS
            refine eseq_nil ?_
            exact hJ349 x624 x569 v344 v568 _ _ _ h (hS.pickB [5, 2, 3, 4] 8 rfl rfl)  (Sub.cons rfl (Sub.cons rfl (Sub.nil _)))
          · replace h := (if_neg (not_true hc596)).symm.trans h
            refine e_skip ?_
            obtain ⟨Rf_, hS, hmf_⟩ := hS.brFreeze 2 7 rfl rfl (by decide) hxs; simp only [List.eraseIdx, List.set] at hS
            exact hJ349 r343.branches x569 v344 v568 _ _ _ h (hS.pickB [4, 1, 2, 3] 7 rfl rfl)  (Sub.cons rfl (Sub.cons rfl (Sub.nil _)))
      · replace h := (if_neg (not_true hc557)).symm.trans h
        refine e_seq fun K625 hK625 => ?_
        refine e_region_text rfl ?_
        refine q_eql rfl rfl rfl ?_
        refine q_assign rfl rfl ?_
        refine eseq_nil ?_
        refine hK625 _ _ ?_
        refine e_cond rfl (fun hc626 => ?_) (fun hc626 => ?_)
        · replace h := (if_pos hc626).symm.trans h
          obtain ⟨Rf_, hS, hmf_⟩ := hS.brFreeze 1 6 rfl rfl (by decide) hxs; simp only [List.eraseIdx, List.set] at hS
          refine e_region_draw mixed (fun _ => False) [0, 1, 0, 4, 0, 16, 0, 64, 240, 496, 1008, 2032, 4095, 8191, 16383] [] [0, 1, 2, 3, 4, 5, 6, 7, 8, 9, 10, 11, 12, 13, 14] (by kernel_rfl) ?_
          refine q_field rfl rfl ?_
          refine q_load rfl (Blk.cell (hS.blk 0 rfl) rfl) rfl ?_
          refine q_field rfl rfl ?_
          refine q_load rfl (Blk.cell (hS.blk 4 rfl) rfl) rfl ?_
          refine q_field rfl rfl ?_
          refine q_load rfl (Blk.cell (hS.blk 0 rfl) rfl) rfl ?_
          refine q_field rfl rfl ?_
          refine q_load rfl (Blk.cell (hS.blk 4 rfl) rfl) rfl ?_
          obtain ⟨x627, hx627, h⟩ := Option.of_bind h
          refine q_indexO (by infer_instance) rfl (hS.own 1 rfl) rfl hx627 rfl ?_
          refine q_field rfl rfl ?_
          have f628 := (hS.ownR 1 rfl).elt hx627
          have f629 := Branch_F1 f628
          refine q_loadE rfl f629 rfl (fun v630 f630 => ?_)
          refine q_lenS rfl f630 rfl ?_
          obtain ⟨x631, hx631, h⟩ := Option.of_bind h
          refine q_indexO (by infer_instance) rfl (hS.own 1 rfl) rfl hx631 rfl ?_
          refine q_field rfl rfl ?_
          obtain ⟨y633, hy633, h⟩ := Option.of_bind h
          obtain ⟨x634, hx634, h⟩ := Option.of_bind h
          refine q_storeO (T := branchTy) (j := 2) rfl rfl (hS.own 1 rfl) hx631 hx634 rfl rfl rfl (Option.some.inj hy633 ▸ (fun cs_ hc_ => by obtain ⟨u0_, u1_, rfl, g0_, g1_⟩ := Branch_R hc_; show branchTy.R _ _ [.int .i64 x631.inc, u0_, .int .i64 (x627.events.length : Int), u1_] _; exact ⟨_, _, rfl, rfl, ⟨_, _, rfl, ⟨_, rfl, g0_⟩, ⟨_, _, rfl, rfl, ⟨_, rfl, g1_⟩⟩⟩⟩)) fun w632 ho632 hO632 => ?_
          have hk632 := hS.keptO 1 rfl hx631 hO632
          replace hS := hS.putO 1 rfl hx631 ho632 hO632; simp only [List.set] at hS
          refine eseq_nil ?_
          exact hJ349 x634 r343.flight v344 v345 _ _ _ h (hS.pickB [3, 0, 1, 2] 6 rfl rfl)  (Sub.cons rfl (Sub.cons rfl (Sub.nil _)))
        · replace h := (if_neg (not_true hc626)).symm.trans h
          refine e_seq fun K635 hK635 => ?_
          refine e_region_text rfl ?_
          refine q_eql rfl rfl rfl ?_
          refine q_assign rfl rfl ?_
          refine eseq_nil ?_
          refine hK635 _ _ ?_
          refine e_cond rfl (fun hc636 => ?_) (fun hc636 => ?_)
          · replace h := (if_pos hc636).symm.trans h
            obtain ⟨Rf_, hS, hmf_⟩ := hS.brFreeze 1 6 rfl rfl (by decide) hxs; simp only [List.eraseIdx, List.set] at hS
            refine e_region_draw mixed (fun _ => False) [0, 1, 0, 4, 0, 16, 60, 124, 252, 511] [] [0, 1, 2, 3, 4, 5, 6, 7, 8, 9] (by kernel_rfl) ?_
            refine q_field rfl rfl ?_
            refine q_load rfl (Blk.cell (hS.blk 4 rfl) rfl) rfl ?_
            refine q_field rfl rfl ?_
            refine q_load rfl (Blk.cell (hS.blk 0 rfl) rfl) rfl ?_
            refine q_field rfl rfl ?_
            refine q_load rfl (Blk.cell (hS.blk 4 rfl) rfl) rfl ?_
            obtain ⟨x637, hx637, h⟩ := Option.of_bind h
            refine q_indexO (by infer_instance) rfl (hS.own 1 rfl) rfl hx637 rfl ?_
            refine q_field rfl rfl ?_
            have f638 := (hS.ownR 1 rfl).elt hx637
            have f639 := Branch_F2 f638
            refine q_load rfl (Elt.intCell f639) rfl ?_
            obtain ⟨r641, hr641, h⟩ := Option.of_bind h
            refine q_call rfl (ref33_back_w (Sep.enter (As := [_, _, _]) hS)  hr641) rfl ?_
            rintro _ w640 ⟨v642, v643, R640, rfl, hC640⟩
            refine ⟨(fun h => by cases h), ?_⟩
            have hk640 := hC640.keptR (Sep.offFeet (As := [_, _, _]) hS)
            replace hS := Sep.leave (As := [_, _, _]) hS hC640; simp only [List.cons_append, List.nil_append] at hS
            refine eseq_nil ?_
            exact hJ349 r641.1 r641.2 v642 v643 _ _ _ h (hS.pickB [3, 0, 1, 2] 6 rfl rfl)  (Sub.cons rfl (Sub.cons rfl (Sub.nil _)))
          · replace h := (if_neg (not_true hc636)).symm.trans h
            obtain ⟨Rf_, hS, hmf_⟩ := hS.brFreeze 1 6 rfl rfl (by decide) hxs; simp only [List.eraseIdx, List.set] at hS
            refine e_skip ?_
            exact hJ349 r343.branches r343.flight v344 v345 _ _ _ h (hS.pickB [3, 0, 1, 2] 6 rfl rfl)  (Sub.cons rfl (Sub.cons rfl (Sub.nil _)))
end Go.Proofs.Ytddohdppmejjoaa
