/- Printed walks: A33e. -/
import Derived.Test.YtddohdppmejjoaaA33d
set_option linter.unusedVariables false
set_option linter.unusedSimpArgs false
namespace Go.Mine
open Go.RowKit
def machine_receive (fuel : Nat) (a1 : Int) (c0_0 : (List Branch)) (c0_1 : (List Letter)) : Option ((List Branch) × (List Letter)) :=
  (ati c0_1 a1).bind fun x51 => (takeL c0_1 a1).bind fun x58 => (dropL c0_1 (w64 (a1 + 1))).bind fun x59 => (catL x58 x59).bind fun x61 => (ati c0_0 x51.to).bind fun x65 => (if x51.news = true then (incarnation_Add fuel x65.ends (⟨x51.end_.proc, x51.end_.inc, x51.end_.index⟩ : EndI)).bind fun r74 => (some ({ x65 with ends := r74 })).bind fun y78 => (seti c0_0 x51.to y78).bind fun x79 => (machine_check fuel x51.to x79 x61).bind fun r82 => some (r82.1, r82.2) else (incarnation_Undone fuel x65.ends x51.frm (⟨x51.sent.inc, x51.sent.index⟩ : Lab)).bind fun r90 => (if (!r90) = true then (machine_event fuel x51.to (⟨1, 0, x51.frm, (⟨x51.sent.inc, x51.sent.index⟩ : Lab), 0, 0⟩ : Evt) c0_0 x61).bind fun r93 => some (r93, x61) else some (c0_0, x61)))
def cascade_Step_J1 (fuel : Nat) (x168 : (List Branch)) (x171 : (List Letter)) : Option (Cascade × Int) :=
  some ((⟨x168, x171⟩ : Cascade), 0)
def cascade_Step (fuel : Nat) (a0 : Cascade) (a1 : Shock) : Option (Cascade × Int) :=
  (cascade_refusal fuel (⟨a0.branches, a0.flight⟩ : Cascade) (⟨a1.kind, a1.proc, a1.other⟩ : Shock)).bind fun r116 => (if (r116 != 0) = true then some ((⟨([] : List Branch), ([] : List Letter)⟩ : Cascade), r116) else (machine_copied fuel (⟨(⟨a0.branches, a0.flight⟩ : Cascade)⟩ : CascadeMachine)).bind fun r126 => (if (a1.kind == 1) = true then (machine_send fuel a1.proc a1.other r126.cascade.branches r126.cascade.flight).bind fun r179 => cascade_Step_J1 fuel r179.1 r179.2 else (if (a1.kind == 2) = true then (machine_receive fuel a1.other r126.cascade.branches r126.cascade.flight).bind fun r185 => cascade_Step_J1 fuel r185.1 r185.2 else (if (a1.kind == 3) = true then (ati r126.cascade.branches a1.proc).bind fun x191 => (seti r126.cascade.branches a1.proc ({ x191 with stable := (x191.events.length : Int) })).bind fun x196 => cascade_Step_J1 fuel x196 r126.cascade.flight else (if (a1.kind == 4) = true then (ati r126.cascade.branches a1.proc).bind fun x199 => (machine_goBack fuel a1.proc x199.stable r126.cascade.branches r126.cascade.flight).bind fun r203 => cascade_Step_J1 fuel r203.1 r203.2 else cascade_Step_J1 fuel r126.cascade.branches r126.cascade.flight)))))
def cascade_Settle_K1 (fuel : Nat) (x166 : (List Branch)) (x169 : (List Letter)) : Option (Cascade) :=
  some (⟨x166, x169⟩ : Cascade)
def cascade_Settle_B1 (fuel : Nat) (x138 : (List Branch)) (x141 : (List Letter)) (x142 : Int) : Option (((List Branch) × (List Letter) × Int) ⊕ ((List Branch) × (List Letter))) :=
  (if (decide (0 ≤ x142)) = true then (machine_receive fuel x142 x138 x141).bind fun r177 => (cascade_news fuel (⟨r177.1, r177.2⟩ : Cascade)).bind fun r181 => some (Sum.inl (r177.1, r177.2, r181)) else some (Sum.inr (x138, x141)))
def cascade_Settle (fuel : Nat) (a0 : Cascade) : Option (Cascade) :=
  (machine_copied fuel (⟨(⟨a0.branches, a0.flight⟩ : Cascade)⟩ : CascadeMachine)).bind fun r100 => (cascade_news fuel (⟨r100.cascade.branches, r100.cascade.flight⟩ : Cascade)).bind fun r109 => (iter (fun s => cascade_Settle_B1 fuel s.1 s.2.1 s.2.2) fuel (r100.cascade.branches, r100.cascade.flight, r109)).bind (fun t => cascade_Settle_K1 fuel t.1 t.2)
end Go.Mine
namespace Go.Proofs.Ytddohdppmejjoaa
open Go.RowKit Go.Mine
attribute [local irreducible] eseq ewp iter
theorem machine_receive_w {F R : Nat → Prop} {w : World} {fuel : Nat} {a1 : Int} {c0_0 : (List Branch)} {c0_1 : (List Letter)} {B0 : Nat} {v2 : Value} {v3 : Value} {r : ((List Branch) × (List Letter))} (hS : Sep F R R w w [HP.blk B0 [v2, v3] 74, HP.own branchTy R 48 v2 c0_0, HP.own letterTy (fun _ => False) 43 v3 c0_1]) (h : machine_receive fuel a1 c0_0 c0_1 = some r) :
    Gives Try.prog 41 [.pointer (some ⟨B0, 0, none⟩), .int .i64 a1] w fun u w1 => ∃ (v48 : Value), ∃ (v49 : Value), ∃ (R1 : Nat → Prop), u = .tuple #[] ∧ Sep F R R1 w w1 [HP.blk B0 [v48, v49] 74, HP.own branchTy R1 48 v48 r.1, HP.own letterTy (fun _ => False) 43 v49 r.2] := by
  refine fn_of Try.func41 rfl Try.ntmps41 (Nat.le_of_ble_eq_true rfl) ?_
  unfold machine_receive at h
  refine e_seq fun K50 hK50 => ?_
  refine e_region_text rfl ?_
  refine q_move rfl rfl ?_
  refine q_nilCheck rfl rfl ?_
  refine q_field rfl rfl ?_
  refine q_field rfl rfl ?_
  refine q_load rfl (Blk.cell (hS.blk 0 rfl) rfl) rfl ?_
  refine q_move rfl rfl ?_
  obtain ⟨x51, hx51, h⟩ := Option.of_bind h
  refine q_indexO (by infer_instance) rfl (hS.own 2 rfl) rfl hx51 rfl ?_
  have f52 := (hS.ownR 2 rfl).elt hx51
  have hc53 := Letter_open f52
  refine q_loadAgg rfl hc53 rfl rfl ?_
  refine q_allocB rfl fun w54 bl54 hg54 hb54 hB54 => ?_
  replace hS := hS.newBlk hB54 hg54 hb54
  refine q_storeAgg rfl rfl (hS.blk 0 rfl) rfl (Nat.le_of_ble_eq_true rfl) (all_cons rfl (all_cons rfl (all_cons rfl (all_cons rfl (all_cons rfl (all_cons rfl (all_cons rfl (all_cons rfl (all_nil))))))))) rfl rfl fun w56 hb56 hO56 => ?_
  simp only [setN, List.set, List.take, List.drop] at hb56
  have hk56 := hS.keptBlk 0 rfl hO56
  replace hS := hS.setBlk 0 rfl hb56 hO56; simp only [List.set] at hS
  refine eseq_nil ?_
  refine hK50 _ _ ?_
  refine e_seq fun K57 hK57 => ?_
  refine e_region_draw mixed (fun _ => False) [0, 0, 2, 6, 14, 30, 0, 0, 254, 0, 512, 1536, 3584, 7680, 0, 16384, 65024, 131070, 262143, 524287, 1048575, 2097151] [] [0, 1, 2, 3, 4, 5, 6, 7, 8, 9, 10, 11, 12, 13, 14, 15, 16, 17, 18, 19, 20, 21] (by kernel_rfl) ?_
  refine q_move rfl rfl ?_
  refine q_move rfl rfl ?_
  refine q_nilCheck rfl rfl ?_
  refine q_field rfl rfl ?_
  refine q_field rfl rfl ?_
  refine q_load rfl (Blk.cell (hS.blk 1 rfl) rfl) rfl ?_
  refine q_move rfl rfl ?_
  refine q_move rfl rfl ?_
  obtain ⟨x58, hx58, h⟩ := Option.of_bind h
  refine q_clipO (T := letterTy) (by infer_instance) rfl (hS.own 3 rfl) rfl rfl hx58 rfl ?_
  refine q_move rfl rfl ?_
  refine q_nilCheck rfl rfl ?_
  refine q_field rfl rfl ?_
  refine q_field rfl rfl ?_
  refine q_load rfl (Blk.cell (hS.blk 1 rfl) rfl) rfl ?_
  refine q_move rfl rfl ?_
  refine q_addW rfl rfl rfl ?_
  obtain ⟨x59, hx59, h⟩ := Option.of_bind h
  refine q_sufO (T := letterTy) (by infer_instance) rfl (hS.own 3 rfl) rfl hx59 rfl ?_
  obtain ⟨x61, hx61, h⟩ := Option.of_bind h
  refine q_cutO (T := letterTy) rfl rfl rfl rfl (hS.own 3 rfl) rfl hx58 hx59 hx61 (Nat.zero_le _) rfl (fun h => by cases h) fun v60 w60 hw60 hgr60 hbl60 => ?_
  have hk60 := hS.keptOwn 3 rfl hgr60
  replace hS := hS.setOwnB 3 rfl hw60 hgr60 hbl60; simp only [List.set] at hS
  refine q_nilCheck rfl rfl ?_
  refine q_field rfl rfl ?_
  refine q_field rfl rfl ?_
  refine q_store rfl rfl (hS.blk 1 rfl) (Nat.le_of_ble_eq_true rfl) (hS.own 3 rfl).one rfl rfl fun w62 hb62 hO62 => ?_
  have hk62 := hS.keptBlk 1 rfl hO62
  replace hS := hS.setBlk 1 rfl hb62 hO62; simp only [List.set] at hS
  refine eseq_nil ?_
  refine hK57 _ _ ?_
  refine e_seq fun K63 hK63 => ?_
  refine e_region_draw mixed (fun _ => False) [0, 1, 3, 7, 15, 0, 32, 127, 255] [] [0, 1, 2, 3, 4, 5, 6, 7, 8] (by kernel_rfl) ?_
  refine q_move rfl rfl ?_
  refine q_nilCheck rfl rfl ?_
  refine q_field rfl rfl ?_
  refine q_field rfl rfl ?_
  refine q_load rfl (Blk.cell (hS.blk 1 rfl) rfl) rfl ?_
  refine q_field rfl rfl ?_
  refine q_load rfl (Blk.cell (hS.blk 0 rfl) rfl) rfl ?_
  obtain ⟨x65, hx65, h⟩ := Option.of_bind h
  refine q_indexO (by infer_instance) rfl (hS.own 2 rfl) rfl hx65 rfl ?_
  refine q_assign rfl rfl ?_
  refine eseq_nil ?_
  refine hK63 _ _ ?_
  refine e_seq fun K66 hK66 => ?_
  refine e_seq fun K67 hK67 => ?_
  refine e_region_text rfl ?_
  refine q_field rfl rfl ?_
  refine q_load rfl (Blk.cell (hS.blk 0 rfl) rfl) rfl ?_
  refine eseq_nil ?_
  refine hK67 _ _ ?_
  refine e_cond rfl (fun hc68 => ?_) (fun hc68 => ?_)
  · replace h := (if_pos hc68).symm.trans h
    refine e_seq fun K69 hK69 => ?_
    refine e_region_draw mixed (fun _ => False) [0, 0, 2, 6, 14, 0, 32, 126, 255, 511, 1023] [] [0, 1, 2, 3, 4, 5, 6, 7, 8, 9, 10] (by kernel_rfl) ?_
    refine q_move rfl rfl ?_
    refine q_move rfl rfl ?_
    refine q_nilCheck rfl rfl ?_
    refine q_field rfl rfl ?_
    have f70 := (hS.ownR 2 rfl).elt hx65
    have f71 := Branch_F3 f70
    refine q_loadE rfl f71 rfl (fun v72 f72 => ?_)
    refine q_field rfl rfl ?_
    refine q_loadAgg rfl (Blk.cellsAt (hS.blk 0 rfl) 5 3 rfl) rfl rfl ?_
    obtain ⟨r74, hr74, h⟩ := Option.of_bind h
    refine q_call rfl (incarnation_Add_w (a1 := (⟨x51.end_.proc, x51.end_.inc, x51.end_.index⟩ : EndI)) (Sep.enter (As := []) hS) f72 hr74) rfl ?_
    rintro v75 w73 ⟨_, R73, rfl, hC73⟩
    have hB73 : Below (World.heap w62).size w62 w73 := hC73.stepB0
    refine ⟨fun _ => .of_below hB73, ?_⟩
    replace f72 := (f72.ext hB73).mono fun k hk _ => hC73.ro0 k hk
    replace hS := Sep.leave (As := []) hS hC73; simp only [List.cons_append, List.nil_append] at hS
    refine q_nilCheck rfl rfl ?_
    refine q_field rfl rfl ?_
    obtain ⟨R77, hS, hm77, f77⟩ := hS.freezeOwn 0 rfl; simp only [List.eraseIdx] at hS
    replace hS := hS.ownMono 2 rfl; simp only [List.set] at hS
    obtain ⟨y78, hy78, h⟩ := Option.of_bind h
    obtain ⟨x79, hx79, h⟩ := Option.of_bind h
    refine q_storeO (T := branchTy) (j := 3) rfl rfl (hS.own 2 rfl) hx65 hx79 rfl f77.one rfl (Option.some.inj hy78 ▸ (fun cs_ hc_ => by obtain ⟨u0_, u1_, rfl, g0_, g1_⟩ := Branch_R hc_; show branchTy.R _ _ [.int .i64 x65.inc, u0_, .int .i64 x65.stable, v75] _; exact ⟨_, _, rfl, rfl, ⟨_, _, rfl, ⟨_, rfl, g0_⟩, ⟨_, _, rfl, rfl, ⟨_, rfl, (f77.mono (hS.ownOff 2 rfl))⟩⟩⟩⟩)) fun w76 ho76 hO76 => ?_
    have hk76 := hS.keptO 2 rfl hx65 hO76
    replace f77 := f77.kept hk76
    replace hS := hS.putO 2 rfl hx65 ho76 hO76; simp only [List.set] at hS
    refine eseq_nil ?_
    refine hK69 _ _ ?_
    refine e_seq fun K80 hK80 => ?_
    refine e_region_text rfl ?_
    refine q_move rfl rfl ?_
    refine q_field rfl rfl ?_
    refine q_load rfl (Blk.cell (hS.blk 0 rfl) rfl) rfl ?_
    obtain ⟨r82, hr82, h⟩ := Option.of_bind h
    replace hS := hS.pickB [1, 2, 3, 0] 4 rfl rfl; simp only [List.map_cons, List.map_nil, List.getD_cons_zero, List.getD_cons_succ] at hS
    refine q_call rfl (machine_check_w (Sep.enter (As := [_, _, _]) hS)  hr82) rfl ?_
    rintro _ w81 ⟨v83, v84, R81, rfl, hC81⟩
    refine ⟨(fun h => by cases h), ?_⟩
    have hk81 := hC81.keptR (Sep.offFeet (As := [_, _, _]) hS)
    replace hS := Sep.leave (As := [_, _, _]) hS hC81; simp only [List.cons_append, List.nil_append] at hS
    refine eseq_nil ?_
    refine hK80 _ _ ?_
    refine e_ret ?_
    obtain rfl := Option.some.inj h
    exact ⟨_, res0 rfl, v83, v84, _, rfl, (hS.pickB [0, 1, 2] 4 rfl rfl)⟩
  · replace h := (if_neg (not_true hc68)).symm.trans h
    refine e_skip ?_
    refine hK66 _ _ ?_
    refine e_seq fun K85 hK85 => ?_
    refine e_region_draw mixed (fun _ => False) [0, 1, 3, 7, 0, 16, 0, 64, 255, 511] [] [0, 1, 2, 3, 4, 5, 6, 7, 8, 9] (by kernel_rfl) ?_
    refine q_move rfl rfl ?_
    refine q_nilCheck rfl rfl ?_
    refine q_field rfl rfl ?_
    have f86 := (hS.ownR 2 rfl).elt hx65
    have f87 := Branch_F3 f86
    refine q_loadE rfl f87 rfl (fun v88 f88 => ?_)
    refine q_field rfl rfl ?_
    refine q_load rfl (Blk.cell (hS.blk 0 rfl) rfl) rfl ?_
    refine q_field rfl rfl ?_
    refine q_loadAgg rfl (Blk.cellsAt (hS.blk 0 rfl) 3 2 rfl) rfl rfl ?_
    obtain ⟨r90, hr90, h⟩ := Option.of_bind h
    refine q_call rfl (incarnation_Undone_w (a2 := (⟨x51.sent.inc, x51.sent.index⟩ : Lab)) (Sep.enter (As := []) hS) f88 hr90) rfl ?_
    rintro _ w89 ⟨R89, rfl, hC89⟩
    have hB89 : Below (World.heap w62).size w62 w89 := hC89.stepB0
    refine ⟨fun _ => .of_below hB89, ?_⟩
    replace f88 := (f88.ext hB89).mono fun k hk _ => hC89.ro0 k hk
    replace hS := Sep.leave (As := []) hS hC89; simp only [List.cons_append, List.nil_append] at hS
    refine q_not rfl rfl ?_
    refine eseq_nil ?_
    refine hK85 _ _ ?_
    refine e_cond rfl (fun hc91 => ?_) (fun hc91 => ?_)
    · replace h := (if_pos hc91).symm.trans h
      refine e_region_text rfl ?_
      refine q_move rfl rfl ?_
      refine q_field rfl rfl ?_
      refine q_load rfl (Blk.cell (hS.blk 0 rfl) rfl) rfl ?_
      refine q_field rfl rfl ?_
      refine q_load rfl (Blk.cell (hS.blk 0 rfl) rfl) rfl ?_
      refine q_field rfl rfl ?_
      refine q_loadAgg rfl (Blk.cellsAt (hS.blk 0 rfl) 3 2 rfl) rfl rfl ?_
      refine q_build (Parts.cons rfl rfl (Parts.cons rfl rfl (Parts.cons rfl rfl Parts.nil))) rfl rfl ?_
      replace hS := hS.ownMono 2 rfl; simp only [List.set] at hS
      obtain ⟨r93, hr93, h⟩ := Option.of_bind h
      replace hS := hS.pickB [1, 2, 3, 0] 4 rfl rfl; simp only [List.map_cons, List.map_nil, List.getD_cons_zero, List.getD_cons_succ] at hS
      refine q_call rfl (machine_event_w (a2 := (⟨1, 0, x51.frm, (⟨x51.sent.inc, x51.sent.index⟩ : Lab), 0, 0⟩ : Evt)) (Sep.enter (As := [_, _, _]) hS)  hr93) rfl ?_
      rintro _ w92 ⟨v94, R92, rfl, hC92⟩
      refine ⟨(fun h => by cases h), ?_⟩
      have hk92 := hC92.keptR (Sep.offFeet (As := [_, _, _]) hS)
      replace hS := Sep.leave (As := [_, _, _]) hS hC92; simp only [List.cons_append, List.nil_append] at hS
      refine eseq_nil ?_
      obtain rfl := Option.some.inj h
      exact ⟨_, res0 rfl, v94, v60, _, rfl, (hS.pickB [0, 1, 2] 4 rfl rfl)⟩
    · replace h := (if_neg (not_true hc91)).symm.trans h
      refine e_skip ?_
      obtain rfl := Option.some.inj h
      replace hS := hS.ownMono 2 rfl; simp only [List.set] at hS
      exact ⟨_, res0 rfl, v2, v60, _, rfl, (hS.pickB [1, 2, 3] 4 rfl rfl)⟩
theorem cascade_Step_idle : Idle Try.prog 37 2 := idle_of Try.func37 rfl Try.ntmps37 rfl (Nat.le_of_ble_eq_true rfl) (Nat.le_of_ble_eq_true rfl) (Nat.le_of_ble_eq_true rfl) (Nat.le_of_ble_eq_true rfl) (fun w => by simp [go_sem])
theorem cascade_Step_w {F R : Nat → Prop} {w : World} {fuel : Nat} {a0 : Cascade} {a1 : Shock} {v1 : Value} {v2 : Value} {r : (Cascade × Int)} (hS : Sep F R R w w []) (f1 : IsSlice branchTy w R v1 a0.branches) (f2 : IsSlice letterTy w R v2 a0.flight) (h : cascade_Step fuel a0 a1 = some r) :
    Gives Try.prog 17 [.agg #[v1, v2], .agg #[.int .i64 a1.kind, .int .i64 a1.proc, .int .i64 a1.other]] w fun u w1 => ∃ (v103 : Value), ∃ (v104 : Value), ∃ (R1 : Nat → Prop), u = .tuple #[.agg #[v103, v104], .int .i64 r.2] ∧ Sep F R R1 w w1 [HP.own branchTy R1 48 v103 r.1.branches, HP.own letterTy (fun _ => False) 43 v104 r.1.flight] := by
  refine fnD_of Try.func17 rfl Try.ntmps17 (Nat.le_of_ble_eq_true rfl) (Nat.le_of_ble_eq_true rfl) rfl cascade_Step_idle fun K hK => ?_
  unfold cascade_Step at h
  refine e_region_text rfl ?_
  refine q_boxB rfl rfl rfl fun w105 bl105 hg105 hb105 hB105 => ?_
  replace f1 := f1.ext hB105
  replace f2 := f2.ext hB105
  replace hS := hS.newBlk hB105 hg105 hb105
  refine q_boxB rfl rfl rfl fun w107 bl107 hg107 hb107 hB107 => ?_
  replace f1 := f1.ext hB107
  replace f2 := f2.ext hB107
  replace hS := hS.newBlk hB107 hg107 hb107
  refine q_allocB rfl fun w109 bl109 hg109 hb109 hB109 => ?_
  replace f1 := f1.ext hB109
  replace f2 := f2.ext hB109
  replace hS := hS.newBlk hB109 hg109 hb109
  refine q_allocB rfl fun w111 bl111 hg111 hb111 hB111 => ?_
  replace f1 := f1.ext hB111
  replace f2 := f2.ext hB111
  replace hS := hS.newBlk hB111 hg111 hb111
  refine eseq_nil ?_
  refine hK _ _ ⟨_, rfl, ?_⟩; clear hK
  refine e_seq fun K113 hK113 => ?_
  refine e_seq fun K114 hK114 => ?_
  refine e_region_text rfl ?_
  refine q_loadAgg rfl (Blk.cellsAt (hS.blk 3 rfl) 0 2 rfl) rfl rfl ?_
  refine q_loadAgg rfl (Blk.cellsAt (hS.blk 2 rfl) 0 3 rfl) rfl rfl ?_
  obtain ⟨r116, hr116, h⟩ := Option.of_bind h
  refine q_call rfl (cascade_refusal_w (a0 := (⟨a0.branches, a0.flight⟩ : Cascade)) (a1 := (⟨a1.kind, a1.proc, a1.other⟩ : Shock)) (Sep.enter (As := []) hS) f1 f2 hr116) rfl ?_
  rintro _ w115 ⟨R115, rfl, hC115⟩
  have hB115 : Below (World.heap w111).size w111 w115 := hC115.stepB0
  refine ⟨fun _ => .of_below hB115, ?_⟩
  replace f1 := (f1.ext hB115).mono fun k hk _ => hC115.ro0 k hk
  replace f2 := (f2.ext hB115).mono fun k hk _ => hC115.ro0 k hk
  replace hS := Sep.leave (As := []) hS hC115; simp only [List.cons_append, List.nil_append] at hS
  refine q_assign rfl rfl ?_
  refine eseq_nil ?_
  refine hK114 _ _ ?_
  refine e_seq fun K117 hK117 => ?_
  refine e_region_text rfl ?_
  refine q_move rfl rfl ?_
  refine q_neq rfl rfl rfl ?_
  refine eseq_nil ?_
  refine hK117 _ _ ?_
  refine e_cond rfl (fun hc118 => ?_) (fun hc118 => ?_)
  · replace h := (if_pos hc118).symm.trans h
    refine e_seq fun K119 hK119 => ?_
    refine e_region_text rfl ?_
    refine q_build Parts.nil rfl rfl ?_
    refine q_move rfl rfl ?_
    refine q_storeAgg rfl rfl (hS.blk 1 rfl) rfl (Nat.le_of_ble_eq_true rfl) (all_cons rfl (all_cons rfl (all_nil))) rfl rfl fun w120 hb120 hO120 => ?_
    simp only [setN, List.set, List.take, List.drop] at hb120
    have hk120 := hS.keptBlk 1 rfl hO120
    replace hS := hS.setBlk 1 rfl hb120 hO120; simp only [List.set] at hS
    refine q_store rfl rfl (hS.blk 0 rfl) (Nat.le_of_ble_eq_true rfl) rfl rfl rfl fun w121 hb121 hO121 => ?_
    have hk121 := hS.keptBlk 0 rfl hO121
    replace hS := hS.setBlk 0 rfl hb121 hO121; simp only [List.set] at hS
    refine eseq_nil ?_
    refine hK119 _ _ ?_
    refine e_ret ?_
    replace hS := hS.nilOwn branchTy 48
    replace hS := hS.nilOwn0 letterTy 43
    obtain rfl := Option.some.inj h
    exact ⟨_, resCC rfl rfl ((hS.blk 3 rfl).cellsAt 0 2 rfl) rfl rfl ((hS.blk 2 rfl).cellsAt 0 1 rfl), (.slice none 0 0), (.slice none 0 0), _, rfl, (hS.pickB [1, 0] 6 rfl rfl)⟩
  · replace h := (if_neg (not_true hc118)).symm.trans h
    refine e_skip ?_
    refine hK113 _ _ ?_
    refine e_seq fun K124 hK124 => ?_
    refine e_region_text rfl ?_
    refine q_loadAgg rfl (Blk.cellsAt (hS.blk 3 rfl) 0 2 rfl) rfl rfl ?_
    refine q_build (Parts.cons rfl rfl Parts.nil) rfl rfl ?_
    obtain ⟨r126, hr126, h⟩ := Option.of_bind h
    refine q_call rfl (machine_copied_w (a0 := (⟨(⟨a0.branches, a0.flight⟩ : Cascade)⟩ : CascadeMachine)) (Sep.enter (As := []) hS) f1 f2 hr126) rfl ?_
    rintro _ w125 ⟨v127, v128, R125, rfl, hC125⟩
    have hB125 : Below (World.heap w115).size w115 w125 := hC125.stepB0
    refine ⟨fun _ => .of_below hB125, ?_⟩
    replace f1 := (f1.ext hB125).mono fun k hk _ => hC125.ro0 k hk
    replace f2 := (f2.ext hB125).mono fun k hk _ => hC125.ro0 k hk
    replace hS := Sep.leave (As := []) hS hC125; simp only [List.cons_append, List.nil_append] at hS
    refine q_allocB rfl fun w129 bl129 hg129 hb129 hB129 => ?_
    replace hS := hS.newBlk hB129 hg129 hb129
    refine q_storeAgg rfl rfl (hS.blk 0 rfl) rfl (Nat.le_of_ble_eq_true rfl) (all_cons (hS.own 1 rfl).one (all_cons (hS.own 2 rfl).one (all_nil))) rfl rfl fun w131 hb131 hO131 => ?_
    simp only [setN, List.set, List.take, List.drop] at hb131
    have hk131 := hS.keptBlk 0 rfl hO131
    replace hS := hS.setBlk 0 rfl hb131 hO131; simp only [List.set] at hS
    refine eseq_nil ?_
    refine hK124 _ _ ?_
    refine e_seq fun K132 hK132 => ?_
    have hJ132 : ∀ (x168 : (List Branch)) (x171 : (List Letter)) (v167 : Value) (v170 : Value) (R164 : Nat → Prop) (w165 : World) (E_ : Env), cascade_Step_J1 fuel x168 x171 = some r → Sep F R R164 w w165 [HP.blk bl109 [.slice none 0 0, .slice none 0 0] 28, HP.blk bl111 [.int .i64 0] 29, HP.blk bl129 [v167, v170] 74, HP.own branchTy R164 48 v167 x168, HP.own letterTy (fun _ => False) 43 v170 x171] → Sub [(4, .pointer (some ⟨bl109, 0, none⟩)), (5, .pointer (some ⟨bl111, 0, none⟩)), (7, .pointer (some ⟨bl129, 0, none⟩))] E_ → K132 E_ w165 := by
      intro x168 x171 v167 v170 R164 w165 E_ h hS  hsub
      refine hK132 _ _ (e_sub hsub ?_); clear hsub
      unfold cascade_Step_J1 at h
      refine e_seq fun K172 hK172 => ?_
      refine e_region_text rfl ?_
      refine q_field rfl rfl ?_
      refine q_loadAgg rfl (Blk.cellsAt (hS.blk 2 rfl) 0 2 rfl) rfl rfl ?_
      refine q_storeAgg rfl rfl (hS.blk 0 rfl) rfl (Nat.le_of_ble_eq_true rfl) (all_cons (hS.own 3 rfl).one (all_cons (hS.own 4 rfl).one (all_nil))) rfl rfl fun w173 hb173 hO173 => ?_
      simp only [setN, List.set, List.take, List.drop] at hb173
      have hk173 := hS.keptBlk 0 rfl hO173
      replace hS := hS.setBlk 0 rfl hb173 hO173; simp only [List.set] at hS
      refine q_store rfl rfl (hS.blk 1 rfl) (Nat.le_of_ble_eq_true rfl) rfl rfl rfl fun w174 hb174 hO174 => ?_
      have hk174 := hS.keptBlk 1 rfl hO174
      replace hS := hS.setBlk 1 rfl hb174 hO174; simp only [List.set] at hS
      refine eseq_nil ?_
      refine hK172 _ _ ?_
      refine e_ret ?_
      obtain rfl := Option.some.inj h
      exact ⟨_, resCC rfl rfl ((hS.blk 0 rfl).cellsAt 0 2 rfl) rfl rfl ((hS.blk 1 rfl).cellsAt 0 1 rfl), v167, v170, _, rfl, (hS.pickB [3, 4] 5 rfl rfl)⟩
    refine e_seq fun K175 hK175 => ?_
    refine e_region_text rfl ?_
    refine q_field rfl rfl ?_
    refine q_load rfl (Blk.cell (hS.blk 5 rfl) rfl) rfl ?_
    refine eseq_nil ?_
    refine hK175 _ _ ?_
    refine e_block ?_
    refine e_seq fun K176 hK176 => ?_
    refine e_region_text rfl ?_
    refine q_eql rfl rfl rfl ?_
    refine q_assign rfl rfl ?_
    refine eseq_nil ?_
    refine hK176 _ _ ?_
    refine e_cond rfl (fun hc177 => ?_) (fun hc177 => ?_)
    · replace h := (if_pos hc177).symm.trans h
      refine e_region_text rfl ?_
      refine q_field rfl rfl ?_
      refine q_load rfl (Blk.cell (hS.blk 5 rfl) rfl) rfl ?_
      refine q_field rfl rfl ?_
      refine q_load rfl (Blk.cell (hS.blk 5 rfl) rfl) rfl ?_
      obtain ⟨r179, hr179, h⟩ := Option.of_bind h
      refine q_call rfl (machine_send_w (Sep.enter (As := [_, _, _]) hS)  hr179) rfl ?_
      rintro _ w178 ⟨v180, v181, R178, rfl, hC178⟩
      refine ⟨(fun h => by cases h), ?_⟩
      have hk178 := hC178.keptR (Sep.offFeet (As := [_, _, _]) hS)
      replace hS := Sep.leave (As := [_, _, _]) hS hC178; simp only [List.cons_append, List.nil_append] at hS
      refine eseq_nil ?_
      exact hJ132 r179.1 r179.2 v180 v181 _ _ _ h (hS.pickB [4, 3, 0, 1, 2] 7 rfl rfl)  (Sub.cons rfl (Sub.cons rfl (Sub.cons rfl (Sub.nil _))))
    · replace h := (if_neg (not_true hc177)).symm.trans h
      refine e_seq fun K182 hK182 => ?_
      refine e_region_text rfl ?_
      refine q_eql rfl rfl rfl ?_
      refine q_assign rfl rfl ?_
      refine eseq_nil ?_
      refine hK182 _ _ ?_
      refine e_cond rfl (fun hc183 => ?_) (fun hc183 => ?_)
      · replace h := (if_pos hc183).symm.trans h
        refine e_region_text rfl ?_
        refine q_field rfl rfl ?_
        refine q_load rfl (Blk.cell (hS.blk 5 rfl) rfl) rfl ?_
        obtain ⟨r185, hr185, h⟩ := Option.of_bind h
        refine q_call rfl (machine_receive_w (Sep.enter (As := [_, _, _]) hS)  hr185) rfl ?_
        rintro _ w184 ⟨v186, v187, R184, rfl, hC184⟩
        refine ⟨(fun h => by cases h), ?_⟩
        have hk184 := hC184.keptR (Sep.offFeet (As := [_, _, _]) hS)
        replace hS := Sep.leave (As := [_, _, _]) hS hC184; simp only [List.cons_append, List.nil_append] at hS
        refine eseq_nil ?_
        exact hJ132 r185.1 r185.2 v186 v187 _ _ _ h (hS.pickB [4, 3, 0, 1, 2] 7 rfl rfl)  (Sub.cons rfl (Sub.cons rfl (Sub.cons rfl (Sub.nil _))))
      · replace h := (if_neg (not_true hc183)).symm.trans h
        refine e_seq fun K188 hK188 => ?_
        refine e_region_text rfl ?_
        refine q_eql rfl rfl rfl ?_
        refine q_assign rfl rfl ?_
        refine eseq_nil ?_
        refine hK188 _ _ ?_
        refine e_cond rfl (fun hc189 => ?_) (fun hc189 => ?_)
        · replace h := (if_pos hc189).symm.trans h
          refine e_seq fun K190 hK190 => ?_
          refine e_region_text rfl ?_
          refine q_field rfl rfl ?_
          refine q_field rfl rfl ?_
          refine q_load rfl (Blk.cell (hS.blk 0 rfl) rfl) rfl ?_
          refine q_field rfl rfl ?_
          refine q_load rfl (Blk.cell (hS.blk 5 rfl) rfl) rfl ?_
          obtain ⟨x191, hx191, h⟩ := Option.of_bind h
          refine q_indexO (by infer_instance) rfl (hS.own 1 rfl) rfl hx191 rfl ?_
          refine q_assign rfl rfl ?_
          refine eseq_nil ?_
          refine hK190 _ _ ?_
          refine e_region_text rfl ?_
          refine q_move rfl rfl ?_
          refine q_move rfl rfl ?_
          refine q_nilCheck rfl rfl ?_
          refine q_field rfl rfl ?_
          have f192 := (hS.ownR 1 rfl).elt hx191
          have f193 := Branch_F1 f192
          refine q_loadE rfl f193 rfl (fun v194 f194 => ?_)
          refine q_lenS rfl f194 rfl ?_
          refine q_nilCheck rfl rfl ?_
          refine q_field rfl rfl ?_
          obtain ⟨x196, hx196, h⟩ := Option.of_bind h
          refine q_storeO (T := branchTy) (j := 2) rfl rfl (hS.own 1 rfl) hx191 hx196 rfl rfl rfl (fun cs_ hc_ => by obtain ⟨u0_, u1_, rfl, g0_, g1_⟩ := Branch_R hc_; show branchTy.R _ _ [.int .i64 x191.inc, u0_, .int .i64 (x191.events.length : Int), u1_] _; exact ⟨_, _, rfl, rfl, ⟨_, _, rfl, ⟨_, rfl, g0_⟩, ⟨_, _, rfl, rfl, ⟨_, rfl, g1_⟩⟩⟩⟩) fun w195 ho195 hO195 => ?_
          have hk195 := hS.keptO 1 rfl hx191 hO195
          replace hS := hS.putO 1 rfl hx191 ho195 hO195; simp only [List.set] at hS
          refine eseq_nil ?_
          exact hJ132 x196 r126.cascade.flight v127 v128 _ _ _ h (hS.pickB [4, 3, 0, 1, 2] 7 rfl rfl)  (Sub.cons rfl (Sub.cons rfl (Sub.cons rfl (Sub.nil _))))
        · replace h := (if_neg (not_true hc189)).symm.trans h
          refine e_seq fun K197 hK197 => ?_
          refine e_region_text rfl ?_
          refine q_eql rfl rfl rfl ?_
          refine q_assign rfl rfl ?_
          refine eseq_nil ?_
          refine hK197 _ _ ?_
          refine e_cond rfl (fun hc198 => ?_) (fun hc198 => ?_)
          · replace h := (if_pos hc198).symm.trans h
            refine e_region_draw mixed (fun _ => False) [0, 1, 0, 4, 12, 0, 32, 124, 252, 508, 1023] [] [0, 1, 2, 3, 4, 5, 6, 7, 8, 9, 10] (by kernel_rfl) ?_
            refine q_field rfl rfl ?_
            refine q_load rfl (Blk.cell (hS.blk 5 rfl) rfl) rfl ?_
            refine q_field rfl rfl ?_
            refine q_field rfl rfl ?_
            refine q_load rfl (Blk.cell (hS.blk 0 rfl) rfl) rfl ?_
            refine q_field rfl rfl ?_
            refine q_load rfl (Blk.cell (hS.blk 5 rfl) rfl) rfl ?_
            obtain ⟨x199, hx199, h⟩ := Option.of_bind h
            refine q_indexO (by infer_instance) rfl (hS.own 1 rfl) rfl hx199 rfl ?_
            refine q_field rfl rfl ?_
            have f200 := (hS.ownR 1 rfl).elt hx199
            have f201 := Branch_F2 f200
            refine q_load rfl (Elt.intCell f201) rfl ?_
            obtain ⟨r203, hr203, h⟩ := Option.of_bind h
            refine q_call rfl (machine_goBack_w (Sep.enter (As := [_, _, _]) hS)  hr203) rfl ?_
            rintro _ w202 ⟨v204, v205, R202, rfl, hC202⟩
            refine ⟨(fun h => by cases h), ?_⟩
            have hk202 := hC202.keptR (Sep.offFeet (As := [_, _, _]) hS)
            replace hS := Sep.leave (As := [_, _, _]) hS hC202; simp only [List.cons_append, List.nil_append] at hS
            refine eseq_nil ?_
            exact hJ132 r203.1 r203.2 v204 v205 _ _ _ h (hS.pickB [4, 3, 0, 1, 2] 7 rfl rfl)  (Sub.cons rfl (Sub.cons rfl (Sub.cons rfl (Sub.nil _))))
          · replace h := (if_neg (not_true hc198)).symm.trans h
            refine e_skip ?_
            exact hJ132 r126.cascade.branches r126.cascade.flight v127 v128 _ _ _ h (hS.pickB [4, 3, 0, 1, 2] 7 rfl rfl)  (Sub.cons rfl (Sub.cons rfl (Sub.cons rfl (Sub.nil _))))
theorem cascade_Settle_idle : Idle Try.prog 53 1 := idle_of Try.func53 rfl Try.ntmps53 rfl (Nat.le_of_ble_eq_true rfl) (Nat.le_of_ble_eq_true rfl) (Nat.le_of_ble_eq_true rfl) (Nat.le_of_ble_eq_true rfl) (fun w => by simp [go_sem])
theorem cascade_Settle_w {F R : Nat → Prop} {w : World} {fuel : Nat} {a0 : Cascade} {v1 : Value} {v2 : Value} {r : (Cascade)} (hS : Sep F R R w w []) (f1 : IsSlice branchTy w R v1 a0.branches) (f2 : IsSlice letterTy w R v2 a0.flight) (h : cascade_Settle fuel a0 = some r) :
    Gives Try.prog 27 [.agg #[v1, v2]] w fun u w1 => ∃ (v92 : Value), ∃ (v93 : Value), ∃ (R1 : Nat → Prop), u = .agg #[v92, v93] ∧ Sep F R R1 w w1 [HP.own branchTy R1 48 v92 r.branches, HP.own letterTy (fun _ => False) 43 v93 r.flight] := by
  refine fnD_of Try.func27 rfl Try.ntmps27 (Nat.le_of_ble_eq_true rfl) (Nat.le_of_ble_eq_true rfl) rfl cascade_Settle_idle fun K hK => ?_
  unfold cascade_Settle at h
  refine e_region_text rfl ?_
  refine q_boxB rfl rfl rfl fun w94 bl94 hg94 hb94 hB94 => ?_
  replace f1 := f1.ext hB94
  replace f2 := f2.ext hB94
  replace hS := hS.newBlk hB94 hg94 hb94
  refine q_allocB rfl fun w96 bl96 hg96 hb96 hB96 => ?_
  replace f1 := f1.ext hB96
  replace f2 := f2.ext hB96
  replace hS := hS.newBlk hB96 hg96 hb96
  refine eseq_nil ?_
  refine hK _ _ ⟨_, rfl, ?_⟩; clear hK
  refine e_seq fun K98 hK98 => ?_
  refine e_region_text rfl ?_
  refine q_loadAgg rfl (Blk.cellsAt (hS.blk 1 rfl) 0 2 rfl) rfl rfl ?_
  refine q_build (Parts.cons rfl rfl Parts.nil) rfl rfl ?_
  obtain ⟨r100, hr100, h⟩ := Option.of_bind h
  refine q_call rfl (machine_copied_w (a0 := (⟨(⟨a0.branches, a0.flight⟩ : Cascade)⟩ : CascadeMachine)) (Sep.enter (As := []) hS) f1 f2 hr100) rfl ?_
  rintro _ w99 ⟨v101, v102, R99, rfl, hC99⟩
  have hB99 : Below (World.heap w96).size w96 w99 := hC99.stepB0
  refine ⟨fun _ => .of_below hB99, ?_⟩
  replace f1 := (f1.ext hB99).mono fun k hk _ => hC99.ro0 k hk
  replace f2 := (f2.ext hB99).mono fun k hk _ => hC99.ro0 k hk
  replace hS := Sep.leave (As := []) hS hC99; simp only [List.cons_append, List.nil_append] at hS
  refine q_allocB rfl fun w103 bl103 hg103 hb103 hB103 => ?_
  replace hS := hS.newBlk hB103 hg103 hb103
  refine q_storeAgg rfl rfl (hS.blk 0 rfl) rfl (Nat.le_of_ble_eq_true rfl) (all_cons (hS.own 1 rfl).one (all_cons (hS.own 2 rfl).one (all_nil))) rfl rfl fun w105 hb105 hO105 => ?_
  simp only [setN, List.set, List.take, List.drop] at hb105
  have hk105 := hS.keptBlk 0 rfl hO105
  replace hS := hS.setBlk 0 rfl hb105 hO105; simp only [List.set] at hS
  refine eseq_nil ?_
  refine hK98 _ _ ?_
  refine e_seq fun K106 hK106 => ?_
  refine e_seq fun K107 hK107 => ?_
  refine e_region_text rfl ?_
  refine q_field rfl rfl ?_
  refine q_loadAgg rfl (Blk.cellsAt (hS.blk 0 rfl) 0 2 rfl) rfl rfl ?_
  obtain ⟨r109, hr109, h⟩ := Option.of_bind h
  refine q_call rfl (cascade_news_w (a0 := (⟨r100.cascade.branches, r100.cascade.flight⟩ : Cascade)) (Sep.all w105) ((hS.isl 1 rfl)).old ((hS.isl 2 rfl)).old hr109) rfl ?_
  rintro _ w108 ⟨R108, rfl, hC108⟩
  have hB108 : Below (World.heap w105).size w105 w108 := hC108.stepBF
  refine ⟨fun _ => .of_below hB108, ?_⟩
  replace hS := hS.below hB108
  refine q_assign rfl rfl ?_
  refine eseq_nil ?_
  refine hK107 _ _ ?_
  refine e_block ?_
  obtain ⟨tl110, ht110, h⟩ := Option.of_bind h
  have hX110_0 : ∀ (x166 : (List Branch)) (x169 : (List Letter)) (v165 : Value) (v168 : Value) (R162 : Nat → Prop) (w163 : World) (E_ : Env), cascade_Settle_K1 fuel x166 x169 = some r → Sep F R R162 w w163 [HP.blk bl96 [.slice none 0 0, .slice none 0 0] 28, HP.blk bl103 [v165, v168] 74, HP.own branchTy R162 48 v165 x166, HP.own letterTy (fun _ => False) 43 v168 x169] → Sub [(2, .pointer (some ⟨bl96, 0, none⟩)), (3, .pointer (some ⟨bl103, 0, none⟩))] E_ → K106 E_ w163 := by
    intro x166 x169 v165 v168 R162 w163 E_ h hS  hsub
    refine hK106 _ _ (e_sub hsub ?_); clear hsub
    unfold cascade_Settle_K1 at h
    refine e_seq fun K170 hK170 => ?_
    refine e_region_text rfl ?_
    refine q_field rfl rfl ?_
    refine q_loadAgg rfl (Blk.cellsAt (hS.blk 1 rfl) 0 2 rfl) rfl rfl ?_
    refine q_storeAgg rfl rfl (hS.blk 0 rfl) rfl (Nat.le_of_ble_eq_true rfl) (all_cons (hS.own 2 rfl).one (all_cons (hS.own 3 rfl).one (all_nil))) rfl rfl fun w171 hb171 hO171 => ?_
    simp only [setN, List.set, List.take, List.drop] at hb171
    have hk171 := hS.keptBlk 0 rfl hO171
    replace hS := hS.setBlk 0 rfl hb171 hO171; simp only [List.set] at hS
    refine eseq_nil ?_
    refine hK170 _ _ ?_
    refine e_ret ?_
    obtain rfl := Option.some.inj h
    exact ⟨_, resC1 rfl rfl ((hS.blk 0 rfl).cellsAt 0 2 rfl) rfl, v165, v168, _, rfl, (hS.pickB [2, 3] 4 rfl rfl)⟩
  refine e_loop (fun m_ E_ w135 => ∃ (x138 : (List Branch)), ∃ (x141 : (List Letter)), ∃ (x142 : Int), ∃ (v137 : Value), ∃ (v140 : Value), ∃ (R134 : Nat → Prop), iter (fun s => cascade_Settle_B1 fuel s.1 s.2.1 s.2.2) m_ (x138, x141, x142) = some tl110 ∧ Sep F R R134 w w135 [HP.blk bl96 [.slice none 0 0, .slice none 0 0] 28, HP.blk bl103 [v137, v140] 74, HP.own branchTy R134 48 v137 x138, HP.own letterTy (fun _ => False) 43 v140 x141] ∧ E_ = [(2, .pointer (some ⟨bl96, 0, none⟩)), (3, .pointer (some ⟨bl103, 0, none⟩)), (4, .int .i64 x142)]) _ ⟨_, ⟨r100.cascade.branches, r100.cascade.flight, r109, v101, v102, _, ht110, (hS.pickB [3, 0, 1, 2] 5 rfl rfl), rfl⟩, Sub.cons rfl (Sub.cons rfl (Sub.cons rfl (Sub.nil _)))⟩ ?_
  clear ht110 hS
  rintro m110 _ w135 ⟨x138, x141, x142, v137, v140, R134, ht110, hS, rfl⟩
  obtain ⟨m110, rfl, o110, ho110, ht110⟩ := iter_some ht110
  replace ho110 : cascade_Settle_B1 fuel x138 x141 x142 = some o110 := ho110
  unfold cascade_Settle_B1 at ho110
  refine e_seq fun K172 hK172 => ?_
  refine e_seq fun K173 hK173 => ?_
  refine e_region_text rfl ?_
  refine q_move rfl rfl ?_
  refine q_geq rfl rfl rfl ?_
  refine eseq_nil ?_
  refine hK173 _ _ ?_
  refine e_cond rfl (fun hc174 => ?_) (fun hc174 => ?_)
  · replace ho110 := (if_pos hc174).symm.trans ho110
    refine e_skip ?_
    refine hK172 _ _ ?_
    refine e_seq fun K175 hK175 => ?_
    refine e_block ?_
    refine e_region_text rfl ?_
    refine q_move rfl rfl ?_
    obtain ⟨r177, hr177, ho110⟩ := Option.of_bind ho110
    replace hS := hS.pickB [1, 2, 3, 0] 4 rfl rfl; simp only [List.map_cons, List.map_nil, List.getD_cons_zero, List.getD_cons_succ] at hS
    refine q_call rfl (machine_receive_w (Sep.enter (As := [_, _, _]) hS)  hr177) rfl ?_
    rintro _ w176 ⟨v178, v179, R176, rfl, hC176⟩
    refine ⟨(fun h => by cases h), ?_⟩
    have hk176 := hC176.keptR (Sep.offFeet (As := [_, _, _]) hS)
    replace hS := Sep.leave (As := [_, _, _]) hS hC176; simp only [List.cons_append, List.nil_append] at hS
    refine eseq_nil ?_
    refine hK175 _ _ ?_
    refine e_region_text rfl ?_
    refine q_field rfl rfl ?_
    refine q_loadAgg rfl (Blk.cellsAt (hS.blk 0 rfl) 0 2 rfl) rfl rfl ?_
    obtain ⟨r181, hr181, ho110⟩ := Option.of_bind ho110
    refine q_call rfl (cascade_news_w (a0 := (⟨r177.1, r177.2⟩ : Cascade)) (Sep.all w176) ((hS.isl 1 rfl)).old ((hS.isl 2 rfl)).old hr181) rfl ?_
    rintro _ w180 ⟨R180, rfl, hC180⟩
    have hB180 : Below (World.heap w176).size w176 w180 := hC180.stepBF
    refine ⟨fun _ => .of_below hB180, ?_⟩
    replace hS := hS.below hB180
    refine q_assign rfl rfl ?_
    refine eseq_nil ?_
    obtain rfl := Option.some.inj ho110
    exact ⟨m110, _, Nat.lt_succ_self _, ⟨r177.1, r177.2, r181, v178, v179, _, ht110, (hS.pickB [3, 0, 1, 2] 4 rfl rfl), rfl⟩, Sub.cons rfl (Sub.cons rfl (Sub.cons rfl (Sub.nil _)))⟩
  · replace ho110 := (if_neg (not_true hc174)).symm.trans ho110
    refine e_exit ?_
    obtain rfl := Option.some.inj ho110
    obtain rfl := Option.some.inj ht110
    exact hX110_0 x138 x141 v137 v140 _ _ _ h hS  (Sub.cons rfl (Sub.cons rfl (Sub.nil _)))
end Go.Proofs.Ytddohdppmejjoaa
