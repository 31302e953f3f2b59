/- Printed walks: A26d. -/
import Derived.Test.YtbmjcbhappjnaaaM26p
import Derived.Test.YtbmjcbhappjnaaaA23
import Derived.Test.YtbmjcbhappjnaaaA16c
import Derived.Test.YtbmjcbhappjnaaaAacts
set_option linter.unusedVariables false
set_option linter.unusedSimpArgs false
namespace Go.Mine
open Go.RowKit
def law26_awake (fuel : Nat) : Option (Bool) :=
  (modelbased_Play fuel 2 4 ([(⟨1, 0, 1⟩ : Deed), (⟨1, 1, 0⟩ : Deed), (⟨2, 0, 0⟩ : Deed)])).bind fun r83 => (andM (r83.2 == 0) ((ref23_SameLists fuel r83.1.pat.ckpts ([[0], [0, 1]])).bind fun r117 => some r117)).bind fun x107 => (andM x107 (some ((r83.1.vecs.length : Int) == 2))).bind fun x121 => (andM x121 ((ati r83.1.vecs 1).bind fun x139 => (ref23_SameLists fuel x139 ([[0, 0], [0, 1]])).bind fun r151 => some r151)).bind fun x138 => some x138
def law26_draw (fuel : Nat) (a0 : (List Int)) : Option (Int × Int × (List Deed)) :=
  (make_New fuel a0 200).bind fun r21 => (make_Codes_Next fuel 3 r21.1 r21.2).bind fun r26 => (make_Codes_Next fuel 4 r21.1 r26.2).bind fun r28 => (make_Codes_Acts fuel (w64 (2 + r26.1)) 50 r21.1 r28.2).bind fun r31 => some (w64 (2 + r26.1), w64 (1 + r28.1), r31.1)
def law26_sound_K1 (fuel : Nat) (a0 : Hist) : Option (Bool) :=
  (ref16_Check fuel (⟨a0.pat.lens, a0.pat.ckpts, a0.pat.arcs⟩ : Pat)).bind fun r288 => some (r288 == 0)
def law26_sound_B1 (fuel : Nat) (a1 : Int) (a0 : Hist) (x239 : Int) : Option ((Int) ⊕ (Unit ⊕ (Bool))) :=
  (if (decide (x239 < a1)) = true then (ati a0.vecs x239).bind fun x294 => (ati a0.pat.ckpts x239).bind fun x297 => (orM ((x294.length : Int) != (x297.length : Int)) ((ati a0.forced x239).bind fun x310 => (ati a0.pat.ckpts x239).bind fun x313 => some ((x310.length : Int) != (x313.length : Int)))).bind fun x309 => (if x309 = true then some (Sum.inr (Sum.inr false)) else some (Sum.inl (w64 (x239 + 1)))) else some (Sum.inr (Sum.inl ())))
def law26_sound (fuel : Nat) (a0 : Hist) (a1 : Int) : Option (Bool) :=
  (orM ((a0.pat.lens.length : Int) != a1) (some ((a0.pat.ckpts.length : Int) != a1))).bind fun x171 => (orM x171 (some ((a0.vecs.length : Int) != a1))).bind fun x175 => (orM x175 (some ((a0.forced.length : Int) != a1))).bind fun x179 => (if x179 = true then some false else (iter (fun s => law26_sound_B1 fuel a1 a0 s) fuel 0).bind (fun t => Sum.elim (fun t => law26_sound_K1 fuel a0) (fun t => some t) t))
def law26_some_K1 (fuel : Nat) : Option (Bool) :=
  some false
def law26_some_K2 (fuel : Nat) (x459 : Int) : Option ((Int) ⊕ (Unit ⊕ (Bool))) :=
  some (Sum.inl (w64 (x459 + 1)))
def law26_some_B2 (fuel : Nat) (a0 : Hist) (x459 : Int) (x612 : Int) : Option ((Int) ⊕ (Unit ⊕ (Bool))) :=
  (ati a0.forced x459).bind fun x647 => (if (decide (x612 < (x647.length : Int))) = true then (ati a0.forced x459).bind fun x653 => (ati x653 x612).bind fun x656 => (if x656 = true then some (Sum.inr (Sum.inr true)) else some (Sum.inl (w64 (x612 + 1)))) else some (Sum.inr (Sum.inl ())))
def law26_some_B1 (fuel : Nat) (a0 : Hist) (x459 : Int) : Option ((Int) ⊕ (Unit ⊕ (Bool))) :=
  (if (decide (x459 < (a0.forced.length : Int))) = true then (iter (fun s => law26_some_B2 fuel a0 x459 s) fuel 0).bind (fun t => Sum.elim (fun t => law26_some_K2 fuel x459) (fun t => some (Sum.inr (Sum.inr t))) t) else some (Sum.inr (Sum.inl ())))
def law26_some (fuel : Nat) (a0 : Hist) : Option (Bool) :=
  (iter (fun s => law26_some_B1 fuel a0 s) fuel 0).bind (fun t => Sum.elim (fun t => law26_some_K1 fuel) (fun t => some t) t)
end Go.Mine
namespace Go.Proofs.Ytbmjcbhappjnaaa
open Go.RowKit Go.Mine
attribute [local irreducible] eseq ewp iter
theorem law26_awake_w {F R : Nat → Prop} {w : World} {fuel : Nat} {r : (Bool)} (hS : Sep F R R w w []) (h : law26_awake fuel = some r) :
    Gives Try.prog 12 [] w fun u w1 => ∃ (R1 : Nat → Prop), u = .bool r ∧ Sep F R R1 w w1 [] := by
  refine fn_of Try.func12 rfl Try.ntmps12 (Nat.le_of_ble_eq_true rfl) ?_
  unfold law26_awake at h
  refine e_seq fun K77 hK77 => ?_
  refine e_region_text rfl ?_
  refine q_assign rfl rfl ?_
  refine eseq_nil ?_
  refine hK77 _ _ ?_
  refine e_seq fun K78 hK78 => ?_
  refine e_region_text rfl ?_
  refine q_build (Parts.cons rfl rfl (Parts.cons rfl rfl (Parts.cons rfl rfl Parts.nil))) rfl rfl ?_
  refine q_build (Parts.cons rfl rfl (Parts.cons rfl rfl (Parts.cons rfl rfl Parts.nil))) rfl rfl ?_
  refine q_build (Parts.cons rfl rfl (Parts.cons rfl rfl Parts.nil)) rfl rfl ?_
  refine q_litO (T := deedTy) (S := (fun _ => False)) (cells := [[.int .i64 1, .int .i64 0, .int .i64 1], [.int .i64 1, .int .i64 1, .int .i64 0], [.int .i64 2, .int .i64 0, .int .i64 0]]) (ys := [(⟨1, 0, 1⟩ : Deed), (⟨1, 1, 0⟩ : Deed), (⟨2, 0, 0⟩ : Deed)]) ((Parts.cons rfl rfl (Parts.cons rfl rfl (Parts.cons rfl rfl Parts.nil)))) rfl rfl rfl rfl rfl rfl rfl (fun w1 hB => ⟨⟨[_], _, rfl, rfl, ⟨[_], _, rfl, rfl, rfl⟩⟩, ⟨[_], _, rfl, rfl, ⟨[_], _, rfl, rfl, rfl⟩⟩, ⟨[_], _, rfl, rfl, ⟨[_], _, rfl, rfl, rfl⟩⟩, trivial⟩) (fun _ h => h.elim) rfl fun w79 v79 ho79 hv79 hB79 => ?_
  replace hS := hS.newOwnS hB79 ho79 hv79 (fun _ h => h.elim)
  obtain ⟨R82, hS, hm82, f82⟩ := hS.freezeOwn 0 rfl; simp only [List.eraseIdx] at hS
  obtain ⟨r83, hr83, h⟩ := Option.of_bind h
  refine q_call rfl (modelbased_Play_w (Sep.enter (As := []) hS) f82 hr83) rfl ?_
  rintro _ w81 ⟨v84, v85, v86, v87, v88, v89, R81, rfl, hC81, f84, f85, f86, f87, f88, f89⟩
  have hB81 : Below (World.heap w79).size w79 w81 := hC81.stepB0
  refine ⟨fun _ => .of_below hB81, ?_⟩
  replace f82 := (f82.ext hB81).mono fun k hk _ => hC81.ro0 k hk
  replace hS := Sep.leave (As := []) hS hC81; simp only [List.cons_append, List.nil_append] at hS
  refine q_move rfl rfl ?_
  refine q_extract rfl rfl rfl ?_
  refine q_extract rfl rfl rfl ?_
  refine q_allocB rfl fun w90 bl90 hg90 hb90 hB90 => ?_
  replace f84 := f84.ext hB90
  replace f85 := f85.ext hB90
  replace f86 := f86.ext hB90
  replace f87 := f87.ext hB90
  replace f88 := f88.ext hB90
  replace f89 := f89.ext hB90
  replace hS := hS.newBlk hB90 hg90 hb90
  refine q_storeAgg rfl rfl (hS.blk 0 rfl) rfl (Nat.le_of_ble_eq_true rfl) (all_cons f84.one (all_cons f85.one (all_cons f86.one (all_cons f87.one (all_cons f88.one (all_cons f89.one (all_nil))))))) rfl rfl fun w92 hb92 hO92 => ?_
  simp only [setN, List.set, List.take, List.drop] at hb92
  have hk92 := hS.keptBlk 0 rfl hO92
  replace f84 := f84.kept hk92
  replace f85 := f85.kept hk92
  replace f86 := f86.kept hk92
  replace f87 := f87.kept hk92
  replace f88 := f88.kept hk92
  replace f89 := f89.kept hk92
  replace hS := hS.setBlk 0 rfl hb92 hO92; simp only [List.set] at hS
  refine q_assign rfl rfl ?_
  refine eseq_nil ?_
  refine hK78 _ _ ?_
  refine e_seq fun K93 hK93 => ?_
  refine e_region_text rfl ?_
  refine q_move rfl rfl ?_
  refine q_eql rfl rfl rfl ?_
  refine q_move rfl rfl ?_
  obtain ⟨x107, hx106, h⟩ := Option.of_bind h
  refine g_andM 7 hx106 rfl trivial rfl rfl ?_ ?_ ?_
  · intro hg106 hx106
    clear h
    have hT106 := Below.refl (World.heap w92).size w92
    refine g_run rfl ?_; refine q_field rfl rfl ?_
    refine g_run rfl ?_; refine q_field rfl rfl ?_
    refine g_run rfl ?_; refine q_load rfl (Blk.cell (hS.blk 0 rfl) rfl) rfl ?_
    refine g_run rfl ?_; refine q_litO (T := Ty.int) (S := (fun _ => False)) (cells := [[.int .i64 0]]) (ys := [0]) ((Parts.cons rfl rfl Parts.nil)) rfl rfl rfl rfl rfl rfl rfl (fun w1 hB => ⟨rfl, trivial⟩) (fun _ h => h.elim) rfl fun w108 v108 ho108 hv108 hB108 => ?_
    replace f84 := f84.ext hB108
    replace f85 := f85.ext hB108
    replace f86 := f86.ext hB108
    replace f87 := f87.ext hB108
    replace f88 := f88.ext hB108
    replace f89 := f89.ext hB108
    replace hT106 := hT106.trans (Below.mono hB108 hT106.size)
    replace hS := hS.newOwnS hB108 ho108 hv108 (fun _ h => h.elim)
    refine g_run rfl ?_; refine q_litO (T := Ty.int) (S := (fun _ => False)) (cells := [[.int .i64 0], [.int .i64 1]]) (ys := [0, 1]) ((Parts.cons rfl rfl (Parts.cons rfl rfl Parts.nil))) rfl rfl rfl rfl rfl rfl rfl (fun w1 hB => ⟨rfl, rfl, trivial⟩) (fun _ h => h.elim) rfl fun w110 v110 ho110 hv110 hB110 => ?_
    replace f84 := f84.ext hB110
    replace f85 := f85.ext hB110
    replace f86 := f86.ext hB110
    replace f87 := f87.ext hB110
    replace f88 := f88.ext hB110
    replace f89 := f89.ext hB110
    replace hT106 := hT106.trans (Below.mono hB110 hT106.size)
    replace hS := hS.newOwnS hB110 ho110 hv110 (fun _ h => h.elim)
    refine g_run rfl ?_; refine q_litO (T := Ty.raw) (S := (fun _ => False)) (cells := [[v108], [v110]]) (ys := [v108, v110]) ((Parts.cons rfl (cells_one (hS.own 1 rfl).one) (Parts.cons rfl (cells_one (hS.own 0 rfl).one) Parts.nil))) rfl rfl rfl rfl rfl rfl rfl (fun w1 hB => ⟨⟨rfl, (hS.own 1 rfl).one⟩, ⟨rfl, (hS.own 0 rfl).one⟩, trivial⟩) (fun _ h => h.elim) rfl fun w112 v112 ho112 hv112 hB112 => ?_
    replace f84 := f84.ext hB112
    replace f85 := f85.ext hB112
    replace f86 := f86.ext hB112
    replace f87 := f87.ext hB112
    replace f88 := f88.ext hB112
    replace f89 := f89.ext hB112
    replace hT106 := hT106.trans (Below.mono hB112 hT106.size)
    replace hS := hS.newOwnS hB112 ho112 hv112 (fun _ h => h.elim)
    replace hS := hS.pickB [2, 0, 1, 3] 4 rfl rfl; simp only [List.map_cons, List.map_nil, List.getD_cons_zero, List.getD_cons_succ] at hS
    replace hS := hS.famOne
    replace hS := hS.pickB [2, 0, 1, 3] 4 rfl rfl; simp only [List.map_cons, List.map_nil, List.getD_cons_zero, List.getD_cons_succ] at hS
    replace hS := hS.famOne
    replace hS := hS.pickB [1, 0, 2, 3] 4 rfl rfl; simp only [List.map_cons, List.map_nil, List.getD_cons_zero, List.getD_cons_succ] at hS
    replace hS := hS.famCat; simp only [List.cons_append, List.nil_append] at hS
    obtain ⟨r117, hr117, hx106⟩ := Option.of_bind hx106
    refine g_run rfl ?_; refine q_call rfl (ref23_SameLists_w (Sep.all w112) (f85).old ((hS.rowsI 1 0 rfl rfl (by decide))).old hr117) rfl ?_
    rintro _ w116 ⟨R116, rfl, hC116⟩
    have hB116 : Below (World.heap w112).size w112 w116 := hC116.stepBF
    refine ⟨fun _ => .of_below hB116, ?_⟩
    replace f84 := f84.ext hB116
    replace f85 := f85.ext hB116
    replace f86 := f86.ext hB116
    replace f87 := f87.ext hB116
    replace f88 := f88.ext hB116
    replace f89 := f89.ext hB116
    replace hT106 := hT106.trans (Below.mono hB116 hT106.size)
    replace hS := hS.below hB116
    cases hx106
    exact eseq_nil ⟨hT106, Sub.set rfl (Sub.set rfl (Sub.set rfl (Sub.set rfl (Sub.set rfl (Sub.set rfl (Sub.set rfl (Sub.bool true rfl hg106))))))), rfl⟩
  · intro hg106
    refine g_skip rfl rfl rfl ?_
    refine g_skip rfl rfl rfl ?_
    refine g_skip rfl rfl rfl ?_
    refine g_skip rfl rfl rfl ?_
    refine g_skip rfl rfl rfl ?_
    refine g_skip rfl rfl rfl ?_
    refine g_skip rfl rfl rfl ?_
    exact eseq_nil ⟨rfl, Sub.set rfl (Sub.set rfl (Sub.set rfl (Sub.set rfl (Sub.set rfl (Sub.set rfl (Sub.set rfl (Sub.bool false rfl hg106)))))))⟩
  intro wm106 hBm106; clear hx106
  replace hS := hS.below hBm106
  replace f84 := f84.ext hBm106
  replace f85 := f85.ext hBm106
  replace f86 := f86.ext hBm106
  replace f87 := f87.ext hBm106
  replace f88 := f88.ext hBm106
  replace f89 := f89.ext hBm106
  refine q_move rfl rfl ?_
  obtain ⟨x121, hx120, h⟩ := Option.of_bind h
  refine g_andM 4 hx120 rfl trivial rfl rfl ?_ ?_ ?_
  · intro hg120 hx120
    clear h
    have hT120 := Below.refl (World.heap wm106).size wm106
    refine g_run rfl ?_; refine q_field rfl rfl ?_
    refine g_run rfl ?_; refine q_load rfl (Blk.cell (hS.blk 0 rfl) rfl) rfl ?_
    refine g_run rfl ?_; refine q_lenS rfl f88 rfl ?_
    refine g_run rfl ?_; refine q_eql rfl rfl rfl ?_
    cases hx120
    exact eseq_nil ⟨hT120, Sub.set rfl (Sub.set rfl (Sub.set rfl (Sub.set rfl (Sub.bool true rfl hg120)))), rfl⟩
  · intro hg120
    refine g_skip rfl rfl rfl ?_
    refine g_skip rfl rfl rfl ?_
    refine g_skip rfl rfl rfl ?_
    refine g_skip rfl rfl rfl ?_
    exact eseq_nil ⟨rfl, Sub.set rfl (Sub.set rfl (Sub.set rfl (Sub.set rfl (Sub.bool false rfl hg120))))⟩
  intro wm120 hBm120; clear hx120
  replace hS := hS.below hBm120
  replace f84 := f84.ext hBm120
  replace f85 := f85.ext hBm120
  replace f86 := f86.ext hBm120
  replace f87 := f87.ext hBm120
  replace f88 := f88.ext hBm120
  replace f89 := f89.ext hBm120
  refine q_move rfl rfl ?_
  obtain ⟨x138, hx137, h⟩ := Option.of_bind h
  refine g_andM 8 hx137 rfl trivial rfl rfl ?_ ?_ ?_
  · intro hg137 hx137
    clear h
    have hT137 := Below.refl (World.heap wm120).size wm120
    refine g_run rfl ?_; refine q_field rfl rfl ?_
    refine g_run rfl ?_; refine q_load rfl (Blk.cell (hS.blk 0 rfl) rfl) rfl ?_
    obtain ⟨x139, hx139, hx137⟩ := Option.of_bind hx137
    refine g_run rfl ?_; refine q_atS (by infer_instance) rfl f88 rfl hx139 rfl fun b140 o140 hm140 f140 => ?_
    refine g_run rfl ?_; refine q_loadE rfl f140 rfl (fun v141 f141 => ?_)
    refine g_run rfl ?_; refine q_litO (T := Ty.int) (S := (fun _ => False)) (cells := [[.int .i64 0], [.int .i64 0]]) (ys := [0, 0]) ((Parts.cons rfl rfl (Parts.cons rfl rfl Parts.nil))) rfl rfl rfl rfl rfl rfl rfl (fun w1 hB => ⟨rfl, rfl, trivial⟩) (fun _ h => h.elim) rfl fun w142 v142 ho142 hv142 hB142 => ?_
    replace f141 := f141.ext hB142
    replace hT137 := hT137.trans (Below.mono hB142 hT137.size)
    replace hS := hS.newOwnS hB142 ho142 hv142 (fun _ h => h.elim)
    refine g_run rfl ?_; refine q_litO (T := Ty.int) (S := (fun _ => False)) (cells := [[.int .i64 0], [.int .i64 1]]) (ys := [0, 1]) ((Parts.cons rfl rfl (Parts.cons rfl rfl Parts.nil))) rfl rfl rfl rfl rfl rfl rfl (fun w1 hB => ⟨rfl, rfl, trivial⟩) (fun _ h => h.elim) rfl fun w144 v144 ho144 hv144 hB144 => ?_
    replace f141 := f141.ext hB144
    replace hT137 := hT137.trans (Below.mono hB144 hT137.size)
    replace hS := hS.newOwnS hB144 ho144 hv144 (fun _ h => h.elim)
    refine g_run rfl ?_; refine q_litO (T := Ty.raw) (S := (fun _ => False)) (cells := [[v142], [v144]]) (ys := [v142, v144]) ((Parts.cons rfl (cells_one (hS.own 1 rfl).one) (Parts.cons rfl (cells_one (hS.own 0 rfl).one) Parts.nil))) rfl rfl rfl rfl rfl rfl rfl (fun w1 hB => ⟨⟨rfl, (hS.own 1 rfl).one⟩, ⟨rfl, (hS.own 0 rfl).one⟩, trivial⟩) (fun _ h => h.elim) rfl fun w146 v146 ho146 hv146 hB146 => ?_
    replace f141 := f141.ext hB146
    replace hT137 := hT137.trans (Below.mono hB146 hT137.size)
    replace hS := hS.newOwnS hB146 ho146 hv146 (fun _ h => h.elim)
    replace hS := hS.pickB [2, 0, 1, 3] 4 rfl rfl; simp only [List.map_cons, List.map_nil, List.getD_cons_zero, List.getD_cons_succ] at hS
    replace hS := hS.famOne
    replace hS := hS.pickB [2, 0, 1, 3] 4 rfl rfl; simp only [List.map_cons, List.map_nil, List.getD_cons_zero, List.getD_cons_succ] at hS
    replace hS := hS.famOne
    replace hS := hS.pickB [1, 0, 2, 3] 4 rfl rfl; simp only [List.map_cons, List.map_nil, List.getD_cons_zero, List.getD_cons_succ] at hS
    replace hS := hS.famCat; simp only [List.cons_append, List.nil_append] at hS
    obtain ⟨r151, hr151, hx137⟩ := Option.of_bind hx137
    refine g_run rfl ?_; refine q_call rfl (ref23_SameLists_w (Sep.all w146) (f141).old ((hS.rowsI 1 0 rfl rfl (by decide))).old hr151) rfl ?_
    rintro _ w150 ⟨R150, rfl, hC150⟩
    have hB150 : Below (World.heap w146).size w146 w150 := hC150.stepBF
    refine ⟨fun _ => .of_below hB150, ?_⟩
    replace f141 := f141.ext hB150
    replace hT137 := hT137.trans (Below.mono hB150 hT137.size)
    replace hS := hS.below hB150
    cases hx137
    exact eseq_nil ⟨hT137, Sub.set rfl (Sub.set rfl (Sub.set rfl (Sub.set rfl (Sub.set rfl (Sub.set rfl (Sub.set rfl (Sub.set rfl (Sub.bool true rfl hg137)))))))), rfl⟩
  · intro hg137
    refine g_skip rfl rfl rfl ?_
    refine g_skip rfl rfl rfl ?_
    refine g_skip rfl rfl rfl ?_
    refine g_skip rfl rfl rfl ?_
    refine g_skip rfl rfl rfl ?_
    refine g_skip rfl rfl rfl ?_
    refine g_skip rfl rfl rfl ?_
    refine g_skip rfl rfl rfl ?_
    exact eseq_nil ⟨rfl, Sub.set rfl (Sub.set rfl (Sub.set rfl (Sub.set rfl (Sub.set rfl (Sub.set rfl (Sub.set rfl (Sub.set rfl (Sub.bool false rfl hg137))))))))⟩
  intro wm137 hBm137; clear hx137
  replace hS := hS.below hBm137
  refine q_assign rfl rfl ?_
  refine eseq_nil ?_
  refine hK93 _ _ ?_
  refine e_ret ?_
  obtain rfl := Option.some.inj h
  exact ⟨_, res1 rfl rfl, _, rfl, (hS.pickB [] 1 rfl rfl)⟩
theorem law26_draw_w {F R : Nat → Prop} {w : World} {fuel : Nat} {a0 : (List Int)} {v1 : Value} {r : (Int × Int × (List Deed))} (hS : Sep F R R w w []) (f1 : IsSlice Ty.u8 w R v1 a0) (h : law26_draw fuel a0 = some r) :
    Gives Try.prog 13 [v1] w fun u w1 => ∃ (v17 : Value), ∃ (R1 : Nat → Prop), u = .tuple #[.int .i64 r.1, .int .i64 r.2.1, v17] ∧ Sep F R R1 w w1 [HP.own deedTy (fun _ => False) 80 v17 r.2.2] := by
  refine fn_of Try.func13 rfl Try.ntmps13 (Nat.le_of_ble_eq_true rfl) ?_
  unfold law26_draw at h
  refine e_seq fun K18 hK18 => ?_
  refine e_region_text rfl ?_
  refine q_assign rfl rfl ?_
  refine q_assign rfl rfl ?_
  refine q_assign rfl rfl ?_
  refine eseq_nil ?_
  refine hK18 _ _ ?_
  refine e_seq fun K19 hK19 => ?_
  refine e_region_text rfl ?_
  refine q_move rfl rfl ?_
  obtain ⟨r21, hr21, h⟩ := Option.of_bind h
  refine q_call rfl (make_New_w (Sep.enter (As := []) hS) f1 hr21) rfl ?_
  rintro _ w20 ⟨B22, v23, R20, rfl, hC20, f23⟩
  have hB20 : Below (World.heap w).size w w20 := hC20.stepB0
  refine ⟨fun _ => .of_below hB20, ?_⟩
  replace f1 := (f1.ext hB20).mono fun k hk _ => hC20.ro0 k hk
  replace hS := Sep.leave (As := []) hS hC20; simp only [List.cons_append, List.nil_append] at hS
  refine q_assign rfl rfl ?_
  refine eseq_nil ?_
  refine hK19 _ _ ?_
  refine e_seq fun K24 hK24 => ?_
  refine e_region_text rfl ?_
  refine q_move rfl rfl ?_
  obtain ⟨r26, hr26, h⟩ := Option.of_bind h
  refine q_call rfl (make_Codes_Next_w (Sep.enter (As := [_]) hS) f23 hr26) rfl ?_
  rintro _ w25 ⟨R25, rfl, hC25⟩
  refine ⟨(fun h => by cases h), ?_⟩
  have hk25 := hC25.keptR (Sep.offFeet (As := [_]) hS)
  replace f23 := (f23.kept hk25).mono fun k hk _ => hC25.ro0 k hk
  replace hS := Sep.leave (As := [_]) hS hC25; simp only [List.cons_append, List.nil_append] at hS
  refine q_addW rfl rfl rfl ?_
  refine q_move rfl rfl ?_
  obtain ⟨r28, hr28, h⟩ := Option.of_bind h
  refine q_call rfl (make_Codes_Next_w (Sep.enter (As := [_]) hS) f23 hr28) rfl ?_
  rintro _ w27 ⟨R27, rfl, hC27⟩
  refine ⟨(fun h => by cases h), ?_⟩
  have hk27 := hC27.keptR (Sep.offFeet (As := [_]) hS)
  replace f23 := (f23.kept hk27).mono fun k hk _ => hC27.ro0 k hk
  replace hS := Sep.leave (As := [_]) hS hC27; simp only [List.cons_append, List.nil_append] at hS
  refine q_addW rfl rfl rfl ?_
  refine q_assign rfl rfl ?_
  refine q_assign rfl rfl ?_
  refine eseq_nil ?_
  refine hK24 _ _ ?_
  refine e_seq fun K29 hK29 => ?_
  refine e_region_text rfl ?_
  refine q_move rfl rfl ?_
  refine q_move rfl rfl ?_
  refine q_move rfl rfl ?_
  refine q_move rfl rfl ?_
  obtain ⟨r31, hr31, h⟩ := Option.of_bind h
  refine q_call rfl (make_Codes_Acts_w (Sep.enter (As := [_]) hS) f23 hr31) rfl ?_
  rintro v32 w30 ⟨_, R30, rfl, hC30⟩
  refine ⟨(fun h => by cases h), ?_⟩
  have hk30 := hC30.keptR (Sep.offFeet (As := [_]) hS)
  replace f23 := (f23.kept hk30).mono fun k hk _ => hC30.ro0 k hk
  replace hS := Sep.leave (As := [_]) hS hC30; simp only [List.cons_append, List.nil_append] at hS
  refine q_assign rfl rfl ?_
  refine q_assign rfl rfl ?_
  refine q_assign rfl rfl ?_
  refine eseq_nil ?_
  refine hK29 _ _ ?_
  refine e_ret ?_
  obtain rfl := Option.some.inj h
  exact ⟨_, res3 rfl rfl rfl rfl, v32, _, rfl, (hS.pickB [1] 2 rfl rfl)⟩
theorem law26_sound_w {F R : Nat → Prop} {w : World} {fuel : Nat} {a0 : Hist} {a1 : Int} {v1 : Value} {v2 : Value} {v3 : Value} {v4 : Value} {v5 : Value} {v6 : Value} {r : (Bool)} (hS : Sep F R R w w []) (f1 : IsSlice Ty.int w R v1 a0.pat.lens) (f2 : IsSlice (Ty.slice Ty.int) w R v2 a0.pat.ckpts) (f3 : IsSlice arcTy w R v3 a0.pat.arcs) (f4 : IsSlice (Ty.slice Ty.int) w R v4 a0.clocks) (f5 : IsSlice (Ty.slice (Ty.slice Ty.int)) w R v5 a0.vecs) (f6 : IsSlice (Ty.slice Ty.bool) w R v6 a0.forced) (h : law26_sound fuel a0 a1 = some r) :
    Gives Try.prog 17 [.agg #[v1, v2, v3, v4, v5, v6], .int .i64 a1] w fun u w1 => ∃ (R1 : Nat → Prop), u = .bool r ∧ Sep F R R1 w w1 [] := by
  refine fn_of Try.func17 rfl Try.ntmps17 (Nat.le_of_ble_eq_true rfl) ?_
  unfold law26_sound at h
  refine e_seq fun K163 hK163 => ?_
  refine e_region_text rfl ?_
  refine q_boxB rfl rfl rfl fun w164 bl164 hg164 hb164 hB164 => ?_
  replace f1 := f1.ext hB164
  replace f2 := f2.ext hB164
  replace f3 := f3.ext hB164
  replace f4 := f4.ext hB164
  replace f5 := f5.ext hB164
  replace f6 := f6.ext hB164
  replace hS := hS.newBlk hB164 hg164 hb164
  refine q_assign rfl rfl ?_
  refine eseq_nil ?_
  refine hK163 _ _ ?_
  refine e_seq fun K166 hK166 => ?_
  refine e_seq fun K167 hK167 => ?_
  refine e_region_text rfl ?_
  refine q_field rfl rfl ?_
  refine q_field rfl rfl ?_
  refine q_load rfl (Blk.cell (hS.blk 0 rfl) rfl) rfl ?_
  refine q_lenS rfl f1 rfl ?_
  refine q_move rfl rfl ?_
  refine q_neq rfl rfl rfl ?_
  refine q_move rfl rfl ?_
  obtain ⟨x171, hx170, h⟩ := Option.of_bind h
  refine g_orM 6 hx170 rfl trivial rfl rfl ?_ ?_ ?_
  · intro hg170
    refine g_skip rfl rfl rfl ?_
    refine g_skip rfl rfl rfl ?_
    refine g_skip rfl rfl rfl ?_
    refine g_skip rfl rfl rfl ?_
    refine g_skip rfl rfl rfl ?_
    refine g_skip rfl rfl rfl ?_
    exact eseq_nil ⟨rfl, Sub.set rfl (Sub.set rfl (Sub.set rfl (Sub.set rfl (Sub.set rfl (Sub.set rfl (Sub.bool true rfl hg170))))))⟩
  · intro hg170 hx170
    clear h
    have hT170 := Below.refl (World.heap w164).size w164
    refine g_run rfl ?_; refine q_field rfl rfl ?_
    refine g_run rfl ?_; refine q_field rfl rfl ?_
    refine g_run rfl ?_; refine q_load rfl (Blk.cell (hS.blk 0 rfl) rfl) rfl ?_
    refine g_run rfl ?_; refine q_lenS rfl f2 rfl ?_
    refine g_run rfl ?_; refine q_move rfl rfl ?_
    refine g_run rfl ?_; refine q_neq rfl rfl rfl ?_
    cases hx170
    exact eseq_nil ⟨hT170, Sub.set rfl (Sub.set rfl (Sub.set rfl (Sub.set rfl (Sub.set rfl (Sub.set rfl (Sub.bool false rfl hg170)))))), rfl⟩
  intro wm170 hBm170; clear hx170
  replace hS := hS.below hBm170
  replace f1 := f1.ext hBm170
  replace f2 := f2.ext hBm170
  replace f3 := f3.ext hBm170
  replace f4 := f4.ext hBm170
  replace f5 := f5.ext hBm170
  replace f6 := f6.ext hBm170
  refine q_move rfl rfl ?_
  obtain ⟨x175, hx174, h⟩ := Option.of_bind h
  refine g_orM 5 hx174 rfl trivial rfl rfl ?_ ?_ ?_
  · intro hg174
    refine g_skip rfl rfl rfl ?_
    refine g_skip rfl rfl rfl ?_
    refine g_skip rfl rfl rfl ?_
    refine g_skip rfl rfl rfl ?_
    refine g_skip rfl rfl rfl ?_
    exact eseq_nil ⟨rfl, Sub.set rfl (Sub.set rfl (Sub.set rfl (Sub.set rfl (Sub.set rfl (Sub.bool true rfl hg174)))))⟩
  · intro hg174 hx174
    clear h
    have hT174 := Below.refl (World.heap wm170).size wm170
    refine g_run rfl ?_; refine q_field rfl rfl ?_
    refine g_run rfl ?_; refine q_load rfl (Blk.cell (hS.blk 0 rfl) rfl) rfl ?_
    refine g_run rfl ?_; refine q_lenS rfl f5 rfl ?_
    refine g_run rfl ?_; refine q_move rfl rfl ?_
    refine g_run rfl ?_; refine q_neq rfl rfl rfl ?_
    cases hx174
    exact eseq_nil ⟨hT174, Sub.set rfl (Sub.set rfl (Sub.set rfl (Sub.set rfl (Sub.set rfl (Sub.bool false rfl hg174))))), rfl⟩
  intro wm174 hBm174; clear hx174
  replace hS := hS.below hBm174
  replace f1 := f1.ext hBm174
  replace f2 := f2.ext hBm174
  replace f3 := f3.ext hBm174
  replace f4 := f4.ext hBm174
  replace f5 := f5.ext hBm174
  replace f6 := f6.ext hBm174
  refine q_move rfl rfl ?_
  obtain ⟨x179, hx178, h⟩ := Option.of_bind h
  refine g_orM 5 hx178 rfl trivial rfl rfl ?_ ?_ ?_
  · intro hg178
    refine g_skip rfl rfl rfl ?_
    refine g_skip rfl rfl rfl ?_
    refine g_skip rfl rfl rfl ?_
    refine g_skip rfl rfl rfl ?_
    refine g_skip rfl rfl rfl ?_
    exact eseq_nil ⟨rfl, Sub.set rfl (Sub.set rfl (Sub.set rfl (Sub.set rfl (Sub.set rfl (Sub.bool true rfl hg178)))))⟩
  · intro hg178 hx178
    clear h
    have hT178 := Below.refl (World.heap wm174).size wm174
    refine g_run rfl ?_; refine q_field rfl rfl ?_
    refine g_run rfl ?_; refine q_load rfl (Blk.cell (hS.blk 0 rfl) rfl) rfl ?_
    refine g_run rfl ?_; refine q_lenS rfl f6 rfl ?_
    refine g_run rfl ?_; refine q_move rfl rfl ?_
    refine g_run rfl ?_; refine q_neq rfl rfl rfl ?_
    cases hx178
    exact eseq_nil ⟨hT178, Sub.set rfl (Sub.set rfl (Sub.set rfl (Sub.set rfl (Sub.set rfl (Sub.bool false rfl hg178))))), rfl⟩
  intro wm178 hBm178; clear hx178
  replace hS := hS.below hBm178
  replace f1 := f1.ext hBm178
  replace f2 := f2.ext hBm178
  replace f3 := f3.ext hBm178
  replace f4 := f4.ext hBm178
  replace f5 := f5.ext hBm178
  replace f6 := f6.ext hBm178
  refine eseq_nil ?_
  refine hK167 _ _ ?_
  refine e_cond rfl (fun hc180 => ?_) (fun hc180 => ?_)
  · replace h := (if_pos hc180).symm.trans h
    refine e_seq fun K181 hK181 => ?_
    refine e_region_text rfl ?_
    refine q_assign rfl rfl ?_
    refine eseq_nil ?_
    refine hK181 _ _ ?_
    refine e_ret ?_
    obtain rfl := Option.some.inj h
    exact ⟨_, res1 rfl rfl, _, rfl, (hS.pickB [] 1 rfl rfl)⟩
  · replace h := (if_neg (not_true hc180)).symm.trans h
    refine e_skip ?_
    refine hK166 _ _ ?_
    refine e_seq fun K182 hK182 => ?_
    refine e_seq fun K183 hK183 => ?_
    refine e_region_text rfl ?_
    refine q_assign rfl rfl ?_
    refine eseq_nil ?_
    refine hK183 _ _ ?_
    refine e_block ?_
    obtain ⟨tl184, ht184, h⟩ := Option.of_bind h
    have hX184_0 : ∀ (R278 : Nat → Prop) (w279 : World) (E_ : Env), law26_sound_K1 fuel a0 = some r → Sep F R R278 w w279 [HP.blk bl164 [v1, v2, v3, v4, v5, v6] 35] → IsSlice Ty.int w279 R278 v1 a0.pat.lens → IsSlice (Ty.slice Ty.int) w279 R278 v2 a0.pat.ckpts → IsSlice arcTy w279 R278 v3 a0.pat.arcs → IsSlice (Ty.slice Ty.int) w279 R278 v4 a0.clocks → IsSlice (Ty.slice (Ty.slice Ty.int)) w279 R278 v5 a0.vecs → IsSlice (Ty.slice Ty.bool) w279 R278 v6 a0.forced → Sub [(2, .pointer (some ⟨bl164, 0, none⟩))] E_ → K182 E_ w279 := by
      intro R278 w279 E_ h hS f280 f281 f282 f283 f284 f285 hsub
      refine hK182 _ _ (e_sub hsub ?_); clear hsub
      unfold law26_sound_K1 at h
      refine e_seq fun K286 hK286 => ?_
      refine e_region_text rfl ?_
      refine q_field rfl rfl ?_
      refine q_loadAgg rfl (Blk.cellsAt (hS.blk 0 rfl) 0 3 rfl) rfl rfl ?_
      obtain ⟨r288, hr288, h⟩ := Option.of_bind h
      refine q_call rfl (ref16_Check_w (a0 := (⟨a0.pat.lens, a0.pat.ckpts, a0.pat.arcs⟩ : Pat)) (Sep.enter (As := []) hS) f280 f281 f282 hr288) rfl ?_
      rintro _ w287 ⟨R287, rfl, hC287⟩
      have hB287 : Below (World.heap w279).size w279 w287 := hC287.stepB0
      refine ⟨fun _ => .of_below hB287, ?_⟩
      replace f280 := (f280.ext hB287).mono fun k hk _ => hC287.ro0 k hk
      replace f281 := (f281.ext hB287).mono fun k hk _ => hC287.ro0 k hk
      replace f282 := (f282.ext hB287).mono fun k hk _ => hC287.ro0 k hk
      replace hS := Sep.leave (As := []) hS hC287; simp only [List.cons_append, List.nil_append] at hS
      refine q_eql rfl rfl rfl ?_
      refine q_assign rfl rfl ?_
      refine eseq_nil ?_
      refine hK286 _ _ ?_
      refine e_ret ?_
      obtain rfl := Option.some.inj h
      exact ⟨_, res1 rfl rfl, _, rfl, (hS.pickB [] 1 rfl rfl)⟩
    refine e_loop (fun m_ E_ w232 => ∃ (x239 : Int), ∃ (R231 : Nat → Prop), iter (fun s => law26_sound_B1 fuel a1 a0 s) m_ x239 = some tl184 ∧ Sep F R R231 w w232 [HP.blk bl164 [v1, v2, v3, v4, v5, v6] 35] ∧ IsSlice Ty.int w232 R231 v1 a0.pat.lens ∧ IsSlice (Ty.slice Ty.int) w232 R231 v2 a0.pat.ckpts ∧ IsSlice arcTy w232 R231 v3 a0.pat.arcs ∧ IsSlice (Ty.slice Ty.int) w232 R231 v4 a0.clocks ∧ IsSlice (Ty.slice (Ty.slice Ty.int)) w232 R231 v5 a0.vecs ∧ IsSlice (Ty.slice Ty.bool) w232 R231 v6 a0.forced ∧ E_ = [(1, .int .i64 a1), (2, .pointer (some ⟨bl164, 0, none⟩)), (5, .int .i64 x239)]) _ ⟨_, ⟨0, _, ht184, hS, f1, f2, f3, f4, f5, f6, rfl⟩, Sub.cons rfl (Sub.cons rfl (Sub.cons rfl (Sub.nil _)))⟩ ?_
    clear ht184 hS
    rintro m184 _ w232 ⟨x239, R231, ht184, hS, f233, f234, f235, f236, f237, f238, rfl⟩
    obtain ⟨m184, rfl, o184, ho184, ht184⟩ := iter_some ht184
    replace ho184 : law26_sound_B1 fuel a1 a0 x239 = some o184 := ho184
    unfold law26_sound_B1 at ho184
    refine e_seq fun K289 hK289 => ?_
    refine e_seq fun K290 hK290 => ?_
    refine e_region_text rfl ?_
    refine q_move rfl rfl ?_
    refine q_move rfl rfl ?_
    refine q_lss rfl rfl rfl ?_
    refine eseq_nil ?_
    refine hK290 _ _ ?_
    refine e_cond rfl (fun hc291 => ?_) (fun hc291 => ?_)
    · replace ho184 := (if_pos hc291).symm.trans ho184
      refine e_skip ?_
      refine hK289 _ _ ?_
      refine e_seq fun K292 hK292 => ?_
      refine e_block ?_
      refine e_seq fun K293 hK293 => ?_
      refine e_region_draw mixed (fun _ => False) [0, 1, 0, 7, 15, 31, 0, 64, 192, 0, 960, 1984, 4032, 8191, 16383, 32767, 65535, 32767, 262143, 524287, 1048575, 32767, 2129919, 6324223, 32767, 31490047, 65044479, 132153343, 268435455, 536870911] [] [0, 1, 2, 3, 4, 5, 6, 7, 8, 9, 10, 11, 12, 13, 14, 15, 16, 17, 18, 19, 20, 21, 22, 23, 24, 25, 26, 27, 28, 29] (by kernel_rfl) ?_
      refine q_field rfl rfl ?_
      refine q_load rfl (Blk.cell (hS.blk 0 rfl) rfl) rfl ?_
      refine q_move rfl rfl ?_
      obtain ⟨x294, hx294, ho184⟩ := Option.of_bind ho184
      refine q_atS (by infer_instance) rfl f237 rfl hx294 rfl fun b295 o295 hm295 f295 => ?_
      refine q_loadE rfl f295 rfl (fun v296 f296 => ?_)
      refine q_lenS rfl f296 rfl ?_
      refine q_field rfl rfl ?_
      refine q_field rfl rfl ?_
      refine q_load rfl (Blk.cell (hS.blk 0 rfl) rfl) rfl ?_
      refine q_move rfl rfl ?_
      obtain ⟨x297, hx297, ho184⟩ := Option.of_bind ho184
      refine q_atS (by infer_instance) rfl f234 rfl hx297 rfl fun b298 o298 hm298 f298 => ?_
      refine q_loadE rfl f298 rfl (fun v299 f299 => ?_)
      refine q_lenS rfl f299 rfl ?_
      refine q_neq rfl rfl rfl ?_
      refine q_move rfl rfl ?_
      obtain ⟨x309, hx308, ho184⟩ := Option.of_bind ho184
      refine g_orM 14 hx308 rfl trivial rfl rfl ?_ ?_ ?_
      · intro hg308
        refine g_skip rfl rfl rfl ?_
        refine g_skip rfl rfl rfl ?_
        refine g_skip rfl rfl rfl ?_
        refine g_skip rfl rfl rfl ?_
        refine g_skip rfl rfl rfl ?_
        refine g_skip rfl rfl rfl ?_
        refine g_skip rfl rfl rfl ?_
        refine g_skip rfl rfl rfl ?_
        refine g_skip rfl rfl rfl ?_
        refine g_skip rfl rfl rfl ?_
        refine g_skip rfl rfl rfl ?_
        refine g_skip rfl rfl rfl ?_
        refine g_skip rfl rfl rfl ?_
        refine g_skip rfl rfl rfl ?_
        exact eseq_nil ⟨rfl, Sub.set rfl (Sub.set rfl (Sub.set rfl (Sub.set rfl (Sub.set rfl (Sub.set rfl (Sub.set rfl (Sub.set rfl (Sub.set rfl (Sub.set rfl (Sub.set rfl (Sub.set rfl (Sub.set rfl (Sub.set rfl (Sub.bool true rfl hg308))))))))))))))⟩
      · intro hg308 hx308
        clear ho184
        have hT308 := Below.refl (World.heap w232).size w232
        refine g_run rfl ?_; refine q_field rfl rfl ?_
        refine g_run rfl ?_; refine q_load rfl (Blk.cell (hS.blk 0 rfl) rfl) rfl ?_
        refine g_run rfl ?_; refine q_move rfl rfl ?_
        obtain ⟨x310, hx310, hx308⟩ := Option.of_bind hx308
        refine g_run rfl ?_; refine q_atS (by infer_instance) rfl f238 rfl hx310 rfl fun b311 o311 hm311 f311 => ?_
        refine g_run rfl ?_; refine q_loadE rfl f311 rfl (fun v312 f312 => ?_)
        refine g_run rfl ?_; refine q_lenS rfl f312 rfl ?_
        refine g_run rfl ?_; refine q_field rfl rfl ?_
        refine g_run rfl ?_; refine q_field rfl rfl ?_
        refine g_run rfl ?_; refine q_load rfl (Blk.cell (hS.blk 0 rfl) rfl) rfl ?_
        refine g_run rfl ?_; refine q_move rfl rfl ?_
        obtain ⟨x313, hx313, hx308⟩ := Option.of_bind hx308
        refine g_run rfl ?_; refine q_atS (by infer_instance) rfl f234 rfl hx313 rfl fun b314 o314 hm314 f314 => ?_
        refine g_run rfl ?_; refine q_loadE rfl f314 rfl (fun v315 f315 => ?_)
        refine g_run rfl ?_; refine q_lenS rfl f315 rfl ?_
        refine g_run rfl ?_; refine q_neq rfl rfl rfl ?_
        cases hx308
        exact eseq_nil ⟨hT308, Sub.set rfl (Sub.set rfl (Sub.set rfl (Sub.set rfl (Sub.set rfl (Sub.set rfl (Sub.set rfl (Sub.set rfl (Sub.set rfl (Sub.set rfl (Sub.set rfl (Sub.set rfl (Sub.set rfl (Sub.set rfl (Sub.bool false rfl hg308)))))))))))))), rfl⟩
      intro wm308 hBm308; clear hx308
      replace hS := hS.below hBm308
      replace f233 := f233.ext hBm308
      replace f234 := f234.ext hBm308
      replace f235 := f235.ext hBm308
      replace f236 := f236.ext hBm308
      replace f237 := f237.ext hBm308
      replace f238 := f238.ext hBm308
      refine eseq_nil ?_
      refine hK293 _ _ ?_
      refine e_cond rfl (fun hc316 => ?_) (fun hc316 => ?_)
      · replace ho184 := (if_pos hc316).symm.trans ho184
        refine e_seq fun K317 hK317 => ?_
        refine e_region_text rfl ?_
        refine q_assign rfl rfl ?_
        refine eseq_nil ?_
        refine hK317 _ _ ?_
        refine e_ret ?_
        obtain rfl := Option.some.inj ho184
        obtain rfl := Option.some.inj ht184
        obtain rfl := Option.some.inj h
        exact ⟨_, res1 rfl rfl, _, rfl, (hS.pickB [] 1 rfl rfl)⟩
      · replace ho184 := (if_neg (not_true hc316)).symm.trans ho184
        refine e_skip ?_
        refine hK292 _ _ ?_
        refine e_region_text rfl ?_
        refine q_move rfl rfl ?_
        refine q_addW rfl rfl rfl ?_
        refine q_assign rfl rfl ?_
        refine eseq_nil ?_
        obtain rfl := Option.some.inj ho184
        exact ⟨m184, _, Nat.lt_succ_self _, ⟨(w64 (x239 + 1)), _, ht184, hS, f233, f234, f235, f236, f237, f238, rfl⟩, Sub.cons rfl (Sub.cons rfl (Sub.cons rfl (Sub.nil _)))⟩
    · replace ho184 := (if_neg (not_true hc291)).symm.trans ho184
      refine e_exit ?_
      obtain rfl := Option.some.inj ho184
      obtain rfl := Option.some.inj ht184
      exact hX184_0  _ _ _ h hS f233 f234 f235 f236 f237 f238 (Sub.cons rfl (Sub.nil _))
theorem law26_some_w {F R : Nat → Prop} {w : World} {fuel : Nat} {a0 : Hist} {v1 : Value} {v2 : Value} {v3 : Value} {v4 : Value} {v5 : Value} {v6 : Value} {r : (Bool)} (hS : Sep F R R w w []) (f1 : IsSlice Ty.int w R v1 a0.pat.lens) (f2 : IsSlice (Ty.slice Ty.int) w R v2 a0.pat.ckpts) (f3 : IsSlice arcTy w R v3 a0.pat.arcs) (f4 : IsSlice (Ty.slice Ty.int) w R v4 a0.clocks) (f5 : IsSlice (Ty.slice (Ty.slice Ty.int)) w R v5 a0.vecs) (f6 : IsSlice (Ty.slice Ty.bool) w R v6 a0.forced) (h : law26_some fuel a0 = some r) :
    Gives Try.prog 19 [.agg #[v1, v2, v3, v4, v5, v6]] w fun u w1 => ∃ (R1 : Nat → Prop), u = .bool r ∧ Sep F R R1 w w1 [] := by
  refine fn_of Try.func19 rfl Try.ntmps19 (Nat.le_of_ble_eq_true rfl) ?_
  unfold law26_some at h
  refine e_seq fun K334 hK334 => ?_
  refine e_region_text rfl ?_
  refine q_boxB rfl rfl rfl fun w335 bl335 hg335 hb335 hB335 => ?_
  replace f1 := f1.ext hB335
  replace f2 := f2.ext hB335
  replace f3 := f3.ext hB335
  replace f4 := f4.ext hB335
  replace f5 := f5.ext hB335
  replace f6 := f6.ext hB335
  replace hS := hS.newBlk hB335 hg335 hb335
  refine q_assign rfl rfl ?_
  refine eseq_nil ?_
  refine hK334 _ _ ?_
  refine e_seq fun K337 hK337 => ?_
  refine e_seq fun K338 hK338 => ?_
  refine e_region_text rfl ?_
  refine q_assign rfl rfl ?_
  refine eseq_nil ?_
  refine hK338 _ _ ?_
  refine e_block ?_
  obtain ⟨tl339, ht339, h⟩ := Option.of_bind h
  have hX339_0 : ∀ (R563 : Nat → Prop) (w564 : World) (E_ : Env), law26_some_K1 fuel = some r → Sep F R R563 w w564 [] → Sub [] E_ → K337 E_ w564 := by
    intro R563 w564 E_ h hS  hsub
    refine hK337 _ _ (e_sub hsub ?_); clear hsub
    unfold law26_some_K1 at h
    refine e_seq fun K565 hK565 => ?_
    refine e_region_text rfl ?_
    refine q_assign rfl rfl ?_
    refine eseq_nil ?_
    refine hK565 _ _ ?_
    refine e_ret ?_
    obtain rfl := Option.some.inj h
    exact ⟨_, res1 rfl rfl, _, rfl, hS⟩
  refine e_loop (fun m_ E_ w452 => ∃ (x459 : Int), ∃ (R451 : Nat → Prop), iter (fun s => law26_some_B1 fuel a0 s) m_ x459 = some tl339 ∧ Sep F R R451 w w452 [HP.blk bl335 [v1, v2, v3, v4, v5, v6] 35] ∧ IsSlice Ty.int w452 R451 v1 a0.pat.lens ∧ IsSlice (Ty.slice Ty.int) w452 R451 v2 a0.pat.ckpts ∧ IsSlice arcTy w452 R451 v3 a0.pat.arcs ∧ IsSlice (Ty.slice Ty.int) w452 R451 v4 a0.clocks ∧ IsSlice (Ty.slice (Ty.slice Ty.int)) w452 R451 v5 a0.vecs ∧ IsSlice (Ty.slice Ty.bool) w452 R451 v6 a0.forced ∧ E_ = [(1, .pointer (some ⟨bl335, 0, none⟩)), (3, .int .i64 x459)]) _ ⟨_, ⟨0, _, ht339, hS, f1, f2, f3, f4, f5, f6, rfl⟩, Sub.cons rfl (Sub.cons rfl (Sub.nil _))⟩ ?_
  clear ht339 hS
  rintro m339 _ w452 ⟨x459, R451, ht339, hS, f453, f454, f455, f456, f457, f458, rfl⟩
  obtain ⟨m339, rfl, o339, ho339, ht339⟩ := iter_some ht339
  replace ho339 : law26_some_B1 fuel a0 x459 = some o339 := ho339
  unfold law26_some_B1 at ho339
  refine e_seq fun K566 hK566 => ?_
  refine e_seq fun K567 hK567 => ?_
  refine e_region_text rfl ?_
  refine q_move rfl rfl ?_
  refine q_field rfl rfl ?_
  refine q_load rfl (Blk.cell (hS.blk 0 rfl) rfl) rfl ?_
  refine q_lenS rfl f458 rfl ?_
  refine q_lss rfl rfl rfl ?_
  refine eseq_nil ?_
  refine hK567 _ _ ?_
  refine e_cond rfl (fun hc568 => ?_) (fun hc568 => ?_)
  · replace ho339 := (if_pos hc568).symm.trans ho339
    refine e_skip ?_
    refine hK566 _ _ ?_
    refine e_seq fun K569 hK569 => ?_
    refine e_block ?_
    refine e_seq fun K570 hK570 => ?_
    refine e_region_text rfl ?_
    refine q_assign rfl rfl ?_
    refine eseq_nil ?_
    refine hK570 _ _ ?_
    refine e_block ?_
    obtain ⟨tl571, ht571, ho339⟩ := Option.of_bind ho339
    have hX571_2 : ∀ (R637 : Nat → Prop) (w638 : World) (E_ : Env), law26_some_K2 fuel x459 = some o339 → Sep F R R637 w w638 [HP.blk bl335 [v1, v2, v3, v4, v5, v6] 35] → IsSlice Ty.int w638 R637 v1 a0.pat.lens → IsSlice (Ty.slice Ty.int) w638 R637 v2 a0.pat.ckpts → IsSlice arcTy w638 R637 v3 a0.pat.arcs → IsSlice (Ty.slice Ty.int) w638 R637 v4 a0.clocks → IsSlice (Ty.slice (Ty.slice Ty.int)) w638 R637 v5 a0.vecs → IsSlice (Ty.slice Ty.bool) w638 R637 v6 a0.forced → Sub [(1, .pointer (some ⟨bl335, 0, none⟩)), (3, .int .i64 x459)] E_ → K569 E_ w638 := by
      intro R637 w638 E_ ho339 hS f639 f640 f641 f642 f643 f644 hsub
      refine hK569 _ _ (e_sub hsub ?_); clear hsub
      unfold law26_some_K2 at ho339
      refine e_region_text rfl ?_
      refine q_move rfl rfl ?_
      refine q_addW rfl rfl rfl ?_
      refine q_assign rfl rfl ?_
      refine eseq_nil ?_
      obtain rfl := Option.some.inj ho339
      exact ⟨m339, _, Nat.lt_succ_self _, ⟨(w64 (x459 + 1)), _, ht339, hS, f639, f640, f641, f642, f643, f644, rfl⟩, Sub.cons rfl (Sub.cons rfl (Sub.nil _))⟩
    refine e_loop (fun m_ E_ w605 => ∃ (x612 : Int), ∃ (R604 : Nat → Prop), iter (fun s => law26_some_B2 fuel a0 x459 s) m_ x612 = some tl571 ∧ Sep F R R604 w w605 [HP.blk bl335 [v1, v2, v3, v4, v5, v6] 35] ∧ IsSlice Ty.int w605 R604 v1 a0.pat.lens ∧ IsSlice (Ty.slice Ty.int) w605 R604 v2 a0.pat.ckpts ∧ IsSlice arcTy w605 R604 v3 a0.pat.arcs ∧ IsSlice (Ty.slice Ty.int) w605 R604 v4 a0.clocks ∧ IsSlice (Ty.slice (Ty.slice Ty.int)) w605 R604 v5 a0.vecs ∧ IsSlice (Ty.slice Ty.bool) w605 R604 v6 a0.forced ∧ E_ = [(1, .pointer (some ⟨bl335, 0, none⟩)), (3, .int .i64 x459), (4, .int .i64 x612)]) _ ⟨_, ⟨0, _, ht571, hS, f453, f454, f455, f456, f457, f458, rfl⟩, Sub.cons rfl (Sub.cons rfl (Sub.cons rfl (Sub.nil _)))⟩ ?_
    clear ht571 hS
    rintro m571 _ w605 ⟨x612, R604, ht571, hS, f606, f607, f608, f609, f610, f611, rfl⟩
    obtain ⟨m571, rfl, o571, ho571, ht571⟩ := iter_some ht571
    replace ho571 : law26_some_B2 fuel a0 x459 x612 = some o571 := ho571
    unfold law26_some_B2 at ho571
    refine e_seq fun K645 hK645 => ?_
    refine e_seq fun K646 hK646 => ?_
    refine e_region_text rfl ?_
    refine q_move rfl rfl ?_
    refine q_field rfl rfl ?_
    refine q_load rfl (Blk.cell (hS.blk 0 rfl) rfl) rfl ?_
    refine q_move rfl rfl ?_
    obtain ⟨x647, hx647, ho571⟩ := Option.of_bind ho571
    refine q_atS (by infer_instance) rfl f611 rfl hx647 rfl fun b648 o648 hm648 f648 => ?_
    refine q_loadE rfl f648 rfl (fun v649 f649 => ?_)
    refine q_lenS rfl f649 rfl ?_
    refine q_lss rfl rfl rfl ?_
    refine eseq_nil ?_
    refine hK646 _ _ ?_
    refine e_cond rfl (fun hc650 => ?_) (fun hc650 => ?_)
    · replace ho571 := (if_pos hc650).symm.trans ho571
      refine e_skip ?_
      refine hK645 _ _ ?_
      refine e_seq fun K651 hK651 => ?_
      refine e_block ?_
      refine e_seq fun K652 hK652 => ?_
      refine e_region_text rfl ?_
      refine q_field rfl rfl ?_
      refine q_load rfl (Blk.cell (hS.blk 0 rfl) rfl) rfl ?_
      refine q_move rfl rfl ?_
      obtain ⟨x653, hx653, ho571⟩ := Option.of_bind ho571
      refine q_atS (by infer_instance) rfl f611 rfl hx653 rfl fun b654 o654 hm654 f654 => ?_
      refine q_loadE rfl f654 rfl (fun v655 f655 => ?_)
      refine q_move rfl rfl ?_
      obtain ⟨x656, hx656, ho571⟩ := Option.of_bind ho571
      refine q_atS (by infer_instance) rfl f655 rfl hx656 rfl fun b657 o657 hm657 f657 => ?_
      refine q_load rfl (Elt.boolCell f657) rfl ?_
      refine eseq_nil ?_
      refine hK652 _ _ ?_
      refine e_cond rfl (fun hc658 => ?_) (fun hc658 => ?_)
      · replace ho571 := (if_pos hc658).symm.trans ho571
        refine e_seq fun K659 hK659 => ?_
        refine e_region_text rfl ?_
        refine q_assign rfl rfl ?_
        refine eseq_nil ?_
        refine hK659 _ _ ?_
        refine e_ret ?_
        obtain rfl := Option.some.inj ho571
        obtain rfl := Option.some.inj ht571
        obtain rfl := Option.some.inj ho339
        obtain rfl := Option.some.inj ht339
        obtain rfl := Option.some.inj h
        exact ⟨_, res1 rfl rfl, _, rfl, (hS.pickB [] 1 rfl rfl)⟩
      · replace ho571 := (if_neg (not_true hc658)).symm.trans ho571
        refine e_skip ?_
        refine hK651 _ _ ?_
        refine e_region_text rfl ?_
        refine q_move rfl rfl ?_
        refine q_addW rfl rfl rfl ?_
        refine q_assign rfl rfl ?_
        refine eseq_nil ?_
        obtain rfl := Option.some.inj ho571
        exact ⟨m571, _, Nat.lt_succ_self _, ⟨(w64 (x612 + 1)), _, ht571, hS, f606, f607, f608, f609, f610, f611, rfl⟩, Sub.cons rfl (Sub.cons rfl (Sub.cons rfl (Sub.nil _)))⟩
    · replace ho571 := (if_neg (not_true hc650)).symm.trans ho571
      refine e_exit ?_
      obtain rfl := Option.some.inj ho571
      obtain rfl := Option.some.inj ht571
      exact hX571_2  _ _ _ ho339 hS f606 f607 f608 f609 f610 f611 (Sub.cons rfl (Sub.cons rfl (Sub.nil _)))
  · replace ho339 := (if_neg (not_true hc568)).symm.trans ho339
    refine e_exit ?_
    obtain rfl := Option.some.inj ho339
    obtain rfl := Option.some.inj ht339
    exact hX339_0  _ _ _ h (hS.pickB [] 1 rfl rfl)  (Sub.nil _)
end Go.Proofs.Ytbmjcbhappjnaaa
