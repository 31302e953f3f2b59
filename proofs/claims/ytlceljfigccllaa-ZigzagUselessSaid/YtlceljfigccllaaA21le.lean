/- Printed walks: A21le. -/
import Derived.Test.YtlceljfigccllaaA21m
import Derived.Test.YtlceljfigccllaaA19r
set_option linter.unusedVariables false
set_option linter.unusedSimpArgs false
namespace Go.Mine
open Go.RowKit
def law21_ZigzagUseless_K1 (fuel : Nat) (r151 : ((List Int) × Bool)) (x210 : Bool) : Option (Bool) :=
  some (r151.2 != x210)
def law21_ZigzagUseless_B1 (fuel : Nat) (r157 : ((List Pt))) (x141 : Pt) (x185 : Bool) (x187 : Int) : Option ((Bool × Int) ⊕ (Bool)) :=
  (if (decide (x187 < (r157.length : Int))) = true then (ati r157 x187).bind fun x217 => (orM x185 (some ((x141.proc == x217.proc) && ((x141.index == x217.index) && true)))).bind fun x226 => some (Sum.inl (x226, (w64 (x187 + 1)))) else some (Sum.inr x185))
def law21_ZigzagUseless (fuel : Nat) (a0 : (List Int)) (a1 : Int) : Option (Bool) :=
  (law21_awake fuel).bind fun r119 => (if (!r119) = true then some false else (make_New fuel a0 240).bind fun r124 => (make_Codes_Pattern fuel 20 r124.1 r124.2).bind fun r128 => (ref19_All fuel (⟨r128.1.lens, r128.1.ckpts, r128.1.arcs⟩ : Pat)).bind fun r137 => (remI (w64 a1) (r137.length : Int)).bind fun x140 => (ati r137 x140).bind fun x141 => (zigzag_Extension fuel (⟨r128.1.lens, r128.1.ckpts, r128.1.arcs⟩ : Pat) ([(⟨x141.proc, x141.index⟩ : Pt)])).bind fun r151 => (zigzag_Useless fuel (⟨r128.1.lens, r128.1.ckpts, r128.1.arcs⟩ : Pat)).bind fun r157 => (iter (fun s => law21_ZigzagUseless_B1 fuel r157 x141 s.1 s.2) fuel (false, 0)).bind (fun t => law21_ZigzagUseless_K1 fuel r151 t))
end Go.Mine
namespace Go.Proofs.Ytlceljfigccllaa
open Go.RowKit Go.Mine
attribute [local irreducible] eseq ewp iter
theorem law21_ZigzagUseless_w {F R : Nat → Prop} {w : World} {fuel : Nat} {a0 : (List Int)} {a1 : Int} {v1 : Value} {r : (Bool)} (hS : Sep F R R w w []) (f1 : IsSlice Ty.u8 w R v1 a0) (h : law21_ZigzagUseless fuel a0 a1 = some r) :
    Gives Try.prog 6 [v1, .int .u8 a1] w fun u w1 => ∃ (R1 : Nat → Prop), u = .bool r ∧ Sep F R R1 w w1 [] := by
  refine fn_of Try.func6 rfl Try.ntmps6 (Nat.le_of_ble_eq_true rfl) ?_
  unfold law21_ZigzagUseless at h
  refine e_seq fun K115 hK115 => ?_
  refine e_region_text rfl ?_
  refine q_assign rfl rfl ?_
  refine eseq_nil ?_
  refine hK115 _ _ ?_
  refine e_seq fun K116 hK116 => ?_
  refine e_seq fun K117 hK117 => ?_
  refine e_region_text rfl ?_
  obtain ⟨r119, hr119, h⟩ := Option.of_bind h
  refine q_call rfl (law21_awake_w (Sep.enter (As := []) hS)  hr119) rfl ?_
  rintro _ w118 ⟨R118, rfl, hC118⟩
  have hB118 : Below (World.heap w).size w w118 := hC118.stepB0
  refine ⟨fun _ => .of_below hB118, ?_⟩
  replace f1 := (f1.ext hB118).mono fun k hk _ => hC118.ro0 k hk
  replace hS := Sep.leave (As := []) hS hC118; simp only [List.cons_append, List.nil_append] at hS
  refine q_not rfl rfl ?_
  refine eseq_nil ?_
  refine hK117 _ _ ?_
  refine e_cond rfl (fun hc120 => ?_) (fun hc120 => ?_)
  · replace h := (if_pos hc120).symm.trans h
    refine e_seq fun K121 hK121 => ?_
    refine e_region_text rfl ?_
    refine q_assign rfl rfl ?_
    refine eseq_nil ?_
    refine hK121 _ _ ?_
    refine e_ret ?_
    obtain rfl := Option.some.inj h
    exact ⟨_, res1 rfl rfl, _, rfl, hS⟩
  · replace h := (if_neg (not_true hc120)).symm.trans h
    refine e_skip ?_
    refine hK116 _ _ ?_
    refine e_seq fun K122 hK122 => ?_
    refine e_region_text rfl ?_
    refine q_move rfl rfl ?_
    obtain ⟨r124, hr124, h⟩ := Option.of_bind h
    refine q_call rfl (make_New_w (Sep.enter (As := []) hS) f1 hr124) rfl ?_
    rintro _ w123 ⟨B125, v126, R123, rfl, hC123, f126⟩
    have hB123 : Below (World.heap w118).size w118 w123 := hC123.stepB0
    refine ⟨fun _ => .of_below hB123, ?_⟩
    replace f1 := (f1.ext hB123).mono fun k hk _ => hC123.ro0 k hk
    replace hS := Sep.leave (As := []) hS hC123; simp only [List.cons_append, List.nil_append] at hS
    obtain ⟨r128, hr128, h⟩ := Option.of_bind h
    refine q_call rfl (make_Codes_Pattern_w (Sep.enter (As := [_]) hS) f126 hr128) rfl ?_
    rintro _ w127 ⟨v129, v130, v131, R127, rfl, hC127, f129, f130⟩
    refine ⟨(fun h => by cases h), ?_⟩
    have hk127 := hC127.keptR (Sep.offFeet (As := [_]) hS)
    replace f126 := (f126.kept hk127).mono fun k hk _ => hC127.ro0 k hk
    replace hS := Sep.leave (As := [_]) hS hC127; simp only [List.cons_append, List.nil_append] at hS
    refine q_allocB rfl fun w132 bl132 hg132 hb132 hB132 => ?_
    replace f129 := f129.ext hB132
    replace f130 := f130.ext hB132
    replace hS := hS.newBlk hB132 hg132 hb132
    refine q_storeAgg rfl rfl (hS.blk 0 rfl) rfl (Nat.le_of_ble_eq_true rfl) (all_cons f129.one (all_cons f130.one (all_cons (hS.own 2 rfl).one (all_nil)))) rfl rfl fun w134 hb134 hO134 => ?_
    simp only [setN, List.set, List.take, List.drop] at hb134
    have hk134 := hS.keptBlk 0 rfl hO134
    replace f129 := f129.kept hk134
    replace f130 := f130.kept hk134
    replace hS := hS.setBlk 0 rfl hb134 hO134; simp only [List.set] at hS
    refine eseq_nil ?_
    refine hK122 _ _ ?_
    refine e_seq fun K135 hK135 => ?_
    refine e_region_text rfl ?_
    refine q_loadAgg rfl (Blk.cellsAt (hS.blk 0 rfl) 0 3 rfl) rfl rfl ?_
    obtain ⟨r137, hr137, h⟩ := Option.of_bind h
    refine q_call rfl (ref19_All_w (a0 := (⟨r128.1.lens, r128.1.ckpts, r128.1.arcs⟩ : Pat)) (Sep.all w134) (f129).old (f130).old ((hS.isl 2 rfl)).old hr137) rfl ?_
    rintro v138 w136 ⟨_, R136, rfl, hC136⟩
    have hB136 : Below (World.heap w134).size w134 w136 := hC136.stepBF
    refine ⟨fun _ => .of_below hB136, ?_⟩
    replace f129 := f129.ext hB136
    replace f130 := f130.ext hB136
    replace hS := hS.newOwnS hB136 (hC136.own 0 rfl) (hC136.fresh 0 rfl) (fun _ h => h.elim)
    refine q_assign rfl rfl ?_
    refine eseq_nil ?_
    refine hK135 _ _ ?_
    refine e_seq fun K139 hK139 => ?_
    refine e_region_text rfl ?_
    refine q_move rfl rfl ?_
    refine q_move rfl rfl ?_
    refine q_conv64 rfl rfl ?_
    refine q_move rfl rfl ?_
    refine q_lenS rfl (hS.isl 0 rfl) rfl ?_
    obtain ⟨x140, hx140, h⟩ := Option.of_bind h
    refine q_remM rfl rfl hx140 rfl ?_
    obtain ⟨x141, hx141, h⟩ := Option.of_bind h
    refine q_indexO (by infer_instance) rfl (hS.own 0 rfl) rfl hx141 rfl ?_
    have f142 := (hS.ownR 0 rfl).elt hx141
    have hc143 := Pt_open f142
    refine q_loadAgg rfl hc143 rfl rfl ?_
    refine q_allocB rfl fun w144 bl144 hg144 hb144 hB144 => ?_
    replace f129 := f129.ext hB144
    replace f130 := f130.ext hB144
    replace hS := hS.newBlk hB144 hg144 hb144
    refine q_storeAgg rfl rfl (hS.blk 0 rfl) rfl (Nat.le_of_ble_eq_true rfl) (all_cons rfl (all_cons rfl (all_nil))) rfl rfl fun w146 hb146 hO146 => ?_
    simp only [setN, List.set, List.take, List.drop] at hb146
    have hk146 := hS.keptBlk 0 rfl hO146
    replace f129 := f129.kept hk146
    replace f130 := f130.kept hk146
    replace hS := hS.setBlk 0 rfl hb146 hO146; simp only [List.set] at hS
    refine eseq_nil ?_
    refine hK139 _ _ ?_
    refine e_seq fun K147 hK147 => ?_
    refine e_region_text rfl ?_
    refine q_loadAgg rfl (Blk.cellsAt (hS.blk 2 rfl) 0 3 rfl) rfl rfl ?_
    refine q_loadAgg rfl (Blk.cellsAt (hS.blk 0 rfl) 0 2 rfl) rfl rfl ?_
    refine q_litO (T := ptTy) (S := (fun _ => False)) (cells := [[.int .i64 x141.proc, .int .i64 x141.index]]) (ys := [(⟨x141.proc, x141.index⟩ : Pt)]) ((Parts.cons rfl rfl Parts.nil)) rfl rfl rfl rfl rfl rfl rfl (fun w1 hB => ⟨⟨[_], _, rfl, rfl, rfl⟩, trivial⟩) (fun _ h => h.elim) rfl fun w148 v148 ho148 hv148 hB148 => ?_
    replace f129 := f129.ext hB148
    replace f130 := f130.ext hB148
    replace hS := hS.newOwnS hB148 ho148 hv148 (fun _ h => h.elim)
    obtain ⟨r151, hr151, h⟩ := Option.of_bind h
    refine q_call rfl (zigzag_Extension_w (a0 := (⟨r128.1.lens, r128.1.ckpts, r128.1.arcs⟩ : Pat)) (Sep.all w148) (f129).old (f130).old ((hS.isl 5 rfl)).old ((hS.isl 0 rfl)).old hr151) rfl ?_
    rintro _ w150 ⟨v152, R150, rfl, hC150⟩
    have hB150 : Below (World.heap w148).size w148 w150 := hC150.stepBF
    refine ⟨fun _ => .of_below hB150, ?_⟩
    replace f129 := f129.ext hB150
    replace f130 := f130.ext hB150
    replace hS := hS.newOwnS hB150 (hC150.own 0 rfl) (hC150.fresh 0 rfl) (fun _ h => h.elim)
    refine q_move rfl rfl ?_
    refine q_extract rfl rfl rfl ?_
    refine q_extract rfl rfl rfl ?_
    refine q_assign rfl rfl ?_
    refine q_assign rfl rfl ?_
    refine eseq_nil ?_
    refine hK147 _ _ ?_
    refine e_seq fun K153 hK153 => ?_
    refine e_region_text rfl ?_
    refine q_assign rfl rfl ?_
    refine eseq_nil ?_
    refine hK153 _ _ ?_
    refine e_seq fun K154 hK154 => ?_
    refine e_seq fun K155 hK155 => ?_
    refine e_region_text rfl ?_
    refine q_loadAgg rfl (Blk.cellsAt (hS.blk 4 rfl) 0 3 rfl) rfl rfl ?_
    obtain ⟨r157, hr157, h⟩ := Option.of_bind h
    refine q_call rfl (zigzag_Useless_w (a0 := (⟨r128.1.lens, r128.1.ckpts, r128.1.arcs⟩ : Pat)) (Sep.all w150) (f129).old (f130).old ((hS.isl 6 rfl)).old hr157) rfl ?_
    rintro v158 w156 ⟨_, R156, rfl, hC156⟩
    have hB156 : Below (World.heap w150).size w150 w156 := hC156.stepBF
    refine ⟨fun _ => .of_below hB156, ?_⟩
    replace f129 := f129.ext hB156
    replace f130 := f130.ext hB156
    replace hS := hS.newOwnS hB156 (hC156.own 0 rfl) (hC156.fresh 0 rfl) (fun _ h => h.elim)
    refine q_lenS rfl (hS.isl 0 rfl) rfl ?_
    refine q_move rfl rfl ?_
    refine eseq_nil ?_
    refine hK155 _ _ ?_
    refine e_block ?_
    obtain ⟨tl159, ht159, h⟩ := Option.of_bind h
    have hX159_0 : ∀ (x210 : Bool) (R208 : Nat → Prop) (w209 : World) (E_ : Env), law21_ZigzagUseless_K1 fuel r151 x210 = some r → Sep F R R208 w w209 [] → Sub [(9, .bool r151.2), (10, .bool x210)] E_ → K154 E_ w209 := by
      intro x210 R208 w209 E_ h hS  hsub
      refine hK154 _ _ (e_sub hsub ?_); clear hsub
      unfold law21_ZigzagUseless_K1 at h
      refine e_seq fun K211 hK211 => ?_
      refine e_region_text rfl ?_
      refine q_move rfl rfl ?_
      refine q_move rfl rfl ?_
      refine q_neqB rfl rfl rfl ?_
      refine q_assign rfl rfl ?_
      refine eseq_nil ?_
      refine hK211 _ _ ?_
      refine e_ret ?_
      obtain rfl := Option.some.inj h
      exact ⟨_, res1 rfl rfl, _, rfl, hS⟩
    refine e_loop (fun m_ E_ w184 => ∃ (x185 : Bool), ∃ (x187 : Int), ∃ (R183 : Nat → Prop), iter (fun s => law21_ZigzagUseless_B1 fuel r157 x141 s.1 s.2) m_ (x185, x187) = some tl159 ∧ Sep F R R183 w w184 [HP.blk bl144 [.int .i64 x141.proc, .int .i64 x141.index] 36, HP.own ptTy (fun _ => False) 36 v158 r157] ∧ E_ = [(7, .pointer (some ⟨bl144, 0, none⟩)), (9, .bool r151.2), (10, .bool x185), (36, v158), (37, .int .i64 (r157.length : Int)), (38, .int .i64 x187)]) _ ⟨_, ⟨false, 0, _, ht159, (hS.pickB [3, 0] 8 rfl rfl), rfl⟩, Sub.cons rfl (Sub.cons rfl (Sub.cons rfl (Sub.cons rfl (Sub.cons rfl (Sub.cons rfl (Sub.nil _))))))⟩ ?_
    clear ht159 hS
    rintro m159 _ w184 ⟨x185, x187, R183, ht159, hS, rfl⟩
    obtain ⟨m159, rfl, o159, ho159, ht159⟩ := iter_some ht159
    replace ho159 : law21_ZigzagUseless_B1 fuel r157 x141 x185 x187 = some o159 := ho159
    unfold law21_ZigzagUseless_B1 at ho159
    refine e_seq fun K212 hK212 => ?_
    refine e_region_text rfl ?_
    refine q_lss rfl rfl rfl ?_
    refine eseq_nil ?_
    refine hK212 _ _ ?_
    refine e_seq fun K213 hK213 => ?_
    refine e_cond rfl (fun hc214 => ?_) (fun hc214 => ?_)
    · replace ho159 := (if_pos hc214).symm.trans ho159
      refine e_skip ?_
      refine hK213 _ _ ?_
      refine e_seq fun K215 hK215 => ?_
      refine e_block ?_
      refine e_seq fun K216 hK216 => ?_
      refine e_region_text rfl ?_
      obtain ⟨x217, hx217, ho159⟩ := Option.of_bind ho159
      refine q_indexO (by infer_instance) rfl (hS.own 1 rfl) rfl hx217 rfl ?_
      have f218 := (hS.ownR 1 rfl).elt hx217
      have hc219 := Pt_open f218
      refine q_loadAgg rfl hc219 rfl rfl ?_
      refine q_allocB rfl fun w220 bl220 hg220 hb220 hB220 => ?_
      replace hS := hS.newBlk hB220 hg220 hb220
      refine q_storeAgg rfl rfl (hS.blk 0 rfl) rfl (Nat.le_of_ble_eq_true rfl) (all_cons rfl (all_cons rfl (all_nil))) rfl rfl fun w222 hb222 hO222 => ?_
      simp only [setN, List.set, List.take, List.drop] at hb222
      have hk222 := hS.keptBlk 0 rfl hO222
      replace hS := hS.setBlk 0 rfl hb222 hO222; simp only [List.set] at hS
      refine eseq_nil ?_
      refine hK216 _ _ ?_
      refine e_region_text rfl ?_
      refine q_move rfl rfl ?_
      refine q_move rfl rfl ?_
      obtain ⟨x226, hx225, ho159⟩ := Option.of_bind ho159
      refine g_orM 3 hx225 rfl trivial rfl rfl ?_ ?_ ?_
      · intro hg225
        refine g_skip rfl rfl rfl ?_
        refine g_skip rfl rfl rfl ?_
        refine g_skip rfl rfl rfl ?_
        exact eseq_nil ⟨rfl, Sub.set rfl (Sub.set rfl (Sub.set rfl (Sub.bool true rfl hg225)))⟩
      · intro hg225 hx225
        clear ho159
        have hT225 := Below.refl (World.heap w222).size w222
        refine g_run rfl ?_; refine q_loadAgg rfl (Blk.cellsAt (hS.blk 1 rfl) 0 2 rfl) rfl rfl ?_
        refine g_run rfl ?_; refine q_loadAgg rfl (Blk.cellsAt (hS.blk 0 rfl) 0 2 rfl) rfl rfl ?_
        refine g_run rfl ?_; refine q_eqlA eqT36 (by kernel_rfl) rfl rfl rfl ?_
        cases hx225
        exact eseq_nil ⟨hT225, Sub.set rfl (Sub.set rfl (Sub.set rfl (Sub.bool false rfl hg225))), rfl⟩
      intro wm225 hBm225; clear hx225
      replace hS := hS.below hBm225
      refine q_assign rfl rfl ?_
      refine eseq_nil ?_
      refine hK215 _ _ ?_
      refine e_region_text rfl ?_
      refine q_addW rfl rfl rfl ?_
      refine q_move rfl rfl ?_
      refine eseq_nil ?_
      obtain rfl := Option.some.inj ho159
      exact ⟨m159, _, Nat.lt_succ_self _, ⟨x226, (w64 (x187 + 1)), _, ht159, (hS.pickB [1, 2] 3 rfl rfl), rfl⟩, Sub.cons rfl (Sub.cons rfl (Sub.cons rfl (Sub.cons rfl (Sub.cons rfl (Sub.cons rfl (Sub.nil _))))))⟩
    · replace ho159 := (if_neg (not_true hc214)).symm.trans ho159
      refine e_exit ?_
      obtain rfl := Option.some.inj ho159
      obtain rfl := Option.some.inj ht159
      exact hX159_0 x185 _ _ _ h (hS.pickB [] 2 rfl rfl)  (Sub.cons rfl (Sub.cons rfl (Sub.nil _)))
end Go.Proofs.Ytlceljfigccllaa
