/- Printed walks: A18a. -/
import Derived.Test.YtbmjcbhappjnaaaA16
set_option linter.unusedVariables false
set_option linter.unusedSimpArgs false
namespace Go.Mine
open Go.RowKit
def Clone_Int (fuel : Nat) (a0 : List Int) : Option (List Int) := catL [] a0
def cut_Valid_K1 (fuel : Nat) : Option (Bool) :=
  some true
def cut_Valid_B1 (fuel : Nat) (a1 : (List Int)) (a0 : Pat) (x147 : Int) : Option ((Int) ⊕ (Unit ⊕ (Bool))) :=
  (if (decide (x147 < (a1.length : Int))) = true then (ati a1 x147).bind fun x181 => (orM (decide (x181 < 0)) ((ati a0.lens x147).bind fun x190 => some (decide (x190 < x181)))).bind fun x189 => (if x189 = true then some (Sum.inr (Sum.inr false)) else some (Sum.inl (w64 (x147 + 1)))) else some (Sum.inr (Sum.inl ())))
def cut_Valid (fuel : Nat) (a0 : Pat) (a1 : (List Int)) : Option (Bool) :=
  (if ((a1.length : Int) != (a0.lens.length : Int)) = true then some false else (iter (fun s => cut_Valid_B1 fuel a1 a0 s) fuel 0).bind (fun t => Sum.elim (fun t => cut_Valid_K1 fuel) (fun t => some t) t))
def cut_fits (fuel : Nat) (a0 : Pat) (a1 : (List Int)) : Option (Bool) :=
  (pattern_Check fuel (⟨a0.lens, a0.ckpts, a0.arcs⟩ : Pat)).bind fun r24 => (andM (r24 == 0) ((cut_Valid fuel (⟨a0.lens, a0.ckpts, a0.arcs⟩ : Pat) a1).bind fun r32 => some r32)).bind fun x30 => some x30
def cut_orphan (fuel : Nat) (a0 : Arc) (a1 : (List Int)) : Option (Bool) :=
  (andM (a0.rcv != 0) ((ati a1 a0.to).bind fun x32 => some (decide (a0.rcv ≤ x32)))).bind fun x31 => (andM x31 ((ati a1 a0.fr).bind fun x40 => some (decide (x40 < a0.ix)))).bind fun x39 => some x39
def cut_Orphans_K1 (fuel : Nat) (x220 : (List Int)) : Option ((List Int)) :=
  some x220
def cut_Orphans_B1 (fuel : Nat) (a0 : Pat) (a1 : (List Int)) (x180 : (List Int)) (x182 : Int) : Option (((List Int) × Int) ⊕ ((List Int))) :=
  (if (decide (x182 < (a0.arcs.length : Int))) = true then (ati a0.arcs x182).bind fun x228 => (cut_orphan fuel (⟨x228.fr, x228.ix, x228.to, x228.rcv⟩ : Arc) a1).bind fun r236 => (if r236 = true then (snoc x180 x182).bind fun x241 => some (Sum.inl (x241, (w64 (x182 + 1)))) else some (Sum.inl (x180, (w64 (x182 + 1))))) else some (Sum.inr x180))
def cut_Orphans (fuel : Nat) (a0 : Pat) (a1 : (List Int)) : Option ((List Int)) :=
  (cut_fits fuel (⟨a0.lens, a0.ckpts, a0.arcs⟩ : Pat) a1).bind fun r130 => (if (!r130) = true then some ([] : List Int) else (iter (fun s => cut_Orphans_B1 fuel a0 a1 s.1 s.2) fuel (([] : List Int), 0)).bind (fun t => cut_Orphans_K1 fuel t))
def cut_Consistent (fuel : Nat) (a0 : Pat) (a1 : (List Int)) : Option (Bool) :=
  (cut_fits fuel (⟨a0.lens, a0.ckpts, a0.arcs⟩ : Pat) a1).bind fun r26 => (andM r26 ((cut_Orphans fuel (⟨a0.lens, a0.ckpts, a0.arcs⟩ : Pat) a1).bind fun r35 => some ((r35.length : Int) == 0))).bind fun x33 => some x33
end Go.Mine
namespace Go.Proofs.Ytbmjcbhappjnaaa
open Go.RowKit Go.Mine
attribute [local irreducible] eseq ewp iter
theorem Clone_Int_w {F R : Nat → Prop} {w : World} {fuel : Nat} {a0 : List Int} {v1 : Value} {r : List Int} (hS : Sep F R R w w []) (f1 : IsSlice Ty.int w R v1 a0) (h : Clone_Int fuel a0 = some r) :
    Gives Try.prog 90 [v1] w fun u w1 => ∃ (v2 : Value), ∃ (R1 : Nat → Prop), u = v2 ∧ Sep F R R1 w w1 [HP.own Ty.int (fun _ => False) 3 v2 r] := by
  unfold Clone_Int at h
  have hx0 := f1
  obtain ⟨ad, c, rfl, hc0, hnil, -, -⟩ := hx0
  refine fn_of Try.func90 rfl Try.ntmps90 (Nat.le_of_ble_eq_true rfl) ?_
  refine e_seq fun K hK => ?_
  refine e_region_text rfl ?_
  refine q_assign rfl rfl ?_
  refine eseq_nil ?_
  refine hK _ _ ?_; clear hK
  refine e_seq fun K hK => ?_
  refine e_seq fun K hK => ?_
  refine e_region_text rfl ?_
  refine q_move rfl rfl ?_
  refine q_eqlNil rfl rfl rfl ?_
  refine eseq_nil ?_
  refine hK _ _ ?_; clear hK
  refine e_cond rfl (fun hb => ?_) (fun hb => ?_)
  · have e1 : ad = none := by simpa using hb
    have e2 := hnil e1
    have e3 : a0 = [] := List.eq_nil_of_length_eq_zero (by omega)
    subst e3
    obtain rfl := (catL_eq h).2
    refine e_seq fun K hK => ?_
    refine e_region_text rfl ?_
    refine q_assign rfl rfl ?_
    refine eseq_nil ?_
    refine hK _ _ ?_; clear hK
    refine e_ret ?_
    exact ⟨_, res1 rfl rfl, _, R, rfl, hS.nilOwn0 Ty.int 3⟩
  refine e_skip ?_
  refine hK _ _ ?_; clear hK
  refine e_seq fun K hK => ?_
  refine e_region_text rfl ?_
  refine q_slice0 rfl fun wz bz hgz hbz hBz => ?_
  replace f1 := f1.ext hBz
  replace hS := hS.newOwnS hBz (Own.empty Ty.int (S := (fun _ => False)) hbz (Nat.zero_le _)) (fun k hk => by cases hk; exact hgz) (fun _ h => h.elim)
  refine q_move rfl rfl ?_
  refine q_catE (T := Ty.int) rfl rfl rfl rfl (hS.own 0 rfl) rfl f1 h (Nat.zero_le _) rfl (fun h => by cases h) fun v7 w1 hw1 hgr1 hnw1 => ?_
  replace hS := hS.setOwn 0 rfl hw1 hgr1 hnw1; simp only [List.set] at hS
  refine q_assign rfl rfl ?_
  refine eseq_nil ?_
  refine hK _ _ ?_; clear hK
  refine e_ret ?_
  exact ⟨_, res1 rfl rfl, _, R, rfl, hS⟩
theorem cut_Valid_w {F R : Nat → Prop} {w : World} {fuel : Nat} {a0 : Pat} {a1 : (List Int)} {v1 : Value} {v2 : Value} {v3 : Value} {v4 : Value} {r : (Bool)} (hS : Sep F R R w w []) (f1 : IsSlice Ty.int w R v1 a0.lens) (f2 : IsSlice (Ty.slice Ty.int) w R v2 a0.ckpts) (f3 : IsSlice arcTy w R v3 a0.arcs) (f4 : IsSlice Ty.int w R v4 a1) (h : cut_Valid fuel a0 a1 = some r) :
    Gives Try.prog 27 [.agg #[v1, v2, v3], v4] w fun u w1 => ∃ (R1 : Nat → Prop), u = .bool r ∧ Sep F R R1 w w1 [] := by
  refine fn_of Try.func27 rfl Try.ntmps27 (Nat.le_of_ble_eq_true rfl) ?_
  unfold cut_Valid at h
  refine e_seq fun K100 hK100 => ?_
  refine e_region_text rfl ?_
  refine q_boxB rfl rfl rfl fun w101 bl101 hg101 hb101 hB101 => ?_
  replace f1 := f1.ext hB101
  replace f2 := f2.ext hB101
  replace f3 := f3.ext hB101
  replace f4 := f4.ext hB101
  replace hS := hS.newBlk hB101 hg101 hb101
  refine q_assign rfl rfl ?_
  refine eseq_nil ?_
  refine hK100 _ _ ?_
  refine e_seq fun K103 hK103 => ?_
  refine e_seq fun K104 hK104 => ?_
  refine e_region_text rfl ?_
  refine q_move rfl rfl ?_
  refine q_lenS rfl f4 rfl ?_
  refine q_field rfl rfl ?_
  refine q_load rfl (Blk.cell (hS.blk 0 rfl) rfl) rfl ?_
  refine q_lenS rfl f1 rfl ?_
  refine q_neq rfl rfl rfl ?_
  refine eseq_nil ?_
  refine hK104 _ _ ?_
  refine e_cond rfl (fun hc105 => ?_) (fun hc105 => ?_)
  · replace h := (if_pos hc105).symm.trans h
    refine e_seq fun K106 hK106 => ?_
    refine e_region_text rfl ?_
    refine q_assign rfl rfl ?_
    refine eseq_nil ?_
    refine hK106 _ _ ?_
    refine e_ret ?_
    obtain rfl := Option.some.inj h
    exact ⟨_, res1 rfl rfl, _, rfl, (hS.pickB [] 1 rfl rfl)⟩
  · replace h := (if_neg (not_true hc105)).symm.trans h
    refine e_skip ?_
    refine hK103 _ _ ?_
    refine e_seq fun K107 hK107 => ?_
    refine e_seq fun K108 hK108 => ?_
    refine e_region_text rfl ?_
    refine q_move rfl rfl ?_
    refine q_lenS rfl f4 rfl ?_
    refine q_move rfl rfl ?_
    refine eseq_nil ?_
    refine hK108 _ _ ?_
    refine e_block ?_
    obtain ⟨tl109, ht109, h⟩ := Option.of_bind h
    have hX109_0 : ∀ (R173 : Nat → Prop) (w174 : World) (E_ : Env), cut_Valid_K1 fuel = some r → Sep F R R173 w w174 [] → Sub [] E_ → K107 E_ w174 := by
      intro R173 w174 E_ h hS  hsub
      refine hK107 _ _ (e_sub hsub ?_); clear hsub
      unfold cut_Valid_K1 at h
      refine e_seq fun K175 hK175 => ?_
      refine e_region_text rfl ?_
      refine q_assign rfl rfl ?_
      refine eseq_nil ?_
      refine hK175 _ _ ?_
      refine e_ret ?_
      obtain rfl := Option.some.inj h
      exact ⟨_, res1 rfl rfl, _, rfl, hS⟩
    refine e_loop (fun m_ E_ w142 => ∃ (x147 : Int), ∃ (R141 : Nat → Prop), iter (fun s => cut_Valid_B1 fuel a1 a0 s) m_ x147 = some tl109 ∧ Sep F R R141 w w142 [HP.blk bl101 [v1, v2, v3] 31] ∧ IsSlice Ty.int w142 R141 v1 a0.lens ∧ IsSlice (Ty.slice Ty.int) w142 R141 v2 a0.ckpts ∧ IsSlice arcTy w142 R141 v3 a0.arcs ∧ IsSlice Ty.int w142 R141 v4 a1 ∧ E_ = [(2, .pointer (some ⟨bl101, 0, none⟩)), (13, v4), (14, .int .i64 (a1.length : Int)), (15, .int .i64 x147)]) _ ⟨_, ⟨0, _, ht109, hS, f1, f2, f3, f4, rfl⟩, Sub.cons rfl (Sub.cons rfl (Sub.cons rfl (Sub.cons rfl (Sub.nil _))))⟩ ?_
    clear ht109 hS
    rintro m109 _ w142 ⟨x147, R141, ht109, hS, f143, f144, f145, f146, rfl⟩
    obtain ⟨m109, rfl, o109, ho109, ht109⟩ := iter_some ht109
    replace ho109 : cut_Valid_B1 fuel a1 a0 x147 = some o109 := ho109
    unfold cut_Valid_B1 at ho109
    refine e_seq fun K176 hK176 => ?_
    refine e_region_text rfl ?_
    refine q_lss rfl rfl rfl ?_
    refine eseq_nil ?_
    refine hK176 _ _ ?_
    refine e_seq fun K177 hK177 => ?_
    refine e_cond rfl (fun hc178 => ?_) (fun hc178 => ?_)
    · replace ho109 := (if_pos hc178).symm.trans ho109
      refine e_skip ?_
      refine hK177 _ _ ?_
      refine e_seq fun K179 hK179 => ?_
      refine e_block ?_
      refine e_seq fun K180 hK180 => ?_
      refine e_region_text rfl ?_
      refine q_move rfl rfl ?_
      obtain ⟨x181, hx181, ho109⟩ := Option.of_bind ho109
      refine q_atS (by infer_instance) rfl f146 rfl hx181 rfl fun b182 o182 hm182 f182 => ?_
      refine q_load rfl (Elt.intCell f182) rfl ?_
      refine q_assign rfl rfl ?_
      refine q_assign rfl rfl ?_
      refine eseq_nil ?_
      refine hK180 _ _ ?_
      refine e_seq fun K183 hK183 => ?_
      refine e_region_text rfl ?_
      refine q_move rfl rfl ?_
      refine q_lss rfl rfl rfl ?_
      refine q_move rfl rfl ?_
      obtain ⟨x189, hx188, ho109⟩ := Option.of_bind ho109
      refine g_orM 7 hx188 rfl trivial rfl rfl ?_ ?_ ?_
      · intro hg188
        refine g_skip rfl rfl rfl ?_
        refine g_skip rfl rfl rfl ?_
        refine g_skip rfl rfl rfl ?_
        refine g_skip rfl rfl rfl ?_
        refine g_skip rfl rfl rfl ?_
        refine g_skip rfl rfl rfl ?_
        refine g_skip rfl rfl rfl ?_
        exact eseq_nil ⟨rfl, Sub.set rfl (Sub.set rfl (Sub.set rfl (Sub.set rfl (Sub.set rfl (Sub.set rfl (Sub.set rfl (Sub.bool true rfl hg188)))))))⟩
      · intro hg188 hx188
        clear ho109
        have hT188 := Below.refl (World.heap w142).size w142
        refine g_run rfl ?_; refine q_move rfl rfl ?_
        refine g_run rfl ?_; refine q_field rfl rfl ?_
        refine g_run rfl ?_; refine q_load rfl (Blk.cell (hS.blk 0 rfl) rfl) rfl ?_
        refine g_run rfl ?_; refine q_move rfl rfl ?_
        obtain ⟨x190, hx190, hx188⟩ := Option.of_bind hx188
        refine g_run rfl ?_; refine q_atS (by infer_instance) rfl f143 rfl hx190 rfl fun b191 o191 hm191 f191 => ?_
        refine g_run rfl ?_; refine q_load rfl (Elt.intCell f191) rfl ?_
        refine g_run rfl ?_; refine q_gtr rfl rfl rfl ?_
        cases hx188
        exact eseq_nil ⟨hT188, Sub.set rfl (Sub.set rfl (Sub.set rfl (Sub.set rfl (Sub.set rfl (Sub.set rfl (Sub.set rfl (Sub.bool false rfl hg188))))))), rfl⟩
      intro wm188 hBm188; clear hx188
      replace hS := hS.below hBm188
      replace f143 := f143.ext hBm188
      replace f144 := f144.ext hBm188
      replace f145 := f145.ext hBm188
      replace f146 := f146.ext hBm188
      refine eseq_nil ?_
      refine hK183 _ _ ?_
      refine e_cond rfl (fun hc192 => ?_) (fun hc192 => ?_)
      · replace ho109 := (if_pos hc192).symm.trans ho109
        refine e_seq fun K193 hK193 => ?_
        refine e_region_text rfl ?_
        refine q_assign rfl rfl ?_
        refine eseq_nil ?_
        refine hK193 _ _ ?_
        refine e_ret ?_
        obtain rfl := Option.some.inj ho109
        obtain rfl := Option.some.inj ht109
        obtain rfl := Option.some.inj h
        exact ⟨_, res1 rfl rfl, _, rfl, (hS.pickB [] 1 rfl rfl)⟩
      · replace ho109 := (if_neg (not_true hc192)).symm.trans ho109
        refine e_skip ?_
        refine hK179 _ _ ?_
        refine e_region_text rfl ?_
        refine q_addW rfl rfl rfl ?_
        refine q_move rfl rfl ?_
        refine eseq_nil ?_
        obtain rfl := Option.some.inj ho109
        exact ⟨m109, _, Nat.lt_succ_self _, ⟨(w64 (x147 + 1)), _, ht109, hS, f143, f144, f145, f146, rfl⟩, Sub.cons rfl (Sub.cons rfl (Sub.cons rfl (Sub.cons rfl (Sub.nil _))))⟩
    · replace ho109 := (if_neg (not_true hc178)).symm.trans ho109
      refine e_exit ?_
      obtain rfl := Option.some.inj ho109
      obtain rfl := Option.some.inj ht109
      exact hX109_0  _ _ _ h (hS.pickB [] 1 rfl rfl)  (Sub.nil _)
theorem cut_fits_w {F R : Nat → Prop} {w : World} {fuel : Nat} {a0 : Pat} {a1 : (List Int)} {v1 : Value} {v2 : Value} {v3 : Value} {v4 : Value} {r : (Bool)} (hS : Sep F R R w w []) (f1 : IsSlice Ty.int w R v1 a0.lens) (f2 : IsSlice (Ty.slice Ty.int) w R v2 a0.ckpts) (f3 : IsSlice arcTy w R v3 a0.arcs) (f4 : IsSlice Ty.int w R v4 a1) (h : cut_fits fuel a0 a1 = some r) :
    Gives Try.prog 60 [.agg #[v1, v2, v3], v4] w fun u w1 => ∃ (R1 : Nat → Prop), u = .bool r ∧ Sep F R R1 w w1 [] := by
  refine fn_of Try.func60 rfl Try.ntmps60 (Nat.le_of_ble_eq_true rfl) ?_
  unfold cut_fits at h
  refine e_seq fun K19 hK19 => ?_
  refine e_region_text rfl ?_
  refine q_boxB rfl rfl rfl fun w20 bl20 hg20 hb20 hB20 => ?_
  replace f1 := f1.ext hB20
  replace f2 := f2.ext hB20
  replace f3 := f3.ext hB20
  replace f4 := f4.ext hB20
  replace hS := hS.newBlk hB20 hg20 hb20
  refine q_assign rfl rfl ?_
  refine eseq_nil ?_
  refine hK19 _ _ ?_
  refine e_seq fun K22 hK22 => ?_
  refine e_region_text rfl ?_
  refine q_loadAgg rfl (Blk.cellsAt (hS.blk 0 rfl) 0 3 rfl) rfl rfl ?_
  obtain ⟨r24, hr24, h⟩ := Option.of_bind h
  refine q_call rfl (pattern_Check_w (a0 := (⟨a0.lens, a0.ckpts, a0.arcs⟩ : Pat)) (Sep.enter (As := []) hS) f1 f2 f3 hr24) rfl ?_
  rintro _ w23 ⟨R23, rfl, hC23⟩
  have hB23 : Below (World.heap w20).size w20 w23 := hC23.stepB0
  refine ⟨fun _ => .of_below hB23, ?_⟩
  replace f4 := (f4.ext hB23).mono fun k hk _ => hC23.ro0 k hk
  replace f1 := (f1.ext hB23).mono fun k hk _ => hC23.ro0 k hk
  replace f2 := (f2.ext hB23).mono fun k hk _ => hC23.ro0 k hk
  replace f3 := (f3.ext hB23).mono fun k hk _ => hC23.ro0 k hk
  replace hS := Sep.leave (As := []) hS hC23; simp only [List.cons_append, List.nil_append] at hS
  refine q_eql rfl rfl rfl ?_
  refine q_move rfl rfl ?_
  obtain ⟨x30, hx29, h⟩ := Option.of_bind h
  refine g_andM 3 hx29 rfl trivial rfl rfl ?_ ?_ ?_
  · intro hg29 hx29
    clear h
    have hT29 := Below.refl (World.heap w23).size w23
    refine g_run rfl ?_; refine q_loadAgg rfl (Blk.cellsAt (hS.blk 0 rfl) 0 3 rfl) rfl rfl ?_
    refine g_run rfl ?_; refine q_move rfl rfl ?_
    obtain ⟨r32, hr32, hx29⟩ := Option.of_bind hx29
    refine g_run rfl ?_; refine q_call rfl (cut_Valid_w (a0 := (⟨a0.lens, a0.ckpts, a0.arcs⟩ : Pat)) (Sep.enter (As := []) hS) f1 f2 f3 f4 hr32) rfl ?_
    rintro _ w31 ⟨R31, rfl, hC31⟩
    have hB31 : Below (World.heap w23).size w23 w31 := hC31.stepB0
    refine ⟨fun _ => .of_below hB31, ?_⟩
    replace f1 := (f1.ext hB31).mono fun k hk _ => hC31.ro0 k hk
    replace f2 := (f2.ext hB31).mono fun k hk _ => hC31.ro0 k hk
    replace f3 := (f3.ext hB31).mono fun k hk _ => hC31.ro0 k hk
    replace f4 := (f4.ext hB31).mono fun k hk _ => hC31.ro0 k hk
    replace hT29 := hT29.trans (Below.mono hB31 hT29.size)
    replace hS := Sep.leave (As := []) hS hC31; simp only [List.cons_append, List.nil_append] at hS
    cases hx29
    exact eseq_nil ⟨hT29, Sub.set rfl (Sub.set rfl (Sub.set rfl (Sub.bool true rfl hg29))), rfl⟩
  · intro hg29
    refine g_skip rfl rfl rfl ?_
    refine g_skip rfl rfl rfl ?_
    refine g_skip rfl rfl rfl ?_
    exact eseq_nil ⟨rfl, Sub.set rfl (Sub.set rfl (Sub.set rfl (Sub.bool false rfl hg29)))⟩
  intro wm29 hBm29; clear hx29
  replace hS := hS.below hBm29
  refine q_assign rfl rfl ?_
  refine eseq_nil ?_
  refine hK22 _ _ ?_
  refine e_ret ?_
  obtain rfl := Option.some.inj h
  exact ⟨_, res1 rfl rfl, _, rfl, (hS.pickB [] 1 rfl rfl)⟩
theorem cut_orphan_w {F R : Nat → Prop} {w : World} {fuel : Nat} {a0 : Arc} {a1 : (List Int)} {v1 : Value} {r : (Bool)} (hS : Sep F R R w w []) (f1 : IsSlice Ty.int w R v1 a1) (h : cut_orphan fuel a0 a1 = some r) :
    Gives Try.prog 105 [.agg #[.int .i64 a0.fr, .int .i64 a0.ix, .int .i64 a0.to, .int .i64 a0.rcv], v1] w fun u w1 => ∃ (R1 : Nat → Prop), u = .bool r ∧ Sep F R R1 w w1 [] := by
  refine fn_of Try.func105 rfl Try.ntmps105 (Nat.le_of_ble_eq_true rfl) ?_
  unfold cut_orphan at h
  refine e_seq fun K22 hK22 => ?_
  refine e_region_text rfl ?_
  refine q_boxB rfl rfl rfl fun w23 bl23 hg23 hb23 hB23 => ?_
  replace f1 := f1.ext hB23
  replace hS := hS.newBlk hB23 hg23 hb23
  refine q_assign rfl rfl ?_
  refine eseq_nil ?_
  refine hK22 _ _ ?_
  refine e_seq fun K25 hK25 => ?_
  refine e_region_draw mixed (fun _ => False) [0, 1, 3, 7, 15, 31, 15, 15, 143, 463, 975, 2047, 4095, 8191, 16383, 32767, 16383, 16383, 147455, 475135, 999423, 2097151, 4194303, 8388607] [] [0, 1, 2, 3, 4, 5, 6, 7, 8, 9, 10, 11, 12, 13, 14, 15, 16, 17, 18, 19, 20, 21, 22, 23] (by kernel_rfl) ?_
  refine q_field rfl rfl ?_
  refine q_load rfl (Blk.cell (hS.blk 0 rfl) rfl) rfl ?_
  refine q_neq rfl rfl rfl ?_
  refine q_move rfl rfl ?_
  obtain ⟨x31, hx30, h⟩ := Option.of_bind h
  refine g_andM 8 hx30 rfl trivial rfl rfl ?_ ?_ ?_
  · intro hg30 hx30
    clear h
    have hT30 := Below.refl (World.heap w23).size w23
    refine g_run rfl ?_; refine q_field rfl rfl ?_
    refine g_run rfl ?_; refine q_load rfl (Blk.cell (hS.blk 0 rfl) rfl) rfl ?_
    refine g_run rfl ?_; refine q_move rfl rfl ?_
    refine g_run rfl ?_; refine q_field rfl rfl ?_
    refine g_run rfl ?_; refine q_load rfl (Blk.cell (hS.blk 0 rfl) rfl) rfl ?_
    obtain ⟨x32, hx32, hx30⟩ := Option.of_bind hx30
    refine g_run rfl ?_; refine q_atS (by infer_instance) rfl f1 rfl hx32 rfl fun b33 o33 hm33 f33 => ?_
    refine g_run rfl ?_; refine q_load rfl (Elt.intCell f33) rfl ?_
    refine g_run rfl ?_; refine q_leq rfl rfl rfl ?_
    cases hx30
    exact eseq_nil ⟨hT30, Sub.set rfl (Sub.set rfl (Sub.set rfl (Sub.set rfl (Sub.set rfl (Sub.set rfl (Sub.set rfl (Sub.set rfl (Sub.bool true rfl hg30)))))))), rfl⟩
  · intro hg30
    refine g_skip rfl rfl rfl ?_
    refine g_skip rfl rfl rfl ?_
    refine g_skip rfl rfl rfl ?_
    refine g_skip rfl rfl rfl ?_
    refine g_skip rfl rfl rfl ?_
    refine g_skip rfl rfl rfl ?_
    refine g_skip rfl rfl rfl ?_
    refine g_skip rfl rfl rfl ?_
    exact eseq_nil ⟨rfl, Sub.set rfl (Sub.set rfl (Sub.set rfl (Sub.set rfl (Sub.set rfl (Sub.set rfl (Sub.set rfl (Sub.set rfl (Sub.bool false rfl hg30))))))))⟩
  intro wm30 hBm30; clear hx30
  replace hS := hS.below hBm30
  replace f1 := f1.ext hBm30
  refine q_move rfl rfl ?_
  obtain ⟨x39, hx38, h⟩ := Option.of_bind h
  refine g_andM 8 hx38 rfl trivial rfl rfl ?_ ?_ ?_
  · intro hg38 hx38
    clear h
    have hT38 := Below.refl (World.heap wm30).size wm30
    refine g_run rfl ?_; refine q_field rfl rfl ?_
    refine g_run rfl ?_; refine q_load rfl (Blk.cell (hS.blk 0 rfl) rfl) rfl ?_
    refine g_run rfl ?_; refine q_move rfl rfl ?_
    refine g_run rfl ?_; refine q_field rfl rfl ?_
    refine g_run rfl ?_; refine q_load rfl (Blk.cell (hS.blk 0 rfl) rfl) rfl ?_
    obtain ⟨x40, hx40, hx38⟩ := Option.of_bind hx38
    refine g_run rfl ?_; refine q_atS (by infer_instance) rfl f1 rfl hx40 rfl fun b41 o41 hm41 f41 => ?_
    refine g_run rfl ?_; refine q_load rfl (Elt.intCell f41) rfl ?_
    refine g_run rfl ?_; refine q_gtr rfl rfl rfl ?_
    cases hx38
    exact eseq_nil ⟨hT38, Sub.set rfl (Sub.set rfl (Sub.set rfl (Sub.set rfl (Sub.set rfl (Sub.set rfl (Sub.set rfl (Sub.set rfl (Sub.bool true rfl hg38)))))))), rfl⟩
  · intro hg38
    refine g_skip rfl rfl rfl ?_
    refine g_skip rfl rfl rfl ?_
    refine g_skip rfl rfl rfl ?_
    refine g_skip rfl rfl rfl ?_
    refine g_skip rfl rfl rfl ?_
    refine g_skip rfl rfl rfl ?_
    refine g_skip rfl rfl rfl ?_
    refine g_skip rfl rfl rfl ?_
    exact eseq_nil ⟨rfl, Sub.set rfl (Sub.set rfl (Sub.set rfl (Sub.set rfl (Sub.set rfl (Sub.set rfl (Sub.set rfl (Sub.set rfl (Sub.bool false rfl hg38))))))))⟩
  intro wm38 hBm38; clear hx38
  replace hS := hS.below hBm38
  refine q_assign rfl rfl ?_
  refine eseq_nil ?_
  refine hK25 _ _ ?_
  refine e_ret ?_
  obtain rfl := Option.some.inj h
  exact ⟨_, res1 rfl rfl, _, rfl, (hS.pickB [] 1 rfl rfl)⟩
theorem cut_Orphans_w {F R : Nat → Prop} {w : World} {fuel : Nat} {a0 : Pat} {a1 : (List Int)} {v1 : Value} {v2 : Value} {v3 : Value} {v4 : Value} {r : ((List Int))} (hS : Sep F R R w w []) (f1 : IsSlice Ty.int w R v1 a0.lens) (f2 : IsSlice (Ty.slice Ty.int) w R v2 a0.ckpts) (f3 : IsSlice arcTy w R v3 a0.arcs) (f4 : IsSlice Ty.int w R v4 a1) (h : cut_Orphans fuel a0 a1 = some r) :
    Gives Try.prog 61 [.agg #[v1, v2, v3], v4] w fun u w1 => ∃ (v123 : Value), ∃ (R1 : Nat → Prop), u = v123 ∧ Sep F R R1 w w1 [HP.own Ty.int (fun _ => False) 3 v123 r] := by
  refine fn_of Try.func61 rfl Try.ntmps61 (Nat.le_of_ble_eq_true rfl) ?_
  unfold cut_Orphans at h
  refine e_seq fun K124 hK124 => ?_
  refine e_region_text rfl ?_
  refine q_boxB rfl rfl rfl fun w125 bl125 hg125 hb125 hB125 => ?_
  replace f1 := f1.ext hB125
  replace f2 := f2.ext hB125
  replace f3 := f3.ext hB125
  replace f4 := f4.ext hB125
  replace hS := hS.newBlk hB125 hg125 hb125
  refine q_assign rfl rfl ?_
  refine eseq_nil ?_
  refine hK124 _ _ ?_
  refine e_seq fun K127 hK127 => ?_
  refine e_seq fun K128 hK128 => ?_
  refine e_region_text rfl ?_
  refine q_loadAgg rfl (Blk.cellsAt (hS.blk 0 rfl) 0 3 rfl) rfl rfl ?_
  refine q_move rfl rfl ?_
  obtain ⟨r130, hr130, h⟩ := Option.of_bind h
  refine q_call rfl (cut_fits_w (a0 := (⟨a0.lens, a0.ckpts, a0.arcs⟩ : Pat)) (Sep.enter (As := []) hS) f1 f2 f3 f4 hr130) rfl ?_
  rintro _ w129 ⟨R129, rfl, hC129⟩
  have hB129 : Below (World.heap w125).size w125 w129 := hC129.stepB0
  refine ⟨fun _ => .of_below hB129, ?_⟩
  replace f4 := (f4.ext hB129).mono fun k hk _ => hC129.ro0 k hk
  replace f1 := (f1.ext hB129).mono fun k hk _ => hC129.ro0 k hk
  replace f2 := (f2.ext hB129).mono fun k hk _ => hC129.ro0 k hk
  replace f3 := (f3.ext hB129).mono fun k hk _ => hC129.ro0 k hk
  replace hS := Sep.leave (As := []) hS hC129; simp only [List.cons_append, List.nil_append] at hS
  refine q_not rfl rfl ?_
  refine eseq_nil ?_
  refine hK128 _ _ ?_
  refine e_cond rfl (fun hc131 => ?_) (fun hc131 => ?_)
  · replace h := (if_pos hc131).symm.trans h
    refine e_seq fun K132 hK132 => ?_
    refine e_region_text rfl ?_
    refine q_assign rfl rfl ?_
    refine eseq_nil ?_
    refine hK132 _ _ ?_
    refine e_ret ?_
    replace hS := hS.nilOwn0 Ty.int 3
    obtain rfl := Option.some.inj h
    exact ⟨_, res1 rfl rfl, (.slice none 0 0), _, rfl, (hS.pickB [0] 2 rfl rfl)⟩
  · replace h := (if_neg (not_true hc131)).symm.trans h
    refine e_skip ?_
    refine hK127 _ _ ?_
    refine e_seq fun K134 hK134 => ?_
    refine e_region_text rfl ?_
    refine q_assign rfl rfl ?_
    refine eseq_nil ?_
    refine hK134 _ _ ?_
    refine e_seq fun K135 hK135 => ?_
    refine e_seq fun K136 hK136 => ?_
    refine e_region_text rfl ?_
    refine q_field rfl rfl ?_
    refine q_load rfl (Blk.cell (hS.blk 0 rfl) rfl) rfl ?_
    refine q_lenS rfl f3 rfl ?_
    refine q_move rfl rfl ?_
    refine eseq_nil ?_
    refine hK136 _ _ ?_
    refine e_block ?_
    obtain ⟨tl137, ht137, h⟩ := Option.of_bind h
    have hX137_0 : ∀ (x220 : (List Int)) (v219 : Value) (R216 : Nat → Prop) (w217 : World) (E_ : Env), cut_Orphans_K1 fuel x220 = some r → Sep F R R216 w w217 [HP.own Ty.int (fun _ => False) 3 v219 x220] → Sub [(5, v219)] E_ → K135 E_ w217 := by
      intro x220 v219 R216 w217 E_ h hS  hsub
      refine hK135 _ _ (e_sub hsub ?_); clear hsub
      unfold cut_Orphans_K1 at h
      refine e_seq fun K221 hK221 => ?_
      refine e_region_text rfl ?_
      refine q_move rfl rfl ?_
      refine q_assign rfl rfl ?_
      refine eseq_nil ?_
      refine hK221 _ _ ?_
      refine e_ret ?_
      obtain rfl := Option.some.inj h
      exact ⟨_, res1 rfl rfl, v219, _, rfl, hS⟩
    replace hS := hS.nilOwn0 Ty.int 3
    refine e_loop (fun m_ E_ w176 => ∃ (x180 : (List Int)), ∃ (x182 : Int), ∃ (v179 : Value), ∃ (R175 : Nat → Prop), iter (fun s => cut_Orphans_B1 fuel a0 a1 s.1 s.2) m_ (x180, x182) = some tl137 ∧ Sep F R R175 w w176 [HP.own Ty.int (fun _ => False) 3 v179 x180] ∧ IsSlice Ty.int w176 R175 v4 a1 ∧ IsSlice arcTy w176 R175 v3 a0.arcs ∧ E_ = [(1, v4), (5, v179), (13, v3), (14, .int .i64 (a0.arcs.length : Int)), (15, .int .i64 x182)]) _ ⟨_, ⟨([] : List Int), 0, (.slice none 0 0), _, ht137, (hS.pickB [0] 2 rfl rfl), f4, f3, rfl⟩, Sub.cons rfl (Sub.cons rfl (Sub.cons rfl (Sub.cons rfl (Sub.cons rfl (Sub.nil _)))))⟩ ?_
    clear ht137 hS
    rintro m137 _ w176 ⟨x180, x182, v179, R175, ht137, hS, f177, f181, rfl⟩
    obtain ⟨m137, rfl, o137, ho137, ht137⟩ := iter_some ht137
    replace ho137 : cut_Orphans_B1 fuel a0 a1 x180 x182 = some o137 := ho137
    unfold cut_Orphans_B1 at ho137
    refine e_seq fun K223 hK223 => ?_
    refine e_region_text rfl ?_
    refine q_lss rfl rfl rfl ?_
    refine eseq_nil ?_
    refine hK223 _ _ ?_
    refine e_seq fun K224 hK224 => ?_
    refine e_cond rfl (fun hc225 => ?_) (fun hc225 => ?_)
    · replace ho137 := (if_pos hc225).symm.trans ho137
      refine e_skip ?_
      refine hK224 _ _ ?_
      refine e_seq fun K226 hK226 => ?_
      refine e_block ?_
      refine e_seq fun K227 hK227 => ?_
      refine e_region_text rfl ?_
      refine q_move rfl rfl ?_
      obtain ⟨x228, hx228, ho137⟩ := Option.of_bind ho137
      refine q_atS (by infer_instance) rfl f181 rfl hx228 rfl fun b229 o229 hm229 f229 => ?_
      have hc230 := Arc_open f229
      refine q_loadAgg rfl hc230 rfl rfl ?_
      refine q_allocB rfl fun w231 bl231 hg231 hb231 hB231 => ?_
      replace f177 := f177.ext hB231
      replace f181 := f181.ext hB231
      replace hS := hS.newBlk hB231 hg231 hb231
      refine q_assign rfl rfl ?_
      refine q_storeAgg rfl rfl (hS.blk 0 rfl) rfl (Nat.le_of_ble_eq_true rfl) (all_cons rfl (all_cons rfl (all_cons rfl (all_cons rfl (all_nil))))) rfl rfl fun w233 hb233 hO233 => ?_
      simp only [setN, List.set, List.take, List.drop] at hb233
      have hk233 := hS.keptBlk 0 rfl hO233
      replace f177 := f177.kept hk233
      replace f181 := f181.kept hk233
      replace hS := hS.setBlk 0 rfl hb233 hO233; simp only [List.set] at hS
      refine eseq_nil ?_
      refine hK227 _ _ ?_
      refine e_seq fun K234 hK234 => ?_
      refine e_region_text rfl ?_
      refine q_loadAgg rfl (Blk.cellsAt (hS.blk 0 rfl) 0 4 rfl) rfl rfl ?_
      refine q_move rfl rfl ?_
      obtain ⟨r236, hr236, ho137⟩ := Option.of_bind ho137
      refine q_call rfl (cut_orphan_w (a0 := (⟨x228.fr, x228.ix, x228.to, x228.rcv⟩ : Arc)) (Sep.enter (As := []) hS) f177 hr236) rfl ?_
      rintro _ w235 ⟨R235, rfl, hC235⟩
      have hB235 : Below (World.heap w233).size w233 w235 := hC235.stepB0
      refine ⟨fun _ => .of_below hB235, ?_⟩
      replace f177 := (f177.ext hB235).mono fun k hk _ => hC235.ro0 k hk
      replace f181 := (f181.ext hB235).mono fun k hk _ => hC235.ro0 k hk
      replace hS := Sep.leave (As := []) hS hC235; simp only [List.cons_append, List.nil_append] at hS
      refine eseq_nil ?_
      refine hK234 _ _ ?_
      refine e_cond rfl (fun hc237 => ?_) (fun hc237 => ?_)
      · replace ho137 := (if_pos hc237).symm.trans ho137
        refine e_region_text rfl ?_
        refine q_move rfl rfl ?_
        refine q_move rfl rfl ?_
        refine q_litO (T := Ty.int) (S := (fun _ => False)) (cells := [[.int .i64 x182]]) (ys := [x182]) ((Parts.cons rfl rfl Parts.nil)) rfl rfl rfl rfl rfl rfl rfl (fun w1 hB => ⟨rfl, trivial⟩) (fun _ h => h.elim) rfl fun w238 v238 ho238 hv238 hB238 => ?_
        replace f177 := f177.ext hB238
        replace f181 := f181.ext hB238
        replace hS := hS.newOwnS hB238 ho238 hv238 (fun _ h => h.elim)
        obtain ⟨x241, hx241, ho137⟩ := Option.of_bind ho137
        refine q_catOwn (T := Ty.int) rfl rfl rfl rfl (hS.own 2 rfl) rfl (hS.own 0 rfl) (fun _ h _ => h.elim) (snoc_cat hx241) (Nat.zero_le _) rfl (fun h => by cases h) fun v240 w240 hw240 hgr240 hnw240 => ?_
        have hk240 := hS.keptOwn 2 rfl hgr240
        replace f177 := f177.kept hk240
        replace f181 := f181.kept hk240
        replace hS := hS.setOwn 2 rfl hw240 hgr240 hnw240; simp only [List.set] at hS
        refine q_assign rfl rfl ?_
        refine eseq_nil ?_
        refine hK226 _ _ ?_
        refine e_region_text rfl ?_
        refine q_addW rfl rfl rfl ?_
        refine q_move rfl rfl ?_
        refine eseq_nil ?_
        obtain rfl := Option.some.inj ho137
        exact ⟨m137, _, Nat.lt_succ_self _, ⟨x241, (w64 (x182 + 1)), v240, _, ht137, (hS.pickB [2] 3 rfl rfl), f177, f181, rfl⟩, Sub.cons rfl (Sub.cons rfl (Sub.cons rfl (Sub.cons rfl (Sub.cons rfl (Sub.nil _)))))⟩
      · replace ho137 := (if_neg (not_true hc237)).symm.trans ho137
        refine e_skip ?_
        refine hK226 _ _ ?_
        refine e_region_text rfl ?_
        refine q_addW rfl rfl rfl ?_
        refine q_move rfl rfl ?_
        refine eseq_nil ?_
        obtain rfl := Option.some.inj ho137
        exact ⟨m137, _, Nat.lt_succ_self _, ⟨x180, (w64 (x182 + 1)), v179, _, ht137, (hS.pickB [1] 2 rfl rfl), f177, f181, rfl⟩, Sub.cons rfl (Sub.cons rfl (Sub.cons rfl (Sub.cons rfl (Sub.cons rfl (Sub.nil _)))))⟩
    · replace ho137 := (if_neg (not_true hc225)).symm.trans ho137
      refine e_exit ?_
      obtain rfl := Option.some.inj ho137
      obtain rfl := Option.some.inj ht137
      exact hX137_0 x180 v179 _ _ _ h hS  (Sub.cons rfl (Sub.nil _))
theorem cut_Consistent_w {F R : Nat → Prop} {w : World} {fuel : Nat} {a0 : Pat} {a1 : (List Int)} {v1 : Value} {v2 : Value} {v3 : Value} {v4 : Value} {r : (Bool)} (hS : Sep F R R w w []) (f1 : IsSlice Ty.int w R v1 a0.lens) (f2 : IsSlice (Ty.slice Ty.int) w R v2 a0.ckpts) (f3 : IsSlice arcTy w R v3 a0.arcs) (f4 : IsSlice Ty.int w R v4 a1) (h : cut_Consistent fuel a0 a1 = some r) :
    Gives Try.prog 28 [.agg #[v1, v2, v3], v4] w fun u w1 => ∃ (R1 : Nat → Prop), u = .bool r ∧ Sep F R R1 w w1 [] := by
  refine fn_of Try.func28 rfl Try.ntmps28 (Nat.le_of_ble_eq_true rfl) ?_
  unfold cut_Consistent at h
  refine e_seq fun K21 hK21 => ?_
  refine e_region_text rfl ?_
  refine q_boxB rfl rfl rfl fun w22 bl22 hg22 hb22 hB22 => ?_
  replace f1 := f1.ext hB22
  replace f2 := f2.ext hB22
  replace f3 := f3.ext hB22
  replace f4 := f4.ext hB22
  replace hS := hS.newBlk hB22 hg22 hb22
  refine q_assign rfl rfl ?_
  refine eseq_nil ?_
  refine hK21 _ _ ?_
  refine e_seq fun K24 hK24 => ?_
  refine e_region_text rfl ?_
  refine q_loadAgg rfl (Blk.cellsAt (hS.blk 0 rfl) 0 3 rfl) rfl rfl ?_
  refine q_move rfl rfl ?_
  obtain ⟨r26, hr26, h⟩ := Option.of_bind h
  refine q_call rfl (cut_fits_w (a0 := (⟨a0.lens, a0.ckpts, a0.arcs⟩ : Pat)) (Sep.enter (As := []) hS) f1 f2 f3 f4 hr26) rfl ?_
  rintro _ w25 ⟨R25, rfl, hC25⟩
  have hB25 : Below (World.heap w22).size w22 w25 := hC25.stepB0
  refine ⟨fun _ => .of_below hB25, ?_⟩
  replace f4 := (f4.ext hB25).mono fun k hk _ => hC25.ro0 k hk
  replace f1 := (f1.ext hB25).mono fun k hk _ => hC25.ro0 k hk
  replace f2 := (f2.ext hB25).mono fun k hk _ => hC25.ro0 k hk
  replace f3 := (f3.ext hB25).mono fun k hk _ => hC25.ro0 k hk
  replace hS := Sep.leave (As := []) hS hC25; simp only [List.cons_append, List.nil_append] at hS
  refine q_move rfl rfl ?_
  obtain ⟨x33, hx32, h⟩ := Option.of_bind h
  refine g_andM 5 hx32 rfl trivial rfl rfl ?_ ?_ ?_
  · intro hg32 hx32
    clear h
    have hT32 := Below.refl (World.heap w25).size w25
    refine g_run rfl ?_; refine q_loadAgg rfl (Blk.cellsAt (hS.blk 0 rfl) 0 3 rfl) rfl rfl ?_
    refine g_run rfl ?_; refine q_move rfl rfl ?_
    obtain ⟨r35, hr35, hx32⟩ := Option.of_bind hx32
    refine g_run rfl ?_; refine q_call rfl (cut_Orphans_w (a0 := (⟨a0.lens, a0.ckpts, a0.arcs⟩ : Pat)) (Sep.enter (As := []) hS) f1 f2 f3 f4 hr35) rfl ?_
    rintro v36 w34 ⟨_, R34, rfl, hC34⟩
    have hB34 : Below (World.heap w25).size w25 w34 := hC34.stepB0
    refine ⟨fun _ => .of_below hB34, ?_⟩
    replace f1 := (f1.ext hB34).mono fun k hk _ => hC34.ro0 k hk
    replace f2 := (f2.ext hB34).mono fun k hk _ => hC34.ro0 k hk
    replace f3 := (f3.ext hB34).mono fun k hk _ => hC34.ro0 k hk
    replace f4 := (f4.ext hB34).mono fun k hk _ => hC34.ro0 k hk
    replace hT32 := hT32.trans (Below.mono hB34 hT32.size)
    replace hS := Sep.leave (As := []) hS hC34; simp only [List.cons_append, List.nil_append] at hS
    refine g_run rfl ?_; refine q_lenS rfl (hS.isl 0 rfl) rfl ?_
    refine g_run rfl ?_; refine q_eql rfl rfl rfl ?_
    cases hx32
    exact eseq_nil ⟨hT32, Sub.set rfl (Sub.set rfl (Sub.set rfl (Sub.set rfl (Sub.set rfl (Sub.bool true rfl hg32))))), rfl⟩
  · intro hg32
    refine g_skip rfl rfl rfl ?_
    refine g_skip rfl rfl rfl ?_
    refine g_skip rfl rfl rfl ?_
    refine g_skip rfl rfl rfl ?_
    refine g_skip rfl rfl rfl ?_
    exact eseq_nil ⟨rfl, Sub.set rfl (Sub.set rfl (Sub.set rfl (Sub.set rfl (Sub.set rfl (Sub.bool false rfl hg32)))))⟩
  intro wm32 hBm32; clear hx32
  replace hS := hS.below hBm32
  refine q_assign rfl rfl ?_
  refine eseq_nil ?_
  refine hK24 _ _ ?_
  refine e_ret ?_
  obtain rfl := Option.some.inj h
  exact ⟨_, res1 rfl rfl, _, rfl, (hS.pickB [] 1 rfl rfl)⟩
end Go.Proofs.Ytbmjcbhappjnaaa
