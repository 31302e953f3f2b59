/- Printed walks: A26s. -/
import Derived.Test.YtbmjcbhappjnaaaA26d
import Derived.Test.YtbmjcbhappjnaaaA19
set_option linter.unusedVariables false
set_option linter.unusedSimpArgs false
namespace Go.Mine
open Go.RowKit
def law26_ModelbasedDepends_K1 (fuel : Nat) : Option (Bool) :=
  some true
def law26_ModelbasedDepends_K2 (fuel : Nat) (x724 : Int) : Option ((Int) ⊕ (Unit ⊕ (Bool))) :=
  some (Sum.inl (w64 (x724 + 1)))
def law26_ModelbasedDepends_B2 (fuel : Nat) (r529 : (Hist × Int)) (x724 : Int) (x945 : Int) : Option ((Int) ⊕ (Unit ⊕ (Bool))) :=
  (ati r529.1.vecs x724).bind fun x997 => (if (decide (x945 < (x997.length : Int))) = true then (ati r529.1.vecs x724).bind fun x1014 => (ati x1014 x945).bind fun x1017 => (depend_Ckpt fuel (⟨r529.1.pat.lens, r529.1.pat.ckpts, r529.1.pat.arcs⟩ : Pat) x724 x945).bind fun r1021 => (ref23_SameInts fuel x1017 r1021).bind fun r1024 => (if (!r1024) = true then some (Sum.inr (Sum.inr false)) else some (Sum.inl (w64 (x945 + 1)))) else some (Sum.inr (Sum.inl ())))
def law26_ModelbasedDepends_B1 (fuel : Nat) (r524 : (Int × Int × (List Deed))) (r529 : (Hist × Int)) (x724 : Int) : Option ((Int) ⊕ (Unit ⊕ (Bool))) :=
  (if (decide (x724 < r524.1)) = true then (iter (fun s => law26_ModelbasedDepends_B2 fuel r529 x724 s) fuel 0).bind (fun t => Sum.elim (fun t => law26_ModelbasedDepends_K2 fuel x724) (fun t => some (Sum.inr (Sum.inr t))) t) else some (Sum.inr (Sum.inl ())))
def law26_ModelbasedDepends (fuel : Nat) (a0 : (List Int)) : Option (Bool) :=
  (law26_awake fuel).bind fun r519 => (if (!r519) = true then some false else (law26_draw fuel a0).bind fun r524 => (modelbased_Play fuel r524.1 r524.2.1 r524.2.2).bind fun r529 => (orM (r529.2 != 0) ((law26_sound fuel (⟨(⟨r529.1.pat.lens, r529.1.pat.ckpts, r529.1.pat.arcs⟩ : Pat), r529.1.clocks, r529.1.vecs, r529.1.forced⟩ : Hist) r524.1).bind fun r548 => some (!r548))).bind fun x546 => (if x546 = true then some false else (iter (fun s => law26_ModelbasedDepends_B1 fuel r524 r529 s) fuel 0).bind (fun t => Sum.elim (fun t => law26_ModelbasedDepends_K1 fuel) (fun t => some t) t)))
end Go.Mine
namespace Go.Proofs.Ytbmjcbhappjnaaa
open Go.RowKit Go.Mine
attribute [local irreducible] eseq ewp iter
theorem law26_ModelbasedDepends_w {F R : Nat → Prop} {w : World} {fuel : Nat} {a0 : (List Int)} {v1 : Value} {r : (Bool)} (hS : Sep F R R w w []) (f1 : IsSlice Ty.u8 w R v1 a0) (h : law26_ModelbasedDepends fuel a0 = some r) :
    Gives Try.prog 7 [v1] w fun u w1 => ∃ (R1 : Nat → Prop), u = .bool r ∧ Sep F R R1 w w1 [] := by
  refine fn_of Try.func7 rfl Try.ntmps7 (Nat.le_of_ble_eq_true rfl) ?_
  unfold law26_ModelbasedDepends at h
  refine e_seq fun K515 hK515 => ?_
  refine e_region_text rfl ?_
  refine q_assign rfl rfl ?_
  refine eseq_nil ?_
  refine hK515 _ _ ?_
  refine e_seq fun K516 hK516 => ?_
  refine e_seq fun K517 hK517 => ?_
  refine e_region_text rfl ?_
  obtain ⟨r519, hr519, h⟩ := Option.of_bind h
  refine q_call rfl (law26_awake_w (Sep.enter (As := []) hS)  hr519) rfl ?_
  rintro _ w518 ⟨R518, rfl, hC518⟩
  have hB518 : Below (World.heap w).size w w518 := hC518.stepB0
  refine ⟨fun _ => .of_below hB518, ?_⟩
  replace f1 := (f1.ext hB518).mono fun k hk _ => hC518.ro0 k hk
  replace hS := Sep.leave (As := []) hS hC518; simp only [List.cons_append, List.nil_append] at hS
  refine q_not rfl rfl ?_
  refine eseq_nil ?_
  refine hK517 _ _ ?_
  refine e_cond rfl (fun hc520 => ?_) (fun hc520 => ?_)
  · replace h := (if_pos hc520).symm.trans h
    refine e_seq fun K521 hK521 => ?_
    refine e_region_text rfl ?_
    refine q_assign rfl rfl ?_
    refine eseq_nil ?_
    refine hK521 _ _ ?_
    refine e_ret ?_
    obtain rfl := Option.some.inj h
    exact ⟨_, res1 rfl rfl, _, rfl, hS⟩
  · replace h := (if_neg (not_true hc520)).symm.trans h
    refine e_skip ?_
    refine hK516 _ _ ?_
    refine e_seq fun K522 hK522 => ?_
    refine e_region_text rfl ?_
    refine q_move rfl rfl ?_
    obtain ⟨r524, hr524, h⟩ := Option.of_bind h
    refine q_call rfl (law26_draw_w (Sep.enter (As := []) hS) f1 hr524) rfl ?_
    rintro _ w523 ⟨v525, R523, rfl, hC523⟩
    have hB523 : Below (World.heap w518).size w518 w523 := hC523.stepB0
    refine ⟨fun _ => .of_below hB523, ?_⟩
    replace f1 := (f1.ext hB523).mono fun k hk _ => hC523.ro0 k hk
    replace hS := Sep.leave (As := []) hS hC523; simp only [List.cons_append, List.nil_append] at hS
    refine q_move rfl rfl ?_
    refine q_extract rfl rfl rfl ?_
    refine q_extract rfl rfl rfl ?_
    refine q_extract rfl rfl rfl ?_
    refine q_assign rfl rfl ?_
    refine q_assign rfl rfl ?_
    refine q_assign rfl rfl ?_
    refine eseq_nil ?_
    refine hK522 _ _ ?_
    refine e_seq fun K526 hK526 => ?_
    refine e_region_text rfl ?_
    refine q_move rfl rfl ?_
    refine q_move rfl rfl ?_
    refine q_move rfl rfl ?_
    obtain ⟨R528, hS, hm528, f528⟩ := hS.freezeOwn 0 rfl; simp only [List.eraseIdx] at hS
    obtain ⟨r529, hr529, h⟩ := Option.of_bind h
    refine q_call rfl (modelbased_Play_w (Sep.enter (As := []) hS) f528 hr529) rfl ?_
    rintro _ w527 ⟨v530, v531, v532, v533, v534, v535, R527, rfl, hC527, f530, f531, f532, f533, f534, f535⟩
    have hB527 : Below (World.heap w523).size w523 w527 := hC527.stepB0
    refine ⟨fun _ => .of_below hB527, ?_⟩
    replace f528 := (f528.ext hB527).mono fun k hk _ => hC527.ro0 k hk
    replace hS := Sep.leave (As := []) hS hC527; simp only [List.cons_append, List.nil_append] at hS
    refine q_move rfl rfl ?_
    refine q_extract rfl rfl rfl ?_
    refine q_extract rfl rfl rfl ?_
    refine q_allocB rfl fun w536 bl536 hg536 hb536 hB536 => ?_
    replace f530 := f530.ext hB536
    replace f531 := f531.ext hB536
    replace f532 := f532.ext hB536
    replace f533 := f533.ext hB536
    replace f534 := f534.ext hB536
    replace f535 := f535.ext hB536
    replace hS := hS.newBlk hB536 hg536 hb536
    refine q_storeAgg rfl rfl (hS.blk 0 rfl) rfl (Nat.le_of_ble_eq_true rfl) (all_cons f530.one (all_cons f531.one (all_cons f532.one (all_cons f533.one (all_cons f534.one (all_cons f535.one (all_nil))))))) rfl rfl fun w538 hb538 hO538 => ?_
    simp only [setN, List.set, List.take, List.drop] at hb538
    have hk538 := hS.keptBlk 0 rfl hO538
    replace f530 := f530.kept hk538
    replace f531 := f531.kept hk538
    replace f532 := f532.kept hk538
    replace f533 := f533.kept hk538
    replace f534 := f534.kept hk538
    replace f535 := f535.kept hk538
    replace hS := hS.setBlk 0 rfl hb538 hO538; simp only [List.set] at hS
    refine q_assign rfl rfl ?_
    refine eseq_nil ?_
    refine hK526 _ _ ?_
    refine e_seq fun K539 hK539 => ?_
    refine e_seq fun K540 hK540 => ?_
    refine e_region_text rfl ?_
    refine q_move rfl rfl ?_
    refine q_neq rfl rfl rfl ?_
    refine q_move rfl rfl ?_
    obtain ⟨x546, hx545, h⟩ := Option.of_bind h
    refine g_orM 4 hx545 rfl trivial rfl rfl ?_ ?_ ?_
    · intro hg545
      refine g_skip rfl rfl rfl ?_
      refine g_skip rfl rfl rfl ?_
      refine g_skip rfl rfl rfl ?_
      refine g_skip rfl rfl rfl ?_
      exact eseq_nil ⟨rfl, Sub.set rfl (Sub.set rfl (Sub.set rfl (Sub.set rfl (Sub.bool true rfl hg545))))⟩
    · intro hg545 hx545
      clear h
      have hT545 := Below.refl (World.heap w538).size w538
      refine g_run rfl ?_; refine q_loadAgg rfl (Blk.cellsAt (hS.blk 0 rfl) 0 6 rfl) rfl rfl ?_
      refine g_run rfl ?_; refine q_move rfl rfl ?_
      obtain ⟨r548, hr548, hx545⟩ := Option.of_bind hx545
      refine g_run rfl ?_; refine q_call rfl (law26_sound_w (a0 := (⟨(⟨r529.1.pat.lens, r529.1.pat.ckpts, r529.1.pat.arcs⟩ : Pat), r529.1.clocks, r529.1.vecs, r529.1.forced⟩ : Hist)) (Sep.enter (As := []) hS) f530 f531 f532 f533 f534 f535 hr548) rfl ?_
      rintro _ w547 ⟨R547, rfl, hC547⟩
      have hB547 : Below (World.heap w538).size w538 w547 := hC547.stepB0
      refine ⟨fun _ => .of_below hB547, ?_⟩
      replace f530 := (f530.ext hB547).mono fun k hk _ => hC547.ro0 k hk
      replace f531 := (f531.ext hB547).mono fun k hk _ => hC547.ro0 k hk
      replace f532 := (f532.ext hB547).mono fun k hk _ => hC547.ro0 k hk
      replace f533 := (f533.ext hB547).mono fun k hk _ => hC547.ro0 k hk
      replace f534 := (f534.ext hB547).mono fun k hk _ => hC547.ro0 k hk
      replace f535 := (f535.ext hB547).mono fun k hk _ => hC547.ro0 k hk
      replace hT545 := hT545.trans (Below.mono hB547 hT545.size)
      replace hS := Sep.leave (As := []) hS hC547; simp only [List.cons_append, List.nil_append] at hS
      refine g_run rfl ?_; refine q_not rfl rfl ?_
      cases hx545
      exact eseq_nil ⟨hT545, Sub.set rfl (Sub.set rfl (Sub.set rfl (Sub.set rfl (Sub.bool false rfl hg545)))), rfl⟩
    intro wm545 hBm545; clear hx545
    replace hS := hS.below hBm545
    replace f530 := f530.ext hBm545
    replace f531 := f531.ext hBm545
    replace f532 := f532.ext hBm545
    replace f533 := f533.ext hBm545
    replace f534 := f534.ext hBm545
    replace f535 := f535.ext hBm545
    refine eseq_nil ?_
    refine hK540 _ _ ?_
    refine e_cond rfl (fun hc549 => ?_) (fun hc549 => ?_)
    · replace h := (if_pos hc549).symm.trans h
      refine e_seq fun K550 hK550 => ?_
      refine e_region_text rfl ?_
      refine q_assign rfl rfl ?_
      refine eseq_nil ?_
      refine hK550 _ _ ?_
      refine e_ret ?_
      obtain rfl := Option.some.inj h
      exact ⟨_, res1 rfl rfl, _, rfl, (hS.pickB [] 1 rfl rfl)⟩
    · replace h := (if_neg (not_true hc549)).symm.trans h
      refine e_skip ?_
      refine hK539 _ _ ?_
      refine e_seq fun K551 hK551 => ?_
      refine e_seq fun K552 hK552 => ?_
      refine e_region_text rfl ?_
      refine q_assign rfl rfl ?_
      refine eseq_nil ?_
      refine hK552 _ _ ?_
      refine e_block ?_
      obtain ⟨tl553, ht553, h⟩ := Option.of_bind h
      have hX553_0 : ∀ (R879 : Nat → Prop) (w880 : World) (E_ : Env), law26_ModelbasedDepends_K1 fuel = some r → Sep F R R879 w w880 [] → Sub [] E_ → K551 E_ w880 := by
        intro R879 w880 E_ h hS  hsub
        refine hK551 _ _ (e_sub hsub ?_); clear hsub
        unfold law26_ModelbasedDepends_K1 at h
        refine e_seq fun K881 hK881 => ?_
        refine e_region_text rfl ?_
        refine q_assign rfl rfl ?_
        refine eseq_nil ?_
        refine hK881 _ _ ?_
        refine e_ret ?_
        obtain rfl := Option.some.inj h
        exact ⟨_, res1 rfl rfl, _, rfl, hS⟩
      refine e_loop (fun m_ E_ w717 => ∃ (x724 : Int), ∃ (R716 : Nat → Prop), iter (fun s => law26_ModelbasedDepends_B1 fuel r524 r529 s) m_ x724 = some tl553 ∧ Sep F R R716 w w717 [HP.blk bl536 [v530, v531, v532, v533, v534, v535] 35] ∧ IsSlice Ty.int w717 R716 v530 r529.1.pat.lens ∧ IsSlice (Ty.slice Ty.int) w717 R716 v531 r529.1.pat.ckpts ∧ IsSlice arcTy w717 R716 v532 r529.1.pat.arcs ∧ IsSlice (Ty.slice Ty.int) w717 R716 v533 r529.1.clocks ∧ IsSlice (Ty.slice (Ty.slice Ty.int)) w717 R716 v534 r529.1.vecs ∧ IsSlice (Ty.slice Ty.bool) w717 R716 v535 r529.1.forced ∧ E_ = [(3, .int .i64 r524.1), (6, .pointer (some ⟨bl536, 0, none⟩)), (8, .int .i64 x724)]) _ ⟨_, ⟨0, _, ht553, hS, f530, f531, f532, f533, f534, f535, rfl⟩, Sub.cons rfl (Sub.cons rfl (Sub.cons rfl (Sub.nil _)))⟩ ?_
      clear ht553 hS
      rintro m553 _ w717 ⟨x724, R716, ht553, hS, f718, f719, f720, f721, f722, f723, rfl⟩
      obtain ⟨m553, rfl, o553, ho553, ht553⟩ := iter_some ht553
      replace ho553 : law26_ModelbasedDepends_B1 fuel r524 r529 x724 = some o553 := ho553
      unfold law26_ModelbasedDepends_B1 at ho553
      refine e_seq fun K882 hK882 => ?_
      refine e_seq fun K883 hK883 => ?_
      refine e_region_text rfl ?_
      refine q_move rfl rfl ?_
      refine q_move rfl rfl ?_
      refine q_lss rfl rfl rfl ?_
      refine eseq_nil ?_
      refine hK883 _ _ ?_
      refine e_cond rfl (fun hc884 => ?_) (fun hc884 => ?_)
      · replace ho553 := (if_pos hc884).symm.trans ho553
        refine e_skip ?_
        refine hK882 _ _ ?_
        refine e_seq fun K885 hK885 => ?_
        refine e_block ?_
        refine e_seq fun K886 hK886 => ?_
        refine e_region_text rfl ?_
        refine q_assign rfl rfl ?_
        refine eseq_nil ?_
        refine hK886 _ _ ?_
        refine e_block ?_
        obtain ⟨tl887, ht887, ho553⟩ := Option.of_bind ho553
        have hX887_2 : ∀ (R987 : Nat → Prop) (w988 : World) (E_ : Env), law26_ModelbasedDepends_K2 fuel x724 = some o553 → Sep F R R987 w w988 [HP.blk bl536 [v530, v531, v532, v533, v534, v535] 35] → IsSlice Ty.int w988 R987 v530 r529.1.pat.lens → IsSlice (Ty.slice Ty.int) w988 R987 v531 r529.1.pat.ckpts → IsSlice arcTy w988 R987 v532 r529.1.pat.arcs → IsSlice (Ty.slice Ty.int) w988 R987 v533 r529.1.clocks → IsSlice (Ty.slice (Ty.slice Ty.int)) w988 R987 v534 r529.1.vecs → IsSlice (Ty.slice Ty.bool) w988 R987 v535 r529.1.forced → Sub [(3, .int .i64 r524.1), (6, .pointer (some ⟨bl536, 0, none⟩)), (8, .int .i64 x724)] E_ → K885 E_ w988 := by
          intro R987 w988 E_ ho553 hS f989 f990 f991 f992 f993 f994 hsub
          refine hK885 _ _ (e_sub hsub ?_); clear hsub
          unfold law26_ModelbasedDepends_K2 at ho553
          refine e_region_text rfl ?_
          refine q_move rfl rfl ?_
          refine q_addW rfl rfl rfl ?_
          refine q_assign rfl rfl ?_
          refine eseq_nil ?_
          obtain rfl := Option.some.inj ho553
          exact ⟨m553, _, Nat.lt_succ_self _, ⟨(w64 (x724 + 1)), _, ht553, hS, f989, f990, f991, f992, f993, f994, rfl⟩, Sub.cons rfl (Sub.cons rfl (Sub.cons rfl (Sub.nil _)))⟩
        refine e_loop (fun m_ E_ w938 => ∃ (x945 : Int), ∃ (R937 : Nat → Prop), iter (fun s => law26_ModelbasedDepends_B2 fuel r529 x724 s) m_ x945 = some tl887 ∧ Sep F R R937 w w938 [HP.blk bl536 [v530, v531, v532, v533, v534, v535] 35] ∧ IsSlice Ty.int w938 R937 v530 r529.1.pat.lens ∧ IsSlice (Ty.slice Ty.int) w938 R937 v531 r529.1.pat.ckpts ∧ IsSlice arcTy w938 R937 v532 r529.1.pat.arcs ∧ IsSlice (Ty.slice Ty.int) w938 R937 v533 r529.1.clocks ∧ IsSlice (Ty.slice (Ty.slice Ty.int)) w938 R937 v534 r529.1.vecs ∧ IsSlice (Ty.slice Ty.bool) w938 R937 v535 r529.1.forced ∧ E_ = [(3, .int .i64 r524.1), (6, .pointer (some ⟨bl536, 0, none⟩)), (8, .int .i64 x724), (9, .int .i64 x945)]) _ ⟨_, ⟨0, _, ht887, hS, f718, f719, f720, f721, f722, f723, rfl⟩, Sub.cons rfl (Sub.cons rfl (Sub.cons rfl (Sub.cons rfl (Sub.nil _))))⟩ ?_
        clear ht887 hS
        rintro m887 _ w938 ⟨x945, R937, ht887, hS, f939, f940, f941, f942, f943, f944, rfl⟩
        obtain ⟨m887, rfl, o887, ho887, ht887⟩ := iter_some ht887
        replace ho887 : law26_ModelbasedDepends_B2 fuel r529 x724 x945 = some o887 := ho887
        unfold law26_ModelbasedDepends_B2 at ho887
        refine e_seq fun K995 hK995 => ?_
        refine e_seq fun K996 hK996 => ?_
        refine e_region_text rfl ?_
        refine q_move rfl rfl ?_
        refine q_field rfl rfl ?_
        refine q_load rfl (Blk.cell (hS.blk 0 rfl) rfl) rfl ?_
        refine q_move rfl rfl ?_
        obtain ⟨x997, hx997, ho887⟩ := Option.of_bind ho887
        refine q_atS (by infer_instance) rfl f943 rfl hx997 rfl fun b998 o998 hm998 f998 => ?_
        refine q_loadE rfl f998 rfl (fun v999 f999 => ?_)
        refine q_lenS rfl f999 rfl ?_
        refine q_lss rfl rfl rfl ?_
        refine eseq_nil ?_
        refine hK996 _ _ ?_
        refine e_cond rfl (fun hc1000 => ?_) (fun hc1000 => ?_)
        · replace ho887 := (if_pos hc1000).symm.trans ho887
          refine e_skip ?_
          refine hK995 _ _ ?_
          refine e_seq fun K1001 hK1001 => ?_
          refine e_block ?_
          refine e_seq fun K1002 hK1002 => ?_
          refine e_region_draw mixed (fun _ => False) [0, 1, 0, 7, 15, 0, 63, 127, 0, 256, 0, 0, 3840, 8191, 16383] [12] [0, 1, 2, 3, 4, 5, 6, 7, 8, 9, 10, 11, 12, 13, 14] (by kernel_rfl) ?_
          refine q_field rfl rfl ?_
          refine q_load rfl (Blk.cell (hS.blk 0 rfl) rfl) rfl ?_
          refine q_move rfl rfl ?_
          obtain ⟨x1014, hx1014, ho887⟩ := Option.of_bind ho887
          refine q_atS (by infer_instance) rfl f943 rfl hx1014 rfl fun b1015 o1015 hm1015 f1015 => ?_
          refine q_loadE rfl f1015 rfl (fun v1016 f1016 => ?_)
          refine q_move rfl rfl ?_
          obtain ⟨x1017, hx1017, ho887⟩ := Option.of_bind ho887
          refine q_atS (by infer_instance) rfl f1016 rfl hx1017 rfl fun b1018 o1018 hm1018 f1018 => ?_
          refine q_loadE rfl f1018 rfl (fun v1019 f1019 => ?_)
          refine q_field rfl rfl ?_
          refine q_loadAgg rfl (Blk.cellsAt (hS.blk 0 rfl) 0 3 rfl) rfl rfl ?_
          refine q_move rfl rfl ?_
          refine q_move rfl rfl ?_
          obtain ⟨r1021, hr1021, ho887⟩ := Option.of_bind ho887
          refine q_call rfl (depend_Ckpt_w (a0 := (⟨r529.1.pat.lens, r529.1.pat.ckpts, r529.1.pat.arcs⟩ : Pat)) (Sep.enter (As := []) hS) f939 f940 f941 hr1021) rfl ?_
          rintro v1022 w1020 ⟨_, R1020, rfl, hC1020⟩
          have hB1020 : Below (World.heap w938).size w938 w1020 := hC1020.stepB0
          refine ⟨fun _ => .of_below hB1020, ?_⟩
          replace f939 := (f939.ext hB1020).mono fun k hk _ => hC1020.ro0 k hk
          replace f940 := (f940.ext hB1020).mono fun k hk _ => hC1020.ro0 k hk
          replace f941 := (f941.ext hB1020).mono fun k hk _ => hC1020.ro0 k hk
          replace f942 := (f942.ext hB1020).mono fun k hk _ => hC1020.ro0 k hk
          replace f943 := (f943.ext hB1020).mono fun k hk _ => hC1020.ro0 k hk
          replace f944 := (f944.ext hB1020).mono fun k hk _ => hC1020.ro0 k hk
          replace f1019 := (f1019.ext hB1020).mono fun k hk _ => hC1020.ro0 k hk
          replace hS := Sep.leave (As := []) hS hC1020; simp only [List.cons_append, List.nil_append] at hS
          obtain ⟨r1024, hr1024, ho887⟩ := Option.of_bind ho887
          refine q_call rfl (ref23_SameInts_w (Sep.all w1020) (f1019).old ((hS.isl 0 rfl)).old hr1024) rfl ?_
          rintro _ w1023 ⟨R1023, rfl, hC1023⟩
          have hB1023 : Below (World.heap w1020).size w1020 w1023 := hC1023.stepBF
          refine ⟨fun _ => .of_below hB1023, ?_⟩
          replace f939 := f939.ext hB1023
          replace f940 := f940.ext hB1023
          replace f941 := f941.ext hB1023
          replace f942 := f942.ext hB1023
          replace f943 := f943.ext hB1023
          replace f944 := f944.ext hB1023
          replace f1019 := f1019.ext hB1023
          replace hS := hS.below hB1023
          refine q_not rfl rfl ?_
          refine eseq_nil ?_
          refine hK1002 _ _ ?_
          refine e_cond rfl (fun hc1025 => ?_) (fun hc1025 => ?_)
          · replace ho887 := (if_pos hc1025).symm.trans ho887
            refine e_seq fun K1026 hK1026 => ?_
            refine e_region_text rfl ?_
            refine q_assign rfl rfl ?_
            refine eseq_nil ?_
            refine hK1026 _ _ ?_
            refine e_ret ?_
            obtain rfl := Option.some.inj ho887
            obtain rfl := Option.some.inj ht887
            obtain rfl := Option.some.inj ho553
            obtain rfl := Option.some.inj ht553
            obtain rfl := Option.some.inj h
            exact ⟨_, res1 rfl rfl, _, rfl, (hS.pickB [] 2 rfl rfl)⟩
          · replace ho887 := (if_neg (not_true hc1025)).symm.trans ho887
            refine e_skip ?_
            refine hK1001 _ _ ?_
            refine e_region_text rfl ?_
            refine q_move rfl rfl ?_
            refine q_addW rfl rfl rfl ?_
            refine q_assign rfl rfl ?_
            refine eseq_nil ?_
            obtain rfl := Option.some.inj ho887
            exact ⟨m887, _, Nat.lt_succ_self _, ⟨(w64 (x945 + 1)), _, ht887, (hS.pickB [1] 2 rfl rfl), f939, f940, f941, f942, f943, f944, rfl⟩, Sub.cons rfl (Sub.cons rfl (Sub.cons rfl (Sub.cons rfl (Sub.nil _))))⟩
        · replace ho887 := (if_neg (not_true hc1000)).symm.trans ho887
          refine e_exit ?_
          obtain rfl := Option.some.inj ho887
          obtain rfl := Option.some.inj ht887
          exact hX887_2  _ _ _ ho553 hS f939 f940 f941 f942 f943 f944 (Sub.cons rfl (Sub.cons rfl (Sub.cons rfl (Sub.nil _))))
      · replace ho553 := (if_neg (not_true hc884)).symm.trans ho553
        refine e_exit ?_
        obtain rfl := Option.some.inj ho553
        obtain rfl := Option.some.inj ht553
        exact hX553_0  _ _ _ h (hS.pickB [] 1 rfl rfl)  (Sub.nil _)
end Go.Proofs.Ytbmjcbhappjnaaa
