/- Printed walks: A32e. -/
import Derived.Test.YtghjjkdfjmnfeaaA32a
set_option linter.unusedVariables false
set_option linter.unusedSimpArgs false
namespace Go.Mine
open Go.RowKit
def ref31_Undone_K1 (fuel : Nat) : Option (Bool) :=
  some false
def ref31_Undone_B1 (fuel : Nat) (a0 : (List EndI)) (a1 : Int) (a2 : Lab) (x123 : Int) : Option ((Int) ⊕ (Unit ⊕ (Bool))) :=
  (if (decide (x123 < (a0.length : Int))) = true then (ati a0 x123).bind fun x156 => (andM (x156.proc == a1) ((ati a0 x123).bind fun x161 => some (decide (a2.inc ≤ x161.inc)))).bind fun x160 => (andM x160 ((ati a0 x123).bind fun x166 => some (decide (x166.index < a2.index)))).bind fun x165 => (if x165 = true then some (Sum.inr (Sum.inr true)) else some (Sum.inl (w64 (x123 + 1)))) else some (Sum.inr (Sum.inl ())))
def ref31_Undone (fuel : Nat) (a0 : (List EndI)) (a1 : Int) (a2 : Lab) : Option (Bool) :=
  (iter (fun s => ref31_Undone_B1 fuel a0 a1 a2 s) fuel 0).bind (fun t => Sum.elim (fun t => ref31_Undone_K1 fuel) (fun t => some t) t)
def incarnation_Next_K1 (fuel : Nat) (x167 : Int) (x168 : Bool) : Option (Int) :=
  (if (!x168) = true then some 0 else some (w64 (x167 + 1)))
def incarnation_Next_B1 (fuel : Nat) (a0 : (List EndI)) (a1 : Int) (x134 : Int) (x135 : Bool) (x137 : Int) : Option ((Int × Bool × Int) ⊕ (Int × Bool)) :=
  (if (decide (x137 < (a0.length : Int))) = true then (ati a0 x137).bind fun x179 => (andM (x179.proc == a1) ((orM (!x135) (some (decide (x134 < x179.inc)))).bind fun x189 => some x189)).bind fun x187 => (if x187 = true then some (Sum.inl (x179.inc, true, (w64 (x137 + 1)))) else some (Sum.inl (x134, x135, (w64 (x137 + 1))))) else some (Sum.inr (x134, x135)))
def incarnation_Next (fuel : Nat) (a0 : (List EndI)) (a1 : Int) : Option (Int) :=
  (iter (fun s => incarnation_Next_B1 fuel a0 a1 s.1 s.2.1 s.2.2) fuel (0, false, 0)).bind (fun t => incarnation_Next_K1 fuel t.1 t.2)
def ref31_Next_K1 (fuel : Nat) (x177 : Bool) (x178 : Int) : Option (Int) :=
  (if (!x177) = true then some 0 else some (w64 (x178 + 1)))
def ref31_Next_B1 (fuel : Nat) (a0 : (List EndI)) (a1 : Int) (x143 : Bool) (x144 : Int) (x145 : Int) : Option ((Bool × Int × Int) ⊕ (Bool × Int)) :=
  (if (decide (x145 < (a0.length : Int))) = true then (ati a0 x145).bind fun x189 => (andM (x189.proc == a1) ((orM (!x143) ((ati a0 x145).bind fun x196 => some (decide (x144 < x196.inc)))).bind fun x195 => some x195)).bind fun x193 => (if x193 = true then (ati a0 x145).bind fun x200 => some (Sum.inl (true, x200.inc, (w64 (x145 + 1)))) else some (Sum.inl (x143, x144, (w64 (x145 + 1))))) else some (Sum.inr (x143, x144)))
def ref31_Next (fuel : Nat) (a0 : (List EndI)) (a1 : Int) : Option (Int) :=
  (iter (fun s => ref31_Next_B1 fuel a0 a1 s.1 s.2.1 s.2.2) fuel (false, 0, 0)).bind (fun t => ref31_Next_K1 fuel t.1 t.2)
def ref32_Orphan_K1 (fuel : Nat) : Option (Bool) :=
  some false
def ref32_Orphan_B1 (fuel : Nat) (a1 : (List Lab)) (a0 : (List EndI)) (x95 : Int) : Option ((Int) ⊕ (Unit ⊕ (Bool))) :=
  (if (decide (x95 < (a1.length : Int))) = true then (ati a1 x95).bind fun x121 => (ref31_Undone fuel a0 x95 x121).bind fun r125 => (if r125 = true then some (Sum.inr (Sum.inr true)) else some (Sum.inl (w64 (x95 + 1)))) else some (Sum.inr (Sum.inl ())))
def ref32_Orphan (fuel : Nat) (a0 : (List EndI)) (a1 : (List Lab)) : Option (Bool) :=
  (iter (fun s => ref32_Orphan_B1 fuel a1 a0 s) fuel 0).bind (fun t => Sum.elim (fun t => ref32_Orphan_K1 fuel) (fun t => some t) t)
def orphan_Premature_K1 (fuel : Nat) : Option (Bool) :=
  some false
def orphan_Premature_B1 (fuel : Nat) (a1 : (List Lab)) (a0 : (List EndI)) (x119 : Int) : Option ((Int) ⊕ (Unit ⊕ (Bool))) :=
  (if (decide (x119 < (a1.length : Int))) = true then (ati a1 x119).bind fun x151 => (incarnation_Next fuel a0 x119).bind fun r161 => (if (decide (r161 < x151.inc)) = true then some (Sum.inr (Sum.inr true)) else some (Sum.inl (w64 (x119 + 1)))) else some (Sum.inr (Sum.inl ())))
def orphan_Premature (fuel : Nat) (a0 : (List EndI)) (a1 : (List Lab)) : Option (Bool) :=
  (iter (fun s => orphan_Premature_B1 fuel a1 a0 s) fuel 0).bind (fun t => Sum.elim (fun t => orphan_Premature_K1 fuel) (fun t => some t) t)
def ref32_Premature_K1 (fuel : Nat) : Option (Bool) :=
  some false
def ref32_Premature_B1 (fuel : Nat) (a1 : (List Lab)) (a0 : (List EndI)) (x115 : Int) : Option ((Int) ⊕ (Unit ⊕ (Bool))) :=
  (if (decide (x115 < (a1.length : Int))) = true then (ati a1 x115).bind fun x151 => (ref31_Next fuel a0 x115).bind fun r155 => (if (decide (r155 < x151.inc)) = true then some (Sum.inr (Sum.inr true)) else some (Sum.inl (w64 (x115 + 1)))) else some (Sum.inr (Sum.inl ())))
def ref32_Premature (fuel : Nat) (a0 : (List EndI)) (a1 : (List Lab)) : Option (Bool) :=
  (iter (fun s => ref32_Premature_B1 fuel a1 a0 s) fuel 0).bind (fun t => Sum.elim (fun t => ref32_Premature_K1 fuel) (fun t => some t) t)
def make_Codes_Ends_K1 (fuel : Nat) (x157 : Int) (x160 : (List EndI)) : Option ((List EndI) × Int) :=
  some (x160, x157)
def make_Codes_Ends_B1 (fuel : Nat) (c0_0 : (List Int)) (x127 : Int) (x130 : (List EndI)) (x131 : Int) : Option ((Int × (List EndI) × Int) ⊕ (Int × (List EndI))) :=
  (if (decide (0 < x131)) = true then (make_Codes_Next fuel 3 c0_0 x127).bind fun r168 => (make_Codes_Next fuel 4 c0_0 r168.2).bind fun r170 => (make_Codes_Next fuel 6 c0_0 r170.2).bind fun r172 => (snoc x130 (⟨r168.1, r170.1, r172.1⟩ : EndI)).bind fun x176 => some (Sum.inl (r172.2, x176, (w64 (x131 - 1)))) else some (Sum.inr (x127, x130)))
def make_Codes_Ends (fuel : Nat) (a1 : Int) (c0_0 : (List Int)) (c0_1 : Int) : Option ((List EndI) × Int) :=
  (make_Codes_Next fuel (w64 (a1 + 1)) c0_0 c0_1).bind fun r96 => (iter (fun s => make_Codes_Ends_B1 fuel c0_0 s.1 s.2.1 s.2.2) fuel (r96.2, ([] : List EndI), r96.1)).bind (fun t => make_Codes_Ends_K1 fuel t.1 t.2)
def law32_OrphanAsks_K1 (fuel : Nat) (a0 : (List EndI)) (a1 : (List Lab)) (r159 : ((List EndI) × Int)) (x236 : (List Lab)) : Option (Bool) :=
  (orphan_Orphan fuel a0 a1).bind fun r239 => (ref32_Orphan fuel a0 a1).bind fun r241 => (andM (r239 == r241) ((orphan_Orphan fuel r159.1 x236).bind fun r245 => (ref32_Orphan fuel r159.1 x236).bind fun r247 => some (r245 == r247))).bind fun x243 => (andM x243 ((orphan_Premature fuel a0 a1).bind fun r251 => (ref32_Premature fuel a0 a1).bind fun r253 => some (r251 == r253))).bind fun x249 => (andM x249 ((orphan_Premature fuel r159.1 x236).bind fun r257 => (ref32_Premature fuel r159.1 x236).bind fun r259 => some (r257 == r259))).bind fun x255 => some x255
def law32_OrphanAsks_B1 (fuel : Nat) (r154 : ((List Int) × Int)) (x200 : Int) (x204 : (List Lab)) (x205 : Int) : Option ((Int × (List Lab) × Int) ⊕ ((List Lab))) :=
  (if (decide (x205 < 3)) = true then (make_Codes_Next fuel 4 r154.1 x200).bind fun r266 => (make_Codes_Next fuel 6 r154.1 r266.2).bind fun r268 => (snoc x204 (⟨r266.1, r268.1⟩ : Lab)).bind fun x272 => some (Sum.inl (r268.2, x272, (w64 (x205 + 1)))) else some (Sum.inr x204))
def law32_OrphanAsks (fuel : Nat) (a0 : (List EndI)) (a1 : (List Lab)) (a2 : (List Int)) : Option (Bool) :=
  (law32_awake fuel).bind fun r143 => (orM (!r143) (some (decide (60 < (a0.length : Int))))).bind fun x145 => (orM x145 (some (decide (60 < (a1.length : Int))))).bind fun x147 => (if x147 = true then (orM (decide (60 < (a0.length : Int))) (some (decide (60 < (a1.length : Int))))).bind fun x151 => some x151 else (make_New fuel a2 100).bind fun r154 => (make_Codes_Ends fuel 6 r154.1 r154.2).bind fun r159 => (iter (fun s => law32_OrphanAsks_B1 fuel r154 s.1 s.2.1 s.2.2) fuel (r159.2, ([] : List Lab), 0)).bind (fun t => law32_OrphanAsks_K1 fuel a0 a1 r159 t))
end Go.Mine
namespace Go.Proofs.Ytghjjkdfjmnfeaa
open Go.RowKit Go.Mine
attribute [local irreducible] eseq ewp iter
theorem ref31_Undone_w {F R : Nat → Prop} {w : World} {fuel : Nat} {a0 : (List EndI)} {a1 : Int} {a2 : Lab} {v1 : Value} {r : (Bool)} (hS : Sep F R R w w []) (f1 : IsSlice endITy w R v1 a0) (h : ref31_Undone fuel a0 a1 a2 = some r) :
    Gives Try.prog 62 [v1, .int .i64 a1, .agg #[.int .i64 a2.inc, .int .i64 a2.index]] w fun u w1 => ∃ (R1 : Nat → Prop), u = .bool r ∧ Sep F R R1 w w1 [] := by
  refine fn_of Try.func62 rfl Try.ntmps62 (Nat.le_of_ble_eq_true rfl) ?_
  unfold ref31_Undone at h
  refine e_seq fun K87 hK87 => ?_
  refine e_region_text rfl ?_
  refine q_boxB rfl rfl rfl fun w88 bl88 hg88 hb88 hB88 => ?_
  replace f1 := f1.ext hB88
  replace hS := hS.newBlk hB88 hg88 hb88
  refine q_assign rfl rfl ?_
  refine eseq_nil ?_
  refine hK87 _ _ ?_
  refine e_seq fun K90 hK90 => ?_
  refine e_seq fun K91 hK91 => ?_
  refine e_region_text rfl ?_
  refine q_assign rfl rfl ?_
  refine eseq_nil ?_
  refine hK91 _ _ ?_
  refine e_block ?_
  obtain ⟨tl92, ht92, h⟩ := Option.of_bind h
  have hX92_0 : ∀ (R148 : Nat → Prop) (w149 : World) (E_ : Env), ref31_Undone_K1 fuel = some r → Sep F R R148 w w149 [] → Sub [] E_ → K90 E_ w149 := by
    intro R148 w149 E_ h hS  hsub
    refine hK90 _ _ (e_sub hsub ?_); clear hsub
    unfold ref31_Undone_K1 at h
    refine e_seq fun K150 hK150 => ?_
    refine e_region_text rfl ?_
    refine q_assign rfl rfl ?_
    refine eseq_nil ?_
    refine hK150 _ _ ?_
    refine e_ret ?_
    obtain rfl := Option.some.inj h
    exact ⟨_, res1 rfl rfl, _, rfl, hS⟩
  refine e_loop (fun m_ E_ w121 => ∃ (x123 : Int), ∃ (R120 : Nat → Prop), iter (fun s => ref31_Undone_B1 fuel a0 a1 a2 s) m_ x123 = some tl92 ∧ Sep F R R120 w w121 [HP.blk bl88 [.int .i64 a2.inc, .int .i64 a2.index] 29] ∧ IsSlice endITy w121 R120 v1 a0 ∧ E_ = [(0, v1), (1, .int .i64 a1), (5, .pointer (some ⟨bl88, 0, none⟩)), (7, .int .i64 x123)]) _ ⟨_, ⟨0, _, ht92, hS, f1, rfl⟩, Sub.cons rfl (Sub.cons rfl (Sub.cons rfl (Sub.cons rfl (Sub.nil _))))⟩ ?_
  clear ht92 hS
  rintro m92 _ w121 ⟨x123, R120, ht92, hS, f122, rfl⟩
  obtain ⟨m92, rfl, o92, ho92, ht92⟩ := iter_some ht92
  replace ho92 : ref31_Undone_B1 fuel a0 a1 a2 x123 = some o92 := ho92
  unfold ref31_Undone_B1 at ho92
  refine e_seq fun K151 hK151 => ?_
  refine e_seq fun K152 hK152 => ?_
  refine e_region_text rfl ?_
  refine q_move rfl rfl ?_
  refine q_move rfl rfl ?_
  refine q_lenS rfl f122 rfl ?_
  refine q_lss rfl rfl rfl ?_
  refine eseq_nil ?_
  refine hK152 _ _ ?_
  refine e_cond rfl (fun hc153 => ?_) (fun hc153 => ?_)
  · replace ho92 := (if_pos hc153).symm.trans ho92
    refine e_skip ?_
    refine hK151 _ _ ?_
    refine e_seq fun K154 hK154 => ?_
    refine e_block ?_
    refine e_seq fun K155 hK155 => ?_
    refine e_region_draw mixed (fun _ => False) [0, 0, 3, 7, 15, 0, 63, 127, 255, 255, 1023, 2047, 4095, 255, 8447, 32767, 65535, 131071, 262143, 262143, 1048575, 2097151, 4194303, 262143, 8650751, 33554431, 67108863] [] [0, 1, 2, 3, 4, 5, 6, 7, 8, 9, 10, 11, 12, 13, 14, 15, 16, 17, 18, 19, 20, 21, 22, 23, 24, 25, 26] (by kernel_rfl) ?_
    refine q_move rfl rfl ?_
    refine q_move rfl rfl ?_
    obtain ⟨x156, hx156, ho92⟩ := Option.of_bind ho92
    refine q_atS (by infer_instance) rfl f122 rfl hx156 rfl fun b157 o157 hm157 f157 => ?_
    refine q_field rfl rfl ?_
    have f158 := EndI_F0 f157
    refine q_load rfl (Elt.intCell f158) rfl ?_
    refine q_move rfl rfl ?_
    refine q_eql rfl rfl rfl ?_
    refine q_move rfl rfl ?_
    obtain ⟨x160, hx159, ho92⟩ := Option.of_bind ho92
    refine g_andM 8 hx159 rfl trivial rfl rfl ?_ ?_ ?_
    · intro hg159 hx159
      clear ho92
      have hT159 := Below.refl (World.heap w121).size w121
      refine g_run rfl ?_; refine q_move rfl rfl ?_
      refine g_run rfl ?_; refine q_move rfl rfl ?_
      obtain ⟨x161, hx161, hx159⟩ := Option.of_bind hx159
      refine g_run rfl ?_; refine q_atS (by infer_instance) rfl f122 rfl hx161 rfl fun b162 o162 hm162 f162 => ?_
      refine g_run rfl ?_; refine q_field rfl rfl ?_
      have f163 := EndI_F1 f162
      refine g_run rfl ?_; refine q_load rfl (Elt.intCell f163) rfl ?_
      refine g_run rfl ?_; refine q_field rfl rfl ?_
      refine g_run rfl ?_; refine q_load rfl (Blk.cell (hS.blk 0 rfl) rfl) rfl ?_
      refine g_run rfl ?_; refine q_geq rfl rfl rfl ?_
      cases hx159
      exact eseq_nil ⟨hT159, Sub.set rfl (Sub.set rfl (Sub.set rfl (Sub.set rfl (Sub.set rfl (Sub.set rfl (Sub.set rfl (Sub.set rfl (Sub.bool true rfl hg159)))))))), rfl⟩
    · intro hg159
      refine g_skip rfl rfl rfl ?_
      refine g_skip rfl rfl rfl ?_
      refine g_skip rfl rfl rfl ?_
      refine g_skip rfl rfl rfl ?_
      refine g_skip rfl rfl rfl ?_
      refine g_skip rfl rfl rfl ?_
      refine g_skip rfl rfl rfl ?_
      refine g_skip rfl rfl rfl ?_
      exact eseq_nil ⟨rfl, Sub.set rfl (Sub.set rfl (Sub.set rfl (Sub.set rfl (Sub.set rfl (Sub.set rfl (Sub.set rfl (Sub.set rfl (Sub.bool false rfl hg159))))))))⟩
    intro wm159 hBm159; clear hx159
    replace hS := hS.below hBm159
    replace f122 := f122.ext hBm159
    refine q_move rfl rfl ?_
    obtain ⟨x165, hx164, ho92⟩ := Option.of_bind ho92
    refine g_andM 8 hx164 rfl trivial rfl rfl ?_ ?_ ?_
    · intro hg164 hx164
      clear ho92
      have hT164 := Below.refl (World.heap wm159).size wm159
      refine g_run rfl ?_; refine q_move rfl rfl ?_
      refine g_run rfl ?_; refine q_move rfl rfl ?_
      obtain ⟨x166, hx166, hx164⟩ := Option.of_bind hx164
      refine g_run rfl ?_; refine q_atS (by infer_instance) rfl f122 rfl hx166 rfl fun b167 o167 hm167 f167 => ?_
      refine g_run rfl ?_; refine q_field rfl rfl ?_
      have f168 := EndI_F2 f167
      refine g_run rfl ?_; refine q_load rfl (Elt.intCell f168) rfl ?_
      refine g_run rfl ?_; refine q_field rfl rfl ?_
      refine g_run rfl ?_; refine q_load rfl (Blk.cell (hS.blk 0 rfl) rfl) rfl ?_
      refine g_run rfl ?_; refine q_lss rfl rfl rfl ?_
      cases hx164
      exact eseq_nil ⟨hT164, Sub.set rfl (Sub.set rfl (Sub.set rfl (Sub.set rfl (Sub.set rfl (Sub.set rfl (Sub.set rfl (Sub.set rfl (Sub.bool true rfl hg164)))))))), rfl⟩
    · intro hg164
      refine g_skip rfl rfl rfl ?_
      refine g_skip rfl rfl rfl ?_
      refine g_skip rfl rfl rfl ?_
      refine g_skip rfl rfl rfl ?_
      refine g_skip rfl rfl rfl ?_
      refine g_skip rfl rfl rfl ?_
      refine g_skip rfl rfl rfl ?_
      refine g_skip rfl rfl rfl ?_
      exact eseq_nil ⟨rfl, Sub.set rfl (Sub.set rfl (Sub.set rfl (Sub.set rfl (Sub.set rfl (Sub.set rfl (Sub.set rfl (Sub.set rfl (Sub.bool false rfl hg164))))))))⟩
    intro wm164 hBm164; clear hx164
    replace hS := hS.below hBm164
    replace f122 := f122.ext hBm164
    refine eseq_nil ?_
    refine hK155 _ _ ?_
    refine e_cond rfl (fun hc169 => ?_) (fun hc169 => ?_)
    · replace ho92 := (if_pos hc169).symm.trans ho92
      refine e_seq fun K170 hK170 => ?_
      refine e_region_text rfl ?_
      refine q_assign rfl rfl ?_
      refine eseq_nil ?_
      refine hK170 _ _ ?_
      refine e_ret ?_
      obtain rfl := Option.some.inj ho92
      obtain rfl := Option.some.inj ht92
      obtain rfl := Option.some.inj h
      exact ⟨_, res1 rfl rfl, _, rfl, (hS.pickB [] 1 rfl rfl)⟩
    · replace ho92 := (if_neg (not_true hc169)).symm.trans ho92
      refine e_skip ?_
      refine hK154 _ _ ?_
      refine e_region_text rfl ?_
      refine q_move rfl rfl ?_
      refine q_addW rfl rfl rfl ?_
      refine q_assign rfl rfl ?_
      refine eseq_nil ?_
      obtain rfl := Option.some.inj ho92
      exact ⟨m92, _, Nat.lt_succ_self _, ⟨(w64 (x123 + 1)), _, ht92, hS, f122, rfl⟩, Sub.cons rfl (Sub.cons rfl (Sub.cons rfl (Sub.cons rfl (Sub.nil _))))⟩
  · replace ho92 := (if_neg (not_true hc153)).symm.trans ho92
    refine e_exit ?_
    obtain rfl := Option.some.inj ho92
    obtain rfl := Option.some.inj ht92
    exact hX92_0  _ _ _ h (hS.pickB [] 1 rfl rfl)  (Sub.nil _)
theorem incarnation_Next_w {F R : Nat → Prop} {w : World} {fuel : Nat} {a0 : (List EndI)} {a1 : Int} {v1 : Value} {r : (Int)} (hS : Sep F R R w w []) (f1 : IsSlice endITy w R v1 a0) (h : incarnation_Next fuel a0 a1 = some r) :
    Gives Try.prog 63 [v1, .int .i64 a1] w fun u w1 => ∃ (R1 : Nat → Prop), u = .int .i64 r ∧ Sep F R R1 w w1 [] := by
  refine fn_of Try.func63 rfl Try.ntmps63 (Nat.le_of_ble_eq_true rfl) ?_
  unfold incarnation_Next at h
  refine e_seq fun K97 hK97 => ?_
  refine e_region_text rfl ?_
  refine q_assign rfl rfl ?_
  refine eseq_nil ?_
  refine hK97 _ _ ?_
  refine e_seq fun K98 hK98 => ?_
  refine e_region_text rfl ?_
  refine q_assign rfl rfl ?_
  refine q_assign rfl rfl ?_
  refine eseq_nil ?_
  refine hK98 _ _ ?_
  refine e_seq fun K99 hK99 => ?_
  refine e_seq fun K100 hK100 => ?_
  refine e_region_text rfl ?_
  refine q_move rfl rfl ?_
  refine q_lenS rfl f1 rfl ?_
  refine q_move rfl rfl ?_
  refine eseq_nil ?_
  refine hK100 _ _ ?_
  refine e_block ?_
  obtain ⟨tl101, ht101, h⟩ := Option.of_bind h
  have hX101_0 : ∀ (x167 : Int) (x168 : Bool) (R165 : Nat → Prop) (w166 : World) (E_ : Env), incarnation_Next_K1 fuel x167 x168 = some r → Sep F R R165 w w166 [] → Sub [(5, .int .i64 x167), (6, .bool x168)] E_ → K99 E_ w166 := by
    intro x167 x168 R165 w166 E_ h hS  hsub
    refine hK99 _ _ (e_sub hsub ?_); clear hsub
    unfold incarnation_Next_K1 at h
    refine e_seq fun K169 hK169 => ?_
    refine e_seq fun K170 hK170 => ?_
    refine e_region_text rfl ?_
    refine q_move rfl rfl ?_
    refine q_not rfl rfl ?_
    refine eseq_nil ?_
    refine hK170 _ _ ?_
    refine e_cond rfl (fun hc171 => ?_) (fun hc171 => ?_)
    · replace h := (if_pos hc171).symm.trans h
      refine e_seq fun K172 hK172 => ?_
      refine e_region_text rfl ?_
      refine q_assign rfl rfl ?_
      refine eseq_nil ?_
      refine hK172 _ _ ?_
      refine e_ret ?_
      obtain rfl := Option.some.inj h
      exact ⟨_, res1 rfl rfl, _, rfl, hS⟩
    · replace h := (if_neg (not_true hc171)).symm.trans h
      refine e_skip ?_
      refine hK169 _ _ ?_
      refine e_seq fun K173 hK173 => ?_
      refine e_region_text rfl ?_
      refine q_move rfl rfl ?_
      refine q_addW rfl rfl rfl ?_
      refine q_assign rfl rfl ?_
      refine eseq_nil ?_
      refine hK173 _ _ ?_
      refine e_ret ?_
      obtain rfl := Option.some.inj h
      exact ⟨_, res1 rfl rfl, _, rfl, hS⟩
  refine e_loop (fun m_ E_ w133 => ∃ (x134 : Int), ∃ (x135 : Bool), ∃ (x137 : Int), ∃ (R132 : Nat → Prop), iter (fun s => incarnation_Next_B1 fuel a0 a1 s.1 s.2.1 s.2.2) m_ (x134, x135, x137) = some tl101 ∧ Sep F R R132 w w133 [] ∧ IsSlice endITy w133 R132 v1 a0 ∧ E_ = [(1, .int .i64 a1), (5, .int .i64 x134), (6, .bool x135), (9, v1), (10, .int .i64 (a0.length : Int)), (11, .int .i64 x137)]) _ ⟨_, ⟨0, false, 0, _, ht101, hS, f1, rfl⟩, Sub.cons rfl (Sub.cons rfl (Sub.cons rfl (Sub.cons rfl (Sub.cons rfl (Sub.cons rfl (Sub.nil _))))))⟩ ?_
  clear ht101 hS
  rintro m101 _ w133 ⟨x134, x135, x137, R132, ht101, hS, f136, rfl⟩
  obtain ⟨m101, rfl, o101, ho101, ht101⟩ := iter_some ht101
  replace ho101 : incarnation_Next_B1 fuel a0 a1 x134 x135 x137 = some o101 := ho101
  unfold incarnation_Next_B1 at ho101
  refine e_seq fun K174 hK174 => ?_
  refine e_region_text rfl ?_
  refine q_lss rfl rfl rfl ?_
  refine eseq_nil ?_
  refine hK174 _ _ ?_
  refine e_seq fun K175 hK175 => ?_
  refine e_cond rfl (fun hc176 => ?_) (fun hc176 => ?_)
  · replace ho101 := (if_pos hc176).symm.trans ho101
    refine e_skip ?_
    refine hK175 _ _ ?_
    refine e_seq fun K177 hK177 => ?_
    refine e_block ?_
    refine e_seq fun K178 hK178 => ?_
    refine e_region_text rfl ?_
    obtain ⟨x179, hx179, ho101⟩ := Option.of_bind ho101
    refine q_atS (by infer_instance) rfl f136 rfl hx179 rfl fun b180 o180 hm180 f180 => ?_
    have hc181 := EndI_open f180
    refine q_loadAgg rfl hc181 rfl rfl ?_
    refine q_allocB rfl fun w182 bl182 hg182 hb182 hB182 => ?_
    replace f136 := f136.ext hB182
    replace hS := hS.newBlk hB182 hg182 hb182
    refine q_storeAgg rfl rfl (hS.blk 0 rfl) rfl (Nat.le_of_ble_eq_true rfl) (all_cons rfl (all_cons rfl (all_cons rfl (all_nil)))) rfl rfl fun w184 hb184 hO184 => ?_
    simp only [setN, List.set, List.take, List.drop] at hb184
    have hk184 := hS.keptBlk 0 rfl hO184
    replace f136 := f136.kept hk184
    replace hS := hS.setBlk 0 rfl hb184 hO184; simp only [List.set] at hS
    refine eseq_nil ?_
    refine hK178 _ _ ?_
    refine e_seq fun K185 hK185 => ?_
    refine e_region_text rfl ?_
    refine q_field rfl rfl ?_
    refine q_load rfl (Blk.cell (hS.blk 0 rfl) rfl) rfl ?_
    refine q_move rfl rfl ?_
    refine q_eql rfl rfl rfl ?_
    refine q_move rfl rfl ?_
    obtain ⟨x187, hx186, ho101⟩ := Option.of_bind ho101
    refine g_andM 8 hx186 rfl trivial rfl rfl ?_ ?_ ?_
    · intro hg186 hx186
      clear ho101
      have hT186 := Below.refl (World.heap w184).size w184
      refine g_run rfl ?_; refine q_move rfl rfl ?_
      refine g_run rfl ?_; refine q_not rfl rfl ?_
      refine g_run rfl ?_; refine q_move rfl rfl ?_
      obtain ⟨x189, hx188, hx186⟩ := Option.of_bind hx186
      refine g_orM 4 hx188 rfl rfl rfl rfl ?_ ?_ ?_
      · intro hg188
        refine g_skip rfl rfl rfl ?_
        refine g_skip rfl rfl rfl ?_
        refine g_skip rfl rfl rfl ?_
        refine g_skip rfl rfl rfl ?_
        exact eseq_nil ⟨rfl, Sub.set rfl (Sub.set rfl (Sub.set rfl (Sub.set rfl (Sub.bool true rfl hg188))))⟩
      · intro hg188 hx188
        clear hx186
        have hT188 := Below.refl (World.heap w184).size w184
        refine g_run rfl ?_; refine q_field rfl rfl ?_
        refine g_run rfl ?_; refine q_load rfl (Blk.cell (hS.blk 0 rfl) rfl) rfl ?_
        refine g_run rfl ?_; refine q_move rfl rfl ?_
        refine g_run rfl ?_; refine q_gtr rfl rfl rfl ?_
        cases hx188
        exact eseq_nil ⟨hT188, Sub.set rfl (Sub.set rfl (Sub.set rfl (Sub.set rfl (Sub.bool false rfl hg188)))), rfl⟩
      intro wm188 hBm188; clear hx188
      replace hS := hS.below hBm188
      replace f136 := f136.ext hBm188
      replace hT186 := hT186.trans (Below.mono hBm188 hT186.size)
      cases hx186
      exact eseq_nil ⟨hT186, Sub.set rfl (Sub.set rfl (Sub.set rfl (Sub.set rfl (Sub.bool true rfl hg186)))), rfl⟩
    · intro hg186
      refine g_skip rfl rfl rfl ?_
      refine g_skip rfl rfl rfl ?_
      refine g_skip rfl rfl rfl ?_
      refine g_skipU rfl rfl ?_
      refine g_skipU rfl rfl ?_
      refine g_skipU rfl rfl ?_
      refine g_skipU rfl rfl ?_
      refine g_skip rfl rfl rfl ?_
      exact eseq_nil ⟨rfl, Sub.set rfl (Sub.set rfl (Sub.set rfl (Sub.set rfl (Sub.set rfl (Sub.set rfl (Sub.set rfl (Sub.set rfl (Sub.bool false rfl hg186))))))))⟩
    intro wm186 hBm186; clear hx186
    replace hS := hS.below hBm186
    replace f136 := f136.ext hBm186
    refine eseq_nil ?_
    refine hK185 _ _ ?_
    refine e_cond rfl (fun hc190 => ?_) (fun hc190 => ?_)
    · replace ho101 := (if_pos hc190).symm.trans ho101
      refine e_region_text rfl ?_
      refine q_field rfl rfl ?_
      refine q_load rfl (Blk.cell (hS.blk 0 rfl) rfl) rfl ?_
      refine q_assign rfl rfl ?_
      refine q_assign rfl rfl ?_
      refine eseq_nil ?_
      refine hK177 _ _ ?_
      refine e_region_text rfl ?_
      refine q_addW rfl rfl rfl ?_
      refine q_move rfl rfl ?_
      refine eseq_nil ?_
      obtain rfl := Option.some.inj ho101
      exact ⟨m101, _, Nat.lt_succ_self _, ⟨x179.inc, true, (w64 (x137 + 1)), _, ht101, (hS.pickB [] 1 rfl rfl), f136, rfl⟩, Sub.cons rfl (Sub.cons rfl (Sub.cons rfl (Sub.cons rfl (Sub.cons rfl (Sub.cons rfl (Sub.nil _))))))⟩
    · replace ho101 := (if_neg (not_true hc190)).symm.trans ho101
      refine e_skip ?_
      refine hK177 _ _ ?_
      refine e_region_text rfl ?_
      refine q_addW rfl rfl rfl ?_
      refine q_move rfl rfl ?_
      refine eseq_nil ?_
      obtain rfl := Option.some.inj ho101
      exact ⟨m101, _, Nat.lt_succ_self _, ⟨x134, x135, (w64 (x137 + 1)), _, ht101, (hS.pickB [] 1 rfl rfl), f136, rfl⟩, Sub.cons rfl (Sub.cons rfl (Sub.cons rfl (Sub.cons rfl (Sub.cons rfl (Sub.cons rfl (Sub.nil _))))))⟩
  · replace ho101 := (if_neg (not_true hc176)).symm.trans ho101
    refine e_exit ?_
    obtain rfl := Option.some.inj ho101
    obtain rfl := Option.some.inj ht101
    exact hX101_0 x134 x135 _ _ _ h hS  (Sub.cons rfl (Sub.cons rfl (Sub.nil _)))
theorem ref31_Next_w {F R : Nat → Prop} {w : World} {fuel : Nat} {a0 : (List EndI)} {a1 : Int} {v1 : Value} {r : (Int)} (hS : Sep F R R w w []) (f1 : IsSlice endITy w R v1 a0) (h : ref31_Next fuel a0 a1 = some r) :
    Gives Try.prog 64 [v1, .int .i64 a1] w fun u w1 => ∃ (R1 : Nat → Prop), u = .int .i64 r ∧ Sep F R R1 w w1 [] := by
  refine fn_of Try.func64 rfl Try.ntmps64 (Nat.le_of_ble_eq_true rfl) ?_
  unfold ref31_Next at h
  refine e_seq fun K103 hK103 => ?_
  refine e_region_text rfl ?_
  refine q_assign rfl rfl ?_
  refine eseq_nil ?_
  refine hK103 _ _ ?_
  refine e_seq fun K104 hK104 => ?_
  refine e_region_text rfl ?_
  refine q_assign rfl rfl ?_
  refine q_assign rfl rfl ?_
  refine eseq_nil ?_
  refine hK104 _ _ ?_
  refine e_seq fun K105 hK105 => ?_
  refine e_seq fun K106 hK106 => ?_
  refine e_region_text rfl ?_
  refine q_assign rfl rfl ?_
  refine eseq_nil ?_
  refine hK106 _ _ ?_
  refine e_block ?_
  obtain ⟨tl107, ht107, h⟩ := Option.of_bind h
  have hX107_0 : ∀ (x177 : Bool) (x178 : Int) (R175 : Nat → Prop) (w176 : World) (E_ : Env), ref31_Next_K1 fuel x177 x178 = some r → Sep F R R175 w w176 [] → Sub [(5, .bool x177), (6, .int .i64 x178)] E_ → K105 E_ w176 := by
    intro x177 x178 R175 w176 E_ h hS  hsub
    refine hK105 _ _ (e_sub hsub ?_); clear hsub
    unfold ref31_Next_K1 at h
    refine e_seq fun K179 hK179 => ?_
    refine e_seq fun K180 hK180 => ?_
    refine e_region_text rfl ?_
    refine q_move rfl rfl ?_
    refine q_not rfl rfl ?_
    refine eseq_nil ?_
    refine hK180 _ _ ?_
    refine e_cond rfl (fun hc181 => ?_) (fun hc181 => ?_)
    · replace h := (if_pos hc181).symm.trans h
      refine e_seq fun K182 hK182 => ?_
      refine e_region_text rfl ?_
      refine q_assign rfl rfl ?_
      refine eseq_nil ?_
      refine hK182 _ _ ?_
      refine e_ret ?_
      obtain rfl := Option.some.inj h
      exact ⟨_, res1 rfl rfl, _, rfl, hS⟩
    · replace h := (if_neg (not_true hc181)).symm.trans h
      refine e_skip ?_
      refine hK179 _ _ ?_
      refine e_seq fun K183 hK183 => ?_
      refine e_region_text rfl ?_
      refine q_move rfl rfl ?_
      refine q_addW rfl rfl rfl ?_
      refine q_assign rfl rfl ?_
      refine eseq_nil ?_
      refine hK183 _ _ ?_
      refine e_ret ?_
      obtain rfl := Option.some.inj h
      exact ⟨_, res1 rfl rfl, _, rfl, hS⟩
  refine e_loop (fun m_ E_ w141 => ∃ (x143 : Bool), ∃ (x144 : Int), ∃ (x145 : Int), ∃ (R140 : Nat → Prop), iter (fun s => ref31_Next_B1 fuel a0 a1 s.1 s.2.1 s.2.2) m_ (x143, x144, x145) = some tl107 ∧ Sep F R R140 w w141 [] ∧ IsSlice endITy w141 R140 v1 a0 ∧ E_ = [(0, v1), (1, .int .i64 a1), (5, .bool x143), (6, .int .i64 x144), (7, .int .i64 x145)]) _ ⟨_, ⟨false, 0, 0, _, ht107, hS, f1, rfl⟩, Sub.cons rfl (Sub.cons rfl (Sub.cons rfl (Sub.cons rfl (Sub.cons rfl (Sub.nil _)))))⟩ ?_
  clear ht107 hS
  rintro m107 _ w141 ⟨x143, x144, x145, R140, ht107, hS, f142, rfl⟩
  obtain ⟨m107, rfl, o107, ho107, ht107⟩ := iter_some ht107
  replace ho107 : ref31_Next_B1 fuel a0 a1 x143 x144 x145 = some o107 := ho107
  unfold ref31_Next_B1 at ho107
  refine e_seq fun K184 hK184 => ?_
  refine e_seq fun K185 hK185 => ?_
  refine e_region_text rfl ?_
  refine q_move rfl rfl ?_
  refine q_move rfl rfl ?_
  refine q_lenS rfl f142 rfl ?_
  refine q_lss rfl rfl rfl ?_
  refine eseq_nil ?_
  refine hK185 _ _ ?_
  refine e_cond rfl (fun hc186 => ?_) (fun hc186 => ?_)
  · replace ho107 := (if_pos hc186).symm.trans ho107
    refine e_skip ?_
    refine hK184 _ _ ?_
    refine e_seq fun K187 hK187 => ?_
    refine e_block ?_
    refine e_seq fun K188 hK188 => ?_
    refine e_region_text rfl ?_
    refine q_move rfl rfl ?_
    refine q_move rfl rfl ?_
    obtain ⟨x189, hx189, ho107⟩ := Option.of_bind ho107
    refine q_atS (by infer_instance) rfl f142 rfl hx189 rfl fun b190 o190 hm190 f190 => ?_
    refine q_field rfl rfl ?_
    have f191 := EndI_F0 f190
    refine q_load rfl (Elt.intCell f191) rfl ?_
    refine q_move rfl rfl ?_
    refine q_eql rfl rfl rfl ?_
    refine q_move rfl rfl ?_
    obtain ⟨x193, hx192, ho107⟩ := Option.of_bind ho107
    refine g_andM 11 hx192 rfl trivial rfl rfl ?_ ?_ ?_
    · intro hg192 hx192
      clear ho107
      have hT192 := Below.refl (World.heap w141).size w141
      refine g_run rfl ?_; refine q_move rfl rfl ?_
      refine g_run rfl ?_; refine q_not rfl rfl ?_
      refine g_run rfl ?_; refine q_move rfl rfl ?_
      obtain ⟨x195, hx194, hx192⟩ := Option.of_bind hx192
      refine g_orM 7 hx194 rfl rfl rfl rfl ?_ ?_ ?_
      · intro hg194
        refine g_skip rfl rfl rfl ?_
        refine g_skip rfl rfl rfl ?_
        refine g_skip rfl rfl rfl ?_
        refine g_skip rfl rfl rfl ?_
        refine g_skip rfl rfl rfl ?_
        refine g_skip rfl rfl rfl ?_
        refine g_skip rfl rfl rfl ?_
        exact eseq_nil ⟨rfl, Sub.set rfl (Sub.set rfl (Sub.set rfl (Sub.set rfl (Sub.set rfl (Sub.set rfl (Sub.set rfl (Sub.bool true rfl hg194)))))))⟩
      · intro hg194 hx194
        clear hx192
        have hT194 := Below.refl (World.heap w141).size w141
        refine g_run rfl ?_; refine q_move rfl rfl ?_
        refine g_run rfl ?_; refine q_move rfl rfl ?_
        obtain ⟨x196, hx196, hx194⟩ := Option.of_bind hx194
        refine g_run rfl ?_; refine q_atS (by infer_instance) rfl f142 rfl hx196 rfl fun b197 o197 hm197 f197 => ?_
        refine g_run rfl ?_; refine q_field rfl rfl ?_
        have f198 := EndI_F1 f197
        refine g_run rfl ?_; refine q_load rfl (Elt.intCell f198) rfl ?_
        refine g_run rfl ?_; refine q_move rfl rfl ?_
        refine g_run rfl ?_; refine q_gtr rfl rfl rfl ?_
        cases hx194
        exact eseq_nil ⟨hT194, Sub.set rfl (Sub.set rfl (Sub.set rfl (Sub.set rfl (Sub.set rfl (Sub.set rfl (Sub.set rfl (Sub.bool false rfl hg194))))))), rfl⟩
      intro wm194 hBm194; clear hx194
      replace hS := hS.below hBm194
      replace f142 := f142.ext hBm194
      replace hT192 := hT192.trans (Below.mono hBm194 hT192.size)
      cases hx192
      exact eseq_nil ⟨hT192, Sub.set rfl (Sub.set rfl (Sub.set rfl (Sub.set rfl (Sub.bool true rfl hg192)))), rfl⟩
    · intro hg192
      refine g_skip rfl rfl rfl ?_
      refine g_skip rfl rfl rfl ?_
      refine g_skip rfl rfl rfl ?_
      refine g_skipU rfl rfl ?_
      refine g_skipU rfl rfl ?_
      refine g_skipU rfl rfl ?_
      refine g_skipU rfl rfl ?_
      refine g_skipU rfl rfl ?_
      refine g_skipU rfl rfl ?_
      refine g_skipU rfl rfl ?_
      refine g_skip rfl rfl rfl ?_
      exact eseq_nil ⟨rfl, Sub.set rfl (Sub.set rfl (Sub.set rfl (Sub.set rfl (Sub.set rfl (Sub.set rfl (Sub.set rfl (Sub.set rfl (Sub.set rfl (Sub.set rfl (Sub.set rfl (Sub.bool false rfl hg192)))))))))))⟩
    intro wm192 hBm192; clear hx192
    replace hS := hS.below hBm192
    replace f142 := f142.ext hBm192
    refine eseq_nil ?_
    refine hK188 _ _ ?_
    refine e_cond rfl (fun hc199 => ?_) (fun hc199 => ?_)
    · replace ho107 := (if_pos hc199).symm.trans ho107
      refine e_region_draw mixed (fun _ => False) [0, 0, 3, 7, 15, 0, 63] [] [0, 1, 2, 3, 4, 5, 6] (by kernel_rfl) ?_
      refine q_move rfl rfl ?_
      refine q_move rfl rfl ?_
      obtain ⟨x200, hx200, ho107⟩ := Option.of_bind ho107
      refine q_atS (by infer_instance) rfl f142 rfl hx200 rfl fun b201 o201 hm201 f201 => ?_
      refine q_field rfl rfl ?_
      have f202 := EndI_F1 f201
      refine q_load rfl (Elt.intCell f202) rfl ?_
      refine q_assign rfl rfl ?_
      refine q_assign rfl rfl ?_
      refine eseq_nil ?_
      refine hK187 _ _ ?_
      refine e_region_text rfl ?_
      refine q_move rfl rfl ?_
      refine q_addW rfl rfl rfl ?_
      refine q_assign rfl rfl ?_
      refine eseq_nil ?_
      obtain rfl := Option.some.inj ho107
      exact ⟨m107, _, Nat.lt_succ_self _, ⟨true, x200.inc, (w64 (x145 + 1)), _, ht107, hS, f142, rfl⟩, Sub.cons rfl (Sub.cons rfl (Sub.cons rfl (Sub.cons rfl (Sub.cons rfl (Sub.nil _)))))⟩
    · replace ho107 := (if_neg (not_true hc199)).symm.trans ho107
      refine e_skip ?_
      refine hK187 _ _ ?_
      refine e_region_text rfl ?_
      refine q_move rfl rfl ?_
      refine q_addW rfl rfl rfl ?_
      refine q_assign rfl rfl ?_
      refine eseq_nil ?_
      obtain rfl := Option.some.inj ho107
      exact ⟨m107, _, Nat.lt_succ_self _, ⟨x143, x144, (w64 (x145 + 1)), _, ht107, hS, f142, rfl⟩, Sub.cons rfl (Sub.cons rfl (Sub.cons rfl (Sub.cons rfl (Sub.cons rfl (Sub.nil _)))))⟩
  · replace ho107 := (if_neg (not_true hc186)).symm.trans ho107
    refine e_exit ?_
    obtain rfl := Option.some.inj ho107
    obtain rfl := Option.some.inj ht107
    exact hX107_0 x143 x144 _ _ _ h hS  (Sub.cons rfl (Sub.cons rfl (Sub.nil _)))
theorem ref32_Orphan_w {F R : Nat → Prop} {w : World} {fuel : Nat} {a0 : (List EndI)} {a1 : (List Lab)} {v1 : Value} {v2 : Value} {r : (Bool)} (hS : Sep F R R w w []) (f1 : IsSlice endITy w R v1 a0) (f2 : IsSlice labTy w R v2 a1) (h : ref32_Orphan fuel a0 a1 = some r) :
    Gives Try.prog 37 [v1, v2] w fun u w1 => ∃ (R1 : Nat → Prop), u = .bool r ∧ Sep F R R1 w w1 [] := by
  refine fn_of Try.func37 rfl Try.ntmps37 (Nat.le_of_ble_eq_true rfl) ?_
  unfold ref32_Orphan at h
  refine e_seq fun K66 hK66 => ?_
  refine e_region_text rfl ?_
  refine q_assign rfl rfl ?_
  refine eseq_nil ?_
  refine hK66 _ _ ?_
  refine e_seq fun K67 hK67 => ?_
  refine e_seq fun K68 hK68 => ?_
  refine e_region_text rfl ?_
  refine q_assign rfl rfl ?_
  refine eseq_nil ?_
  refine hK68 _ _ ?_
  refine e_block ?_
  obtain ⟨tl69, ht69, h⟩ := Option.of_bind h
  have hX69_0 : ∀ (R113 : Nat → Prop) (w114 : World) (E_ : Env), ref32_Orphan_K1 fuel = some r → Sep F R R113 w w114 [] → Sub [] E_ → K67 E_ w114 := by
    intro R113 w114 E_ h hS  hsub
    refine hK67 _ _ (e_sub hsub ?_); clear hsub
    unfold ref32_Orphan_K1 at h
    refine e_seq fun K115 hK115 => ?_
    refine e_region_text rfl ?_
    refine q_assign rfl rfl ?_
    refine eseq_nil ?_
    refine hK115 _ _ ?_
    refine e_ret ?_
    obtain rfl := Option.some.inj h
    exact ⟨_, res1 rfl rfl, _, rfl, hS⟩
  refine e_loop (fun m_ E_ w92 => ∃ (x95 : Int), ∃ (R91 : Nat → Prop), iter (fun s => ref32_Orphan_B1 fuel a1 a0 s) m_ x95 = some tl69 ∧ Sep F R R91 w w92 [] ∧ IsSlice endITy w92 R91 v1 a0 ∧ IsSlice labTy w92 R91 v2 a1 ∧ E_ = [(0, v1), (1, v2), (5, .int .i64 x95)]) _ ⟨_, ⟨0, _, ht69, hS, f1, f2, rfl⟩, Sub.cons rfl (Sub.cons rfl (Sub.cons rfl (Sub.nil _)))⟩ ?_
  clear ht69 hS
  rintro m69 _ w92 ⟨x95, R91, ht69, hS, f93, f94, rfl⟩
  obtain ⟨m69, rfl, o69, ho69, ht69⟩ := iter_some ht69
  replace ho69 : ref32_Orphan_B1 fuel a1 a0 x95 = some o69 := ho69
  unfold ref32_Orphan_B1 at ho69
  refine e_seq fun K116 hK116 => ?_
  refine e_seq fun K117 hK117 => ?_
  refine e_region_text rfl ?_
  refine q_move rfl rfl ?_
  refine q_move rfl rfl ?_
  refine q_lenS rfl f94 rfl ?_
  refine q_lss rfl rfl rfl ?_
  refine eseq_nil ?_
  refine hK117 _ _ ?_
  refine e_cond rfl (fun hc118 => ?_) (fun hc118 => ?_)
  · replace ho69 := (if_pos hc118).symm.trans ho69
    refine e_skip ?_
    refine hK116 _ _ ?_
    refine e_seq fun K119 hK119 => ?_
    refine e_block ?_
    refine e_seq fun K120 hK120 => ?_
    refine e_region_text rfl ?_
    refine q_move rfl rfl ?_
    refine q_move rfl rfl ?_
    refine q_move rfl rfl ?_
    refine q_move rfl rfl ?_
    obtain ⟨x121, hx121, ho69⟩ := Option.of_bind ho69
    refine q_atS (by infer_instance) rfl f94 rfl hx121 rfl fun b122 o122 hm122 f122 => ?_
    have hc123 := Lab_open f122
    refine q_loadAgg rfl hc123 rfl rfl ?_
    obtain ⟨r125, hr125, ho69⟩ := Option.of_bind ho69
    refine q_call rfl (ref31_Undone_w (a2 := x121) (Sep.enter (As := []) hS) f93 hr125) rfl ?_
    rintro _ w124 ⟨R124, rfl, hC124⟩
    have hB124 : Below (World.heap w92).size w92 w124 := hC124.stepB0
    refine ⟨fun _ => .of_below hB124, ?_⟩
    replace f93 := (f93.ext hB124).mono fun k hk _ => hC124.ro0 k hk
    replace f94 := (f94.ext hB124).mono fun k hk _ => hC124.ro0 k hk
    replace hS := Sep.leave (As := []) hS hC124; simp only [List.cons_append, List.nil_append] at hS
    refine eseq_nil ?_
    refine hK120 _ _ ?_
    refine e_cond rfl (fun hc126 => ?_) (fun hc126 => ?_)
    · replace ho69 := (if_pos hc126).symm.trans ho69
      refine e_seq fun K127 hK127 => ?_
      refine e_region_text rfl ?_
      refine q_assign rfl rfl ?_
      refine eseq_nil ?_
      refine hK127 _ _ ?_
      refine e_ret ?_
      obtain rfl := Option.some.inj ho69
      obtain rfl := Option.some.inj ht69
      obtain rfl := Option.some.inj h
      exact ⟨_, res1 rfl rfl, _, rfl, hS⟩
    · replace ho69 := (if_neg (not_true hc126)).symm.trans ho69
      refine e_skip ?_
      refine hK119 _ _ ?_
      refine e_region_text rfl ?_
      refine q_move rfl rfl ?_
      refine q_addW rfl rfl rfl ?_
      refine q_assign rfl rfl ?_
      refine eseq_nil ?_
      obtain rfl := Option.some.inj ho69
      exact ⟨m69, _, Nat.lt_succ_self _, ⟨(w64 (x95 + 1)), _, ht69, hS, f93, f94, rfl⟩, Sub.cons rfl (Sub.cons rfl (Sub.cons rfl (Sub.nil _)))⟩
  · replace ho69 := (if_neg (not_true hc118)).symm.trans ho69
    refine e_exit ?_
    obtain rfl := Option.some.inj ho69
    obtain rfl := Option.some.inj ht69
    exact hX69_0  _ _ _ h hS  (Sub.nil _)
theorem orphan_Premature_w {F R : Nat → Prop} {w : World} {fuel : Nat} {a0 : (List EndI)} {a1 : (List Lab)} {v1 : Value} {v2 : Value} {r : (Bool)} (hS : Sep F R R w w []) (f1 : IsSlice endITy w R v1 a0) (f2 : IsSlice labTy w R v2 a1) (h : orphan_Premature fuel a0 a1 = some r) :
    Gives Try.prog 38 [v1, v2] w fun u w1 => ∃ (R1 : Nat → Prop), u = .bool r ∧ Sep F R R1 w w1 [] := by
  refine fn_of Try.func38 rfl Try.ntmps38 (Nat.le_of_ble_eq_true rfl) ?_
  unfold orphan_Premature at h
  refine e_seq fun K84 hK84 => ?_
  refine e_region_text rfl ?_
  refine q_assign rfl rfl ?_
  refine eseq_nil ?_
  refine hK84 _ _ ?_
  refine e_seq fun K85 hK85 => ?_
  refine e_seq fun K86 hK86 => ?_
  refine e_region_text rfl ?_
  refine q_move rfl rfl ?_
  refine q_lenS rfl f2 rfl ?_
  refine q_move rfl rfl ?_
  refine eseq_nil ?_
  refine hK86 _ _ ?_
  refine e_block ?_
  obtain ⟨tl87, ht87, h⟩ := Option.of_bind h
  have hX87_0 : ∀ (R143 : Nat → Prop) (w144 : World) (E_ : Env), orphan_Premature_K1 fuel = some r → Sep F R R143 w w144 [] → Sub [] E_ → K85 E_ w144 := by
    intro R143 w144 E_ h hS  hsub
    refine hK85 _ _ (e_sub hsub ?_); clear hsub
    unfold orphan_Premature_K1 at h
    refine e_seq fun K145 hK145 => ?_
    refine e_region_text rfl ?_
    refine q_assign rfl rfl ?_
    refine eseq_nil ?_
    refine hK145 _ _ ?_
    refine e_ret ?_
    obtain rfl := Option.some.inj h
    exact ⟨_, res1 rfl rfl, _, rfl, hS⟩
  refine e_loop (fun m_ E_ w116 => ∃ (x119 : Int), ∃ (R115 : Nat → Prop), iter (fun s => orphan_Premature_B1 fuel a1 a0 s) m_ x119 = some tl87 ∧ Sep F R R115 w w116 [] ∧ IsSlice endITy w116 R115 v1 a0 ∧ IsSlice labTy w116 R115 v2 a1 ∧ E_ = [(0, v1), (7, v2), (8, .int .i64 (a1.length : Int)), (9, .int .i64 x119)]) _ ⟨_, ⟨0, _, ht87, hS, f1, f2, rfl⟩, Sub.cons rfl (Sub.cons rfl (Sub.cons rfl (Sub.cons rfl (Sub.nil _))))⟩ ?_
  clear ht87 hS
  rintro m87 _ w116 ⟨x119, R115, ht87, hS, f117, f118, rfl⟩
  obtain ⟨m87, rfl, o87, ho87, ht87⟩ := iter_some ht87
  replace ho87 : orphan_Premature_B1 fuel a1 a0 x119 = some o87 := ho87
  unfold orphan_Premature_B1 at ho87
  refine e_seq fun K146 hK146 => ?_
  refine e_region_text rfl ?_
  refine q_lss rfl rfl rfl ?_
  refine eseq_nil ?_
  refine hK146 _ _ ?_
  refine e_seq fun K147 hK147 => ?_
  refine e_cond rfl (fun hc148 => ?_) (fun hc148 => ?_)
  · replace ho87 := (if_pos hc148).symm.trans ho87
    refine e_skip ?_
    refine hK147 _ _ ?_
    refine e_seq fun K149 hK149 => ?_
    refine e_block ?_
    refine e_seq fun K150 hK150 => ?_
    refine e_region_text rfl ?_
    refine q_move rfl rfl ?_
    obtain ⟨x151, hx151, ho87⟩ := Option.of_bind ho87
    refine q_atS (by infer_instance) rfl f118 rfl hx151 rfl fun b152 o152 hm152 f152 => ?_
    have hc153 := Lab_open f152
    refine q_loadAgg rfl hc153 rfl rfl ?_
    refine q_allocB rfl fun w154 bl154 hg154 hb154 hB154 => ?_
    replace f117 := f117.ext hB154
    replace f118 := f118.ext hB154
    replace hS := hS.newBlk hB154 hg154 hb154
    refine q_assign rfl rfl ?_
    refine q_storeAgg rfl rfl (hS.blk 0 rfl) rfl (Nat.le_of_ble_eq_true rfl) (all_cons rfl (all_cons rfl (all_nil))) rfl rfl fun w156 hb156 hO156 => ?_
    simp only [setN, List.set, List.take, List.drop] at hb156
    have hk156 := hS.keptBlk 0 rfl hO156
    replace f117 := f117.kept hk156
    replace f118 := f118.kept hk156
    replace hS := hS.setBlk 0 rfl hb156 hO156; simp only [List.set] at hS
    refine eseq_nil ?_
    refine hK150 _ _ ?_
    refine e_seq fun K157 hK157 => ?_
    refine e_region_draw mixed (fun _ => False) [0, 1, 0, 0, 12, 31] [4] [0, 1, 2, 3, 4, 5] (by kernel_rfl) ?_
    refine q_field rfl rfl ?_
    refine q_load rfl (Blk.cell (hS.blk 0 rfl) rfl) rfl ?_
    refine q_move rfl rfl ?_
    refine q_move rfl rfl ?_
    obtain ⟨r161, hr161, ho87⟩ := Option.of_bind ho87
    refine q_call rfl (incarnation_Next_w (Sep.enter (As := []) hS) f117 hr161) rfl ?_
    rintro _ w160 ⟨R160, rfl, hC160⟩
    have hB160 : Below (World.heap w156).size w156 w160 := hC160.stepB0
    refine ⟨fun _ => .of_below hB160, ?_⟩
    replace f117 := (f117.ext hB160).mono fun k hk _ => hC160.ro0 k hk
    replace f118 := (f118.ext hB160).mono fun k hk _ => hC160.ro0 k hk
    replace hS := Sep.leave (As := []) hS hC160; simp only [List.cons_append, List.nil_append] at hS
    refine q_gtr rfl rfl rfl ?_
    refine eseq_nil ?_
    refine hK157 _ _ ?_
    refine e_cond rfl (fun hc162 => ?_) (fun hc162 => ?_)
    · replace ho87 := (if_pos hc162).symm.trans ho87
      refine e_seq fun K163 hK163 => ?_
      refine e_region_text rfl ?_
      refine q_assign rfl rfl ?_
      refine eseq_nil ?_
      refine hK163 _ _ ?_
      refine e_ret ?_
      obtain rfl := Option.some.inj ho87
      obtain rfl := Option.some.inj ht87
      obtain rfl := Option.some.inj h
      exact ⟨_, res1 rfl rfl, _, rfl, (hS.pickB [] 1 rfl rfl)⟩
    · replace ho87 := (if_neg (not_true hc162)).symm.trans ho87
      refine e_skip ?_
      refine hK149 _ _ ?_
      refine e_region_text rfl ?_
      refine q_addW rfl rfl rfl ?_
      refine q_move rfl rfl ?_
      refine eseq_nil ?_
      obtain rfl := Option.some.inj ho87
      exact ⟨m87, _, Nat.lt_succ_self _, ⟨(w64 (x119 + 1)), _, ht87, (hS.pickB [] 1 rfl rfl), f117, f118, rfl⟩, Sub.cons rfl (Sub.cons rfl (Sub.cons rfl (Sub.cons rfl (Sub.nil _))))⟩
  · replace ho87 := (if_neg (not_true hc148)).symm.trans ho87
    refine e_exit ?_
    obtain rfl := Option.some.inj ho87
    obtain rfl := Option.some.inj ht87
    exact hX87_0  _ _ _ h hS  (Sub.nil _)
theorem ref32_Premature_w {F R : Nat → Prop} {w : World} {fuel : Nat} {a0 : (List EndI)} {a1 : (List Lab)} {v1 : Value} {v2 : Value} {r : (Bool)} (hS : Sep F R R w w []) (f1 : IsSlice endITy w R v1 a0) (f2 : IsSlice labTy w R v2 a1) (h : ref32_Premature fuel a0 a1 = some r) :
    Gives Try.prog 39 [v1, v2] w fun u w1 => ∃ (R1 : Nat → Prop), u = .bool r ∧ Sep F R R1 w w1 [] := by
  refine fn_of Try.func39 rfl Try.ntmps39 (Nat.le_of_ble_eq_true rfl) ?_
  unfold ref32_Premature at h
  refine e_seq fun K81 hK81 => ?_
  refine e_region_text rfl ?_
  refine q_assign rfl rfl ?_
  refine eseq_nil ?_
  refine hK81 _ _ ?_
  refine e_seq fun K82 hK82 => ?_
  refine e_seq fun K83 hK83 => ?_
  refine e_region_text rfl ?_
  refine q_assign rfl rfl ?_
  refine eseq_nil ?_
  refine hK83 _ _ ?_
  refine e_block ?_
  obtain ⟨tl84, ht84, h⟩ := Option.of_bind h
  have hX84_0 : ∀ (R138 : Nat → Prop) (w139 : World) (E_ : Env), ref32_Premature_K1 fuel = some r → Sep F R R138 w w139 [] → Sub [] E_ → K82 E_ w139 := by
    intro R138 w139 E_ h hS  hsub
    refine hK82 _ _ (e_sub hsub ?_); clear hsub
    unfold ref32_Premature_K1 at h
    refine e_seq fun K140 hK140 => ?_
    refine e_region_text rfl ?_
    refine q_assign rfl rfl ?_
    refine eseq_nil ?_
    refine hK140 _ _ ?_
    refine e_ret ?_
    obtain rfl := Option.some.inj h
    exact ⟨_, res1 rfl rfl, _, rfl, hS⟩
  refine e_loop (fun m_ E_ w112 => ∃ (x115 : Int), ∃ (R111 : Nat → Prop), iter (fun s => ref32_Premature_B1 fuel a1 a0 s) m_ x115 = some tl84 ∧ Sep F R R111 w w112 [] ∧ IsSlice endITy w112 R111 v1 a0 ∧ IsSlice labTy w112 R111 v2 a1 ∧ E_ = [(0, v1), (1, v2), (5, .int .i64 x115)]) _ ⟨_, ⟨0, _, ht84, hS, f1, f2, rfl⟩, Sub.cons rfl (Sub.cons rfl (Sub.cons rfl (Sub.nil _)))⟩ ?_
  clear ht84 hS
  rintro m84 _ w112 ⟨x115, R111, ht84, hS, f113, f114, rfl⟩
  obtain ⟨m84, rfl, o84, ho84, ht84⟩ := iter_some ht84
  replace ho84 : ref32_Premature_B1 fuel a1 a0 x115 = some o84 := ho84
  unfold ref32_Premature_B1 at ho84
  refine e_seq fun K141 hK141 => ?_
  refine e_seq fun K142 hK142 => ?_
  refine e_region_text rfl ?_
  refine q_move rfl rfl ?_
  refine q_move rfl rfl ?_
  refine q_lenS rfl f114 rfl ?_
  refine q_lss rfl rfl rfl ?_
  refine eseq_nil ?_
  refine hK142 _ _ ?_
  refine e_cond rfl (fun hc143 => ?_) (fun hc143 => ?_)
  · replace ho84 := (if_pos hc143).symm.trans ho84
    refine e_skip ?_
    refine hK141 _ _ ?_
    refine e_seq fun K144 hK144 => ?_
    refine e_block ?_
    refine e_seq fun K145 hK145 => ?_
    refine e_region_draw mixed (fun _ => False) [0, 0, 3, 7, 15, 0, 0, 96, 255] [7] [0, 1, 2, 3, 4, 5, 6, 7, 8] (by kernel_rfl) ?_
    refine q_move rfl rfl ?_
    refine q_move rfl rfl ?_
    obtain ⟨x151, hx151, ho84⟩ := Option.of_bind ho84
    refine q_atS (by infer_instance) rfl f114 rfl hx151 rfl fun b152 o152 hm152 f152 => ?_
    refine q_field rfl rfl ?_
    have f153 := Lab_F0 f152
    refine q_load rfl (Elt.intCell f153) rfl ?_
    refine q_move rfl rfl ?_
    refine q_move rfl rfl ?_
    obtain ⟨r155, hr155, ho84⟩ := Option.of_bind ho84
    refine q_call rfl (ref31_Next_w (Sep.enter (As := []) hS) f113 hr155) rfl ?_
    rintro _ w154 ⟨R154, rfl, hC154⟩
    have hB154 : Below (World.heap w112).size w112 w154 := hC154.stepB0
    refine ⟨fun _ => .of_below hB154, ?_⟩
    replace f113 := (f113.ext hB154).mono fun k hk _ => hC154.ro0 k hk
    replace f114 := (f114.ext hB154).mono fun k hk _ => hC154.ro0 k hk
    replace hS := Sep.leave (As := []) hS hC154; simp only [List.cons_append, List.nil_append] at hS
    refine q_gtr rfl rfl rfl ?_
    refine eseq_nil ?_
    refine hK145 _ _ ?_
    refine e_cond rfl (fun hc156 => ?_) (fun hc156 => ?_)
    · replace ho84 := (if_pos hc156).symm.trans ho84
      refine e_seq fun K157 hK157 => ?_
      refine e_region_text rfl ?_
      refine q_assign rfl rfl ?_
      refine eseq_nil ?_
      refine hK157 _ _ ?_
      refine e_ret ?_
      obtain rfl := Option.some.inj ho84
      obtain rfl := Option.some.inj ht84
      obtain rfl := Option.some.inj h
      exact ⟨_, res1 rfl rfl, _, rfl, hS⟩
    · replace ho84 := (if_neg (not_true hc156)).symm.trans ho84
      refine e_skip ?_
      refine hK144 _ _ ?_
      refine e_region_text rfl ?_
      refine q_move rfl rfl ?_
      refine q_addW rfl rfl rfl ?_
      refine q_assign rfl rfl ?_
      refine eseq_nil ?_
      obtain rfl := Option.some.inj ho84
      exact ⟨m84, _, Nat.lt_succ_self _, ⟨(w64 (x115 + 1)), _, ht84, hS, f113, f114, rfl⟩, Sub.cons rfl (Sub.cons rfl (Sub.cons rfl (Sub.nil _)))⟩
  · replace ho84 := (if_neg (not_true hc143)).symm.trans ho84
    refine e_exit ?_
    obtain rfl := Option.some.inj ho84
    obtain rfl := Option.some.inj ht84
    exact hX84_0  _ _ _ h hS  (Sub.nil _)
theorem make_Codes_Ends_w {F R : Nat → Prop} {w : World} {fuel : Nat} {a1 : Int} {c0_0 : (List Int)} {c0_1 : Int} {B0 : Nat} {v2 : Value} {r : ((List EndI) × Int)} (hS : Sep F R R w w [HP.blk B0 [v2, .int .i64 c0_1] 78]) (f2 : IsSlice Ty.u8 w R v2 c0_0) (h : make_Codes_Ends fuel a1 c0_0 c0_1 = some r) :
    Gives Try.prog 35 [.pointer (some ⟨B0, 0, none⟩), .int .i64 a1] w fun u w1 => ∃ (v90 : Value), ∃ (R1 : Nat → Prop), u = v90 ∧ Sep F R R1 w w1 [HP.blk B0 [v2, .int .i64 r.2] 78, HP.own endITy (fun _ => False) 76 v90 r.1] := by
  refine fn_of Try.func35 rfl Try.ntmps35 (Nat.le_of_ble_eq_true rfl) ?_
  unfold make_Codes_Ends at h
  refine e_seq fun K91 hK91 => ?_
  refine e_region_text rfl ?_
  refine q_assign rfl rfl ?_
  refine eseq_nil ?_
  refine hK91 _ _ ?_
  refine e_seq fun K92 hK92 => ?_
  refine e_region_text rfl ?_
  refine q_assign rfl rfl ?_
  refine eseq_nil ?_
  refine hK92 _ _ ?_
  refine e_seq fun K93 hK93 => ?_
  refine e_seq fun K94 hK94 => ?_
  refine e_region_text rfl ?_
  refine q_move rfl rfl ?_
  refine q_move rfl rfl ?_
  refine q_addW rfl rfl rfl ?_
  obtain ⟨r96, hr96, h⟩ := Option.of_bind h
  refine q_call rfl (make_Codes_Next_w (Sep.enter (As := [_]) hS) f2 hr96) rfl ?_
  rintro _ w95 ⟨R95, rfl, hC95⟩
  refine ⟨(fun h => by cases h), ?_⟩
  have hk95 := hC95.keptR (Sep.offFeet (As := [_]) hS)
  replace f2 := (f2.kept hk95).mono fun k hk _ => hC95.ro0 k hk
  replace hS := Sep.leave (As := [_]) hS hC95; simp only [List.cons_append, List.nil_append] at hS
  refine q_assign rfl rfl ?_
  refine eseq_nil ?_
  refine hK94 _ _ ?_
  refine e_block ?_
  obtain ⟨tl97, ht97, h⟩ := Option.of_bind h
  have hX97_0 : ∀ (x157 : Int) (x160 : (List EndI)) (v159 : Value) (R154 : Nat → Prop) (w155 : World) (E_ : Env), make_Codes_Ends_K1 fuel x157 x160 = some r → Sep F R R154 w w155 [HP.blk B0 [v2, .int .i64 x157] 78, HP.own endITy (fun _ => False) 76 v159 x160] → IsSlice Ty.u8 w155 R154 v2 c0_0 → Sub [(5, v159)] E_ → K93 E_ w155 := by
    intro x157 x160 v159 R154 w155 E_ h hS f156 hsub
    refine hK93 _ _ (e_sub hsub ?_); clear hsub
    unfold make_Codes_Ends_K1 at h
    refine e_seq fun K161 hK161 => ?_
    refine e_region_text rfl ?_
    refine q_move rfl rfl ?_
    refine q_assign rfl rfl ?_
    refine eseq_nil ?_
    refine hK161 _ _ ?_
    refine e_ret ?_
    obtain rfl := Option.some.inj h
    exact ⟨_, res1 rfl rfl, v159, _, rfl, hS⟩
  replace hS := hS.nilOwn0 endITy 76
  refine e_loop (fun m_ E_ w125 => ∃ (x127 : Int), ∃ (x130 : (List EndI)), ∃ (x131 : Int), ∃ (v129 : Value), ∃ (R124 : Nat → Prop), iter (fun s => make_Codes_Ends_B1 fuel c0_0 s.1 s.2.1 s.2.2) m_ (x127, x130, x131) = some tl97 ∧ Sep F R R124 w w125 [HP.blk B0 [v2, .int .i64 x127] 78, HP.own endITy (fun _ => False) 76 v129 x130] ∧ IsSlice Ty.u8 w125 R124 v2 c0_0 ∧ E_ = [(0, .pointer (some ⟨B0, 0, none⟩)), (5, v129), (6, .int .i64 x131)]) _ ⟨_, ⟨r96.2, ([] : List EndI), r96.1, (.slice none 0 0), _, ht97, (hS.pickB [1, 0] 2 rfl rfl), f2, rfl⟩, Sub.cons rfl (Sub.cons rfl (Sub.cons rfl (Sub.nil _)))⟩ ?_
  clear ht97 hS
  rintro m97 _ w125 ⟨x127, x130, x131, v129, R124, ht97, hS, f126, rfl⟩
  obtain ⟨m97, rfl, o97, ho97, ht97⟩ := iter_some ht97
  replace ho97 : make_Codes_Ends_B1 fuel c0_0 x127 x130 x131 = some o97 := ho97
  unfold make_Codes_Ends_B1 at ho97
  refine e_seq fun K163 hK163 => ?_
  refine e_seq fun K164 hK164 => ?_
  refine e_region_text rfl ?_
  refine q_move rfl rfl ?_
  refine q_gtr rfl rfl rfl ?_
  refine eseq_nil ?_
  refine hK164 _ _ ?_
  refine e_cond rfl (fun hc165 => ?_) (fun hc165 => ?_)
  · replace ho97 := (if_pos hc165).symm.trans ho97
    refine e_skip ?_
    refine hK163 _ _ ?_
    refine e_seq fun K166 hK166 => ?_
    refine e_block ?_
    refine e_region_text rfl ?_
    refine q_move rfl rfl ?_
    refine q_move rfl rfl ?_
    obtain ⟨r168, hr168, ho97⟩ := Option.of_bind ho97
    refine q_call rfl (make_Codes_Next_w (Sep.enter (As := [_]) hS) f126 hr168) rfl ?_
    rintro _ w167 ⟨R167, rfl, hC167⟩
    refine ⟨(fun h => by cases h), ?_⟩
    have hk167 := hC167.keptR (Sep.offFeet (As := [_]) hS)
    replace f126 := (f126.kept hk167).mono fun k hk _ => hC167.ro0 k hk
    replace hS := Sep.leave (As := [_]) hS hC167; simp only [List.cons_append, List.nil_append] at hS
    refine q_move rfl rfl ?_
    obtain ⟨r170, hr170, ho97⟩ := Option.of_bind ho97
    refine q_call rfl (make_Codes_Next_w (Sep.enter (As := [_]) hS) f126 hr170) rfl ?_
    rintro _ w169 ⟨R169, rfl, hC169⟩
    refine ⟨(fun h => by cases h), ?_⟩
    have hk169 := hC169.keptR (Sep.offFeet (As := [_]) hS)
    replace f126 := (f126.kept hk169).mono fun k hk _ => hC169.ro0 k hk
    replace hS := Sep.leave (As := [_]) hS hC169; simp only [List.cons_append, List.nil_append] at hS
    refine q_move rfl rfl ?_
    obtain ⟨r172, hr172, ho97⟩ := Option.of_bind ho97
    refine q_call rfl (make_Codes_Next_w (Sep.enter (As := [_]) hS) f126 hr172) rfl ?_
    rintro _ w171 ⟨R171, rfl, hC171⟩
    refine ⟨(fun h => by cases h), ?_⟩
    have hk171 := hC171.keptR (Sep.offFeet (As := [_]) hS)
    replace f126 := (f126.kept hk171).mono fun k hk _ => hC171.ro0 k hk
    replace hS := Sep.leave (As := [_]) hS hC171; simp only [List.cons_append, List.nil_append] at hS
    refine q_build (Parts.cons rfl rfl (Parts.cons rfl rfl (Parts.cons rfl rfl Parts.nil))) rfl rfl ?_
    refine q_litO (T := endITy) (S := (fun _ => False)) (cells := [[.int .i64 r168.1, .int .i64 r170.1, .int .i64 r172.1]]) (ys := [(⟨r168.1, r170.1, r172.1⟩ : EndI)]) ((Parts.cons rfl rfl Parts.nil)) rfl rfl rfl rfl rfl rfl rfl (fun w1 hB => ⟨⟨[_], _, rfl, rfl, ⟨[_], _, rfl, rfl, rfl⟩⟩, trivial⟩) (fun _ h => h.elim) rfl fun w173 v173 ho173 hv173 hB173 => ?_
    replace f126 := f126.ext hB173
    replace hS := hS.newOwnS hB173 ho173 hv173 (fun _ h => h.elim)
    obtain ⟨x176, hx176, ho97⟩ := Option.of_bind ho97
    refine q_catOwn (T := endITy) rfl rfl rfl rfl (hS.own 2 rfl) rfl (hS.own 0 rfl) (fun _ h _ => h.elim) (snoc_cat hx176) (Nat.zero_le _) rfl (fun h => by cases h) fun v175 w175 hw175 hgr175 hnw175 => ?_
    have hk175 := hS.keptOwn 2 rfl hgr175
    replace f126 := f126.kept hk175
    replace hS := hS.setOwn 2 rfl hw175 hgr175 hnw175; simp only [List.set] at hS
    refine q_assign rfl rfl ?_
    refine eseq_nil ?_
    refine hK166 _ _ ?_
    refine e_region_text rfl ?_
    refine q_move rfl rfl ?_
    refine q_subW rfl rfl rfl ?_
    refine q_assign rfl rfl ?_
    refine eseq_nil ?_
    obtain rfl := Option.some.inj ho97
    exact ⟨m97, _, Nat.lt_succ_self _, ⟨r172.2, x176, (w64 (x131 - 1)), v175, _, ht97, (hS.pickB [1, 2] 3 rfl rfl), f126, rfl⟩, Sub.cons rfl (Sub.cons rfl (Sub.cons rfl (Sub.nil _)))⟩
  · replace ho97 := (if_neg (not_true hc165)).symm.trans ho97
    refine e_exit ?_
    obtain rfl := Option.some.inj ho97
    obtain rfl := Option.some.inj ht97
    exact hX97_0 x127 x130 v129 _ _ _ h hS f126 (Sub.cons rfl (Sub.nil _))
theorem law32_OrphanAsks_w {F R : Nat → Prop} {w : World} {fuel : Nat} {a0 : (List EndI)} {a1 : (List Lab)} {a2 : (List Int)} {v1 : Value} {v2 : Value} {v3 : Value} {r : (Bool)} (hS : Sep F R R w w []) (f1 : IsSlice endITy w R v1 a0) (f2 : IsSlice labTy w R v2 a1) (f3 : IsSlice Ty.u8 w R v3 a2) (h : law32_OrphanAsks fuel a0 a1 a2 = some r) :
    Gives Try.prog 7 [v1, v2, v3] w fun u w1 => ∃ (R1 : Nat → Prop), u = .bool r ∧ Sep F R R1 w w1 [] := by
  refine fn_of Try.func7 rfl Try.ntmps7 (Nat.le_of_ble_eq_true rfl) ?_
  unfold law32_OrphanAsks at h
  refine e_seq fun K139 hK139 => ?_
  refine e_region_text rfl ?_
  refine q_assign rfl rfl ?_
  refine eseq_nil ?_
  refine hK139 _ _ ?_
  refine e_seq fun K140 hK140 => ?_
  refine e_seq fun K141 hK141 => ?_
  refine e_region_text rfl ?_
  obtain ⟨r143, hr143, h⟩ := Option.of_bind h
  refine q_call rfl (law32_awake_w (Sep.enter (As := []) hS)  hr143) rfl ?_
  rintro _ w142 ⟨R142, rfl, hC142⟩
  have hB142 : Below (World.heap w).size w w142 := hC142.stepB0
  refine ⟨fun _ => .of_below hB142, ?_⟩
  replace f1 := (f1.ext hB142).mono fun k hk _ => hC142.ro0 k hk
  replace f2 := (f2.ext hB142).mono fun k hk _ => hC142.ro0 k hk
  replace f3 := (f3.ext hB142).mono fun k hk _ => hC142.ro0 k hk
  replace hS := Sep.leave (As := []) hS hC142; simp only [List.cons_append, List.nil_append] at hS
  refine q_not rfl rfl ?_
  refine q_move rfl rfl ?_
  obtain ⟨x145, hx144, h⟩ := Option.of_bind h
  refine g_orM 3 hx144 rfl trivial rfl rfl ?_ ?_ ?_
  · intro hg144
    refine g_skip rfl rfl rfl ?_
    refine g_skip rfl rfl rfl ?_
    refine g_skip rfl rfl rfl ?_
    exact eseq_nil ⟨rfl, Sub.set rfl (Sub.set rfl (Sub.set rfl (Sub.bool true rfl hg144)))⟩
  · intro hg144 hx144
    clear h
    have hT144 := Below.refl (World.heap w142).size w142
    refine g_run rfl ?_; refine q_move rfl rfl ?_
    refine g_run rfl ?_; refine q_lenS rfl f1 rfl ?_
    refine g_run rfl ?_; refine q_gtr rfl rfl rfl ?_
    cases hx144
    exact eseq_nil ⟨hT144, Sub.set rfl (Sub.set rfl (Sub.set rfl (Sub.bool false rfl hg144))), rfl⟩
  intro wm144 hBm144; clear hx144
  replace hS := hS.below hBm144
  replace f1 := f1.ext hBm144
  replace f2 := f2.ext hBm144
  replace f3 := f3.ext hBm144
  refine q_move rfl rfl ?_
  obtain ⟨x147, hx146, h⟩ := Option.of_bind h
  refine g_orM 3 hx146 rfl trivial rfl rfl ?_ ?_ ?_
  · intro hg146
    refine g_skip rfl rfl rfl ?_
    refine g_skip rfl rfl rfl ?_
    refine g_skip rfl rfl rfl ?_
    exact eseq_nil ⟨rfl, Sub.set rfl (Sub.set rfl (Sub.set rfl (Sub.bool true rfl hg146)))⟩
  · intro hg146 hx146
    clear h
    have hT146 := Below.refl (World.heap wm144).size wm144
    refine g_run rfl ?_; refine q_move rfl rfl ?_
    refine g_run rfl ?_; refine q_lenS rfl f2 rfl ?_
    refine g_run rfl ?_; refine q_gtr rfl rfl rfl ?_
    cases hx146
    exact eseq_nil ⟨hT146, Sub.set rfl (Sub.set rfl (Sub.set rfl (Sub.bool false rfl hg146))), rfl⟩
  intro wm146 hBm146; clear hx146
  replace hS := hS.below hBm146
  replace f1 := f1.ext hBm146
  replace f2 := f2.ext hBm146
  replace f3 := f3.ext hBm146
  refine eseq_nil ?_
  refine hK141 _ _ ?_
  refine e_cond rfl (fun hc148 => ?_) (fun hc148 => ?_)
  · replace h := (if_pos hc148).symm.trans h
    refine e_seq fun K149 hK149 => ?_
    refine e_region_text rfl ?_
    refine q_move rfl rfl ?_
    refine q_lenS rfl f1 rfl ?_
    refine q_gtr rfl rfl rfl ?_
    refine q_move rfl rfl ?_
    obtain ⟨x151, hx150, h⟩ := Option.of_bind h
    refine g_orM 3 hx150 rfl trivial rfl rfl ?_ ?_ ?_
    · intro hg150
      refine g_skip rfl rfl rfl ?_
      refine g_skip rfl rfl rfl ?_
      refine g_skip rfl rfl rfl ?_
      exact eseq_nil ⟨rfl, Sub.set rfl (Sub.set rfl (Sub.set rfl (Sub.bool true rfl hg150)))⟩
    · intro hg150 hx150
      clear h
      have hT150 := Below.refl (World.heap wm146).size wm146
      refine g_run rfl ?_; refine q_move rfl rfl ?_
      refine g_run rfl ?_; refine q_lenS rfl f2 rfl ?_
      refine g_run rfl ?_; refine q_gtr rfl rfl rfl ?_
      cases hx150
      exact eseq_nil ⟨hT150, Sub.set rfl (Sub.set rfl (Sub.set rfl (Sub.bool false rfl hg150))), rfl⟩
    intro wm150 hBm150; clear hx150
    replace hS := hS.below hBm150
    refine q_assign rfl rfl ?_
    refine eseq_nil ?_
    refine hK149 _ _ ?_
    refine e_ret ?_
    obtain rfl := Option.some.inj h
    exact ⟨_, res1 rfl rfl, _, rfl, hS⟩
  · replace h := (if_neg (not_true hc148)).symm.trans h
    refine e_skip ?_
    refine hK140 _ _ ?_
    refine e_seq fun K152 hK152 => ?_
    refine e_region_text rfl ?_
    refine q_move rfl rfl ?_
    obtain ⟨r154, hr154, h⟩ := Option.of_bind h
    refine q_call rfl (make_New_w (Sep.enter (As := []) hS) f3 hr154) rfl ?_
    rintro _ w153 ⟨B155, v156, R153, rfl, hC153, f156⟩
    have hB153 : Below (World.heap wm146).size wm146 w153 := hC153.stepB0
    refine ⟨fun _ => .of_below hB153, ?_⟩
    replace f1 := (f1.ext hB153).mono fun k hk _ => hC153.ro0 k hk
    replace f2 := (f2.ext hB153).mono fun k hk _ => hC153.ro0 k hk
    replace f3 := (f3.ext hB153).mono fun k hk _ => hC153.ro0 k hk
    replace hS := Sep.leave (As := []) hS hC153; simp only [List.cons_append, List.nil_append] at hS
    refine q_assign rfl rfl ?_
    refine eseq_nil ?_
    refine hK152 _ _ ?_
    refine e_seq fun K157 hK157 => ?_
    refine e_region_text rfl ?_
    refine q_move rfl rfl ?_
    obtain ⟨r159, hr159, h⟩ := Option.of_bind h
    refine q_call rfl (make_Codes_Ends_w (Sep.enter (As := [_]) hS) f156 hr159) rfl ?_
    rintro v160 w158 ⟨_, R158, rfl, hC158⟩
    refine ⟨(fun h => by cases h), ?_⟩
    have hk158 := hC158.keptR (Sep.offFeet (As := [_]) hS)
    replace f1 := (f1.kept hk158).mono fun k hk _ => hC158.ro0 k hk
    replace f2 := (f2.kept hk158).mono fun k hk _ => hC158.ro0 k hk
    replace f156 := (f156.kept hk158).mono fun k hk _ => hC158.ro0 k hk
    replace hS := Sep.leave (As := [_]) hS hC158; simp only [List.cons_append, List.nil_append] at hS
    refine q_assign rfl rfl ?_
    refine eseq_nil ?_
    refine hK157 _ _ ?_
    refine e_seq fun K161 hK161 => ?_
    refine e_region_text rfl ?_
    refine q_assign rfl rfl ?_
    refine eseq_nil ?_
    refine hK161 _ _ ?_
    refine e_seq fun K162 hK162 => ?_
    refine e_seq fun K163 hK163 => ?_
    refine e_region_text rfl ?_
    refine q_assign rfl rfl ?_
    refine eseq_nil ?_
    refine hK163 _ _ ?_
    refine e_block ?_
    obtain ⟨tl164, ht164, h⟩ := Option.of_bind h
    have hX164_0 : ∀ (x236 : (List Lab)) (v235 : Value) (R229 : Nat → Prop) (w230 : World) (E_ : Env), law32_OrphanAsks_K1 fuel a0 a1 r159 x236 = some r → Sep F R R229 w w230 [HP.own endITy (fun _ => False) 76 v160 r159.1, HP.own labTy (fun _ => False) 29 v235 x236] → IsSlice endITy w230 R229 v1 a0 → IsSlice labTy w230 R229 v2 a1 → Sub [(0, v1), (1, v2), (8, v160), (9, v235)] E_ → K162 E_ w230 := by
      intro x236 v235 R229 w230 E_ h hS f231 f232 hsub
      refine hK162 _ _ (e_sub hsub ?_); clear hsub
      unfold law32_OrphanAsks_K1 at h
      refine e_seq fun K237 hK237 => ?_
      refine e_region_text rfl ?_
      refine q_move rfl rfl ?_
      refine q_move rfl rfl ?_
      obtain ⟨r239, hr239, h⟩ := Option.of_bind h
      refine q_call rfl (orphan_Orphan_w (Sep.enter (As := []) hS) f231 f232 hr239) rfl ?_
      rintro _ w238 ⟨R238, rfl, hC238⟩
      have hB238 : Below (World.heap w230).size w230 w238 := hC238.stepB0
      refine ⟨fun _ => .of_below hB238, ?_⟩
      replace f231 := (f231.ext hB238).mono fun k hk _ => hC238.ro0 k hk
      replace f232 := (f232.ext hB238).mono fun k hk _ => hC238.ro0 k hk
      replace hS := Sep.leave (As := []) hS hC238; simp only [List.cons_append, List.nil_append] at hS
      refine q_move rfl rfl ?_
      refine q_move rfl rfl ?_
      obtain ⟨r241, hr241, h⟩ := Option.of_bind h
      refine q_call rfl (ref32_Orphan_w (Sep.enter (As := []) hS) f231 f232 hr241) rfl ?_
      rintro _ w240 ⟨R240, rfl, hC240⟩
      have hB240 : Below (World.heap w238).size w238 w240 := hC240.stepB0
      refine ⟨fun _ => .of_below hB240, ?_⟩
      replace f231 := (f231.ext hB240).mono fun k hk _ => hC240.ro0 k hk
      replace f232 := (f232.ext hB240).mono fun k hk _ => hC240.ro0 k hk
      replace hS := Sep.leave (As := []) hS hC240; simp only [List.cons_append, List.nil_append] at hS
      refine q_eqlB rfl rfl rfl ?_
      refine q_move rfl rfl ?_
      obtain ⟨x243, hx242, h⟩ := Option.of_bind h
      refine g_andM 7 hx242 rfl trivial rfl rfl ?_ ?_ ?_
      · intro hg242 hx242
        clear h
        have hT242 := Below.refl (World.heap w240).size w240
        refine g_run rfl ?_; refine q_move rfl rfl ?_
        refine g_run rfl ?_; refine q_move rfl rfl ?_
        obtain ⟨r245, hr245, hx242⟩ := Option.of_bind hx242
        refine g_run rfl ?_; refine q_call rfl (orphan_Orphan_w (Sep.all w240) ((hS.isl 0 rfl)).old ((hS.isl 1 rfl)).old hr245) rfl ?_
        rintro _ w244 ⟨R244, rfl, hC244⟩
        have hB244 : Below (World.heap w240).size w240 w244 := hC244.stepBF
        refine ⟨fun _ => .of_below hB244, ?_⟩
        replace f231 := f231.ext hB244
        replace f232 := f232.ext hB244
        replace hT242 := hT242.trans (Below.mono hB244 hT242.size)
        replace hS := hS.below hB244
        refine g_run rfl ?_; refine q_move rfl rfl ?_
        refine g_run rfl ?_; refine q_move rfl rfl ?_
        obtain ⟨r247, hr247, hx242⟩ := Option.of_bind hx242
        refine g_run rfl ?_; refine q_call rfl (ref32_Orphan_w (Sep.all w244) ((hS.isl 0 rfl)).old ((hS.isl 1 rfl)).old hr247) rfl ?_
        rintro _ w246 ⟨R246, rfl, hC246⟩
        have hB246 : Below (World.heap w244).size w244 w246 := hC246.stepBF
        refine ⟨fun _ => .of_below hB246, ?_⟩
        replace f231 := f231.ext hB246
        replace f232 := f232.ext hB246
        replace hT242 := hT242.trans (Below.mono hB246 hT242.size)
        replace hS := hS.below hB246
        refine g_run rfl ?_; refine q_eqlB rfl rfl rfl ?_
        cases hx242
        exact eseq_nil ⟨hT242, Sub.set rfl (Sub.set rfl (Sub.set rfl (Sub.set rfl (Sub.set rfl (Sub.set rfl (Sub.set rfl (Sub.bool true rfl hg242))))))), rfl⟩
      · intro hg242
        refine g_skip rfl rfl rfl ?_
        refine g_skip rfl rfl rfl ?_
        refine g_skip rfl rfl rfl ?_
        refine g_skip rfl rfl rfl ?_
        refine g_skip rfl rfl rfl ?_
        refine g_skip rfl rfl rfl ?_
        refine g_skip rfl rfl rfl ?_
        exact eseq_nil ⟨rfl, Sub.set rfl (Sub.set rfl (Sub.set rfl (Sub.set rfl (Sub.set rfl (Sub.set rfl (Sub.set rfl (Sub.bool false rfl hg242)))))))⟩
      intro wm242 hBm242; clear hx242
      replace hS := hS.below hBm242
      replace f231 := f231.ext hBm242
      replace f232 := f232.ext hBm242
      refine q_move rfl rfl ?_
      obtain ⟨x249, hx248, h⟩ := Option.of_bind h
      refine g_andM 7 hx248 rfl trivial rfl rfl ?_ ?_ ?_
      · intro hg248 hx248
        clear h
        have hT248 := Below.refl (World.heap wm242).size wm242
        refine g_run rfl ?_; refine q_move rfl rfl ?_
        refine g_run rfl ?_; refine q_move rfl rfl ?_
        obtain ⟨r251, hr251, hx248⟩ := Option.of_bind hx248
        refine g_run rfl ?_; refine q_call rfl (orphan_Premature_w (Sep.enter (As := []) hS) f231 f232 hr251) rfl ?_
        rintro _ w250 ⟨R250, rfl, hC250⟩
        have hB250 : Below (World.heap wm242).size wm242 w250 := hC250.stepB0
        refine ⟨fun _ => .of_below hB250, ?_⟩
        replace f231 := (f231.ext hB250).mono fun k hk _ => hC250.ro0 k hk
        replace f232 := (f232.ext hB250).mono fun k hk _ => hC250.ro0 k hk
        replace hT248 := hT248.trans (Below.mono hB250 hT248.size)
        replace hS := Sep.leave (As := []) hS hC250; simp only [List.cons_append, List.nil_append] at hS
        refine g_run rfl ?_; refine q_move rfl rfl ?_
        refine g_run rfl ?_; refine q_move rfl rfl ?_
        obtain ⟨r253, hr253, hx248⟩ := Option.of_bind hx248
        refine g_run rfl ?_; refine q_call rfl (ref32_Premature_w (Sep.enter (As := []) hS) f231 f232 hr253) rfl ?_
        rintro _ w252 ⟨R252, rfl, hC252⟩
        have hB252 : Below (World.heap w250).size w250 w252 := hC252.stepB0
        refine ⟨fun _ => .of_below hB252, ?_⟩
        replace f231 := (f231.ext hB252).mono fun k hk _ => hC252.ro0 k hk
        replace f232 := (f232.ext hB252).mono fun k hk _ => hC252.ro0 k hk
        replace hT248 := hT248.trans (Below.mono hB252 hT248.size)
        replace hS := Sep.leave (As := []) hS hC252; simp only [List.cons_append, List.nil_append] at hS
        refine g_run rfl ?_; refine q_eqlB rfl rfl rfl ?_
        cases hx248
        exact eseq_nil ⟨hT248, Sub.set rfl (Sub.set rfl (Sub.set rfl (Sub.set rfl (Sub.set rfl (Sub.set rfl (Sub.set rfl (Sub.bool true rfl hg248))))))), rfl⟩
      · intro hg248
        refine g_skip rfl rfl rfl ?_
        refine g_skip rfl rfl rfl ?_
        refine g_skip rfl rfl rfl ?_
        refine g_skip rfl rfl rfl ?_
        refine g_skip rfl rfl rfl ?_
        refine g_skip rfl rfl rfl ?_
        refine g_skip rfl rfl rfl ?_
        exact eseq_nil ⟨rfl, Sub.set rfl (Sub.set rfl (Sub.set rfl (Sub.set rfl (Sub.set rfl (Sub.set rfl (Sub.set rfl (Sub.bool false rfl hg248)))))))⟩
      intro wm248 hBm248; clear hx248
      replace hS := hS.below hBm248
      refine q_move rfl rfl ?_
      obtain ⟨x255, hx254, h⟩ := Option.of_bind h
      refine g_andM 7 hx254 rfl trivial rfl rfl ?_ ?_ ?_
      · intro hg254 hx254
        clear h
        have hT254 := Below.refl (World.heap wm248).size wm248
        refine g_run rfl ?_; refine q_move rfl rfl ?_
        refine g_run rfl ?_; refine q_move rfl rfl ?_
        obtain ⟨r257, hr257, hx254⟩ := Option.of_bind hx254
        refine g_run rfl ?_; refine q_call rfl (orphan_Premature_w (Sep.all wm248) ((hS.isl 0 rfl)).old ((hS.isl 1 rfl)).old hr257) rfl ?_
        rintro _ w256 ⟨R256, rfl, hC256⟩
        have hB256 : Below (World.heap wm248).size wm248 w256 := hC256.stepBF
        refine ⟨fun _ => .of_below hB256, ?_⟩
        replace hT254 := hT254.trans (Below.mono hB256 hT254.size)
        replace hS := hS.below hB256
        refine g_run rfl ?_; refine q_move rfl rfl ?_
        refine g_run rfl ?_; refine q_move rfl rfl ?_
        obtain ⟨r259, hr259, hx254⟩ := Option.of_bind hx254
        refine g_run rfl ?_; refine q_call rfl (ref32_Premature_w (Sep.all w256) ((hS.isl 0 rfl)).old ((hS.isl 1 rfl)).old hr259) rfl ?_
        rintro _ w258 ⟨R258, rfl, hC258⟩
        have hB258 : Below (World.heap w256).size w256 w258 := hC258.stepBF
        refine ⟨fun _ => .of_below hB258, ?_⟩
        replace hT254 := hT254.trans (Below.mono hB258 hT254.size)
        replace hS := hS.below hB258
        refine g_run rfl ?_; refine q_eqlB rfl rfl rfl ?_
        cases hx254
        exact eseq_nil ⟨hT254, Sub.set rfl (Sub.set rfl (Sub.set rfl (Sub.set rfl (Sub.set rfl (Sub.set rfl (Sub.set rfl (Sub.bool true rfl hg254))))))), rfl⟩
      · intro hg254
        refine g_skip rfl rfl rfl ?_
        refine g_skip rfl rfl rfl ?_
        refine g_skip rfl rfl rfl ?_
        refine g_skip rfl rfl rfl ?_
        refine g_skip rfl rfl rfl ?_
        refine g_skip rfl rfl rfl ?_
        refine g_skip rfl rfl rfl ?_
        exact eseq_nil ⟨rfl, Sub.set rfl (Sub.set rfl (Sub.set rfl (Sub.set rfl (Sub.set rfl (Sub.set rfl (Sub.set rfl (Sub.bool false rfl hg254)))))))⟩
      intro wm254 hBm254; clear hx254
      replace hS := hS.below hBm254
      refine q_assign rfl rfl ?_
      refine eseq_nil ?_
      refine hK237 _ _ ?_
      refine e_ret ?_
      obtain rfl := Option.some.inj h
      exact ⟨_, res1 rfl rfl, _, rfl, (hS.pickB [] 2 rfl rfl)⟩
    replace hS := hS.nilOwn0 labTy 29
    refine e_loop (fun m_ E_ w196 => ∃ (x200 : Int), ∃ (x204 : (List Lab)), ∃ (x205 : Int), ∃ (v203 : Value), ∃ (R195 : Nat → Prop), iter (fun s => law32_OrphanAsks_B1 fuel r154 s.1 s.2.1 s.2.2) m_ (x200, x204, x205) = some tl164 ∧ Sep F R R195 w w196 [HP.blk B155 [v156, .int .i64 x200] 78, HP.own endITy (fun _ => False) 76 v160 r159.1, HP.own labTy (fun _ => False) 29 v203 x204] ∧ IsSlice endITy w196 R195 v1 a0 ∧ IsSlice labTy w196 R195 v2 a1 ∧ IsSlice Ty.u8 w196 R195 v156 r154.1 ∧ E_ = [(0, v1), (1, v2), (7, .pointer (some ⟨B155, 0, none⟩)), (8, v160), (9, v203), (10, .int .i64 x205)]) _ ⟨_, ⟨r159.2, ([] : List Lab), 0, (.slice none 0 0), _, ht164, (hS.pickB [1, 2, 0] 3 rfl rfl), f1, f2, f156, rfl⟩, Sub.cons rfl (Sub.cons rfl (Sub.cons rfl (Sub.cons rfl (Sub.cons rfl (Sub.cons rfl (Sub.nil _))))))⟩ ?_
    clear ht164 hS
    rintro m164 _ w196 ⟨x200, x204, x205, v203, R195, ht164, hS, f197, f198, f199, rfl⟩
    obtain ⟨m164, rfl, o164, ho164, ht164⟩ := iter_some ht164
    replace ho164 : law32_OrphanAsks_B1 fuel r154 x200 x204 x205 = some o164 := ho164
    unfold law32_OrphanAsks_B1 at ho164
    refine e_seq fun K261 hK261 => ?_
    refine e_seq fun K262 hK262 => ?_
    refine e_region_text rfl ?_
    refine q_move rfl rfl ?_
    refine q_lss rfl rfl rfl ?_
    refine eseq_nil ?_
    refine hK262 _ _ ?_
    refine e_cond rfl (fun hc263 => ?_) (fun hc263 => ?_)
    · replace ho164 := (if_pos hc263).symm.trans ho164
      refine e_skip ?_
      refine hK261 _ _ ?_
      refine e_seq fun K264 hK264 => ?_
      refine e_block ?_
      refine e_region_text rfl ?_
      refine q_move rfl rfl ?_
      refine q_move rfl rfl ?_
      obtain ⟨r266, hr266, ho164⟩ := Option.of_bind ho164
      refine q_call rfl (make_Codes_Next_w (Sep.enter (As := [_]) hS) f199 hr266) rfl ?_
      rintro _ w265 ⟨R265, rfl, hC265⟩
      refine ⟨(fun h => by cases h), ?_⟩
      have hk265 := hC265.keptR (Sep.offFeet (As := [_]) hS)
      replace f197 := (f197.kept hk265).mono fun k hk _ => hC265.ro0 k hk
      replace f198 := (f198.kept hk265).mono fun k hk _ => hC265.ro0 k hk
      replace f199 := (f199.kept hk265).mono fun k hk _ => hC265.ro0 k hk
      replace hS := Sep.leave (As := [_]) hS hC265; simp only [List.cons_append, List.nil_append] at hS
      refine q_move rfl rfl ?_
      obtain ⟨r268, hr268, ho164⟩ := Option.of_bind ho164
      refine q_call rfl (make_Codes_Next_w (Sep.enter (As := [_]) hS) f199 hr268) rfl ?_
      rintro _ w267 ⟨R267, rfl, hC267⟩
      refine ⟨(fun h => by cases h), ?_⟩
      have hk267 := hC267.keptR (Sep.offFeet (As := [_]) hS)
      replace f197 := (f197.kept hk267).mono fun k hk _ => hC267.ro0 k hk
      replace f198 := (f198.kept hk267).mono fun k hk _ => hC267.ro0 k hk
      replace f199 := (f199.kept hk267).mono fun k hk _ => hC267.ro0 k hk
      replace hS := Sep.leave (As := [_]) hS hC267; simp only [List.cons_append, List.nil_append] at hS
      refine q_build (Parts.cons rfl rfl (Parts.cons rfl rfl Parts.nil)) rfl rfl ?_
      refine q_litO (T := labTy) (S := (fun _ => False)) (cells := [[.int .i64 r266.1, .int .i64 r268.1]]) (ys := [(⟨r266.1, r268.1⟩ : Lab)]) ((Parts.cons rfl rfl Parts.nil)) rfl rfl rfl rfl rfl rfl rfl (fun w1 hB => ⟨⟨[_], _, rfl, rfl, rfl⟩, trivial⟩) (fun _ h => h.elim) rfl fun w269 v269 ho269 hv269 hB269 => ?_
      replace f197 := f197.ext hB269
      replace f198 := f198.ext hB269
      replace f199 := f199.ext hB269
      replace hS := hS.newOwnS hB269 ho269 hv269 (fun _ h => h.elim)
      obtain ⟨x272, hx272, ho164⟩ := Option.of_bind ho164
      refine q_catOwn (T := labTy) rfl rfl rfl rfl (hS.own 3 rfl) rfl (hS.own 0 rfl) (fun _ h _ => h.elim) (snoc_cat hx272) (Nat.zero_le _) rfl (fun h => by cases h) fun v271 w271 hw271 hgr271 hnw271 => ?_
      have hk271 := hS.keptOwn 3 rfl hgr271
      replace f197 := f197.kept hk271
      replace f198 := f198.kept hk271
      replace f199 := f199.kept hk271
      replace hS := hS.setOwn 3 rfl hw271 hgr271 hnw271; simp only [List.set] at hS
      refine q_assign rfl rfl ?_
      refine eseq_nil ?_
      refine hK264 _ _ ?_
      refine e_region_text rfl ?_
      refine q_move rfl rfl ?_
      refine q_addW rfl rfl rfl ?_
      refine q_assign rfl rfl ?_
      refine eseq_nil ?_
      obtain rfl := Option.some.inj ho164
      exact ⟨m164, _, Nat.lt_succ_self _, ⟨r268.2, x272, (w64 (x205 + 1)), v271, _, ht164, (hS.pickB [1, 2, 3] 4 rfl rfl), f197, f198, f199, rfl⟩, Sub.cons rfl (Sub.cons rfl (Sub.cons rfl (Sub.cons rfl (Sub.cons rfl (Sub.cons rfl (Sub.nil _))))))⟩
    · replace ho164 := (if_neg (not_true hc263)).symm.trans ho164
      refine e_exit ?_
      obtain rfl := Option.some.inj ho164
      obtain rfl := Option.some.inj ht164
      exact hX164_0 x204 v203 _ _ _ h (hS.pickB [1, 2] 3 rfl rfl) f197 f198 (Sub.cons rfl (Sub.cons rfl (Sub.cons rfl (Sub.cons rfl (Sub.nil _)))))
end Go.Proofs.Ytghjjkdfjmnfeaa
