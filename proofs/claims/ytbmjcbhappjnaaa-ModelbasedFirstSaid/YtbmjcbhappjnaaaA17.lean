/- Printed walks: A17. -/
import Derived.Test.YtbmjcbhappjnaaaA16
set_option linter.unusedVariables false
set_option linter.unusedSimpArgs false
namespace Go.Mine
open Go.RowKit
def causal_fits_K1 (fuel : Nat) : Option (Bool) :=
  some true
def causal_fits_B1 (fuel : Nat) (a1 : (List Pt)) (a0 : Pat) (x199 : Int) : Option ((Int) ⊕ (Unit ⊕ (Bool))) :=
  (if (decide (x199 < (a1.length : Int))) = true then (ati a1 x199).bind fun x245 => (orM (decide (x245.proc < 0)) (some (decide ((a0.lens.length : Int) ≤ x245.proc)))).bind fun x255 => (orM x255 (some (decide (x245.index < 0)))).bind fun x259 => (orM x259 ((ati a0.lens x245.proc).bind fun x266 => some (decide (x266 < x245.index)))).bind fun x265 => (if x265 = true then some (Sum.inr (Sum.inr false)) else some (Sum.inl (w64 (x199 + 1)))) else some (Sum.inr (Sum.inl ())))
def causal_fits (fuel : Nat) (a0 : Pat) (a1 : (List Pt)) : Option (Bool) :=
  (pattern_Check fuel (⟨a0.lens, a0.ckpts, a0.arcs⟩ : Pat)).bind fun r144 => (if (r144 != 0) = true then some false else (iter (fun s => causal_fits_B1 fuel a1 a0 s) fuel 0).bind (fun t => Sum.elim (fun t => causal_fits_K1 fuel) (fun t => some t) t))
def causal_newHistory_K1 (fuel : Nat) (a0 : Pat) (x209 : (List (Pt × Pt))) : Option ((List Int) × (List (Pt × Pt)) × (List (Pt × (List Int)))) :=
  some (a0.lens, x209, ([] : List (Pt × (List Int))))
def causal_newHistory_B1 (fuel : Nat) (a0 : Pat) (x171 : (List (Pt × Pt))) (x174 : Int) : Option (((List (Pt × Pt)) × Int) ⊕ ((List (Pt × Pt)))) :=
  (if (decide (x174 < (a0.arcs.length : Int))) = true then (ati a0.arcs x174).bind fun x217 => (if (x217.rcv != 0) = true then (some (mput x171 (⟨x217.to, x217.rcv⟩ : Pt) (⟨x217.fr, x217.ix⟩ : Pt))).bind fun x226 => some (Sum.inl (x226, (w64 (x174 + 1)))) else some (Sum.inl (x171, (w64 (x174 + 1))))) else some (Sum.inr x171))
def causal_newHistory (fuel : Nat) (a0 : Pat) : Option ((List Int) × (List (Pt × Pt)) × (List (Pt × (List Int)))) :=
  (iter (fun s => causal_newHistory_B1 fuel a0 s.1 s.2) fuel (([] : List (Pt × Pt)), 0)).bind (fun t => causal_newHistory_K1 fuel a0 t)
def causal_raise_K1 (fuel : Nat) (x110 : (List Int)) : Option ((List Int)) :=
  some x110
def causal_raise_B1 (fuel : Nat) (c0_0 : (List Int)) (a1 : (List Int)) (x88 : (List Int)) (x90 : Int) : Option (((List Int) × Int) ⊕ ((List Int))) :=
  (if (decide (x90 < (c0_0.length : Int))) = true then (ati x88 x90).bind fun x116 => (ati a1 x90).bind fun x118 => (ati x88 x90).bind fun x120 => (seti x88 x90 (max x116 x118)).bind fun x122 => some (Sum.inl (x122, (w64 (x90 + 1)))) else some (Sum.inr x88))
def causal_raise (fuel : Nat) (a1 : (List Int)) (c0_0 : (List Int)) : Option ((List Int)) :=
  (iter (fun s => causal_raise_B1 fuel c0_0 a1 s.1 s.2) fuel (c0_0, 0)).bind (fun t => causal_raise_K1 fuel t)
def causal_history_clock_J1 (fuel : Nat) (rec_ : Pt → (List Int) → (List (Pt × Pt)) → (List (Pt × (List Int))) → Option ((List Int) × (List (Pt × Pt)) × (List (Pt × (List Int))))) (a1 : Pt) (x327 : (List (Pt × Pt))) (x329 : (List (Pt × (List Int)))) (x332 : (List Int)) : Option ((List Int) × (List (Pt × Pt)) × (List (Pt × (List Int)))) :=
  (ati x332 a1.proc).bind fun x334 => (seti x332 a1.proc a1.index).bind fun x336 => (some (mput x329 (⟨a1.proc, a1.index⟩ : Pt) x336)).bind fun x340 => some (x336, x327, x340)
def causal_history_clock_J2 (fuel : Nat) (rec_ : Pt → (List Int) → (List (Pt × Pt)) → (List (Pt × (List Int))) → Option ((List Int) × (List (Pt × Pt)) × (List (Pt × (List Int))))) (r346 : ((List Int) × (List (Pt × Pt)) × (List (Pt × (List Int))))) (a1 : Pt) (x352 : Pt) (c0_0 : (List Int)) (x349 : (List Int)) : Option ((List Int) × (List (Pt × Pt)) × (List (Pt × (List Int)))) :=
  (if ((mget r346.2.1 (⟨a1.proc, a1.index⟩ : Pt)).isSome) = true then (rec_ (⟨x352.proc, x352.index⟩ : Pt) c0_0 r346.2.1 r346.2.2).bind fun r376 => (causal_raise fuel r376.1 x349).bind fun r379 => causal_history_clock_J1 fuel rec_ a1 r376.2.1 r376.2.2 r379 else causal_history_clock_J1 fuel rec_ a1 r346.2.1 r346.2.2 x349)
def causal_history_clock_F (fuel : Nat) (rec_ : Pt → (List Int) → (List (Pt × Pt)) → (List (Pt × (List Int))) → Option ((List Int) × (List (Pt × Pt)) × (List (Pt × (List Int))))) (a1 : Pt) (c0_0 : (List Int)) (c0_1 : (List (Pt × Pt))) (c0_2 : (List (Pt × (List Int)))) : Option ((List Int) × (List (Pt × Pt)) × (List (Pt × (List Int)))) :=
  (some ((mget c0_2 (⟨a1.proc, a1.index⟩ : Pt)).getD ([] : List Int))).bind fun x267 => (if ((mget c0_2 (⟨a1.proc, a1.index⟩ : Pt)).isSome) = true then some (x267, c0_1, c0_2) else (mkL (c0_0.length : Int) (0 : Int)).bind fun x272 => (if (decide (0 < a1.index)) = true then (rec_ (⟨a1.proc, w64 (a1.index - 1)⟩ : Pt) c0_0 c0_1 c0_2).bind fun r346 => (copyM x272 r346.1).bind fun x349 => (some ((mget r346.2.1 (⟨a1.proc, a1.index⟩ : Pt)).getD (⟨(0 : Int), (0 : Int)⟩ : Pt))).bind fun x352 => causal_history_clock_J2 fuel rec_ r346 a1 x352 c0_0 x349 else causal_history_clock_J1 fuel rec_ a1 c0_1 c0_2 x272))
def causal_history_clock_R (fuel : Nat) : Nat → Pt → (List Int) → (List (Pt × Pt)) → (List (Pt × (List Int))) → Option ((List Int) × (List (Pt × Pt)) × (List (Pt × (List Int))))
  | 0 => fun _ _ _ _ => none
  | d_ + 1 => causal_history_clock_F fuel (causal_history_clock_R fuel d_)
def causal_history_clock (fuel : Nat) (a1 : Pt) (c0_0 : (List Int)) (c0_1 : (List (Pt × Pt))) (c0_2 : (List (Pt × (List Int)))) : Option ((List Int) × (List (Pt × Pt)) × (List (Pt × (List Int)))) := causal_history_clock_R fuel fuel a1 c0_0 c0_1 c0_2
def causal_Clock (fuel : Nat) (a0 : Pat) (a1 : Int) (a2 : Int) : Option ((List Int)) :=
  (causal_fits fuel (⟨a0.lens, a0.ckpts, a0.arcs⟩ : Pat) ([(⟨a1, a2⟩ : Pt)])).bind fun r51 => (if (!r51) = true then some ([] : List Int) else (causal_newHistory fuel (⟨a0.lens, a0.ckpts, a0.arcs⟩ : Pat)).bind fun r66 => (causal_history_clock fuel (⟨a1, a2⟩ : Pt) r66.1 r66.2.1 r66.2.2).bind fun r72 => some r72.1)
end Go.Mine
namespace Go.Proofs.Ytbmjcbhappjnaaa
open Go.RowKit Go.Mine
attribute [local irreducible] eseq ewp iter
instance : TKey Try.prog 127 Pt.key_ where
  eq a b := by
    rw [show decide (a = b) = (((a.proc == b.proc) && ((a.index == b.index) && true))) from by obtain ⟨_, _⟩ := a; obtain ⟨_, _⟩ := b; rw [Bool.eq_iff_iff]; simp]
    exact eqT127
  chk e a w := by
    have h0 : PartV Try.prog 3 #[.int .i64 a.proc, .int .i64 a.index] 0 (.int .i64 a.proc) := PartV.cell rfl
    have h1 : PartV Try.prog 3 #[.int .i64 a.proc, .int .i64 a.index] 1 (.int .i64 a.index) := PartV.cell rfl
    exact chk2 (n := 9998) Try.underlying127 rfl rfl h0 h1 Try.underlying3 Try.underlying3
  now := ⟨_, Try.underlying127, fun a b => rfl⟩
  bits a := by simp [Pt.key_, Pt.cells_, Instr.sameBits]
theorem causal_fits_w {F R : Nat → Prop} {w : World} {fuel : Nat} {a0 : Pat} {a1 : (List Pt)} {v1 : Value} {v2 : Value} {v3 : Value} {v4 : Value} {r : (Bool)} (hS : Sep F R R w w []) (f1 : IsSlice Ty.int w R v1 a0.lens) (f2 : IsSlice (Ty.slice Ty.int) w R v2 a0.ckpts) (f3 : IsSlice arcTy w R v3 a0.arcs) (f4 : IsSlice ptTy w R v4 a1) (h : causal_fits fuel a0 a1 = some r) :
    Gives Try.prog 68 [.agg #[v1, v2, v3], v4] w fun u w1 => ∃ (R1 : Nat → Prop), u = .bool r ∧ Sep F R R1 w w1 [] := by
  refine fn_of Try.func68 rfl Try.ntmps68 (Nat.le_of_ble_eq_true rfl) ?_
  unfold causal_fits at h
  refine e_seq fun K138 hK138 => ?_
  refine e_region_text rfl ?_
  refine q_boxB rfl rfl rfl fun w139 bl139 hg139 hb139 hB139 => ?_
  replace f1 := f1.ext hB139
  replace f2 := f2.ext hB139
  replace f3 := f3.ext hB139
  replace f4 := f4.ext hB139
  replace hS := hS.newBlk hB139 hg139 hb139
  refine q_assign rfl rfl ?_
  refine eseq_nil ?_
  refine hK138 _ _ ?_
  refine e_seq fun K141 hK141 => ?_
  refine e_seq fun K142 hK142 => ?_
  refine e_region_text rfl ?_
  refine q_loadAgg rfl (Blk.cellsAt (hS.blk 0 rfl) 0 3 rfl) rfl rfl ?_
  obtain ⟨r144, hr144, h⟩ := Option.of_bind h
  refine q_call rfl (pattern_Check_w (a0 := (⟨a0.lens, a0.ckpts, a0.arcs⟩ : Pat)) (Sep.enter (As := []) hS) f1 f2 f3 hr144) rfl ?_
  rintro _ w143 ⟨R143, rfl, hC143⟩
  have hB143 : Below (World.heap w139).size w139 w143 := hC143.stepB0
  refine ⟨fun _ => .of_below hB143, ?_⟩
  replace f4 := (f4.ext hB143).mono fun k hk _ => hC143.ro0 k hk
  replace f1 := (f1.ext hB143).mono fun k hk _ => hC143.ro0 k hk
  replace f2 := (f2.ext hB143).mono fun k hk _ => hC143.ro0 k hk
  replace f3 := (f3.ext hB143).mono fun k hk _ => hC143.ro0 k hk
  replace hS := Sep.leave (As := []) hS hC143; simp only [List.cons_append, List.nil_append] at hS
  refine q_neq rfl rfl rfl ?_
  refine eseq_nil ?_
  refine hK142 _ _ ?_
  refine e_cond rfl (fun hc145 => ?_) (fun hc145 => ?_)
  · replace h := (if_pos hc145).symm.trans h
    refine e_seq fun K146 hK146 => ?_
    refine e_region_text rfl ?_
    refine q_assign rfl rfl ?_
    refine eseq_nil ?_
    refine hK146 _ _ ?_
    refine e_ret ?_
    obtain rfl := Option.some.inj h
    exact ⟨_, res1 rfl rfl, _, rfl, (hS.pickB [] 1 rfl rfl)⟩
  · replace h := (if_neg (not_true hc145)).symm.trans h
    refine e_skip ?_
    refine hK141 _ _ ?_
    refine e_seq fun K147 hK147 => ?_
    refine e_seq fun K148 hK148 => ?_
    refine e_region_text rfl ?_
    refine q_move rfl rfl ?_
    refine q_lenS rfl f4 rfl ?_
    refine q_move rfl rfl ?_
    refine eseq_nil ?_
    refine hK148 _ _ ?_
    refine e_block ?_
    obtain ⟨tl149, ht149, h⟩ := Option.of_bind h
    have hX149_0 : ∀ (R237 : Nat → Prop) (w238 : World) (E_ : Env), causal_fits_K1 fuel = some r → Sep F R R237 w w238 [] → Sub [] E_ → K147 E_ w238 := by
      intro R237 w238 E_ h hS  hsub
      refine hK147 _ _ (e_sub hsub ?_); clear hsub
      unfold causal_fits_K1 at h
      refine e_seq fun K239 hK239 => ?_
      refine e_region_text rfl ?_
      refine q_assign rfl rfl ?_
      refine eseq_nil ?_
      refine hK239 _ _ ?_
      refine e_ret ?_
      obtain rfl := Option.some.inj h
      exact ⟨_, res1 rfl rfl, _, rfl, hS⟩
    refine e_loop (fun m_ E_ w194 => ∃ (x199 : Int), ∃ (R193 : Nat → Prop), iter (fun s => causal_fits_B1 fuel a1 a0 s) m_ x199 = some tl149 ∧ Sep F R R193 w w194 [HP.blk bl139 [v1, v2, v3] 31] ∧ IsSlice Ty.int w194 R193 v1 a0.lens ∧ IsSlice (Ty.slice Ty.int) w194 R193 v2 a0.ckpts ∧ IsSlice arcTy w194 R193 v3 a0.arcs ∧ IsSlice ptTy w194 R193 v4 a1 ∧ E_ = [(2, .pointer (some ⟨bl139, 0, none⟩)), (10, v4), (11, .int .i64 (a1.length : Int)), (12, .int .i64 x199)]) _ ⟨_, ⟨0, _, ht149, hS, f1, f2, f3, f4, rfl⟩, Sub.cons rfl (Sub.cons rfl (Sub.cons rfl (Sub.cons rfl (Sub.nil _))))⟩ ?_
    clear ht149 hS
    rintro m149 _ w194 ⟨x199, R193, ht149, hS, f195, f196, f197, f198, rfl⟩
    obtain ⟨m149, rfl, o149, ho149, ht149⟩ := iter_some ht149
    replace ho149 : causal_fits_B1 fuel a1 a0 x199 = some o149 := ho149
    unfold causal_fits_B1 at ho149
    refine e_seq fun K240 hK240 => ?_
    refine e_region_text rfl ?_
    refine q_lss rfl rfl rfl ?_
    refine eseq_nil ?_
    refine hK240 _ _ ?_
    refine e_seq fun K241 hK241 => ?_
    refine e_cond rfl (fun hc242 => ?_) (fun hc242 => ?_)
    · replace ho149 := (if_pos hc242).symm.trans ho149
      refine e_skip ?_
      refine hK241 _ _ ?_
      refine e_seq fun K243 hK243 => ?_
      refine e_block ?_
      refine e_seq fun K244 hK244 => ?_
      refine e_region_text rfl ?_
      obtain ⟨x245, hx245, ho149⟩ := Option.of_bind ho149
      refine q_atS (by infer_instance) rfl f198 rfl hx245 rfl fun b246 o246 hm246 f246 => ?_
      have hc247 := Pt_open f246
      refine q_loadAgg rfl hc247 rfl rfl ?_
      refine q_allocB rfl fun w248 bl248 hg248 hb248 hB248 => ?_
      replace f195 := f195.ext hB248
      replace f196 := f196.ext hB248
      replace f197 := f197.ext hB248
      replace f198 := f198.ext hB248
      replace hS := hS.newBlk hB248 hg248 hb248
      refine q_storeAgg rfl rfl (hS.blk 0 rfl) rfl (Nat.le_of_ble_eq_true rfl) (all_cons rfl (all_cons rfl (all_nil))) rfl rfl fun w250 hb250 hO250 => ?_
      simp only [setN, List.set, List.take, List.drop] at hb250
      have hk250 := hS.keptBlk 0 rfl hO250
      replace f195 := f195.kept hk250
      replace f196 := f196.kept hk250
      replace f197 := f197.kept hk250
      replace f198 := f198.kept hk250
      replace hS := hS.setBlk 0 rfl hb250 hO250; simp only [List.set] at hS
      refine eseq_nil ?_
      refine hK244 _ _ ?_
      refine e_seq fun K251 hK251 => ?_
      refine e_region_draw mixed (fun _ => False) [0, 1, 3, 7, 15, 31, 15, 79, 207, 511, 1023, 2047, 4095, 8191, 16383, 32767, 65535, 131071, 262143, 131071, 655359, 131071, 2228223, 7995391, 16383999, 33554431, 67108863] [] [0, 1, 2, 3, 4, 5, 6, 7, 8, 9, 10, 11, 12, 13, 14, 15, 16, 17, 18, 19, 20, 21, 22, 23, 24, 25, 26] (by kernel_rfl) ?_
      refine q_field rfl rfl ?_
      refine q_load rfl (Blk.cell (hS.blk 0 rfl) rfl) rfl ?_
      refine q_lss rfl rfl rfl ?_
      refine q_move rfl rfl ?_
      obtain ⟨x255, hx254, ho149⟩ := Option.of_bind ho149
      refine g_orM 6 hx254 rfl trivial rfl rfl ?_ ?_ ?_
      · intro hg254
        refine g_skip rfl rfl rfl ?_
        refine g_skip rfl rfl rfl ?_
        refine g_skip rfl rfl rfl ?_
        refine g_skip rfl rfl rfl ?_
        refine g_skip rfl rfl rfl ?_
        refine g_skip rfl rfl rfl ?_
        exact eseq_nil ⟨rfl, Sub.set rfl (Sub.set rfl (Sub.set rfl (Sub.set rfl (Sub.set rfl (Sub.set rfl (Sub.bool true rfl hg254))))))⟩
      · intro hg254 hx254
        clear ho149
        have hT254 := Below.refl (World.heap w250).size w250
        refine g_run rfl ?_; refine q_field rfl rfl ?_
        refine g_run rfl ?_; refine q_load rfl (Blk.cell (hS.blk 0 rfl) rfl) rfl ?_
        refine g_run rfl ?_; refine q_field rfl rfl ?_
        refine g_run rfl ?_; refine q_load rfl (Blk.cell (hS.blk 1 rfl) rfl) rfl ?_
        refine g_run rfl ?_; refine q_lenS rfl f195 rfl ?_
        refine g_run rfl ?_; refine q_geq rfl rfl rfl ?_
        cases hx254
        exact eseq_nil ⟨hT254, Sub.set rfl (Sub.set rfl (Sub.set rfl (Sub.set rfl (Sub.set rfl (Sub.set rfl (Sub.bool false rfl hg254)))))), rfl⟩
      intro wm254 hBm254; clear hx254
      replace hS := hS.below hBm254
      replace f195 := f195.ext hBm254
      replace f196 := f196.ext hBm254
      replace f197 := f197.ext hBm254
      replace f198 := f198.ext hBm254
      refine q_move rfl rfl ?_
      obtain ⟨x259, hx258, ho149⟩ := Option.of_bind ho149
      refine g_orM 3 hx258 rfl trivial rfl rfl ?_ ?_ ?_
      · intro hg258
        refine g_skip rfl rfl rfl ?_
        refine g_skip rfl rfl rfl ?_
        refine g_skip rfl rfl rfl ?_
        exact eseq_nil ⟨rfl, Sub.set rfl (Sub.set rfl (Sub.set rfl (Sub.bool true rfl hg258)))⟩
      · intro hg258 hx258
        clear ho149
        have hT258 := Below.refl (World.heap wm254).size wm254
        refine g_run rfl ?_; refine q_field rfl rfl ?_
        refine g_run rfl ?_; refine q_load rfl (Blk.cell (hS.blk 0 rfl) rfl) rfl ?_
        refine g_run rfl ?_; refine q_lss rfl rfl rfl ?_
        cases hx258
        exact eseq_nil ⟨hT258, Sub.set rfl (Sub.set rfl (Sub.set rfl (Sub.bool false rfl hg258))), rfl⟩
      intro wm258 hBm258; clear hx258
      replace hS := hS.below hBm258
      replace f195 := f195.ext hBm258
      replace f196 := f196.ext hBm258
      replace f197 := f197.ext hBm258
      replace f198 := f198.ext hBm258
      refine q_move rfl rfl ?_
      obtain ⟨x265, hx264, ho149⟩ := Option.of_bind ho149
      refine g_orM 9 hx264 rfl trivial rfl rfl ?_ ?_ ?_
      · intro hg264
        refine g_skip rfl rfl rfl ?_
        refine g_skip rfl rfl rfl ?_
        refine g_skip rfl rfl rfl ?_
        refine g_skip rfl rfl rfl ?_
        refine g_skip rfl rfl rfl ?_
        refine g_skip rfl rfl rfl ?_
        refine g_skip rfl rfl rfl ?_
        refine g_skip rfl rfl rfl ?_
        refine g_skip rfl rfl rfl ?_
        exact eseq_nil ⟨rfl, Sub.set rfl (Sub.set rfl (Sub.set rfl (Sub.set rfl (Sub.set rfl (Sub.set rfl (Sub.set rfl (Sub.set rfl (Sub.set rfl (Sub.bool true rfl hg264)))))))))⟩
      · intro hg264 hx264
        clear ho149
        have hT264 := Below.refl (World.heap wm258).size wm258
        refine g_run rfl ?_; refine q_field rfl rfl ?_
        refine g_run rfl ?_; refine q_load rfl (Blk.cell (hS.blk 0 rfl) rfl) rfl ?_
        refine g_run rfl ?_; refine q_field rfl rfl ?_
        refine g_run rfl ?_; refine q_load rfl (Blk.cell (hS.blk 1 rfl) rfl) rfl ?_
        refine g_run rfl ?_; refine q_field rfl rfl ?_
        refine g_run rfl ?_; refine q_load rfl (Blk.cell (hS.blk 0 rfl) rfl) rfl ?_
        obtain ⟨x266, hx266, hx264⟩ := Option.of_bind hx264
        refine g_run rfl ?_; refine q_atS (by infer_instance) rfl f195 rfl hx266 rfl fun b267 o267 hm267 f267 => ?_
        refine g_run rfl ?_; refine q_load rfl (Elt.intCell f267) rfl ?_
        refine g_run rfl ?_; refine q_gtr rfl rfl rfl ?_
        cases hx264
        exact eseq_nil ⟨hT264, Sub.set rfl (Sub.set rfl (Sub.set rfl (Sub.set rfl (Sub.set rfl (Sub.set rfl (Sub.set rfl (Sub.set rfl (Sub.set rfl (Sub.bool false rfl hg264))))))))), rfl⟩
      intro wm264 hBm264; clear hx264
      replace hS := hS.below hBm264
      replace f195 := f195.ext hBm264
      replace f196 := f196.ext hBm264
      replace f197 := f197.ext hBm264
      replace f198 := f198.ext hBm264
      refine eseq_nil ?_
      refine hK251 _ _ ?_
      refine e_cond rfl (fun hc268 => ?_) (fun hc268 => ?_)
      · replace ho149 := (if_pos hc268).symm.trans ho149
        refine e_seq fun K269 hK269 => ?_
        refine e_region_text rfl ?_
        refine q_assign rfl rfl ?_
        refine eseq_nil ?_
        refine hK269 _ _ ?_
        refine e_ret ?_
        obtain rfl := Option.some.inj ho149
        obtain rfl := Option.some.inj ht149
        obtain rfl := Option.some.inj h
        exact ⟨_, res1 rfl rfl, _, rfl, (hS.pickB [] 2 rfl rfl)⟩
      · replace ho149 := (if_neg (not_true hc268)).symm.trans ho149
        refine e_skip ?_
        refine hK243 _ _ ?_
        refine e_region_text rfl ?_
        refine q_addW rfl rfl rfl ?_
        refine q_move rfl rfl ?_
        refine eseq_nil ?_
        obtain rfl := Option.some.inj ho149
        exact ⟨m149, _, Nat.lt_succ_self _, ⟨(w64 (x199 + 1)), _, ht149, (hS.pickB [1] 2 rfl rfl), f195, f196, f197, f198, rfl⟩, Sub.cons rfl (Sub.cons rfl (Sub.cons rfl (Sub.cons rfl (Sub.nil _))))⟩
    · replace ho149 := (if_neg (not_true hc242)).symm.trans ho149
      refine e_exit ?_
      obtain rfl := Option.some.inj ho149
      obtain rfl := Option.some.inj ht149
      exact hX149_0  _ _ _ h (hS.pickB [] 1 rfl rfl)  (Sub.nil _)
theorem causal_newHistory_w {F R : Nat → Prop} {w : World} {fuel : Nat} {a0 : Pat} {v1 : Value} {v2 : Value} {v3 : Value} {r : ((List Int) × (List (Pt × Pt)) × (List (Pt × (List Int))))} (hS : Sep F R R w w []) (f1 : IsSlice Ty.int w R v1 a0.lens) (f2 : IsSlice (Ty.slice Ty.int) w R v2 a0.ckpts) (f3 : IsSlice arcTy w R v3 a0.arcs) (h : causal_newHistory fuel a0 = some r) :
    Gives Try.prog 69 [.agg #[v1, v2, v3]] w fun u w1 => ∃ (B114 : Nat), ∃ (v115 : Value), ∃ (B116 : Nat), ∃ (B117 : Nat), ∃ (R1 : Nat → Prop), u = .pointer (some ⟨B114, 0, none⟩) ∧ Sep F R R1 w w1 [HP.blk B114 [v115, .map (some B116), .map (some B117)] 170, HP.map Pt.key_ ptTy true (fun _ => False) B116 r.2.1, HP.map Pt.key_ (Ty.slice Ty.int) false R1 B117 r.2.2] ∧ IsSlice Ty.int w1 R1 v115 r.1 := by
  refine fn_of Try.func69 rfl Try.ntmps69 (Nat.le_of_ble_eq_true rfl) ?_
  unfold causal_newHistory at h
  refine e_seq fun K118 hK118 => ?_
  refine e_region_text rfl ?_
  refine q_boxB rfl rfl rfl fun w119 bl119 hg119 hb119 hB119 => ?_
  replace f1 := f1.ext hB119
  replace f2 := f2.ext hB119
  replace f3 := f3.ext hB119
  replace hS := hS.newBlk hB119 hg119 hb119
  refine q_assign rfl rfl ?_
  refine eseq_nil ?_
  refine hK118 _ _ ?_
  refine e_seq fun K121 hK121 => ?_
  refine e_region_text rfl ?_
  refine q_field rfl rfl ?_
  refine q_load rfl (Blk.cell (hS.blk 0 rfl) rfl) rfl ?_
  refine q_makeMap rfl fun w122 bl122 hg122 hb122 hB122 => ?_
  replace f1 := f1.ext hB122
  replace f2 := f2.ext hB122
  replace f3 := f3.ext hB122
  replace hS := hS.newMap (enc := Pt.key_) (T := ptTy) (agg := true) hB122 hg122 hb122
  refine q_makeMap rfl fun w124 bl124 hg124 hb124 hB124 => ?_
  replace f1 := f1.ext hB124
  replace f2 := f2.ext hB124
  replace f3 := f3.ext hB124
  replace hS := hS.newMap (enc := Pt.key_) (T := (Ty.slice Ty.int)) (agg := false) hB124 hg124 hb124
  replace hS := hS.mapMono 0 rfl; simp only [List.set] at hS
  refine q_build (Parts.cons rfl (cells_one f1.one) (Parts.cons rfl rfl (Parts.cons rfl rfl Parts.nil))) rfl rfl ?_
  refine q_boxB rfl rfl rfl fun w126 bl126 hg126 hb126 hB126 => ?_
  replace f1 := f1.ext hB126
  replace f2 := f2.ext hB126
  replace f3 := f3.ext hB126
  replace hS := hS.newBlk hB126 hg126 hb126
  refine q_assign rfl rfl ?_
  refine eseq_nil ?_
  refine hK121 _ _ ?_
  refine e_seq fun K128 hK128 => ?_
  refine e_seq fun K129 hK129 => ?_
  refine e_region_text rfl ?_
  refine q_field rfl rfl ?_
  refine q_load rfl (Blk.cell (hS.blk 3 rfl) rfl) rfl ?_
  refine q_lenS rfl f3 rfl ?_
  refine q_move rfl rfl ?_
  refine eseq_nil ?_
  refine hK129 _ _ ?_
  refine e_block ?_
  obtain ⟨tl130, ht130, h⟩ := Option.of_bind h
  have hX130_0 : ∀ (x209 : (List (Pt × Pt))) (R205 : Nat → Prop) (w206 : World) (E_ : Env), causal_newHistory_K1 fuel a0 x209 = some r → Sep F R R205 w w206 [HP.blk bl126 [v1, .map (some bl122), .map (some bl124)] 170, HP.map Pt.key_ ptTy true (fun _ => False) bl122 x209, HP.map Pt.key_ (Ty.slice Ty.int) false R205 bl124 ([] : List (Pt × (List Int)))] → IsSlice Ty.int w206 R205 v1 a0.lens → Sub [(3, .pointer (some ⟨bl126, 0, none⟩))] E_ → K128 E_ w206 := by
    intro x209 R205 w206 E_ h hS f207 hsub
    refine hK128 _ _ (e_sub hsub ?_); clear hsub
    unfold causal_newHistory_K1 at h
    refine e_seq fun K211 hK211 => ?_
    refine e_region_text rfl ?_
    refine q_move rfl rfl ?_
    refine q_assign rfl rfl ?_
    refine eseq_nil ?_
    refine hK211 _ _ ?_
    refine e_ret ?_
    obtain rfl := Option.some.inj h
    exact ⟨_, res1 rfl rfl, bl126, v1, bl122, bl124, _, rfl, hS, f207⟩
  refine e_loop (fun m_ E_ w168 => ∃ (x171 : (List (Pt × Pt))), ∃ (x174 : Int), ∃ (R167 : Nat → Prop), iter (fun s => causal_newHistory_B1 fuel a0 s.1 s.2) m_ (x171, x174) = some tl130 ∧ Sep F R R167 w w168 [HP.blk bl126 [v1, .map (some bl122), .map (some bl124)] 170, HP.map Pt.key_ ptTy true (fun _ => False) bl122 x171, HP.map Pt.key_ (Ty.slice Ty.int) false R167 bl124 ([] : List (Pt × (List Int)))] ∧ IsSlice Ty.int w168 R167 v1 a0.lens ∧ IsSlice arcTy w168 R167 v3 a0.arcs ∧ E_ = [(3, .pointer (some ⟨bl126, 0, none⟩)), (13, v3), (14, .int .i64 (a0.arcs.length : Int)), (15, .int .i64 x174)]) _ ⟨_, ⟨([] : List (Pt × Pt)), 0, _, ht130, (hS.pickB [0, 2, 1] 4 rfl rfl), f1, f3, rfl⟩, Sub.cons rfl (Sub.cons rfl (Sub.cons rfl (Sub.cons rfl (Sub.nil _))))⟩ ?_
  clear ht130 hS
  rintro m130 _ w168 ⟨x171, x174, R167, ht130, hS, f169, f173, rfl⟩
  obtain ⟨m130, rfl, o130, ho130, ht130⟩ := iter_some ht130
  replace ho130 : causal_newHistory_B1 fuel a0 x171 x174 = some o130 := ho130
  unfold causal_newHistory_B1 at ho130
  refine e_seq fun K212 hK212 => ?_
  refine e_region_text rfl ?_
  refine q_lss rfl rfl rfl ?_
  refine eseq_nil ?_
  refine hK212 _ _ ?_
  refine e_seq fun K213 hK213 => ?_
  refine e_cond rfl (fun hc214 => ?_) (fun hc214 => ?_)
  · replace ho130 := (if_pos hc214).symm.trans ho130
    refine e_skip ?_
    refine hK213 _ _ ?_
    refine e_seq fun K215 hK215 => ?_
    refine e_block ?_
    refine e_seq fun K216 hK216 => ?_
    refine e_region_text rfl ?_
    obtain ⟨x217, hx217, ho130⟩ := Option.of_bind ho130
    refine q_atS (by infer_instance) rfl f173 rfl hx217 rfl fun b218 o218 hm218 f218 => ?_
    have hc219 := Arc_open f218
    refine q_loadAgg rfl hc219 rfl rfl ?_
    refine q_allocB rfl fun w220 bl220 hg220 hb220 hB220 => ?_
    replace f169 := f169.ext hB220
    replace f173 := f173.ext hB220
    replace hS := hS.newBlk hB220 hg220 hb220
    refine q_storeAgg rfl rfl (hS.blk 0 rfl) rfl (Nat.le_of_ble_eq_true rfl) (all_cons rfl (all_cons rfl (all_cons rfl (all_cons rfl (all_nil))))) rfl rfl fun w222 hb222 hO222 => ?_
    simp only [setN, List.set, List.take, List.drop] at hb222
    have hk222 := hS.keptBlk 0 rfl hO222
    replace f169 := f169.kept hk222
    replace f173 := f173.kept hk222
    replace hS := hS.setBlk 0 rfl hb222 hO222; simp only [List.set] at hS
    refine eseq_nil ?_
    refine hK216 _ _ ?_
    refine e_seq fun K223 hK223 => ?_
    refine e_region_text rfl ?_
    refine q_field rfl rfl ?_
    refine q_load rfl (Blk.cell (hS.blk 0 rfl) rfl) rfl ?_
    refine q_neq rfl rfl rfl ?_
    refine eseq_nil ?_
    refine hK223 _ _ ?_
    refine e_cond rfl (fun hc224 => ?_) (fun hc224 => ?_)
    · replace ho130 := (if_pos hc224).symm.trans ho130
      refine e_region_draw mixed (fun _ => False) [0, 1, 3, 7, 0, 16, 0, 64, 240, 0, 512, 0, 2048, 7680, 16383] [] [0, 1, 2, 3, 4, 5, 6, 7, 8, 9, 10, 11, 12, 13, 14] (by kernel_rfl) ?_
      refine q_move rfl rfl ?_
      refine q_nilCheck rfl rfl ?_
      refine q_field rfl rfl ?_
      refine q_load rfl (Blk.cell (hS.blk 1 rfl) rfl) rfl ?_
      refine q_field rfl rfl ?_
      refine q_load rfl (Blk.cell (hS.blk 0 rfl) rfl) rfl ?_
      refine q_field rfl rfl ?_
      refine q_load rfl (Blk.cell (hS.blk 0 rfl) rfl) rfl ?_
      refine q_build (Parts.cons rfl rfl (Parts.cons rfl rfl Parts.nil)) rfl rfl ?_
      refine q_field rfl rfl ?_
      refine q_load rfl (Blk.cell (hS.blk 0 rfl) rfl) rfl ?_
      refine q_field rfl rfl ?_
      refine q_load rfl (Blk.cell (hS.blk 0 rfl) rfl) rfl ?_
      refine q_build (Parts.cons rfl rfl (Parts.cons rfl rfl Parts.nil)) rfl rfl ?_
      obtain ⟨x226, hx226, ho130⟩ := Option.of_bind ho130
      refine q_mapUpdate (k := (⟨x217.to, x217.rcv⟩ : Pt)) (xx := (⟨x217.fr, x217.ix⟩ : Pt)) 2 hS rfl rfl rfl rfl (VR.ofEnc rfl) rfl rfl fun w225 hO225 hM225 => ?_
      rw [Option.some.inj hx226] at hM225
      have hk225 := hS.keptF 2 rfl (StepF.of_only hO225 rfl)
      replace f169 := f169.kept hk225
      replace f173 := f173.kept hk225
      replace hS := hM225; simp only [List.set] at hS
      refine eseq_nil ?_
      refine hK215 _ _ ?_
      refine e_region_text rfl ?_
      refine q_addW rfl rfl rfl ?_
      refine q_move rfl rfl ?_
      refine eseq_nil ?_
      obtain rfl := Option.some.inj ho130
      exact ⟨m130, _, Nat.lt_succ_self _, ⟨x226, (w64 (x174 + 1)), _, ht130, (hS.pickB [1, 2, 3] 4 rfl rfl), f169, f173, rfl⟩, Sub.cons rfl (Sub.cons rfl (Sub.cons rfl (Sub.cons rfl (Sub.nil _))))⟩
    · replace ho130 := (if_neg (not_true hc224)).symm.trans ho130
      refine e_skip ?_
      refine hK215 _ _ ?_
      refine e_region_text rfl ?_
      refine q_addW rfl rfl rfl ?_
      refine q_move rfl rfl ?_
      refine eseq_nil ?_
      obtain rfl := Option.some.inj ho130
      exact ⟨m130, _, Nat.lt_succ_self _, ⟨x171, (w64 (x174 + 1)), _, ht130, (hS.pickB [1, 2, 3] 4 rfl rfl), f169, f173, rfl⟩, Sub.cons rfl (Sub.cons rfl (Sub.cons rfl (Sub.cons rfl (Sub.nil _))))⟩
  · replace ho130 := (if_neg (not_true hc214)).symm.trans ho130
    refine e_exit ?_
    obtain rfl := Option.some.inj ho130
    obtain rfl := Option.some.inj ht130
    exact hX130_0 x171 _ _ _ h hS f169 (Sub.cons rfl (Sub.nil _))
theorem causal_raise_w {F R : Nat → Prop} {w : World} {fuel : Nat} {a1 : (List Int)} {c0_0 : (List Int)} {v1 : Value} {v2 : Value} {r : ((List Int))} (hS : Sep F R R w w [HP.own Ty.int (fun _ => False) 3 v2 c0_0]) (f1 : IsSlice Ty.int w R v1 a1) (h : causal_raise fuel a1 c0_0 = some r) :
    Gives Try.prog 110 [v2, v1] w fun u w1 => ∃ (R1 : Nat → Prop), u = .tuple #[] ∧ Sep F R R1 w w1 [HP.own Ty.int (fun _ => False) 3 v2 r] := by
  refine fn_of Try.func110 rfl Try.ntmps110 (Nat.le_of_ble_eq_true rfl) ?_
  unfold causal_raise at h
  refine e_seq fun K63 hK63 => ?_
  refine e_region_text rfl ?_
  refine q_move rfl rfl ?_
  refine q_lenS rfl (hS.isl 0 rfl) rfl ?_
  refine q_move rfl rfl ?_
  refine eseq_nil ?_
  refine hK63 _ _ ?_
  refine e_block ?_
  obtain ⟨tl65, ht65, h⟩ := Option.of_bind h
  refine e_loop (fun m_ E_ w87 => ∃ (x88 : (List Int)), ∃ (x90 : Int), ∃ (R86 : Nat → Prop), iter (fun s => causal_raise_B1 fuel c0_0 a1 s.1 s.2) m_ (x88, x90) = some tl65 ∧ Sep F R R86 w w87 [HP.own Ty.int (fun _ => False) 3 v2 x88] ∧ IsSlice Ty.int w87 R86 v1 a1 ∧ E_ = [(0, v2), (1, v1), (6, .int .i64 (c0_0.length : Int)), (7, .int .i64 x90)]) _ ⟨_, ⟨c0_0, 0, _, ht65, hS, f1, rfl⟩, Sub.cons rfl (Sub.cons rfl (Sub.cons rfl (Sub.cons rfl (Sub.nil _))))⟩ ?_
  clear ht65 hS
  rintro m65 _ w87 ⟨x88, x90, R86, ht65, hS, f89, rfl⟩
  obtain ⟨m65, rfl, o65, ho65, ht65⟩ := iter_some ht65
  replace ho65 : causal_raise_B1 fuel c0_0 a1 x88 x90 = some o65 := ho65
  unfold causal_raise_B1 at ho65
  refine e_seq fun K111 hK111 => ?_
  refine e_region_text rfl ?_
  refine q_lss rfl rfl rfl ?_
  refine eseq_nil ?_
  refine hK111 _ _ ?_
  refine e_seq fun K112 hK112 => ?_
  refine e_cond rfl (fun hc113 => ?_) (fun hc113 => ?_)
  · replace ho65 := (if_pos hc113).symm.trans ho65
    refine e_skip ?_
    refine hK112 _ _ ?_
    refine e_seq fun K114 hK114 => ?_
    refine e_block ?_
    refine e_seq fun K115 hK115 => ?_
    refine e_region_text rfl ?_
    refine q_move rfl rfl ?_
    refine q_assign rfl rfl ?_
    refine eseq_nil ?_
    refine hK115 _ _ ?_
    refine e_region_draw mixed (fun _ => False) [0, 0, 0, 0, 12, 28, 0, 0, 192, 448, 1020, 2047, 4095] [] [0, 1, 2, 3, 4, 5, 6, 7, 8, 9, 10, 11, 12] (by kernel_rfl) ?_
    refine q_move rfl rfl ?_
    refine q_move rfl rfl ?_
    refine q_move rfl rfl ?_
    refine q_move rfl rfl ?_
    obtain ⟨x116, hx116, ho65⟩ := Option.of_bind ho65
    refine q_indexO (by infer_instance) rfl (hS.own 0 rfl) rfl hx116 rfl ?_
    have f117 := (hS.ownR 0 rfl).elt hx116
    refine q_load rfl (Elt.intCell f117) rfl ?_
    refine q_move rfl rfl ?_
    refine q_move rfl rfl ?_
    obtain ⟨x118, hx118, ho65⟩ := Option.of_bind ho65
    refine q_atS (by infer_instance) rfl f89 rfl hx118 rfl fun b119 o119 hm119 f119 => ?_
    refine q_load rfl (Elt.intCell f119) rfl ?_
    refine q_max rfl rfl rfl ?_
    obtain ⟨x120, hx120, ho65⟩ := Option.of_bind ho65
    refine q_indexO (by infer_instance) rfl (hS.own 0 rfl) rfl hx120 rfl ?_
    obtain ⟨x122, hx122, ho65⟩ := Option.of_bind ho65
    refine q_storeO (T := Ty.int) (j := 0) rfl rfl (hS.own 0 rfl) hx120 hx122 rfl rfl rfl (Enc.setL rfl) fun w121 ho121 hO121 => ?_
    have hk121 := hS.keptO 0 rfl hx120 hO121
    replace f89 := f89.kept hk121
    replace hS := hS.putO 0 rfl hx120 ho121 hO121; simp only [List.set] at hS
    refine eseq_nil ?_
    refine hK114 _ _ ?_
    refine e_region_text rfl ?_
    refine q_addW rfl rfl rfl ?_
    refine q_move rfl rfl ?_
    refine eseq_nil ?_
    obtain rfl := Option.some.inj ho65
    exact ⟨m65, _, Nat.lt_succ_self _, ⟨x122, (w64 (x90 + 1)), _, ht65, hS, f89, rfl⟩, Sub.cons rfl (Sub.cons rfl (Sub.cons rfl (Sub.cons rfl (Sub.nil _))))⟩
  · replace ho65 := (if_neg (not_true hc113)).symm.trans ho65
    refine e_exit ?_
    obtain rfl := Option.some.inj ho65
    obtain rfl := Option.some.inj ht65
    replace h : causal_raise_K1 fuel x88 = some r := h
    unfold causal_raise_K1 at h
    obtain rfl := Option.some.inj h
    exact ⟨_, res0 rfl, _, rfl, hS⟩
theorem causal_history_clock_d {fuel : Nat} : ∀ (d_ : Nat) {F R : Nat → Prop} {w : World} {a1 : Pt} {c0_0 : (List Int)} {c0_1 : (List (Pt × Pt))} {c0_2 : (List (Pt × (List Int)))} {B0 : Nat} {v2 : Value} {B3 : Nat} {B4 : Nat} {r : ((List Int) × (List (Pt × Pt)) × (List (Pt × (List Int))))} (hS : Sep F R R w w [HP.blk B0 [v2, .map (some B3), .map (some B4)] 170, HP.map Pt.key_ ptTy true (fun _ => False) B3 c0_1, HP.map Pt.key_ (Ty.slice Ty.int) false R B4 c0_2]) (f2 : IsSlice Ty.int w R v2 c0_0) (h : causal_history_clock_R fuel d_ a1 c0_0 c0_1 c0_2 = some r),
    Gives Try.prog 70 [.pointer (some ⟨B0, 0, none⟩), .agg #[.int .i64 a1.proc, .int .i64 a1.index]] w fun u w1 => ∃ (v260 : Value), ∃ (R1 : Nat → Prop), u = v260 ∧ Sep F R R1 w w1 [HP.blk B0 [v2, .map (some B3), .map (some B4)] 170, HP.map Pt.key_ ptTy true (fun _ => False) B3 r.2.1, HP.map Pt.key_ (Ty.slice Ty.int) false R1 B4 r.2.2] ∧ IsSlice Ty.int w1 R1 v260 r.1 := by
  intro d_
  induction d_ with
  | zero => intro F R w a1 c0_0 c0_1 c0_2 B0 v2 B3 B4 r hS f2 h; cases h
  | succ d_ ih =>
    intro F R w a1 c0_0 c0_1 c0_2 B0 v2 B3 B4 r hS f2 h
    replace h : causal_history_clock_F fuel (causal_history_clock_R fuel d_) a1 c0_0 c0_1 c0_2 = some r := h
    generalize causal_history_clock_R fuel d_ = rec_ at h ih
    refine fn_of Try.func70 rfl Try.ntmps70 (Nat.le_of_ble_eq_true rfl) ?_
    unfold causal_history_clock_F at h
    refine e_seq fun K261 hK261 => ?_
    refine e_region_text rfl ?_
    refine q_boxB rfl rfl rfl fun w262 bl262 hg262 hb262 hB262 => ?_
    replace f2 := f2.ext hB262
    replace hS := hS.newBlk hB262 hg262 hb262
    refine q_assign rfl rfl ?_
    refine eseq_nil ?_
    refine hK261 _ _ ?_
    refine e_seq fun K264 hK264 => ?_
    refine e_seq fun K265 hK265 => ?_
    refine e_region_draw mixed (fun _ => False) [0, 1, 3, 7, 0, 31, 63, 127, 127, 255, 1023] [] [0, 1, 2, 3, 4, 5, 6, 7, 8, 9, 10] (by kernel_rfl) ?_
    refine q_move rfl rfl ?_
    refine q_nilCheck rfl rfl ?_
    refine q_field rfl rfl ?_
    refine q_load rfl (Blk.cell (hS.blk 1 rfl) rfl) rfl ?_
    refine q_loadAgg rfl (Blk.cellsAt (hS.blk 0 rfl) 0 2 rfl) rfl rfl ?_
    obtain ⟨x267, hx267, h⟩ := Option.of_bind h
    refine q_lookup2 (zv := .slice none 0 0) (zx := ([] : List Int)) (k := (⟨a1.proc, a1.index⟩ : Pt)) 3 hS rfl (fun _ _ => VR.ofSlice (IsSlice.nil _ _ _)) rfl rfl rfl fun v266 hv266 => ?_
    rw [Option.some.inj hx267] at hv266
    have f266 := hv266.slice
    refine q_move rfl rfl ?_
    refine q_extract rfl rfl rfl ?_
    refine q_extract rfl rfl rfl ?_
    refine q_assign rfl rfl ?_
    refine q_assign rfl rfl ?_
    refine eseq_nil ?_
    refine hK265 _ _ ?_
    refine e_seq fun K268 hK268 => ?_
    refine e_region_text rfl ?_
    refine q_move rfl rfl ?_
    refine eseq_nil ?_
    refine hK268 _ _ ?_
    refine e_cond rfl (fun hc269 => ?_) (fun hc269 => ?_)
    · replace h := (if_pos hc269).symm.trans h
      refine e_seq fun K270 hK270 => ?_
      refine e_region_text rfl ?_
      refine q_move rfl rfl ?_
      refine q_assign rfl rfl ?_
      refine eseq_nil ?_
      refine hK270 _ _ ?_
      refine e_ret ?_
      obtain rfl := Option.some.inj h
      exact ⟨_, res1 rfl rfl, v266, _, rfl, (hS.pickB [1, 2, 3] 4 rfl rfl), f266⟩
    · replace h := (if_neg (not_true hc269)).symm.trans h
      refine e_skip ?_
      refine hK264 _ _ ?_
      refine e_seq fun K271 hK271 => ?_
      refine e_region_text rfl ?_
      refine q_move rfl rfl ?_
      refine q_nilCheck rfl rfl ?_
      refine q_field rfl rfl ?_
      refine q_load rfl (Blk.cell (hS.blk 1 rfl) rfl) rfl ?_
      refine q_lenS rfl f2 rfl ?_
      obtain ⟨x272, hx272, h⟩ := Option.of_bind h
      refine q_makeO (T := Ty.int) (S := (fun _ => False)) rfl rfl rfl hx272 (fun _ h => h.elim) rfl fun w273 v273 ho273 hv273 hB273 => ?_
      replace f2 := f2.ext hB273
      replace hS := hS.newOwnS hB273 ho273 hv273 (fun _ h => h.elim)
      refine q_assign rfl rfl ?_
      refine eseq_nil ?_
      refine hK271 _ _ ?_
      refine e_seq fun K275 hK275 => ?_
      have hJ275 : ∀ (x327 : (List (Pt × Pt))) (x329 : (List (Pt × (List Int)))) (x332 : (List Int)) (v331 : Value) (R323 : Nat → Prop) (w324 : World) (E_ : Env), causal_history_clock_J1 fuel rec_ a1 x327 x329 x332 = some r → Sep F R R323 w w324 [HP.blk B0 [v2, .map (some B3), .map (some B4)] 170, HP.map Pt.key_ ptTy true (fun _ => False) B3 x327, HP.map Pt.key_ (Ty.slice Ty.int) false R323 B4 x329, HP.blk bl262 [.int .i64 a1.proc, .int .i64 a1.index] 127, HP.own Ty.int (fun _ => False) 3 v331 x332] → IsSlice Ty.int w324 R323 v2 c0_0 → Sub [(0, .pointer (some ⟨B0, 0, none⟩)), (3, .pointer (some ⟨bl262, 0, none⟩)), (7, v331)] E_ → K275 E_ w324 := by
        intro x327 x329 x332 v331 R323 w324 E_ h hS f325 hsub
        refine hK275 _ _ (e_sub hsub ?_); clear hsub
        unfold causal_history_clock_J1 at h
        refine e_seq fun K333 hK333 => ?_
        refine e_region_text rfl ?_
        refine q_move rfl rfl ?_
        refine q_field rfl rfl ?_
        refine q_load rfl (Blk.cell (hS.blk 3 rfl) rfl) rfl ?_
        refine q_field rfl rfl ?_
        refine q_load rfl (Blk.cell (hS.blk 3 rfl) rfl) rfl ?_
        obtain ⟨x334, hx334, h⟩ := Option.of_bind h
        refine q_indexO (by infer_instance) rfl (hS.own 4 rfl) rfl hx334 rfl ?_
        obtain ⟨x336, hx336, h⟩ := Option.of_bind h
        refine q_storeO (T := Ty.int) (j := 0) rfl rfl (hS.own 4 rfl) hx334 hx336 rfl rfl rfl (Enc.setL rfl) fun w335 ho335 hO335 => ?_
        have hk335 := hS.keptO 4 rfl hx334 hO335
        replace f325 := f325.kept hk335
        replace hS := hS.putO 4 rfl hx334 ho335 hO335; simp only [List.set] at hS
        refine eseq_nil ?_
        refine hK333 _ _ ?_
        refine e_seq fun K337 hK337 => ?_
        refine e_region_draw mixed (fun _ => False) [0, 1, 3, 7, 0, 0, 63] [] [0, 1, 2, 3, 4, 5, 6] (by kernel_rfl) ?_
        refine q_move rfl rfl ?_
        refine q_nilCheck rfl rfl ?_
        refine q_field rfl rfl ?_
        refine q_load rfl (Blk.cell (hS.blk 0 rfl) rfl) rfl ?_
        refine q_loadAgg rfl (Blk.cellsAt (hS.blk 3 rfl) 0 2 rfl) rfl rfl ?_
        refine q_move rfl rfl ?_
        obtain ⟨R339, hS, hm339, f339⟩ := hS.freezeOwn 4 rfl; simp only [List.eraseIdx] at hS
        replace f325 := f325.mono fun k hk _ => hm339 k hk
        replace hS := hS.mapMono 2 rfl; simp only [List.set] at hS
        obtain ⟨x340, hx340, h⟩ := Option.of_bind h
        refine q_mapUpdate (k := (⟨a1.proc, a1.index⟩ : Pt)) (xx := x336) 2 hS rfl rfl rfl rfl (VR.ofSlice f339) rfl rfl fun w338 hO338 hM338 => ?_
        rw [Option.some.inj hx340] at hM338
        have hk338 := hS.keptF 2 rfl (StepF.of_only hO338 rfl)
        replace f339 := f339.kept hk338
        replace f325 := f325.kept hk338
        replace hS := hM338; simp only [List.set] at hS
        refine eseq_nil ?_
        refine hK337 _ _ ?_
        refine e_seq fun K341 hK341 => ?_
        refine e_region_text rfl ?_
        refine q_move rfl rfl ?_
        refine q_assign rfl rfl ?_
        refine eseq_nil ?_
        refine hK341 _ _ ?_
        refine e_ret ?_
        obtain rfl := Option.some.inj h
        exact ⟨_, res1 rfl rfl, v331, _, rfl, (hS.pickB [0, 1, 2] 4 rfl rfl), f339⟩
      refine e_seq fun K342 hK342 => ?_
      refine e_region_text rfl ?_
      refine q_field rfl rfl ?_
      refine q_load rfl (Blk.cell (hS.blk 1 rfl) rfl) rfl ?_
      refine q_gtr rfl rfl rfl ?_
      refine eseq_nil ?_
      refine hK342 _ _ ?_
      refine e_cond rfl (fun hc343 => ?_) (fun hc343 => ?_)
      · replace h := (if_pos hc343).symm.trans h
        refine e_seq fun K344 hK344 => ?_
        refine e_region_text rfl ?_
        refine q_move rfl rfl ?_
        refine q_move rfl rfl ?_
        refine q_field rfl rfl ?_
        refine q_load rfl (Blk.cell (hS.blk 1 rfl) rfl) rfl ?_
        refine q_field rfl rfl ?_
        refine q_load rfl (Blk.cell (hS.blk 1 rfl) rfl) rfl ?_
        refine q_subW rfl rfl rfl ?_
        refine q_build (Parts.cons rfl rfl (Parts.cons rfl rfl Parts.nil)) rfl rfl ?_
        obtain ⟨r346, hr346, h⟩ := Option.of_bind h
        replace hS := hS.pickB [2, 3, 4, 0, 1] 5 rfl rfl; simp only [List.map_cons, List.map_nil, List.getD_cons_zero, List.getD_cons_succ] at hS
        refine q_call rfl (ih (a1 := (⟨a1.proc, w64 (a1.index - 1)⟩ : Pt)) (Sep.enter (As := [_, _, _]) hS) f2 hr346) rfl ?_
        rintro v347 w345 ⟨_, R345, rfl, hC345, f347⟩
        refine ⟨(fun h => by cases h), ?_⟩
        have hk345 := hC345.keptR (Sep.offFeet (As := [_, _, _]) hS)
        replace f2 := (f2.kept hk345).mono fun k hk _ => hC345.ro0 k hk
        replace hS := Sep.leave (As := [_, _, _]) hS hC345; simp only [List.cons_append, List.nil_append] at hS
        obtain ⟨x349, hx349, h⟩ := Option.of_bind h
        refine q_copyO (T := Ty.int) rfl (hS.own 3 rfl) rfl f347 Enc.any rfl rfl fun w348 ho348 hst348 => ?_
        rw [copyM_eq hx349] at ho348
        have hk348 := hS.keptF 3 rfl hst348
        replace f2 := f2.kept hk348
        replace f347 := f347.kept hk348
        replace hS := hS.set 3 rfl hst348 (c' := HP.own _ _ _ _ _) ho348 (fun k hk => .inl hk) (fun k hk => hS.depR 3 rfl k hk); simp only [List.set] at hS
        refine eseq_nil ?_
        refine hK344 _ _ ?_
        refine e_seq fun K350 hK350 => ?_
        have hJt372 : ∀ (x352 : Pt) (B371 : Nat) (R364 : Nat → Prop) (w365 : World) (E_ : Env), causal_history_clock_J2 fuel rec_ r346 a1 x352 c0_0 x349 = some r → Sep F R R364 w w365 [HP.blk B0 [v2, .map (some B3), .map (some B4)] 170, HP.map Pt.key_ ptTy true (fun _ => False) B3 r346.2.1, HP.map Pt.key_ (Ty.slice Ty.int) false R364 B4 r346.2.2, HP.blk bl262 [.int .i64 a1.proc, .int .i64 a1.index] 127, HP.own Ty.int (fun _ => False) 3 v273 x349, HP.blk B371 [.int .i64 x352.proc, .int .i64 x352.index] 127] → IsSlice Ty.int w365 R364 v2 c0_0 → Sub [(0, .pointer (some ⟨B0, 0, none⟩)), (3, .pointer (some ⟨bl262, 0, none⟩)), (7, v273), (8, .pointer (some ⟨B371, 0, none⟩)), (9, .bool ((mget r346.2.1 (⟨a1.proc, a1.index⟩ : Pt)).isSome))] E_ → K350 E_ w365 := by
          intro x352 B371 R364 w365 E_ h hS f366 hsub
          refine hK350 _ _ (e_sub hsub ?_); clear hsub
          unfold causal_history_clock_J2 at h
          refine e_seq fun K373 hK373 => ?_
          refine e_region_text rfl ?_
          refine q_move rfl rfl ?_
          refine eseq_nil ?_
          refine hK373 _ _ ?_
          refine e_cond rfl (fun hc374 => ?_) (fun hc374 => ?_)
          · replace h := (if_pos hc374).symm.trans h
            refine e_region_text rfl ?_
            refine q_move rfl rfl ?_
            refine q_move rfl rfl ?_
            refine q_loadAgg rfl (Blk.cellsAt (hS.blk 5 rfl) 0 2 rfl) rfl rfl ?_
            obtain ⟨r376, hr376, h⟩ := Option.of_bind h
            refine q_call rfl (ih (a1 := (⟨x352.proc, x352.index⟩ : Pt)) (Sep.enter (As := [_, _, _]) hS) f366 hr376) rfl ?_
            rintro v377 w375 ⟨_, R375, rfl, hC375, f377⟩
            refine ⟨(fun h => by cases h), ?_⟩
            have hk375 := hC375.keptR (Sep.offFeet (As := [_, _, _]) hS)
            replace f366 := (f366.kept hk375).mono fun k hk _ => hC375.ro0 k hk
            replace hS := Sep.leave (As := [_, _, _]) hS hC375; simp only [List.cons_append, List.nil_append] at hS
            obtain ⟨r379, hr379, h⟩ := Option.of_bind h
            replace hS := hS.pickB [4, 0, 1, 2, 3, 5] 6 rfl rfl; simp only [List.map_cons, List.map_nil, List.getD_cons_zero, List.getD_cons_succ] at hS
            refine q_call rfl (causal_raise_w (Sep.enter (As := [_]) hS) f377 hr379) rfl ?_
            rintro _ w378 ⟨R378, rfl, hC378⟩
            refine ⟨(fun h => by cases h), ?_⟩
            have hk378 := hC378.keptR (Sep.offFeet (As := [_]) hS)
            replace f366 := (f366.kept hk378).mono fun k hk _ => hC378.ro0 k hk
            replace f377 := (f377.kept hk378).mono fun k hk _ => hC378.ro0 k hk
            replace hS := Sep.leave (As := [_]) hS hC378; simp only [List.cons_append, List.nil_append] at hS
            refine eseq_nil ?_
            replace hS := hS.mapMono 3 rfl; simp only [List.set] at hS
            exact hJ275 r376.2.1 r376.2.2 r379 v273 _ _ _ h (hS.pickB [1, 2, 3, 4, 0] 6 rfl rfl) f366 (Sub.cons rfl (Sub.cons rfl (Sub.cons rfl (Sub.nil _))))
          · replace h := (if_neg (not_true hc374)).symm.trans h
            refine e_skip ?_
            exact hJ275 r346.2.1 r346.2.2 x349 v273 _ _ _ h (hS.pickB [0, 1, 2, 3, 4] 6 rfl rfl) f366 (Sub.cons rfl (Sub.cons rfl (Sub.cons rfl (Sub.nil _))))
        obtain ⟨x352, hx352, h⟩ := Option.of_bind h
        refine e_region_T mixed (fun _ => False) [0, 1, 3, 7, 0, 31, 63, 127, 127, 0, 767, 2047] [9] (QT.op 0 (QT.op 1 (QT.op 2 (QT.op 3 (QT.op 4 (QT.alt (QT.op 5 (QT.op 6 (QT.op 7 (QT.op 8 (QT.op 9 (QT.op 10 (QT.op 11 QT.fin))))))) (QT.op 9 (QT.op 5 (QT.op 6 (QT.op 7 (QT.op 8 (QT.op 10 (QT.op 11 QT.fin))))))))))))) (by kernel_rfl) ?_
        refine t_op ?_
        refine q_move rfl rfl ?_
        refine eseq_nil ?_
        refine t_op ?_
        refine q_nilCheck rfl rfl ?_
        refine eseq_nil ?_
        refine t_op ?_
        refine q_field rfl rfl ?_
        refine eseq_nil ?_
        refine t_op ?_
        refine q_load rfl (Blk.cell (hS.blk 0 rfl) rfl) rfl ?_
        refine eseq_nil ?_
        refine t_op ?_
        refine q_loadAgg rfl (Blk.cellsAt (hS.blk 4 rfl) 0 2 rfl) rfl rfl ?_
        refine eseq_nil ?_
        refine t_alt ?_ ?_
        · skip
          refine t_op ?_
          refine q_lookup2 (zv := .agg #[.int .i64 0, .int .i64 0]) (zx := (⟨(0 : Int), (0 : Int)⟩ : Pt)) (k := (⟨a1.proc, a1.index⟩ : Pt)) 1 hS rfl (fun _ _ => VR.ofEnc rfl) rfl rfl rfl fun v381 hv381 => ?_
          rw [Option.some.inj hx352] at hv381
          obtain rfl : v381 = .agg #[.int .i64 x352.proc, .int .i64 x352.index] := hv381.enc
          refine eseq_nil ?_
          refine t_op ?_
          refine q_move rfl rfl ?_
          refine eseq_nil ?_
          refine t_op ?_
          refine q_extract rfl rfl rfl ?_
          refine eseq_nil ?_
          refine t_op ?_
          refine q_extract rfl rfl rfl ?_
          refine eseq_nil ?_
          refine t_op ?_
          refine q_allocB rfl fun w382 bl382 hg382 hb382 hB382 => ?_
          replace f2 := f2.ext hB382
          replace hS := hS.newBlk hB382 hg382 hb382
          refine eseq_nil ?_
          refine t_op ?_
          refine q_storeAgg rfl rfl (hS.blk 0 rfl) rfl (Nat.le_of_ble_eq_true rfl) (all_cons rfl (all_cons rfl (all_nil))) rfl rfl fun w384 hb384 hO384 => ?_
          simp only [setN, List.set, List.take, List.drop] at hb384
          have hk384 := hS.keptBlk 0 rfl hO384
          replace f2 := f2.kept hk384
          replace hS := hS.setBlk 0 rfl hb384 hO384; simp only [List.set] at hS
          refine eseq_nil ?_
          refine t_op ?_
          refine q_assign rfl rfl ?_
          refine eseq_nil ?_
          refine t_fin ?_
          exact hJt372 x352 bl382 _ _ _ h (hS.pickB [1, 2, 3, 5, 4, 0] 6 rfl rfl) f2 (Sub.cons rfl (Sub.cons rfl (Sub.cons rfl (Sub.cons rfl (Sub.cons rfl (Sub.nil _))))))
        · skip
          refine t_op ?_
          refine q_allocB rfl fun w385 bl385 hg385 hb385 hB385 => ?_
          replace f2 := f2.ext hB385
          replace hS := hS.newBlk hB385 hg385 hb385
          refine eseq_nil ?_
          refine t_op ?_
          refine q_lookup2 (zv := .agg #[.int .i64 0, .int .i64 0]) (zx := (⟨(0 : Int), (0 : Int)⟩ : Pt)) (k := (⟨a1.proc, a1.index⟩ : Pt)) 2 hS rfl (fun _ _ => VR.ofEnc rfl) rfl rfl rfl fun v387 hv387 => ?_
          rw [Option.some.inj hx352] at hv387
          obtain rfl : v387 = .agg #[.int .i64 x352.proc, .int .i64 x352.index] := hv387.enc
          refine eseq_nil ?_
          refine t_op ?_
          refine q_move rfl rfl ?_
          refine eseq_nil ?_
          refine t_op ?_
          refine q_extract rfl rfl rfl ?_
          refine eseq_nil ?_
          refine t_op ?_
          refine q_extract rfl rfl rfl ?_
          refine eseq_nil ?_
          refine t_op ?_
          refine q_storeAgg rfl rfl (hS.blk 0 rfl) rfl (Nat.le_of_ble_eq_true rfl) (all_cons rfl (all_cons rfl (all_nil))) rfl rfl fun w388 hb388 hO388 => ?_
          simp only [setN, List.set, List.take, List.drop] at hb388
          have hk388 := hS.keptBlk 0 rfl hO388
          replace f2 := f2.kept hk388
          replace hS := hS.setBlk 0 rfl hb388 hO388; simp only [List.set] at hS
          refine eseq_nil ?_
          refine t_op ?_
          refine q_assign rfl rfl ?_
          refine eseq_nil ?_
          refine t_fin ?_
          exact hJt372 x352 bl385 _ _ _ h (hS.pickB [1, 2, 3, 5, 4, 0] 6 rfl rfl) f2 (Sub.cons rfl (Sub.cons rfl (Sub.cons rfl (Sub.cons rfl (Sub.cons rfl (Sub.nil _))))))
      · replace h := (if_neg (not_true hc343)).symm.trans h
        refine e_skip ?_
        exact hJ275 c0_1 c0_2 x272 v273 _ _ _ h (hS.pickB [2, 3, 4, 1, 0] 5 rfl rfl) f2 (Sub.cons rfl (Sub.cons rfl (Sub.cons rfl (Sub.nil _))))
theorem causal_history_clock_w {F R : Nat → Prop} {w : World} {fuel : Nat} {a1 : Pt} {c0_0 : (List Int)} {c0_1 : (List (Pt × Pt))} {c0_2 : (List (Pt × (List Int)))} {B0 : Nat} {v2 : Value} {B3 : Nat} {B4 : Nat} {r : ((List Int) × (List (Pt × Pt)) × (List (Pt × (List Int))))} (hS : Sep F R R w w [HP.blk B0 [v2, .map (some B3), .map (some B4)] 170, HP.map Pt.key_ ptTy true (fun _ => False) B3 c0_1, HP.map Pt.key_ (Ty.slice Ty.int) false R B4 c0_2]) (f2 : IsSlice Ty.int w R v2 c0_0) (h : causal_history_clock fuel a1 c0_0 c0_1 c0_2 = some r) :
    Gives Try.prog 70 [.pointer (some ⟨B0, 0, none⟩), .agg #[.int .i64 a1.proc, .int .i64 a1.index]] w fun u w1 => ∃ (v260 : Value), ∃ (R1 : Nat → Prop), u = v260 ∧ Sep F R R1 w w1 [HP.blk B0 [v2, .map (some B3), .map (some B4)] 170, HP.map Pt.key_ ptTy true (fun _ => False) B3 r.2.1, HP.map Pt.key_ (Ty.slice Ty.int) false R1 B4 r.2.2] ∧ IsSlice Ty.int w1 R1 v260 r.1 :=
  causal_history_clock_d fuel hS f2 h
theorem causal_Clock_w {F R : Nat → Prop} {w : World} {fuel : Nat} {a0 : Pat} {a1 : Int} {a2 : Int} {v1 : Value} {v2 : Value} {v3 : Value} {r : ((List Int))} (hS : Sep F R R w w []) (f1 : IsSlice Ty.int w R v1 a0.lens) (f2 : IsSlice (Ty.slice Ty.int) w R v2 a0.ckpts) (f3 : IsSlice arcTy w R v3 a0.arcs) (h : causal_Clock fuel a0 a1 a2 = some r) :
    Gives Try.prog 33 [.agg #[v1, v2, v3], .int .i64 a1, .int .i64 a2] w fun u w1 => ∃ (v38 : Value), ∃ (R1 : Nat → Prop), u = v38 ∧ Sep F R R1 w w1 [] ∧ IsSlice Ty.int w1 R1 v38 r := by
  refine fn_of Try.func33 rfl Try.ntmps33 (Nat.le_of_ble_eq_true rfl) ?_
  unfold causal_Clock at h
  refine e_seq fun K39 hK39 => ?_
  refine e_region_text rfl ?_
  refine q_boxB rfl rfl rfl fun w40 bl40 hg40 hb40 hB40 => ?_
  replace f1 := f1.ext hB40
  replace f2 := f2.ext hB40
  replace f3 := f3.ext hB40
  replace hS := hS.newBlk hB40 hg40 hb40
  refine q_assign rfl rfl ?_
  refine eseq_nil ?_
  refine hK39 _ _ ?_
  refine e_seq fun K42 hK42 => ?_
  refine e_region_text rfl ?_
  refine q_move rfl rfl ?_
  refine q_move rfl rfl ?_
  refine q_build (Parts.cons rfl rfl (Parts.cons rfl rfl Parts.nil)) rfl rfl ?_
  refine q_allocB rfl fun w43 bl43 hg43 hb43 hB43 => ?_
  replace f1 := f1.ext hB43
  replace f2 := f2.ext hB43
  replace f3 := f3.ext hB43
  replace hS := hS.newBlk hB43 hg43 hb43
  refine q_storeAgg rfl rfl (hS.blk 0 rfl) rfl (Nat.le_of_ble_eq_true rfl) (all_cons rfl (all_cons rfl (all_nil))) rfl rfl fun w45 hb45 hO45 => ?_
  simp only [setN, List.set, List.take, List.drop] at hb45
  have hk45 := hS.keptBlk 0 rfl hO45
  replace f1 := f1.kept hk45
  replace f2 := f2.kept hk45
  replace f3 := f3.kept hk45
  replace hS := hS.setBlk 0 rfl hb45 hO45; simp only [List.set] at hS
  refine eseq_nil ?_
  refine hK42 _ _ ?_
  refine e_seq fun K46 hK46 => ?_
  refine e_seq fun K47 hK47 => ?_
  refine e_region_text rfl ?_
  refine q_loadAgg rfl (Blk.cellsAt (hS.blk 1 rfl) 0 3 rfl) rfl rfl ?_
  refine q_loadAgg rfl (Blk.cellsAt (hS.blk 0 rfl) 0 2 rfl) rfl rfl ?_
  refine q_litO (T := ptTy) (S := (fun _ => False)) (cells := [[.int .i64 a1, .int .i64 a2]]) (ys := [(⟨a1, a2⟩ : Pt)]) ((Parts.cons rfl rfl Parts.nil)) rfl rfl rfl rfl rfl rfl rfl (fun w1 hB => ⟨⟨[_], _, rfl, rfl, rfl⟩, trivial⟩) (fun _ h => h.elim) rfl fun w48 v48 ho48 hv48 hB48 => ?_
  replace f1 := f1.ext hB48
  replace f2 := f2.ext hB48
  replace f3 := f3.ext hB48
  replace hS := hS.newOwnS hB48 ho48 hv48 (fun _ h => h.elim)
  obtain ⟨r51, hr51, h⟩ := Option.of_bind h
  refine q_call rfl (causal_fits_w (a0 := (⟨a0.lens, a0.ckpts, a0.arcs⟩ : Pat)) (Sep.all w48) (f1).old (f2).old (f3).old ((hS.isl 0 rfl)).old hr51) rfl ?_
  rintro _ w50 ⟨R50, rfl, hC50⟩
  have hB50 : Below (World.heap w48).size w48 w50 := hC50.stepBF
  refine ⟨fun _ => .of_below hB50, ?_⟩
  replace f1 := f1.ext hB50
  replace f2 := f2.ext hB50
  replace f3 := f3.ext hB50
  replace hS := hS.below hB50
  refine q_not rfl rfl ?_
  refine eseq_nil ?_
  refine hK47 _ _ ?_
  refine e_cond rfl (fun hc52 => ?_) (fun hc52 => ?_)
  · replace h := (if_pos hc52).symm.trans h
    refine e_seq fun K53 hK53 => ?_
    refine e_region_text rfl ?_
    refine q_assign rfl rfl ?_
    refine eseq_nil ?_
    refine hK53 _ _ ?_
    refine e_ret ?_
    obtain rfl := Option.some.inj h
    exact ⟨_, res1 rfl rfl, (.slice none 0 0), _, rfl, (hS.pickB [] 3 rfl rfl), (IsSlice.nil _ _ _)⟩
  · replace h := (if_neg (not_true hc52)).symm.trans h
    refine e_skip ?_
    refine hK46 _ _ ?_
    refine e_seq fun K54 hK54 => ?_
    refine e_region_draw mixed (fun _ => False) [0, 1, 0, 7, 15] [1] [0, 2, 1, 3, 4] (by kernel_rfl) ?_
    refine q_loadAgg rfl (Blk.cellsAt (hS.blk 2 rfl) 0 3 rfl) rfl rfl ?_
    refine q_loadAgg rfl (Blk.cellsAt (hS.blk 1 rfl) 0 2 rfl) rfl rfl ?_
    obtain ⟨r66, hr66, h⟩ := Option.of_bind h
    refine q_call rfl (causal_newHistory_w (a0 := (⟨a0.lens, a0.ckpts, a0.arcs⟩ : Pat)) (Sep.enter (As := []) hS) f1 f2 f3 hr66) rfl ?_
    rintro _ w65 ⟨B67, v68, B69, B70, R65, rfl, hC65, f68⟩
    have hB65 : Below (World.heap w50).size w50 w65 := hC65.stepB0
    refine ⟨fun _ => .of_below hB65, ?_⟩
    replace f1 := (f1.ext hB65).mono fun k hk _ => hC65.ro0 k hk
    replace f2 := (f2.ext hB65).mono fun k hk _ => hC65.ro0 k hk
    replace f3 := (f3.ext hB65).mono fun k hk _ => hC65.ro0 k hk
    replace hS := Sep.leave (As := []) hS hC65; simp only [List.cons_append, List.nil_append] at hS
    obtain ⟨r72, hr72, h⟩ := Option.of_bind h
    refine q_call rfl (causal_history_clock_w (a1 := (⟨a1, a2⟩ : Pt)) (Sep.enter (As := [_, _, _]) hS) f68 hr72) rfl ?_
    rintro v73 w71 ⟨_, R71, rfl, hC71, f73⟩
    refine ⟨(fun h => by cases h), ?_⟩
    have hk71 := hC71.keptR (Sep.offFeet (As := [_, _, _]) hS)
    replace f68 := (f68.kept hk71).mono fun k hk _ => hC71.ro0 k hk
    replace hS := Sep.leave (As := [_, _, _]) hS hC71; simp only [List.cons_append, List.nil_append] at hS
    refine q_assign rfl rfl ?_
    refine eseq_nil ?_
    refine hK54 _ _ ?_
    refine e_ret ?_
    obtain rfl := Option.some.inj h
    exact ⟨_, res1 rfl rfl, v73, _, rfl, (hS.pickB [] 6 rfl rfl), f73⟩
end Go.Proofs.Ytbmjcbhappjnaaa
