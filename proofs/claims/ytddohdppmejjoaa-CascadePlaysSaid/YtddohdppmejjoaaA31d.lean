/- Printed walks: A31d. -/
import Derived.Test.YtddohdppmejjoaaA31c
set_option linter.unusedVariables false
set_option linter.unusedSimpArgs false
namespace Go.Mine
open Go.RowKit
theorem cmpI_lt (x y : Int) : (cmpI x y < 0) = (x < y) := by unfold cmpI; apply propext; split <;> (try split) <;> constructor <;> intro <;> omega
theorem cmpI_eq (x y : Int) : (cmpI x y = 0) = (x = y) := by unfold cmpI; apply propext; split <;> (try split) <;> constructor <;> intro <;> omega
theorem sortE_lt (x y : EndI) : Go.Proofs.ltOf sortE_cf x y = decide (x.proc < y.proc ∨ x.proc = y.proc ∧ (y.inc < x.inc ∨ y.inc = x.inc ∧ x.index < y.index)) := by
  unfold Go.Proofs.ltOf sortE_cf
  have h1 := cmpI_lt x.proc y.proc; have h2 := cmpI_eq x.proc y.proc; have h3 := cmpI_lt y.inc x.inc; have h4 := cmpI_eq y.inc x.inc; have h5 := cmpI_lt x.index y.index
  congr 1
  split
  · rw [h1]; rename_i h; rw [ne_eq, h2] at h; apply propext; omega
  · rename_i h; simp only [ne_eq, Decidable.not_not] at h; rw [h2] at h
    split
    · rename_i h'; rw [ne_eq, h4] at h'; rw [h3]; apply propext; omega
    · rename_i h'; simp only [ne_eq, Decidable.not_not] at h'; rw [h4] at h'; rw [h5]; apply propext; omega
theorem sortF_lt (x y : EndI) : Go.Proofs.ltOf sortF_cf x y = decide (x.proc < y.proc ∨ x.proc = y.proc ∧ x.inc < y.inc) := by
  unfold Go.Proofs.ltOf sortF_cf
  have h1 := cmpI_lt x.proc y.proc; have h2 := cmpI_eq x.proc y.proc; have h3 := cmpI_lt x.inc y.inc
  congr 1
  split
  · rw [h1]; rename_i h; rw [ne_eq, h2] at h; apply propext; omega
  · rename_i h; simp only [ne_eq, Decidable.not_not] at h; rw [h2] at h; rw [h3]; apply propext; omega
theorem sortE_swo : Go.Sort.SWO (Go.Proofs.ltOf sortE_cf) where
  irrefl x := by rw [sortE_lt]; simp
  trans x y z h1 h2 := by rw [sortE_lt] at *; simp only [decide_eq_true_eq] at *; omega
  ntrans x y z h1 h2 := by rw [sortE_lt] at *; simp only [decide_eq_false_iff_not] at *; omega
theorem sortF_swo : Go.Sort.SWO (Go.Proofs.ltOf sortF_cf) where
  irrefl x := by rw [sortF_lt]; simp
  trans x y z h1 h2 := by rw [sortF_lt] at *; simp only [decide_eq_true_eq] at *; omega
  ntrans x y z h1 h2 := by rw [sortF_lt] at *; simp only [decide_eq_false_iff_not] at *; omega
def sortE (fuel : Nat) (c0_0 : List EndI) : Option (List EndI) := if c0_0.length < 4611686018427387904 then some (sortL sortE_cf c0_0) else none
def sortF (fuel : Nat) (c0_0 : List EndI) : Option (List EndI) := if c0_0.length < 4611686018427387904 then some (sortL sortF_cf c0_0) else none
def GrowE (fuel : Nat) (a1 : Int) : Option (List EndI) := if 0 ≤ a1 ∧ a1 ≤ 100000000000 then some [] else none
def ConcatE_K2 (fuel : Nat) (x245 : (List EndI)) : Option ((List EndI)) :=
  some x245
def ConcatE_B1 (fuel : Nat) (a0 : (List (List EndI))) (x221 : (List EndI)) (x223 : Int) : Option (((List EndI) × Int) ⊕ ((List EndI))) :=
  (if (decide (x223 < (a0.length : Int))) = true then (ati a0 x223).bind fun x252 => (catL x221 x252).bind fun x256 => some (Sum.inl (x256, (w64 (x223 + 1)))) else some (Sum.inr x221))
def ConcatE_K1 (fuel : Nat) (a0 : (List (List EndI))) (x188 : Int) : Option ((List EndI)) :=
  (GrowE fuel x188).bind fun r191 => (iter (fun s => ConcatE_B1 fuel a0 s.1 s.2) fuel (r191, 0)).bind (fun t => ConcatE_K2 fuel t)
def ConcatE_B2 (fuel : Nat) (a0 : (List (List EndI))) (x165 : Int) (x167 : Int) : Option ((Int × Int) ⊕ (Int)) :=
  (if (decide (x167 < (a0.length : Int))) = true then (ati a0 x167).bind fun x262 => (if (decide ((w64 (x165 + (x262.length : Int))) < 0)) = true then none else some (Sum.inl ((w64 (x165 + (x262.length : Int))), (w64 (x167 + 1))))) else some (Sum.inr x165))
def ConcatE (fuel : Nat) (a0 : (List (List EndI))) : Option ((List EndI)) :=
  (iter (fun s => ConcatE_B2 fuel a0 s.1 s.2) fuel (0, 0)).bind (fun t => ConcatE_K1 fuel a0 t)
def incarnation_reduced_K1 (fuel : Nat) (r233 : (List EndI)) (x389 : (List EndI)) : Option ((List EndI) × (List EndI)) :=
  (sortF fuel x389).bind fun r392 => some (r392, r233)
def incarnation_reduced_J1 (fuel : Nat) (x314 : (List EndI)) (x401 : EndI) (x315 : Int) : Option (((List EndI) × Int) ⊕ ((List EndI))) :=
  (snoc x314 (⟨x401.proc, x401.inc, x401.index⟩ : EndI)).bind fun x434 => some (Sum.inl (x434, (w64 (x315 + 1))))
def incarnation_reduced_B1 (fuel : Nat) (r233 : (List EndI)) (x314 : (List EndI)) (x315 : Int) : Option (((List EndI) × Int) ⊕ ((List EndI))) :=
  (if (decide (x315 < (r233.length : Int))) = true then (ati r233 x315).bind fun x401 => (if (decide (0 < (x314.length : Int))) = true then (ati x314 (w64 ((x314.length : Int) - 1))).bind fun x439 => (orM ((x401.proc == x439.proc) && ((x401.inc == x439.inc) && ((x401.index == x439.index) && true))) ((andM (x439.proc == x401.proc) (some (decide (x439.index ≤ x401.index)))).bind fun x453 => some x453)).bind fun x451 => (if x451 = true then some (Sum.inl (x314, (w64 (x315 + 1)))) else incarnation_reduced_J1 fuel x314 x401 x315) else incarnation_reduced_J1 fuel x314 x401 x315) else some (Sum.inr x314))
def incarnation_reduced (fuel : Nat) (c0_0 : (List EndI)) : Option ((List EndI) × (List EndI)) :=
  (sortE fuel c0_0).bind fun r233 => (iter (fun s => incarnation_reduced_B1 fuel r233 s.1 s.2) fuel (([] : List EndI), 0)).bind (fun t => incarnation_reduced_K1 fuel r233 t)
def incarnation_Add (fuel : Nat) (a0 : (List EndI)) (a1 : EndI) : Option ((List EndI)) :=
  (ConcatE fuel ([a0, [(⟨a1.proc, a1.inc, a1.index⟩ : EndI)]])).bind fun r29 => (incarnation_reduced fuel r29).bind fun r32 => some r32.1
end Go.Mine
namespace Go.Proofs.Ytddohdppmejjoaa
open Go.RowKit Go.Mine
attribute [local irreducible] eseq ewp iter
theorem sortE_w {F R : Nat → Prop} {w : World} {fuel : Nat} {c0_0 : List EndI} {v1 : Value} {r : List EndI} (hS : Sep F R R w w [HP.own endITy (fun _ => False) 41 v1 c0_0]) (h : sortE fuel c0_0 = some r) :
    Gives Try.prog 71 [v1, .func (.func 72) #[] #[]] w fun u w1 => ∃ (R1 : Nat → Prop), u = .tuple #[] ∧ Sep F R R1 w w1 [HP.own endITy (fun _ => False) 41 v1 r] := by
  unfold sortE at h
  split at h
  · rename_i hn
    cases h
    exact sortOwn Try.sort71 (T := endITy) (enc := EndI.cells_) Try.isAgg41 Try.sizeOf41 (fun _ => rfl) (fun x v hv => by unfold EndI.cells_ at hv; simp at hv; rcases hv with rfl | rfl | rfl <;> rfl) sortE_swo (enters_of Try.func72 (by kernel_rfl) rfl) sortE_cmp hS hn
  · cases h
theorem sortF_w {F R : Nat → Prop} {w : World} {fuel : Nat} {c0_0 : List EndI} {v1 : Value} {r : List EndI} (hS : Sep F R R w w [HP.own endITy (fun _ => False) 41 v1 c0_0]) (h : sortF fuel c0_0 = some r) :
    Gives Try.prog 71 [v1, .func (.func 75) #[] #[]] w fun u w1 => ∃ (R1 : Nat → Prop), u = .tuple #[] ∧ Sep F R R1 w w1 [HP.own endITy (fun _ => False) 41 v1 r] := by
  unfold sortF at h
  split at h
  · rename_i hn
    cases h
    exact sortOwn Try.sort71 (T := endITy) (enc := EndI.cells_) Try.isAgg41 Try.sizeOf41 (fun _ => rfl) (fun x v hv => by unfold EndI.cells_ at hv; simp at hv; rcases hv with rfl | rfl | rfl <;> rfl) sortF_swo (enters_of Try.func75 (by kernel_rfl) rfl) sortF_cmp hS hn
  · cases h
theorem GrowE_w {F R : Nat → Prop} {w : World} {fuel : Nat} {a1 : Int} {r : List EndI} (hS : Sep F R R w w []) (h : GrowE fuel a1 = some r) :
    Gives Try.prog 76 [.slice none 0 0, .int .i64 a1] w fun u w1 => ∃ (v2 : Value), ∃ (R1 : Nat → Prop), u = v2 ∧ Sep F R R1 w w1 [HP.own endITy (fun _ => False) 41 v2 r] := by
  unfold GrowE at h
  split at h
  · rename_i hn
    cases h
    exact growNil (ts := 46) Try.grow76 endITy (bytes := 24) (z := [.int .i64 0, .int .i64 0, .int .i64 0]) (TS := (inferInstance : TSlice Try.prog 46 41 3)) (TE := (inferInstance : TElem Try.prog 41 24 [.int .i64 0, .int .i64 0, .int .i64 0])) rfl (Nat.le_of_ble_eq_true rfl) (Nat.le_of_ble_eq_true rfl) hS hn.1 hn.2
  · cases h
theorem ConcatE_w {F R : Nat → Prop} {w : World} {fuel : Nat} {a0 : (List (List EndI))} {v1 : Value} {r : ((List EndI))} (hS : Sep F R R w w []) (f1 : IsSlice (Ty.slice endITy) w R v1 a0) (h : ConcatE fuel a0 = some r) :
    Gives Try.prog 68 [v1] w fun u w1 => ∃ (v135 : Value), ∃ (R1 : Nat → Prop), u = v135 ∧ Sep F R R1 w w1 [HP.own endITy (fun _ => False) 41 v135 r] := by
  refine fn_of Try.func68 rfl Try.ntmps68 (Nat.le_of_ble_eq_true rfl) ?_
  unfold ConcatE at h
  refine e_seq fun K136 hK136 => ?_
  refine e_region_text rfl ?_
  refine q_assign rfl rfl ?_
  refine eseq_nil ?_
  refine hK136 _ _ ?_
  refine e_seq fun K137 hK137 => ?_
  refine e_region_text rfl ?_
  refine q_assign rfl rfl ?_
  refine eseq_nil ?_
  refine hK137 _ _ ?_
  refine e_seq fun K138 hK138 => ?_
  refine e_seq fun K139 hK139 => ?_
  refine e_region_text rfl ?_
  refine q_move rfl rfl ?_
  refine q_lenS rfl f1 rfl ?_
  refine q_move rfl rfl ?_
  refine eseq_nil ?_
  refine hK139 _ _ ?_
  refine e_block ?_
  obtain ⟨tl140, ht140, h⟩ := Option.of_bind h
  have hX140_0 : ∀ (x188 : Int) (R185 : Nat → Prop) (w186 : World) (E_ : Env), ConcatE_K1 fuel a0 x188 = some r → Sep F R R185 w w186 [] → IsSlice (Ty.slice endITy) w186 R185 v1 a0 → Sub [(0, v1), (3, .int .i64 x188)] E_ → K138 E_ w186 := by
    intro x188 R185 w186 E_ h hS f187 hsub
    refine hK138 _ _ (e_sub hsub ?_); clear hsub
    unfold ConcatE_K1 at h
    refine e_seq fun K189 hK189 => ?_
    refine e_region_text rfl ?_
    refine q_move rfl rfl ?_
    obtain ⟨r191, hr191, h⟩ := Option.of_bind h
    refine q_call rfl (GrowE_w (Sep.enter (As := []) hS)  hr191) rfl ?_
    rintro v192 w190 ⟨_, R190, rfl, hC190⟩
    have hB190 : Below (World.heap w186).size w186 w190 := hC190.stepB0
    refine ⟨fun _ => .of_below hB190, ?_⟩
    replace f187 := (f187.ext hB190).mono fun k hk _ => hC190.ro0 k hk
    replace hS := Sep.leave (As := []) hS hC190; simp only [List.cons_append, List.nil_append] at hS
    refine q_assign rfl rfl ?_
    refine eseq_nil ?_
    refine hK189 _ _ ?_
    refine e_seq fun K193 hK193 => ?_
    refine e_seq fun K194 hK194 => ?_
    refine e_region_text rfl ?_
    refine q_move rfl rfl ?_
    refine q_lenS rfl f187 rfl ?_
    refine q_move rfl rfl ?_
    refine eseq_nil ?_
    refine hK194 _ _ ?_
    refine e_block ?_
    obtain ⟨tl195, ht195, h⟩ := Option.of_bind h
    have hX195_2 : ∀ (x245 : (List EndI)) (v244 : Value) (R241 : Nat → Prop) (w242 : World) (E_ : Env), ConcatE_K2 fuel x245 = some r → Sep F R R241 w w242 [HP.own endITy (fun _ => False) 41 v244 x245] → Sub [(6, v244)] E_ → K193 E_ w242 := by
      intro x245 v244 R241 w242 E_ h hS  hsub
      refine hK193 _ _ (e_sub hsub ?_); clear hsub
      unfold ConcatE_K2 at h
      refine e_seq fun K246 hK246 => ?_
      refine e_region_text rfl ?_
      refine q_move rfl rfl ?_
      refine q_assign rfl rfl ?_
      refine eseq_nil ?_
      refine hK246 _ _ ?_
      refine e_ret ?_
      obtain rfl := Option.some.inj h
      exact ⟨_, res1 rfl rfl, v244, _, rfl, hS⟩
    refine e_loop (fun m_ E_ w218 => ∃ (x221 : (List EndI)), ∃ (x223 : Int), ∃ (v220 : Value), ∃ (R217 : Nat → Prop), iter (fun s => ConcatE_B1 fuel a0 s.1 s.2) m_ (x221, x223) = some tl195 ∧ Sep F R R217 w w218 [HP.own endITy (fun _ => False) 41 v220 x221] ∧ IsSlice (Ty.slice endITy) w218 R217 v1 a0 ∧ E_ = [(6, v220), (25, v1), (26, .int .i64 (a0.length : Int)), (27, .int .i64 x223)]) _ ⟨_, ⟨r191, 0, v192, _, ht195, hS, f187, rfl⟩, Sub.cons rfl (Sub.cons rfl (Sub.cons rfl (Sub.cons rfl (Sub.nil _))))⟩ ?_
    clear ht195 hS
    rintro m195 _ w218 ⟨x221, x223, v220, R217, ht195, hS, f222, rfl⟩
    obtain ⟨m195, rfl, o195, ho195, ht195⟩ := iter_some ht195
    replace ho195 : ConcatE_B1 fuel a0 x221 x223 = some o195 := ho195
    unfold ConcatE_B1 at ho195
    refine e_seq fun K247 hK247 => ?_
    refine e_region_text rfl ?_
    refine q_lss rfl rfl rfl ?_
    refine eseq_nil ?_
    refine hK247 _ _ ?_
    refine e_seq fun K248 hK248 => ?_
    refine e_cond rfl (fun hc249 => ?_) (fun hc249 => ?_)
    · replace ho195 := (if_pos hc249).symm.trans ho195
      refine e_skip ?_
      refine hK248 _ _ ?_
      refine e_seq fun K250 hK250 => ?_
      refine e_block ?_
      refine e_seq fun K251 hK251 => ?_
      refine e_region_text rfl ?_
      obtain ⟨x252, hx252, ho195⟩ := Option.of_bind ho195
      refine q_atS (by infer_instance) rfl f222 rfl hx252 rfl fun b253 o253 hm253 f253 => ?_
      refine q_loadE rfl f253 rfl (fun v254 f254 => ?_)
      refine q_assign rfl rfl ?_
      refine eseq_nil ?_
      refine hK251 _ _ ?_
      refine e_region_text rfl ?_
      refine q_move rfl rfl ?_
      refine q_move rfl rfl ?_
      obtain ⟨x256, hx256, ho195⟩ := Option.of_bind ho195
      refine q_catE (T := endITy) rfl rfl rfl rfl (hS.own 0 rfl) rfl f254 hx256 (Nat.zero_le _) rfl (fun h => by cases h) fun v255 w255 hw255 hgr255 hnw255 => ?_
      have hk255 := hS.keptOwn 0 rfl hgr255
      replace f222 := f222.kept hk255
      replace f254 := f254.kept hk255
      replace hS := hS.setOwn 0 rfl hw255 hgr255 hnw255; simp only [List.set] at hS
      refine q_assign rfl rfl ?_
      refine eseq_nil ?_
      refine hK250 _ _ ?_
      refine e_region_text rfl ?_
      refine q_addW rfl rfl rfl ?_
      refine q_move rfl rfl ?_
      refine eseq_nil ?_
      obtain rfl := Option.some.inj ho195
      exact ⟨m195, _, Nat.lt_succ_self _, ⟨x256, (w64 (x223 + 1)), v255, _, ht195, hS, f222, rfl⟩, Sub.cons rfl (Sub.cons rfl (Sub.cons rfl (Sub.cons rfl (Sub.nil _))))⟩
    · replace ho195 := (if_neg (not_true hc249)).symm.trans ho195
      refine e_exit ?_
      obtain rfl := Option.some.inj ho195
      obtain rfl := Option.some.inj ht195
      exact hX195_2 x221 v220 _ _ _ h hS  (Sub.cons rfl (Sub.nil _))
  refine e_loop (fun m_ E_ w163 => ∃ (x165 : Int), ∃ (x167 : Int), ∃ (R162 : Nat → Prop), iter (fun s => ConcatE_B2 fuel a0 s.1 s.2) m_ (x165, x167) = some tl140 ∧ Sep F R R162 w w163 [] ∧ IsSlice (Ty.slice endITy) w163 R162 v1 a0 ∧ IsSlice (Ty.slice endITy) w163 R162 v1 a0 ∧ E_ = [(0, v1), (3, .int .i64 x165), (9, v1), (10, .int .i64 (a0.length : Int)), (11, .int .i64 x167)]) _ ⟨_, ⟨0, 0, _, ht140, hS, f1, f1, rfl⟩, Sub.cons rfl (Sub.cons rfl (Sub.cons rfl (Sub.cons rfl (Sub.cons rfl (Sub.nil _)))))⟩ ?_
  clear ht140 hS
  rintro m140 _ w163 ⟨x165, x167, R162, ht140, hS, f164, f166, rfl⟩
  obtain ⟨m140, rfl, o140, ho140, ht140⟩ := iter_some ht140
  replace ho140 : ConcatE_B2 fuel a0 x165 x167 = some o140 := ho140
  unfold ConcatE_B2 at ho140
  refine e_seq fun K257 hK257 => ?_
  refine e_region_text rfl ?_
  refine q_lss rfl rfl rfl ?_
  refine eseq_nil ?_
  refine hK257 _ _ ?_
  refine e_seq fun K258 hK258 => ?_
  refine e_cond rfl (fun hc259 => ?_) (fun hc259 => ?_)
  · replace ho140 := (if_pos hc259).symm.trans ho140
    refine e_skip ?_
    refine hK258 _ _ ?_
    refine e_seq fun K260 hK260 => ?_
    refine e_block ?_
    refine e_seq fun K261 hK261 => ?_
    refine e_region_text rfl ?_
    obtain ⟨x262, hx262, ho140⟩ := Option.of_bind ho140
    refine q_atS (by infer_instance) rfl f166 rfl hx262 rfl fun b263 o263 hm263 f263 => ?_
    refine q_loadE rfl f263 rfl (fun v264 f264 => ?_)
    refine q_assign rfl rfl ?_
    refine eseq_nil ?_
    refine hK261 _ _ ?_
    refine e_seq fun K265 hK265 => ?_
    refine e_region_text rfl ?_
    refine q_move rfl rfl ?_
    refine q_move rfl rfl ?_
    refine q_lenS rfl f264 rfl ?_
    refine q_addW rfl rfl rfl ?_
    refine q_assign rfl rfl ?_
    refine eseq_nil ?_
    refine hK265 _ _ ?_
    refine e_seq fun K266 hK266 => ?_
    refine e_region_text rfl ?_
    refine q_move rfl rfl ?_
    refine q_lss rfl rfl rfl ?_
    refine eseq_nil ?_
    refine hK266 _ _ ?_
    refine e_cond rfl (fun hc267 => ?_) (fun hc267 => ?_)
    · replace ho140 := (if_pos hc267).symm.trans ho140
      cases ho140
    · replace ho140 := (if_neg (not_true hc267)).symm.trans ho140
      refine e_skip ?_
      refine hK260 _ _ ?_
      refine e_region_text rfl ?_
      refine q_addW rfl rfl rfl ?_
      refine q_move rfl rfl ?_
      refine eseq_nil ?_
      obtain rfl := Option.some.inj ho140
      exact ⟨m140, _, Nat.lt_succ_self _, ⟨(w64 (x165 + (x262.length : Int))), (w64 (x167 + 1)), _, ht140, hS, f164, f166, rfl⟩, Sub.cons rfl (Sub.cons rfl (Sub.cons rfl (Sub.cons rfl (Sub.cons rfl (Sub.nil _)))))⟩
  · replace ho140 := (if_neg (not_true hc259)).symm.trans ho140
    refine e_exit ?_
    obtain rfl := Option.some.inj ho140
    obtain rfl := Option.some.inj ht140
    exact hX140_0 x165 _ _ _ h hS f164 (Sub.cons rfl (Sub.cons rfl (Sub.nil _)))
theorem incarnation_reduced_w {F R : Nat → Prop} {w : World} {fuel : Nat} {c0_0 : (List EndI)} {v1 : Value} {r : ((List EndI) × (List EndI))} (hS : Sep F R R w w [HP.own endITy (fun _ => False) 41 v1 c0_0]) (h : incarnation_reduced fuel c0_0 = some r) :
    Gives Try.prog 67 [v1] w fun u w1 => ∃ (v228 : Value), ∃ (R1 : Nat → Prop), u = v228 ∧ Sep F R R1 w w1 [HP.own endITy (fun _ => False) 41 v1 r.2, HP.own endITy (fun _ => False) 41 v228 r.1] := by
  refine fn_of Try.func67 rfl Try.ntmps67 (Nat.le_of_ble_eq_true rfl) ?_
  unfold incarnation_reduced at h
  refine e_seq fun K230 hK230 => ?_
  refine e_region_text rfl ?_
  refine q_assign rfl rfl ?_
  refine eseq_nil ?_
  refine hK230 _ _ ?_
  refine e_scope ?_
  refine e_seq fun K231 hK231 => ?_
  refine e_region_text rfl ?_
  refine q_move rfl rfl ?_
  obtain ⟨r233, hr233, h⟩ := Option.of_bind h
  refine q_call rfl (sortE_w (Sep.enter (As := [_]) hS)  hr233) rfl ?_
  rintro _ w232 ⟨R232, rfl, hC232⟩
  refine ⟨(fun h => by cases h), ?_⟩
  have hk232 := hC232.keptR (Sep.offFeet (As := [_]) hS)
  replace hS := Sep.leave (As := [_]) hS hC232; simp only [List.cons_append, List.nil_append] at hS
  refine eseq_nil ?_
  refine hK231 _ _ ?_
  refine e_seq fun K235 hK235 => ?_
  refine e_region_text rfl ?_
  refine q_assign rfl rfl ?_
  refine eseq_nil ?_
  refine hK235 _ _ ?_
  refine e_seq fun K236 hK236 => ?_
  refine e_label ?_
  refine hK236 _ _ ?_
  refine e_seq fun K237 hK237 => ?_
  refine e_seq fun K238 hK238 => ?_
  refine e_region_text rfl ?_
  refine q_move rfl rfl ?_
  refine q_lenS rfl (hS.isl 0 rfl) rfl ?_
  refine q_move rfl rfl ?_
  refine eseq_nil ?_
  refine hK238 _ _ ?_
  refine e_block ?_
  obtain ⟨tl239, ht239, h⟩ := Option.of_bind h
  have hX239_0 : ∀ (x389 : (List EndI)) (v388 : Value) (R385 : Nat → Prop) (w386 : World) (E_ : Env), incarnation_reduced_K1 fuel r233 x389 = some r → Sep F R R385 w w386 [HP.own endITy (fun _ => False) 41 v1 r233, HP.own endITy (fun _ => False) 41 v388 x389] → Sub [(3, v388)] E_ → K237 E_ w386 := by
    intro x389 v388 R385 w386 E_ h hS  hsub
    refine hK237 _ _ (e_sub hsub ?_); clear hsub
    unfold incarnation_reduced_K1 at h
    refine e_seq fun K390 hK390 => ?_
    refine e_region_text rfl ?_
    refine q_move rfl rfl ?_
    obtain ⟨r392, hr392, h⟩ := Option.of_bind h
    replace hS := hS.pickB [1, 0] 2 rfl rfl; simp only [List.map_cons, List.map_nil, List.getD_cons_zero, List.getD_cons_succ] at hS
    refine q_call rfl (sortF_w (Sep.enter (As := [_]) hS)  hr392) rfl ?_
    rintro _ w391 ⟨R391, rfl, hC391⟩
    refine ⟨(fun h => by cases h), ?_⟩
    have hk391 := hC391.keptR (Sep.offFeet (As := [_]) hS)
    replace hS := Sep.leave (As := [_]) hS hC391; simp only [List.cons_append, List.nil_append] at hS
    refine eseq_nil ?_
    refine hK390 _ _ ?_
    refine e_seq fun K394 hK394 => ?_
    refine e_region_text rfl ?_
    refine q_move rfl rfl ?_
    refine q_assign rfl rfl ?_
    refine eseq_nil ?_
    refine hK394 _ _ ?_
    refine e_ret ?_
    obtain rfl := Option.some.inj h
    exact ⟨_, res1 rfl rfl, v388, _, rfl, (hS.pickB [1, 0] 2 rfl rfl)⟩
  replace hS := hS.nilOwn0 endITy 41
  refine e_loop (fun m_ E_ w311 => ∃ (x314 : (List EndI)), ∃ (x315 : Int), ∃ (v313 : Value), ∃ (R310 : Nat → Prop), iter (fun s => incarnation_reduced_B1 fuel r233 s.1 s.2) m_ (x314, x315) = some tl239 ∧ Sep F R R310 w w311 [HP.own endITy (fun _ => False) 41 v1 r233, HP.own endITy (fun _ => False) 41 v313 x314] ∧ E_ = [(3, v313), (10, v1), (11, .int .i64 (r233.length : Int)), (12, .int .i64 x315)]) _ ⟨_, ⟨([] : List EndI), 0, (.slice none 0 0), _, ht239, (hS.pickB [1, 0] 2 rfl rfl), rfl⟩, Sub.cons rfl (Sub.cons rfl (Sub.cons rfl (Sub.cons rfl (Sub.nil _))))⟩ ?_
  clear ht239 hS
  rintro m239 _ w311 ⟨x314, x315, v313, R310, ht239, hS, rfl⟩
  obtain ⟨m239, rfl, o239, ho239, ht239⟩ := iter_some ht239
  replace ho239 : incarnation_reduced_B1 fuel r233 x314 x315 = some o239 := ho239
  unfold incarnation_reduced_B1 at ho239
  refine e_seq fun K396 hK396 => ?_
  refine e_region_text rfl ?_
  refine q_lss rfl rfl rfl ?_
  refine eseq_nil ?_
  refine hK396 _ _ ?_
  refine e_seq fun K397 hK397 => ?_
  refine e_cond rfl (fun hc398 => ?_) (fun hc398 => ?_)
  · replace ho239 := (if_pos hc398).symm.trans ho239
    refine e_skip ?_
    refine hK397 _ _ ?_
    refine e_seq fun K399 hK399 => ?_
    refine e_block ?_
    refine e_seq fun K400 hK400 => ?_
    refine e_region_text rfl ?_
    obtain ⟨x401, hx401, ho239⟩ := Option.of_bind ho239
    refine q_indexO (by infer_instance) rfl (hS.own 0 rfl) rfl hx401 rfl ?_
    have f402 := (hS.ownR 0 rfl).elt hx401
    have hc403 := EndI_open f402
    refine q_loadAgg rfl hc403 rfl rfl ?_
    refine q_allocB rfl fun w404 bl404 hg404 hb404 hB404 => ?_
    replace hS := hS.newBlk hB404 hg404 hb404
    refine q_storeAgg rfl rfl (hS.blk 0 rfl) rfl (Nat.le_of_ble_eq_true rfl) (all_cons rfl (all_cons rfl (all_cons rfl (all_nil)))) rfl rfl fun w406 hb406 hO406 => ?_
    simp only [setN, List.set, List.take, List.drop] at hb406
    have hk406 := hS.keptBlk 0 rfl hO406
    replace hS := hS.setBlk 0 rfl hb406 hO406; simp only [List.set] at hS
    refine eseq_nil ?_
    refine hK400 _ _ ?_
    refine e_seq fun K407 hK407 => ?_
    have hJ407 : ∀ (R428 : Nat → Prop) (w429 : World) (E_ : Env), incarnation_reduced_J1 fuel x314 x401 x315 = some o239 → Sep F R R428 w w429 [HP.own endITy (fun _ => False) 41 v1 r233, HP.own endITy (fun _ => False) 41 v313 x314, HP.blk bl404 [.int .i64 x401.proc, .int .i64 x401.inc, .int .i64 x401.index] 41] → Sub [(3, v313), (5, .pointer (some ⟨bl404, 0, none⟩)), (10, v1), (11, .int .i64 (r233.length : Int)), (12, .int .i64 x315)] E_ → K407 E_ w429 := by
      intro R428 w429 E_ ho239 hS  hsub
      refine hK407 _ _ (e_sub hsub ?_); clear hsub
      unfold incarnation_reduced_J1 at ho239
      refine e_region_text rfl ?_
      refine q_move rfl rfl ?_
      refine q_loadAgg rfl (Blk.cellsAt (hS.blk 2 rfl) 0 3 rfl) rfl rfl ?_
      refine q_litO (T := endITy) (S := (fun _ => False)) (cells := [[.int .i64 x401.proc, .int .i64 x401.inc, .int .i64 x401.index]]) (ys := [(⟨x401.proc, x401.inc, x401.index⟩ : EndI)]) ((Parts.cons rfl rfl Parts.nil)) rfl rfl rfl rfl rfl rfl rfl (fun w1 hB => ⟨⟨[_], _, rfl, rfl, ⟨[_], _, rfl, rfl, rfl⟩⟩, trivial⟩) (fun _ h => h.elim) rfl fun w431 v431 ho431 hv431 hB431 => ?_
      replace hS := hS.newOwnS hB431 ho431 hv431 (fun _ h => h.elim)
      obtain ⟨x434, hx434, ho239⟩ := Option.of_bind ho239
      refine q_catOwn (T := endITy) rfl rfl rfl rfl (hS.own 2 rfl) rfl (hS.own 0 rfl) (fun _ h _ => h.elim) (snoc_cat hx434) (Nat.zero_le _) rfl (fun h => by cases h) fun v433 w433 hw433 hgr433 hnw433 => ?_
      have hk433 := hS.keptOwn 2 rfl hgr433
      replace hS := hS.setOwn 2 rfl hw433 hgr433 hnw433; simp only [List.set] at hS
      refine q_assign rfl rfl ?_
      refine eseq_nil ?_
      refine hK399 _ _ ?_
      refine e_region_text rfl ?_
      refine q_addW rfl rfl rfl ?_
      refine q_move rfl rfl ?_
      refine eseq_nil ?_
      obtain rfl := Option.some.inj ho239
      exact ⟨m239, _, Nat.lt_succ_self _, ⟨x434, (w64 (x315 + 1)), v433, _, ht239, (hS.pickB [1, 2] 4 rfl rfl), rfl⟩, Sub.cons rfl (Sub.cons rfl (Sub.cons rfl (Sub.cons rfl (Sub.nil _))))⟩
    refine e_seq fun K435 hK435 => ?_
    refine e_region_text rfl ?_
    refine q_move rfl rfl ?_
    refine q_lenS rfl (hS.isl 2 rfl) rfl ?_
    refine q_assign rfl rfl ?_
    refine eseq_nil ?_
    refine hK435 _ _ ?_
    refine e_seq fun K436 hK436 => ?_
    refine e_region_text rfl ?_
    refine q_move rfl rfl ?_
    refine q_gtr rfl rfl rfl ?_
    refine eseq_nil ?_
    refine hK436 _ _ ?_
    refine e_cond rfl (fun hc437 => ?_) (fun hc437 => ?_)
    · replace ho239 := (if_pos hc437).symm.trans ho239
      refine e_seq fun K438 hK438 => ?_
      refine e_region_text rfl ?_
      refine q_move rfl rfl ?_
      refine q_move rfl rfl ?_
      refine q_subW rfl rfl rfl ?_
      obtain ⟨x439, hx439, ho239⟩ := Option.of_bind ho239
      refine q_indexO (by infer_instance) rfl (hS.own 2 rfl) rfl hx439 rfl ?_
      have f440 := (hS.ownR 2 rfl).elt hx439
      have hc441 := EndI_open f440
      refine q_loadAgg rfl hc441 rfl rfl ?_
      refine q_allocB rfl fun w442 bl442 hg442 hb442 hB442 => ?_
      replace hS := hS.newBlk hB442 hg442 hb442
      refine q_storeAgg rfl rfl (hS.blk 0 rfl) rfl (Nat.le_of_ble_eq_true rfl) (all_cons rfl (all_cons rfl (all_cons rfl (all_nil)))) rfl rfl fun w444 hb444 hO444 => ?_
      simp only [setN, List.set, List.take, List.drop] at hb444
      have hk444 := hS.keptBlk 0 rfl hO444
      replace hS := hS.setBlk 0 rfl hb444 hO444; simp only [List.set] at hS
      refine eseq_nil ?_
      refine hK438 _ _ ?_
      refine e_seq fun K445 hK445 => ?_
      refine e_region_text rfl ?_
      refine q_loadAgg rfl (Blk.cellsAt (hS.blk 1 rfl) 0 3 rfl) rfl rfl ?_
      refine q_loadAgg rfl (Blk.cellsAt (hS.blk 0 rfl) 0 3 rfl) rfl rfl ?_
      refine q_eqlA eqT41 (by kernel_rfl) rfl rfl rfl ?_
      refine q_move rfl rfl ?_
      obtain ⟨x451, hx450, ho239⟩ := Option.of_bind ho239
      refine g_orM 12 hx450 rfl trivial rfl rfl ?_ ?_ ?_
      · intro hg450
        refine g_skip rfl rfl rfl ?_
        refine g_skip rfl rfl rfl ?_
        refine g_skip rfl rfl rfl ?_
        refine g_skip rfl rfl rfl ?_
        refine g_skip rfl rfl rfl ?_
        refine g_skip rfl rfl rfl ?_
        refine g_skipU rfl rfl ?_
        refine g_skipU rfl rfl ?_
        refine g_skipU rfl rfl ?_
        refine g_skipU rfl rfl ?_
        refine g_skipU rfl rfl ?_
        refine g_skip rfl rfl rfl ?_
        exact eseq_nil ⟨rfl, Sub.set rfl (Sub.set rfl (Sub.set rfl (Sub.set rfl (Sub.set rfl (Sub.set rfl (Sub.set rfl (Sub.set rfl (Sub.set rfl (Sub.set rfl (Sub.set rfl (Sub.set rfl (Sub.bool true rfl hg450))))))))))))⟩
      · intro hg450 hx450
        clear ho239
        have hT450 := Below.refl (World.heap w444).size w444
        refine g_run rfl ?_; refine q_field rfl rfl ?_
        refine g_run rfl ?_; refine q_load rfl (Blk.cell (hS.blk 0 rfl) rfl) rfl ?_
        refine g_run rfl ?_; refine q_field rfl rfl ?_
        refine g_run rfl ?_; refine q_load rfl (Blk.cell (hS.blk 1 rfl) rfl) rfl ?_
        refine g_run rfl ?_; refine q_eql rfl rfl rfl ?_
        refine g_run rfl ?_; refine q_move rfl rfl ?_
        obtain ⟨x453, hx452, hx450⟩ := Option.of_bind hx450
        refine g_andM 5 hx452 rfl rfl rfl rfl ?_ ?_ ?_
        · intro hg452 hx452
          clear hx450
          have hT452 := Below.refl (World.heap w444).size w444
          refine g_run rfl ?_; refine q_field rfl rfl ?_
          refine g_run rfl ?_; refine q_load rfl (Blk.cell (hS.blk 0 rfl) rfl) rfl ?_
          refine g_run rfl ?_; refine q_field rfl rfl ?_
          refine g_run rfl ?_; refine q_load rfl (Blk.cell (hS.blk 1 rfl) rfl) rfl ?_
          refine g_run rfl ?_; refine q_leq rfl rfl rfl ?_
          cases hx452
          exact eseq_nil ⟨hT452, Sub.set rfl (Sub.set rfl (Sub.set rfl (Sub.set rfl (Sub.set rfl (Sub.bool true rfl hg452))))), rfl⟩
        · intro hg452
          refine g_skip rfl rfl rfl ?_
          refine g_skip rfl rfl rfl ?_
          refine g_skip rfl rfl rfl ?_
          refine g_skip rfl rfl rfl ?_
          refine g_skip rfl rfl rfl ?_
          exact eseq_nil ⟨rfl, Sub.set rfl (Sub.set rfl (Sub.set rfl (Sub.set rfl (Sub.set rfl (Sub.bool false rfl hg452)))))⟩
        intro wm452 hBm452; clear hx452
        replace hS := hS.below hBm452
        replace hT450 := hT450.trans (Below.mono hBm452 hT450.size)
        cases hx450
        exact eseq_nil ⟨hT450, Sub.set rfl (Sub.set rfl (Sub.set rfl (Sub.set rfl (Sub.set rfl (Sub.set rfl (Sub.set rfl (Sub.bool false rfl hg450))))))), rfl⟩
      intro wm450 hBm450; clear hx450
      replace hS := hS.below hBm450
      refine eseq_nil ?_
      refine hK445 _ _ ?_
      refine e_cond rfl (fun hc454 => ?_) (fun hc454 => ?_)
      · replace ho239 := (if_pos hc454).symm.trans ho239
        refine e_exit ?_
        refine hK399 _ _ ?_
        refine e_region_text rfl ?_
        refine q_addW rfl rfl rfl ?_
        refine q_move rfl rfl ?_
        refine eseq_nil ?_
        obtain rfl := Option.some.inj ho239
        exact ⟨m239, _, Nat.lt_succ_self _, ⟨x314, (w64 (x315 + 1)), v313, _, ht239, (hS.pickB [2, 3] 4 rfl rfl), rfl⟩, Sub.cons rfl (Sub.cons rfl (Sub.cons rfl (Sub.cons rfl (Sub.nil _))))⟩
      · replace ho239 := (if_neg (not_true hc454)).symm.trans ho239
        refine e_skip ?_
        exact hJ407  _ _ _ ho239 (hS.pickB [2, 3, 1] 4 rfl rfl)  (Sub.cons rfl (Sub.cons rfl (Sub.cons rfl (Sub.cons rfl (Sub.cons rfl (Sub.nil _))))))
    · replace ho239 := (if_neg (not_true hc437)).symm.trans ho239
      refine e_skip ?_
      exact hJ407  _ _ _ ho239 (hS.pickB [1, 2, 0] 3 rfl rfl)  (Sub.cons rfl (Sub.cons rfl (Sub.cons rfl (Sub.cons rfl (Sub.cons rfl (Sub.nil _))))))
  · replace ho239 := (if_neg (not_true hc398)).symm.trans ho239
    refine e_exit ?_
    obtain rfl := Option.some.inj ho239
    obtain rfl := Option.some.inj ht239
    exact hX239_0 x314 v313 _ _ _ h hS  (Sub.cons rfl (Sub.nil _))
theorem incarnation_Add_w {F R : Nat → Prop} {w : World} {fuel : Nat} {a0 : (List EndI)} {a1 : EndI} {v1 : Value} {r : ((List EndI))} (hS : Sep F R R w w []) (f1 : IsSlice endITy w R v1 a0) (h : incarnation_Add fuel a0 a1 = some r) :
    Gives Try.prog 60 [v1, .agg #[.int .i64 a1.proc, .int .i64 a1.inc, .int .i64 a1.index]] w fun u w1 => ∃ (v18 : Value), ∃ (R1 : Nat → Prop), u = v18 ∧ Sep F R R1 w w1 [HP.own endITy (fun _ => False) 41 v18 r] := by
  refine fn_of Try.func60 rfl Try.ntmps60 (Nat.le_of_ble_eq_true rfl) ?_
  unfold incarnation_Add at h
  refine e_seq fun K19 hK19 => ?_
  refine e_region_text rfl ?_
  refine q_boxB rfl rfl rfl fun w20 bl20 hg20 hb20 hB20 => ?_
  replace f1 := f1.ext hB20
  replace hS := hS.newBlk hB20 hg20 hb20
  refine q_assign rfl rfl ?_
  refine eseq_nil ?_
  refine hK19 _ _ ?_
  refine e_seq fun K22 hK22 => ?_
  refine e_region_text rfl ?_
  refine q_move rfl rfl ?_
  refine q_loadAgg rfl (Blk.cellsAt (hS.blk 0 rfl) 0 3 rfl) rfl rfl ?_
  refine q_litO (T := endITy) (S := (fun _ => False)) (cells := [[.int .i64 a1.proc, .int .i64 a1.inc, .int .i64 a1.index]]) (ys := [(⟨a1.proc, a1.inc, a1.index⟩ : EndI)]) ((Parts.cons rfl rfl Parts.nil)) rfl rfl rfl rfl rfl rfl rfl (fun w1 hB => ⟨⟨[_], _, rfl, rfl, ⟨[_], _, rfl, rfl, rfl⟩⟩, trivial⟩) (fun _ h => h.elim) rfl fun w23 v23 ho23 hv23 hB23 => ?_
  replace f1 := f1.ext hB23
  replace hS := hS.newOwnS hB23 ho23 hv23 (fun _ h => h.elim)
  obtain ⟨R26, hS, hm26, f26⟩ := hS.freezeOwn 0 rfl; simp only [List.eraseIdx] at hS
  replace f1 := f1.mono fun k hk _ => hm26 k hk
  refine q_litO (T := (Ty.slice endITy)) (S := R26) (cells := [[v1], [v23]]) (ys := [a0, [(⟨a1.proc, a1.inc, a1.index⟩ : EndI)]]) ((Parts.cons rfl (cells_one f1.one) (Parts.cons rfl (cells_one f26.one) Parts.nil))) rfl rfl rfl rfl rfl rfl rfl (fun w1 hB => ⟨⟨_, rfl, f1.ext hB⟩, ⟨_, rfl, f26.ext hB⟩, trivial⟩) hS.ro rfl fun w25 v25 ho25 hv25 hB25 => ?_
  replace f1 := f1.ext hB25
  replace f26 := f26.ext hB25
  replace hS := hS.newOwnS hB25 ho25 hv25 (fun _ h => h)
  obtain ⟨r29, hr29, h⟩ := Option.of_bind h
  refine q_call rfl (ConcatE_w (Sep.all w25) ((hS.isl 0 rfl)).old hr29) rfl ?_
  rintro v30 w28 ⟨_, R28, rfl, hC28⟩
  have hB28 : Below (World.heap w25).size w25 w28 := hC28.stepBF
  refine ⟨fun _ => .of_below hB28, ?_⟩
  replace hS := hS.newOwnS hB28 (hC28.own 0 rfl) (hC28.fresh 0 rfl) (fun _ h => h.elim)
  obtain ⟨r32, hr32, h⟩ := Option.of_bind h
  refine q_call rfl (incarnation_reduced_w (Sep.enter (As := [_]) hS)  hr32) rfl ?_
  rintro v33 w31 ⟨_, R31, rfl, hC31⟩
  refine ⟨(fun h => by cases h), ?_⟩
  have hk31 := hC31.keptR (Sep.offFeet (As := [_]) hS)
  replace hS := Sep.leave (As := [_]) hS hC31; simp only [List.cons_append, List.nil_append] at hS
  refine q_assign rfl rfl ?_
  refine eseq_nil ?_
  refine hK22 _ _ ?_
  refine e_ret ?_
  obtain rfl := Option.some.inj h
  exact ⟨_, res1 rfl rfl, v33, _, rfl, (hS.pickB [1] 4 rfl rfl)⟩
end Go.Proofs.Ytddohdppmejjoaa
