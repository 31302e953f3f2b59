/- Printed walks: A31d. -/
import Derived.Test.YtfgmboklpjanlaaA31c
set_option linter.unusedVariables false
set_option linter.unusedSimpArgs false
namespace Go.Mine
open Go.RowKit
theorem cmpI_lt (x y : Int) : (cmpI x y < 0) = (x < y) := by unfold cmpI; apply propext; split <;> (try split) <;> constructor <;> intro <;> omega
theorem cmpI_eq (x y : Int) : (cmpI x y = 0) = (x = y) := by unfold cmpI; apply propext; split <;> (try split) <;> constructor <;> intro <;> omega
theorem sortE_lt (x y : EndI) : Go.Proofs.ltOf sortE_cf x y = decide (x.proc < y.proc ∨ x.proc = y.proc ∧ (y.inc < x.inc ∨ y.inc = x.inc ∧ x.index < y.index)) := by
  unfold Go.Proofs.ltOf sortE_cf
  have h1 := cmpI_lt x.proc y.proc; have h2 := cmpI_eq x.proc y.proc; have h3 := cmpI_lt y.inc x.inc; have h4 := cmpI_eq y.inc x.inc; have h5 := cmpI_lt x.index y.index
  congr 1
  split
  · rw [h1]; rename_i h; rw [ne_eq, h2] at h; apply propext; omega
  · rename_i h; simp only [ne_eq, Decidable.not_not] at h; rw [h2] at h
    split
    · rename_i h'; rw [ne_eq, h4] at h'; rw [h3]; apply propext; omega
    · rename_i h'; simp only [ne_eq, Decidable.not_not] at h'; rw [h4] at h'; rw [h5]; apply propext; omega
theorem sortF_lt (x y : EndI) : Go.Proofs.ltOf sortF_cf x y = decide (x.proc < y.proc ∨ x.proc = y.proc ∧ x.inc < y.inc) := by
  unfold Go.Proofs.ltOf sortF_cf
  have h1 := cmpI_lt x.proc y.proc; have h2 := cmpI_eq x.proc y.proc; have h3 := cmpI_lt x.inc y.inc
  congr 1
  split
  · rw [h1]; rename_i h; rw [ne_eq, h2] at h; apply propext; omega
  · rename_i h; simp only [ne_eq, Decidable.not_not] at h; rw [h2] at h; rw [h3]; apply propext; omega
theorem sortE_swo : Go.Sort.SWO (Go.Proofs.ltOf sortE_cf) where
  irrefl x := by rw [sortE_lt]; simp
  trans x y z h1 h2 := by rw [sortE_lt] at *; simp only [decide_eq_true_eq] at *; omega
  ntrans x y z h1 h2 := by rw [sortE_lt] at *; simp only [decide_eq_false_iff_not] at *; omega
theorem sortF_swo : Go.Sort.SWO (Go.Proofs.ltOf sortF_cf) where
  irrefl x := by rw [sortF_lt]; simp
  trans x y z h1 h2 := by rw [sortF_lt] at *; simp only [decide_eq_true_eq] at *; omega
  ntrans x y z h1 h2 := by rw [sortF_lt] at *; simp only [decide_eq_false_iff_not] at *; omega
def sortE (fuel : Nat) (c0_0 : List EndI) : Option (List EndI) := if c0_0.length < 4611686018427387904 then some (sortL sortE_cf c0_0) else none
def sortF (fuel : Nat) (c0_0 : List EndI) : Option (List EndI) := if c0_0.length < 4611686018427387904 then some (sortL sortF_cf c0_0) else none
def GrowE (fuel : Nat) (a1 : Int) : Option (List EndI) := if 0 ≤ a1 ∧ a1 ≤ 100000000000 then some [] else none
def ConcatE_K2 (fuel : Nat) (x245 : (List EndI)) : Option ((List EndI)) :=
  some x245
def ConcatE_B1 (fuel : Nat) (a0 : (List (List EndI))) (x221 : (List EndI)) (x223 : Int) : Option (((List EndI) × Int) ⊕ ((List EndI))) :=
  (if (decide (x223 < (a0.length : Int))) = true then (ati a0 x223).bind fun x252 => (catL x221 x252).bind fun x256 => some (Sum.inl (x256, (w64 (x223 + 1)))) else some (Sum.inr x221))
def ConcatE_K1 (fuel : Nat) (a0 : (List (List EndI))) (x188 : Int) : Option ((List EndI)) :=
  (GrowE fuel x188).bind fun r191 => (iter (fun s => ConcatE_B1 fuel a0 s.1 s.2) fuel (r191, 0)).bind (fun t => ConcatE_K2 fuel t)
def ConcatE_B2 (fuel : Nat) (a0 : (List (List EndI))) (x165 : Int) (x167 : Int) : Option ((Int × Int) ⊕ (Int)) :=
  (if (decide (x167 < (a0.length : Int))) = true then (ati a0 x167).bind fun x262 => (if (decide ((w64 (x165 + (x262.length : Int))) < 0)) = true then none else some (Sum.inl ((w64 (x165 + (x262.length : Int))), (w64 (x167 + 1))))) else some (Sum.inr x165))
def ConcatE (fuel : Nat) (a0 : (List (List EndI))) : Option ((List EndI)) :=
  (iter (fun s => ConcatE_B2 fuel a0 s.1 s.2) fuel (0, 0)).bind (fun t => ConcatE_K1 fuel a0 t)
def incarnation_reduced_K1 (fuel : Nat) (r209 : (List EndI)) (x349 : (List EndI)) : Option ((List EndI) × (List EndI)) :=
  (sortF fuel x349).bind fun r352 => some (r352, r209)
def incarnation_reduced_J1 (fuel : Nat) (x282 : (List EndI)) (x361 : EndI) (x283 : Int) : Option (((List EndI) × Int) ⊕ ((List EndI))) :=
  (snoc x282 (⟨x361.proc, x361.inc, x361.index⟩ : EndI)).bind fun x390 => some (Sum.inl (x390, (w64 (x283 + 1))))
def incarnation_reduced_B1 (fuel : Nat) (r209 : (List EndI)) (x282 : (List EndI)) (x283 : Int) : Option (((List EndI) × Int) ⊕ ((List EndI))) :=
  (if (decide (x283 < (r209.length : Int))) = true then (ati r209 x283).bind fun x361 => (if (decide (0 < (x282.length : Int))) = true then (ati x282 (w64 ((x282.length : Int) - 1))).bind fun x395 => (orM ((x361.proc == x395.proc) && ((x361.inc == x395.inc) && ((x361.index == x395.index) && true))) ((andM (x395.proc == x361.proc) (some (decide (x395.index ≤ x361.index)))).bind fun x405 => some x405)).bind fun x403 => (if x403 = true then some (Sum.inl (x282, (w64 (x283 + 1)))) else incarnation_reduced_J1 fuel x282 x361 x283) else incarnation_reduced_J1 fuel x282 x361 x283) else some (Sum.inr x282))
def incarnation_reduced (fuel : Nat) (c0_0 : (List EndI)) : Option ((List EndI) × (List EndI)) :=
  (sortE fuel c0_0).bind fun r209 => (iter (fun s => incarnation_reduced_B1 fuel r209 s.1 s.2) fuel (([] : List EndI), 0)).bind (fun t => incarnation_reduced_K1 fuel r209 t)
def incarnation_Add (fuel : Nat) (a0 : (List EndI)) (a1 : EndI) : Option ((List EndI)) :=
  (ConcatE fuel ([a0, [(⟨a1.proc, a1.inc, a1.index⟩ : EndI)]])).bind fun r29 => (incarnation_reduced fuel r29).bind fun r32 => some r32.1
def incarnation_Merge (fuel : Nat) (a0 : (List EndI)) (a1 : (List EndI)) : Option ((List EndI)) :=
  (ConcatE fuel ([a0, a1])).bind fun r20 => (incarnation_reduced fuel r20).bind fun r23 => some r23.1
end Go.Mine
namespace Go.Proofs.Ytfgmboklpjanlaa
open Go.RowKit Go.Mine
attribute [local irreducible] eseq ewp iter
theorem sortE_w {F R : Nat → Prop} {w : World} {fuel : Nat} {c0_0 : List EndI} {v1 : Value} {r : List EndI} (hS : Sep F R R w w [HP.own endITy (fun _ => False) 34 v1 c0_0]) (h : sortE fuel c0_0 = some r) :
    Gives Try.prog 32 [v1, .func (.func 33) #[] #[]] w fun u w1 => ∃ (R1 : Nat → Prop), u = .tuple #[] ∧ Sep F R R1 w w1 [HP.own endITy (fun _ => False) 34 v1 r] := by
  unfold sortE at h
  split at h
  · rename_i hn
    cases h
    exact sortOwn Try.sort32 (T := endITy) (enc := EndI.cells_) Try.isAgg34 Try.sizeOf34 (fun _ => rfl) (fun x v hv => by unfold EndI.cells_ at hv; simp at hv; rcases hv with rfl | rfl | rfl <;> rfl) sortE_swo (enters_of Try.func33 (by kernel_rfl) rfl) sortE_cmp hS hn
  · cases h
theorem sortF_w {F R : Nat → Prop} {w : World} {fuel : Nat} {c0_0 : List EndI} {v1 : Value} {r : List EndI} (hS : Sep F R R w w [HP.own endITy (fun _ => False) 34 v1 c0_0]) (h : sortF fuel c0_0 = some r) :
    Gives Try.prog 32 [v1, .func (.func 36) #[] #[]] w fun u w1 => ∃ (R1 : Nat → Prop), u = .tuple #[] ∧ Sep F R R1 w w1 [HP.own endITy (fun _ => False) 34 v1 r] := by
  unfold sortF at h
  split at h
  · rename_i hn
    cases h
    exact sortOwn Try.sort32 (T := endITy) (enc := EndI.cells_) Try.isAgg34 Try.sizeOf34 (fun _ => rfl) (fun x v hv => by unfold EndI.cells_ at hv; simp at hv; rcases hv with rfl | rfl | rfl <;> rfl) sortF_swo (enters_of Try.func36 (by kernel_rfl) rfl) sortF_cmp hS hn
  · cases h
theorem GrowE_w {F R : Nat → Prop} {w : World} {fuel : Nat} {a1 : Int} {r : List EndI} (hS : Sep F R R w w []) (h : GrowE fuel a1 = some r) :
    Gives Try.prog 37 [.slice none 0 0, .int .i64 a1] w fun u w1 => ∃ (v2 : Value), ∃ (R1 : Nat → Prop), u = v2 ∧ Sep F R R1 w w1 [HP.own endITy (fun _ => False) 34 v2 r] := by
  unfold GrowE at h
  split at h
  · rename_i hn
    cases h
    exact growNil (ts := 22) Try.grow37 endITy (bytes := 24) (z := [.int .i64 0, .int .i64 0, .int .i64 0]) (TS := (inferInstance : TSlice Try.prog 22 34 3)) (TE := (inferInstance : TElem Try.prog 34 24 [.int .i64 0, .int .i64 0, .int .i64 0])) rfl (Nat.le_of_ble_eq_true rfl) (Nat.le_of_ble_eq_true rfl) hS hn.1 hn.2
  · cases h
theorem ConcatE_w {F R : Nat → Prop} {w : World} {fuel : Nat} {a0 : (List (List EndI))} {v1 : Value} {r : ((List EndI))} (hS : Sep F R R w w []) (f1 : IsSlice (Ty.slice endITy) w R v1 a0) (h : ConcatE fuel a0 = some r) :
    Gives Try.prog 29 [v1] w fun u w1 => ∃ (v135 : Value), ∃ (R1 : Nat → Prop), u = v135 ∧ Sep F R R1 w w1 [HP.own endITy (fun _ => False) 34 v135 r] := by
  refine fn_of Try.func29 rfl Try.ntmps29 (Nat.le_of_ble_eq_true rfl) ?_
  unfold ConcatE at h
  refine e_seq fun K136 hK136 => ?_
  refine e_region_text rfl ?_
  refine q_assign rfl rfl ?_
  refine eseq_nil ?_
  refine hK136 _ _ ?_
  refine e_seq fun K137 hK137 => ?_
  refine e_region_text rfl ?_
  refine q_assign rfl rfl ?_
  refine eseq_nil ?_
  refine hK137 _ _ ?_
  refine e_seq fun K138 hK138 => ?_
  refine e_seq fun K139 hK139 => ?_
  refine e_region_text rfl ?_
  refine q_move rfl rfl ?_
  refine q_lenS rfl f1 rfl ?_
  refine q_move rfl rfl ?_
  refine eseq_nil ?_
  refine hK139 _ _ ?_
  refine e_block ?_
  obtain ⟨tl140, ht140, h⟩ := Option.of_bind h
  have hX140_0 : ∀ (x188 : Int) (R185 : Nat → Prop) (w186 : World) (E_ : Env), ConcatE_K1 fuel a0 x188 = some r → Sep F R R185 w w186 [] → IsSlice (Ty.slice endITy) w186 R185 v1 a0 → Sub [(0, v1), (3, .int .i64 x188)] E_ → K138 E_ w186 := by
    intro x188 R185 w186 E_ h hS f187 hsub
    refine hK138 _ _ (e_sub hsub ?_); clear hsub
    unfold ConcatE_K1 at h
    refine e_seq fun K189 hK189 => ?_
    refine e_region_text rfl ?_
    refine q_move rfl rfl ?_
    obtain ⟨r191, hr191, h⟩ := Option.of_bind h
    refine q_call rfl (GrowE_w (Sep.enter (As := []) hS)  hr191) rfl ?_
    rintro v192 w190 ⟨_, R190, rfl, hC190⟩
    have hB190 : Below (World.heap w186).size w186 w190 := hC190.stepB0
    refine ⟨fun _ => .of_below hB190, ?_⟩
    replace f187 := (f187.ext hB190).mono fun k hk _ => hC190.ro0 k hk
    replace hS := Sep.leave (As := []) hS hC190; simp only [List.cons_append, List.nil_append] at hS
    refine q_assign rfl rfl ?_
    refine eseq_nil ?_
    refine hK189 _ _ ?_
    refine e_seq fun K193 hK193 => ?_
    refine e_seq fun K194 hK194 => ?_
    refine e_region_text rfl ?_
    refine q_move rfl rfl ?_
    refine q_lenS rfl f187 rfl ?_
    refine q_move rfl rfl ?_
    refine eseq_nil ?_
    refine hK194 _ _ ?_
    refine e_block ?_
    obtain ⟨tl195, ht195, h⟩ := Option.of_bind h
    have hX195_2 : ∀ (x245 : (List EndI)) (v244 : Value) (R241 : Nat → Prop) (w242 : World) (E_ : Env), ConcatE_K2 fuel x245 = some r → Sep F R R241 w w242 [HP.own endITy (fun _ => False) 34 v244 x245] → Sub [(6, v244)] E_ → K193 E_ w242 := by
      intro x245 v244 R241 w242 E_ h hS  hsub
      refine hK193 _ _ (e_sub hsub ?_); clear hsub
      unfold ConcatE_K2 at h
      refine e_seq fun K246 hK246 => ?_
      refine e_region_text rfl ?_
      refine q_move rfl rfl ?_
      refine q_assign rfl rfl ?_
      refine eseq_nil ?_
      refine hK246 _ _ ?_
      refine e_ret ?_
      obtain rfl := Option.some.inj h
      exact ⟨_, res1 rfl rfl, v244, _, rfl, hS⟩
    refine e_loop (fun m_ E_ w218 => ∃ (x221 : (List EndI)), ∃ (x223 : Int), ∃ (v220 : Value), ∃ (R217 : Nat → Prop), iter (fun s => ConcatE_B1 fuel a0 s.1 s.2) m_ (x221, x223) = some tl195 ∧ Sep F R R217 w w218 [HP.own endITy (fun _ => False) 34 v220 x221] ∧ IsSlice (Ty.slice endITy) w218 R217 v1 a0 ∧ E_ = [(6, v220), (25, v1), (26, .int .i64 (a0.length : Int)), (27, .int .i64 x223)]) _ ⟨_, ⟨r191, 0, v192, _, ht195, hS, f187, rfl⟩, Sub.cons rfl (Sub.cons rfl (Sub.cons rfl (Sub.cons rfl (Sub.nil _))))⟩ ?_
    clear ht195 hS
    rintro m195 _ w218 ⟨x221, x223, v220, R217, ht195, hS, f222, rfl⟩
    obtain ⟨m195, rfl, o195, ho195, ht195⟩ := iter_some ht195
    replace ho195 : ConcatE_B1 fuel a0 x221 x223 = some o195 := ho195
    unfold ConcatE_B1 at ho195
    refine e_seq fun K247 hK247 => ?_
    refine e_region_text rfl ?_
    refine q_lss rfl rfl rfl ?_
    refine eseq_nil ?_
    refine hK247 _ _ ?_
    refine e_seq fun K248 hK248 => ?_
    refine e_cond rfl (fun hc249 => ?_) (fun hc249 => ?_)
    · replace ho195 := (if_pos hc249).symm.trans ho195
      refine e_skip ?_
      refine hK248 _ _ ?_
      refine e_seq fun K250 hK250 => ?_
      refine e_block ?_
      refine e_seq fun K251 hK251 => ?_
      refine e_region_text rfl ?_
      obtain ⟨x252, hx252, ho195⟩ := Option.of_bind ho195
      refine q_atS (by infer_instance) rfl f222 rfl hx252 rfl fun b253 o253 hm253 f253 => ?_
      refine q_loadE rfl f253 rfl (fun v254 f254 => ?_)
      refine q_assign rfl rfl ?_
      refine eseq_nil ?_
      refine hK251 _ _ ?_
      refine e_region_text rfl ?_
      refine q_move rfl rfl ?_
      refine q_move rfl rfl ?_
      obtain ⟨x256, hx256, ho195⟩ := Option.of_bind ho195
      refine q_catE (T := endITy) rfl rfl rfl rfl (hS.own 0 rfl) rfl f254 hx256 (Nat.zero_le _) rfl (fun h => by cases h) fun v255 w255 hw255 hgr255 hnw255 => ?_
      have hk255 := hS.keptOwn 0 rfl hgr255
      replace f222 := f222.kept hk255
      replace f254 := f254.kept hk255
      replace hS := hS.setOwn 0 rfl hw255 hgr255 hnw255; simp only [List.set] at hS
      refine q_assign rfl rfl ?_
      refine eseq_nil ?_
      refine hK250 _ _ ?_
      refine e_region_text rfl ?_
      refine q_addW rfl rfl rfl ?_
      refine q_move rfl rfl ?_
      refine eseq_nil ?_
      obtain rfl := Option.some.inj ho195
      exact ⟨m195, _, Nat.lt_succ_self _, ⟨x256, (w64 (x223 + 1)), v255, _, ht195, hS, f222, rfl⟩, Sub.cons rfl (Sub.cons rfl (Sub.cons rfl (Sub.cons rfl (Sub.nil _))))⟩
    · replace ho195 := (if_neg (not_true hc249)).symm.trans ho195
      refine e_exit ?_
      obtain rfl := Option.some.inj ho195
      obtain rfl := Option.some.inj ht195
      exact hX195_2 x221 v220 _ _ _ h hS  (Sub.cons rfl (Sub.nil _))
  refine e_loop (fun m_ E_ w163 => ∃ (x165 : Int), ∃ (x167 : Int), ∃ (R162 : Nat → Prop), iter (fun s => ConcatE_B2 fuel a0 s.1 s.2) m_ (x165, x167) = some tl140 ∧ Sep F R R162 w w163 [] ∧ IsSlice (Ty.slice endITy) w163 R162 v1 a0 ∧ IsSlice (Ty.slice endITy) w163 R162 v1 a0 ∧ E_ = [(0, v1), (3, .int .i64 x165), (9, v1), (10, .int .i64 (a0.length : Int)), (11, .int .i64 x167)]) _ ⟨_, ⟨0, 0, _, ht140, hS, f1, f1, rfl⟩, Sub.cons rfl (Sub.cons rfl (Sub.cons rfl (Sub.cons rfl (Sub.cons rfl (Sub.nil _)))))⟩ ?_
  clear ht140 hS
  rintro m140 _ w163 ⟨x165, x167, R162, ht140, hS, f164, f166, rfl⟩
  obtain ⟨m140, rfl, o140, ho140, ht140⟩ := iter_some ht140
  replace ho140 : ConcatE_B2 fuel a0 x165 x167 = some o140 := ho140
  unfold ConcatE_B2 at ho140
  refine e_seq fun K257 hK257 => ?_
  refine e_region_text rfl ?_
  refine q_lss rfl rfl rfl ?_
  refine eseq_nil ?_
  refine hK257 _ _ ?_
  refine e_seq fun K258 hK258 => ?_
  refine e_cond rfl (fun hc259 => ?_) (fun hc259 => ?_)
  · replace ho140 := (if_pos hc259).symm.trans ho140
    refine e_skip ?_
    refine hK258 _ _ ?_
    refine e_seq fun K260 hK260 => ?_
    refine e_block ?_
    refine e_seq fun K261 hK261 => ?_
    refine e_region_text rfl ?_
    obtain ⟨x262, hx262, ho140⟩ := Option.of_bind ho140
    refine q_atS (by infer_instance) rfl f166 rfl hx262 rfl fun b263 o263 hm263 f263 => ?_
    refine q_loadE rfl f263 rfl (fun v264 f264 => ?_)
    refine q_assign rfl rfl ?_
    refine eseq_nil ?_
    refine hK261 _ _ ?_
    refine e_seq fun K265 hK265 => ?_
    refine e_region_text rfl ?_
    refine q_move rfl rfl ?_
    refine q_move rfl rfl ?_
    refine q_lenS rfl f264 rfl ?_
    refine q_addW rfl rfl rfl ?_
    refine q_assign rfl rfl ?_
    refine eseq_nil ?_
    refine hK265 _ _ ?_
    refine e_seq fun K266 hK266 => ?_
    refine e_region_text rfl ?_
    refine q_move rfl rfl ?_
    refine q_lss rfl rfl rfl ?_
    refine eseq_nil ?_
    refine hK266 _ _ ?_
    refine e_cond rfl (fun hc267 => ?_) (fun hc267 => ?_)
    · replace ho140 := (if_pos hc267).symm.trans ho140
      cases ho140
    · replace ho140 := (if_neg (not_true hc267)).symm.trans ho140
      refine e_skip ?_
      refine hK260 _ _ ?_
      refine e_region_text rfl ?_
      refine q_addW rfl rfl rfl ?_
      refine q_move rfl rfl ?_
      refine eseq_nil ?_
      obtain rfl := Option.some.inj ho140
      exact ⟨m140, _, Nat.lt_succ_self _, ⟨(w64 (x165 + (x262.length : Int))), (w64 (x167 + 1)), _, ht140, hS, f164, f166, rfl⟩, Sub.cons rfl (Sub.cons rfl (Sub.cons rfl (Sub.cons rfl (Sub.cons rfl (Sub.nil _)))))⟩
  · replace ho140 := (if_neg (not_true hc259)).symm.trans ho140
    refine e_exit ?_
    obtain rfl := Option.some.inj ho140
    obtain rfl := Option.some.inj ht140
    exact hX140_0 x165 _ _ _ h hS f164 (Sub.cons rfl (Sub.cons rfl (Sub.nil _)))
theorem incarnation_reduced_w {F R : Nat → Prop} {w : World} {fuel : Nat} {c0_0 : (List EndI)} {v1 : Value} {r : ((List EndI) × (List EndI))} (hS : Sep F R R w w [HP.own endITy (fun _ => False) 34 v1 c0_0]) (h : incarnation_reduced fuel c0_0 = some r) :
    Gives Try.prog 28 [v1] w fun u w1 => ∃ (v204 : Value), ∃ (R1 : Nat → Prop), u = v204 ∧ Sep F R R1 w w1 [HP.own endITy (fun _ => False) 34 v1 r.2, HP.own endITy (fun _ => False) 34 v204 r.1] := by
  refine fn_of Try.func28 rfl Try.ntmps28 (Nat.le_of_ble_eq_true rfl) ?_
  unfold incarnation_reduced at h
  refine e_seq fun K206 hK206 => ?_
  refine e_region_text rfl ?_
  refine q_assign rfl rfl ?_
  refine eseq_nil ?_
  refine hK206 _ _ ?_
  refine e_scope ?_
  refine e_seq fun K207 hK207 => ?_
  refine e_region_text rfl ?_
  refine q_move rfl rfl ?_
  obtain ⟨r209, hr209, h⟩ := Option.of_bind h
  refine q_call rfl (sortE_w (Sep.enter (As := [_]) hS)  hr209) rfl ?_
  rintro _ w208 ⟨R208, rfl, hC208⟩
  refine ⟨(fun h => by cases h), ?_⟩
  have hk208 := hC208.keptR (Sep.offFeet (As := [_]) hS)
  replace hS := Sep.leave (As := [_]) hS hC208; simp only [List.cons_append, List.nil_append] at hS
  refine eseq_nil ?_
  refine hK207 _ _ ?_
  refine e_seq fun K211 hK211 => ?_
  refine e_region_text rfl ?_
  refine q_assign rfl rfl ?_
  refine eseq_nil ?_
  refine hK211 _ _ ?_
  refine e_seq fun K212 hK212 => ?_
  refine e_label ?_
  refine hK212 _ _ ?_
  refine e_seq fun K213 hK213 => ?_
  refine e_seq fun K214 hK214 => ?_
  refine e_region_text rfl ?_
  refine q_move rfl rfl ?_
  refine q_lenS rfl (hS.isl 0 rfl) rfl ?_
  refine q_move rfl rfl ?_
  refine eseq_nil ?_
  refine hK214 _ _ ?_
  refine e_block ?_
  obtain ⟨tl215, ht215, h⟩ := Option.of_bind h
  have hX215_0 : ∀ (x349 : (List EndI)) (v348 : Value) (R345 : Nat → Prop) (w346 : World) (E_ : Env), incarnation_reduced_K1 fuel r209 x349 = some r → Sep F R R345 w w346 [HP.own endITy (fun _ => False) 34 v1 r209, HP.own endITy (fun _ => False) 34 v348 x349] → Sub [(3, v348)] E_ → K213 E_ w346 := by
    intro x349 v348 R345 w346 E_ h hS  hsub
    refine hK213 _ _ (e_sub hsub ?_); clear hsub
    unfold incarnation_reduced_K1 at h
    refine e_seq fun K350 hK350 => ?_
    refine e_region_text rfl ?_
    refine q_move rfl rfl ?_
    obtain ⟨r352, hr352, h⟩ := Option.of_bind h
    replace hS := hS.pickB [1, 0] 2 rfl rfl; simp only [List.map_cons, List.map_nil, List.getD_cons_zero, List.getD_cons_succ] at hS
    refine q_call rfl (sortF_w (Sep.enter (As := [_]) hS)  hr352) rfl ?_
    rintro _ w351 ⟨R351, rfl, hC351⟩
    refine ⟨(fun h => by cases h), ?_⟩
    have hk351 := hC351.keptR (Sep.offFeet (As := [_]) hS)
    replace hS := Sep.leave (As := [_]) hS hC351; simp only [List.cons_append, List.nil_append] at hS
    refine eseq_nil ?_
    refine hK350 _ _ ?_
    refine e_seq fun K354 hK354 => ?_
    refine e_region_text rfl ?_
    refine q_move rfl rfl ?_
    refine q_assign rfl rfl ?_
    refine eseq_nil ?_
    refine hK354 _ _ ?_
    refine e_ret ?_
    obtain rfl := Option.some.inj h
    exact ⟨_, res1 rfl rfl, v348, _, rfl, (hS.pickB [1, 0] 2 rfl rfl)⟩
  replace hS := hS.nilOwn0 endITy 34
  refine e_loop (fun m_ E_ w279 => ∃ (x282 : (List EndI)), ∃ (x283 : Int), ∃ (v281 : Value), ∃ (R278 : Nat → Prop), iter (fun s => incarnation_reduced_B1 fuel r209 s.1 s.2) m_ (x282, x283) = some tl215 ∧ Sep F R R278 w w279 [HP.own endITy (fun _ => False) 34 v1 r209, HP.own endITy (fun _ => False) 34 v281 x282] ∧ E_ = [(3, v281), (10, v1), (11, .int .i64 (r209.length : Int)), (12, .int .i64 x283)]) _ ⟨_, ⟨([] : List EndI), 0, (.slice none 0 0), _, ht215, (hS.pickB [1, 0] 2 rfl rfl), rfl⟩, Sub.cons rfl (Sub.cons rfl (Sub.cons rfl (Sub.cons rfl (Sub.nil _))))⟩ ?_
  clear ht215 hS
  rintro m215 _ w279 ⟨x282, x283, v281, R278, ht215, hS, rfl⟩
  obtain ⟨m215, rfl, o215, ho215, ht215⟩ := iter_some ht215
  replace ho215 : incarnation_reduced_B1 fuel r209 x282 x283 = some o215 := ho215
  unfold incarnation_reduced_B1 at ho215
  refine e_seq fun K356 hK356 => ?_
  refine e_region_text rfl ?_
  refine q_lss rfl rfl rfl ?_
  refine eseq_nil ?_
  refine hK356 _ _ ?_
  refine e_seq fun K357 hK357 => ?_
  refine e_cond rfl (fun hc358 => ?_) (fun hc358 => ?_)
  · replace ho215 := (if_pos hc358).symm.trans ho215
    refine e_skip ?_
    refine hK357 _ _ ?_
    refine e_seq fun K359 hK359 => ?_
    refine e_block ?_
    refine e_seq fun K360 hK360 => ?_
    refine e_region_text rfl ?_
    obtain ⟨x361, hx361, ho215⟩ := Option.of_bind ho215
    refine q_indexO (by infer_instance) rfl (hS.own 0 rfl) rfl hx361 rfl ?_
    have f362 := (hS.ownR 0 rfl).elt hx361
    have hc363 := EndI_open f362
    refine q_loadAgg rfl hc363 rfl rfl ?_
    refine q_allocB rfl fun w364 bl364 hg364 hb364 hB364 => ?_
    replace hS := hS.newBlk hB364 hg364 hb364
    refine q_storeAgg rfl rfl (hS.blk 0 rfl) rfl (Nat.le_of_ble_eq_true rfl) (all_cons rfl (all_cons rfl (all_cons rfl (all_nil)))) rfl rfl fun w366 hb366 hO366 => ?_
    simp only [setN, List.set, List.take, List.drop] at hb366
    have hk366 := hS.keptBlk 0 rfl hO366
    replace hS := hS.setBlk 0 rfl hb366 hO366; simp only [List.set] at hS
    refine eseq_nil ?_
    refine hK360 _ _ ?_
    refine e_seq fun K367 hK367 => ?_
    have hJ367 : ∀ (R384 : Nat → Prop) (w385 : World) (E_ : Env), incarnation_reduced_J1 fuel x282 x361 x283 = some o215 → Sep F R R384 w w385 [HP.own endITy (fun _ => False) 34 v1 r209, HP.own endITy (fun _ => False) 34 v281 x282, HP.blk bl364 [.int .i64 x361.proc, .int .i64 x361.inc, .int .i64 x361.index] 34] → Sub [(3, v281), (5, .pointer (some ⟨bl364, 0, none⟩)), (10, v1), (11, .int .i64 (r209.length : Int)), (12, .int .i64 x283)] E_ → K367 E_ w385 := by
      intro R384 w385 E_ ho215 hS  hsub
      refine hK367 _ _ (e_sub hsub ?_); clear hsub
      unfold incarnation_reduced_J1 at ho215
      refine e_region_text rfl ?_
      refine q_move rfl rfl ?_
      refine q_loadAgg rfl (Blk.cellsAt (hS.blk 2 rfl) 0 3 rfl) rfl rfl ?_
      refine q_litO (T := endITy) (S := (fun _ => False)) (cells := [[.int .i64 x361.proc, .int .i64 x361.inc, .int .i64 x361.index]]) (ys := [(⟨x361.proc, x361.inc, x361.index⟩ : EndI)]) ((Parts.cons rfl rfl Parts.nil)) rfl rfl rfl rfl rfl rfl rfl (fun w1 hB => ⟨⟨[_], _, rfl, rfl, ⟨[_], _, rfl, rfl, rfl⟩⟩, trivial⟩) (fun _ h => h.elim) rfl fun w387 v387 ho387 hv387 hB387 => ?_
      replace hS := hS.newOwnS hB387 ho387 hv387 (fun _ h => h.elim)
      obtain ⟨x390, hx390, ho215⟩ := Option.of_bind ho215
      refine q_catOwn (T := endITy) rfl rfl rfl rfl (hS.own 2 rfl) rfl (hS.own 0 rfl) (fun _ h _ => h.elim) (snoc_cat hx390) (Nat.zero_le _) rfl (fun h => by cases h) fun v389 w389 hw389 hgr389 hnw389 => ?_
      have hk389 := hS.keptOwn 2 rfl hgr389
      replace hS := hS.setOwn 2 rfl hw389 hgr389 hnw389; simp only [List.set] at hS
      refine q_assign rfl rfl ?_
      refine eseq_nil ?_
      refine hK359 _ _ ?_
      refine e_region_text rfl ?_
      refine q_addW rfl rfl rfl ?_
      refine q_move rfl rfl ?_
      refine eseq_nil ?_
      obtain rfl := Option.some.inj ho215
      exact ⟨m215, _, Nat.lt_succ_self _, ⟨x390, (w64 (x283 + 1)), v389, _, ht215, (hS.pickB [1, 2] 4 rfl rfl), rfl⟩, Sub.cons rfl (Sub.cons rfl (Sub.cons rfl (Sub.cons rfl (Sub.nil _))))⟩
    refine e_seq fun K391 hK391 => ?_
    refine e_region_text rfl ?_
    refine q_move rfl rfl ?_
    refine q_lenS rfl (hS.isl 2 rfl) rfl ?_
    refine q_assign rfl rfl ?_
    refine eseq_nil ?_
    refine hK391 _ _ ?_
    refine e_seq fun K392 hK392 => ?_
    refine e_region_text rfl ?_
    refine q_move rfl rfl ?_
    refine q_gtr rfl rfl rfl ?_
    refine eseq_nil ?_
    refine hK392 _ _ ?_
    refine e_cond rfl (fun hc393 => ?_) (fun hc393 => ?_)
    · replace ho215 := (if_pos hc393).symm.trans ho215
      refine e_seq fun K394 hK394 => ?_
      refine e_region_text rfl ?_
      refine q_move rfl rfl ?_
      refine q_move rfl rfl ?_
      refine q_subW rfl rfl rfl ?_
      obtain ⟨x395, hx395, ho215⟩ := Option.of_bind ho215
      refine q_indexO (by infer_instance) rfl (hS.own 2 rfl) rfl hx395 rfl ?_
      have f396 := (hS.ownR 2 rfl).elt hx395
      have hc397 := EndI_open f396
      refine q_loadAgg rfl hc397 rfl rfl ?_
      refine q_allocB rfl fun w398 bl398 hg398 hb398 hB398 => ?_
      replace hS := hS.newBlk hB398 hg398 hb398
      refine q_storeAgg rfl rfl (hS.blk 0 rfl) rfl (Nat.le_of_ble_eq_true rfl) (all_cons rfl (all_cons rfl (all_cons rfl (all_nil)))) rfl rfl fun w400 hb400 hO400 => ?_
      simp only [setN, List.set, List.take, List.drop] at hb400
      have hk400 := hS.keptBlk 0 rfl hO400
      replace hS := hS.setBlk 0 rfl hb400 hO400; simp only [List.set] at hS
      refine eseq_nil ?_
      refine hK394 _ _ ?_
      refine e_seq fun K401 hK401 => ?_
      refine e_region_text rfl ?_
      refine q_loadAgg rfl (Blk.cellsAt (hS.blk 1 rfl) 0 3 rfl) rfl rfl ?_
      refine q_loadAgg rfl (Blk.cellsAt (hS.blk 0 rfl) 0 3 rfl) rfl rfl ?_
      refine q_eqlA eqT34 (by kernel_rfl) rfl rfl rfl ?_
      refine q_move rfl rfl ?_
      obtain ⟨x403, hx402, ho215⟩ := Option.of_bind ho215
      refine g_orM 12 hx402 rfl trivial rfl rfl ?_ ?_ ?_
      · intro hg402
        refine g_skip rfl rfl rfl ?_
        refine g_skip rfl rfl rfl ?_
        refine g_skip rfl rfl rfl ?_
        refine g_skip rfl rfl rfl ?_
        refine g_skip rfl rfl rfl ?_
        refine g_skip rfl rfl rfl ?_
        refine g_skipU rfl rfl ?_
        refine g_skipU rfl rfl ?_
        refine g_skipU rfl rfl ?_
        refine g_skipU rfl rfl ?_
        refine g_skipU rfl rfl ?_
        refine g_skip rfl rfl rfl ?_
        exact eseq_nil ⟨rfl, Sub.set rfl (Sub.set rfl (Sub.set rfl (Sub.set rfl (Sub.set rfl (Sub.set rfl (Sub.set rfl (Sub.set rfl (Sub.set rfl (Sub.set rfl (Sub.set rfl (Sub.set rfl (Sub.bool true rfl hg402))))))))))))⟩
      · intro hg402 hx402
        clear ho215
        have hT402 := Below.refl (World.heap w400).size w400
        refine g_run rfl ?_; refine q_field rfl rfl ?_
        refine g_run rfl ?_; refine q_load rfl (Blk.cell (hS.blk 0 rfl) rfl) rfl ?_
        refine g_run rfl ?_; refine q_field rfl rfl ?_
        refine g_run rfl ?_; refine q_load rfl (Blk.cell (hS.blk 1 rfl) rfl) rfl ?_
        refine g_run rfl ?_; refine q_eql rfl rfl rfl ?_
        refine g_run rfl ?_; refine q_move rfl rfl ?_
        obtain ⟨x405, hx404, hx402⟩ := Option.of_bind hx402
        refine g_andM 5 hx404 rfl rfl rfl rfl ?_ ?_ ?_
        · intro hg404 hx404
          clear hx402
          have hT404 := Below.refl (World.heap w400).size w400
          refine g_run rfl ?_; refine q_field rfl rfl ?_
          refine g_run rfl ?_; refine q_load rfl (Blk.cell (hS.blk 0 rfl) rfl) rfl ?_
          refine g_run rfl ?_; refine q_field rfl rfl ?_
          refine g_run rfl ?_; refine q_load rfl (Blk.cell (hS.blk 1 rfl) rfl) rfl ?_
          refine g_run rfl ?_; refine q_leq rfl rfl rfl ?_
          cases hx404
          exact eseq_nil ⟨hT404, Sub.set rfl (Sub.set rfl (Sub.set rfl (Sub.set rfl (Sub.set rfl (Sub.bool true rfl hg404))))), rfl⟩
        · intro hg404
          refine g_skip rfl rfl rfl ?_
          refine g_skip rfl rfl rfl ?_
          refine g_skip rfl rfl rfl ?_
          refine g_skip rfl rfl rfl ?_
          refine g_skip rfl rfl rfl ?_
          exact eseq_nil ⟨rfl, Sub.set rfl (Sub.set rfl (Sub.set rfl (Sub.set rfl (Sub.set rfl (Sub.bool false rfl hg404)))))⟩
        intro wm404 hBm404; clear hx404
        replace hS := hS.below hBm404
        replace hT402 := hT402.trans (Below.mono hBm404 hT402.size)
        cases hx402
        exact eseq_nil ⟨hT402, Sub.set rfl (Sub.set rfl (Sub.set rfl (Sub.set rfl (Sub.set rfl (Sub.set rfl (Sub.set rfl (Sub.bool false rfl hg402))))))), rfl⟩
      intro wm402 hBm402; clear hx402
      replace hS := hS.below hBm402
      refine eseq_nil ?_
      refine hK401 _ _ ?_
      refine e_cond rfl (fun hc406 => ?_) (fun hc406 => ?_)
      · replace ho215 := (if_pos hc406).symm.trans ho215
        refine e_exit ?_
        refine hK359 _ _ ?_
        refine e_region_text rfl ?_
        refine q_addW rfl rfl rfl ?_
        refine q_move rfl rfl ?_
        refine eseq_nil ?_
        obtain rfl := Option.some.inj ho215
        exact ⟨m215, _, Nat.lt_succ_self _, ⟨x282, (w64 (x283 + 1)), v281, _, ht215, (hS.pickB [2, 3] 4 rfl rfl), rfl⟩, Sub.cons rfl (Sub.cons rfl (Sub.cons rfl (Sub.cons rfl (Sub.nil _))))⟩
      · replace ho215 := (if_neg (not_true hc406)).symm.trans ho215
        refine e_skip ?_
        exact hJ367  _ _ _ ho215 (hS.pickB [2, 3, 1] 4 rfl rfl)  (Sub.cons rfl (Sub.cons rfl (Sub.cons rfl (Sub.cons rfl (Sub.cons rfl (Sub.nil _))))))
    · replace ho215 := (if_neg (not_true hc393)).symm.trans ho215
      refine e_skip ?_
      exact hJ367  _ _ _ ho215 (hS.pickB [1, 2, 0] 3 rfl rfl)  (Sub.cons rfl (Sub.cons rfl (Sub.cons rfl (Sub.cons rfl (Sub.cons rfl (Sub.nil _))))))
  · replace ho215 := (if_neg (not_true hc358)).symm.trans ho215
    refine e_exit ?_
    obtain rfl := Option.some.inj ho215
    obtain rfl := Option.some.inj ht215
    exact hX215_0 x282 v281 _ _ _ h hS  (Sub.cons rfl (Sub.nil _))
theorem incarnation_Add_w {F R : Nat → Prop} {w : World} {fuel : Nat} {a0 : (List EndI)} {a1 : EndI} {v1 : Value} {r : ((List EndI))} (hS : Sep F R R w w []) (f1 : IsSlice endITy w R v1 a0) (h : incarnation_Add fuel a0 a1 = some r) :
    Gives Try.prog 18 [v1, .agg #[.int .i64 a1.proc, .int .i64 a1.inc, .int .i64 a1.index]] w fun u w1 => ∃ (v18 : Value), ∃ (R1 : Nat → Prop), u = v18 ∧ Sep F R R1 w w1 [HP.own endITy (fun _ => False) 34 v18 r] := by
  refine fn_of Try.func18 rfl Try.ntmps18 (Nat.le_of_ble_eq_true rfl) ?_
  unfold incarnation_Add at h
  refine e_seq fun K19 hK19 => ?_
  refine e_region_text rfl ?_
  refine q_boxB rfl rfl rfl fun w20 bl20 hg20 hb20 hB20 => ?_
  replace f1 := f1.ext hB20
  replace hS := hS.newBlk hB20 hg20 hb20
  refine q_assign rfl rfl ?_
  refine eseq_nil ?_
  refine hK19 _ _ ?_
  refine e_seq fun K22 hK22 => ?_
  refine e_region_text rfl ?_
  refine q_move rfl rfl ?_
  refine q_loadAgg rfl (Blk.cellsAt (hS.blk 0 rfl) 0 3 rfl) rfl rfl ?_
  refine q_litO (T := endITy) (S := (fun _ => False)) (cells := [[.int .i64 a1.proc, .int .i64 a1.inc, .int .i64 a1.index]]) (ys := [(⟨a1.proc, a1.inc, a1.index⟩ : EndI)]) ((Parts.cons rfl rfl Parts.nil)) rfl rfl rfl rfl rfl rfl rfl (fun w1 hB => ⟨⟨[_], _, rfl, rfl, ⟨[_], _, rfl, rfl, rfl⟩⟩, trivial⟩) (fun _ h => h.elim) rfl fun w23 v23 ho23 hv23 hB23 => ?_
  replace f1 := f1.ext hB23
  replace hS := hS.newOwnS hB23 ho23 hv23 (fun _ h => h.elim)
  obtain ⟨R26, hS, hm26, f26⟩ := hS.freezeOwn 0 rfl; simp only [List.eraseIdx] at hS
  replace f1 := f1.mono fun k hk _ => hm26 k hk
  refine q_litO (T := (Ty.slice endITy)) (S := R26) (cells := [[v1], [v23]]) (ys := [a0, [(⟨a1.proc, a1.inc, a1.index⟩ : EndI)]]) ((Parts.cons rfl (cells_one f1.one) (Parts.cons rfl (cells_one f26.one) Parts.nil))) rfl rfl rfl rfl rfl rfl rfl (fun w1 hB => ⟨⟨_, rfl, f1.ext hB⟩, ⟨_, rfl, f26.ext hB⟩, trivial⟩) hS.ro rfl fun w25 v25 ho25 hv25 hB25 => ?_
  replace f1 := f1.ext hB25
  replace f26 := f26.ext hB25
  replace hS := hS.newOwnS hB25 ho25 hv25 (fun _ h => h)
  obtain ⟨r29, hr29, h⟩ := Option.of_bind h
  refine q_call rfl (ConcatE_w (Sep.all w25) ((hS.isl 0 rfl)).old hr29) rfl ?_
  rintro v30 w28 ⟨_, R28, rfl, hC28⟩
  have hB28 : Below (World.heap w25).size w25 w28 := hC28.stepBF
  refine ⟨fun _ => .of_below hB28, ?_⟩
  replace hS := hS.newOwnS hB28 (hC28.own 0 rfl) (hC28.fresh 0 rfl) (fun _ h => h.elim)
  obtain ⟨r32, hr32, h⟩ := Option.of_bind h
  refine q_call rfl (incarnation_reduced_w (Sep.enter (As := [_]) hS)  hr32) rfl ?_
  rintro v33 w31 ⟨_, R31, rfl, hC31⟩
  refine ⟨(fun h => by cases h), ?_⟩
  have hk31 := hC31.keptR (Sep.offFeet (As := [_]) hS)
  replace hS := Sep.leave (As := [_]) hS hC31; simp only [List.cons_append, List.nil_append] at hS
  refine q_assign rfl rfl ?_
  refine eseq_nil ?_
  refine hK22 _ _ ?_
  refine e_ret ?_
  obtain rfl := Option.some.inj h
  exact ⟨_, res1 rfl rfl, v33, _, rfl, (hS.pickB [1] 4 rfl rfl)⟩
theorem incarnation_Merge_w {F R : Nat → Prop} {w : World} {fuel : Nat} {a0 : (List EndI)} {a1 : (List EndI)} {v1 : Value} {v2 : Value} {r : ((List EndI))} (hS : Sep F R R w w []) (f1 : IsSlice endITy w R v1 a0) (f2 : IsSlice endITy w R v2 a1) (h : incarnation_Merge fuel a0 a1 = some r) :
    Gives Try.prog 16 [v1, v2] w fun u w1 => ∃ (v14 : Value), ∃ (R1 : Nat → Prop), u = v14 ∧ Sep F R R1 w w1 [HP.own endITy (fun _ => False) 34 v14 r] := by
  refine fn_of Try.func16 rfl Try.ntmps16 (Nat.le_of_ble_eq_true rfl) ?_
  unfold incarnation_Merge at h
  refine e_seq fun K15 hK15 => ?_
  refine e_region_text rfl ?_
  refine q_assign rfl rfl ?_
  refine eseq_nil ?_
  refine hK15 _ _ ?_
  refine e_seq fun K16 hK16 => ?_
  refine e_region_text rfl ?_
  refine q_move rfl rfl ?_
  refine q_move rfl rfl ?_
  refine q_litO (T := (Ty.slice endITy)) (S := R) (cells := [[v1], [v2]]) (ys := [a0, a1]) ((Parts.cons rfl (cells_one f1.one) (Parts.cons rfl (cells_one f2.one) Parts.nil))) rfl rfl rfl rfl rfl rfl rfl (fun w1 hB => ⟨⟨_, rfl, f1.ext hB⟩, ⟨_, rfl, f2.ext hB⟩, trivial⟩) hS.ro rfl fun w17 v17 ho17 hv17 hB17 => ?_
  replace f1 := f1.ext hB17
  replace f2 := f2.ext hB17
  replace hS := hS.newOwnS hB17 ho17 hv17 (fun _ h => h)
  obtain ⟨r20, hr20, h⟩ := Option.of_bind h
  refine q_call rfl (ConcatE_w (Sep.all w17) ((hS.isl 0 rfl)).old hr20) rfl ?_
  rintro v21 w19 ⟨_, R19, rfl, hC19⟩
  have hB19 : Below (World.heap w17).size w17 w19 := hC19.stepBF
  refine ⟨fun _ => .of_below hB19, ?_⟩
  replace hS := hS.newOwnS hB19 (hC19.own 0 rfl) (hC19.fresh 0 rfl) (fun _ h => h.elim)
  obtain ⟨r23, hr23, h⟩ := Option.of_bind h
  refine q_call rfl (incarnation_reduced_w (Sep.enter (As := [_]) hS)  hr23) rfl ?_
  rintro v24 w22 ⟨_, R22, rfl, hC22⟩
  refine ⟨(fun h => by cases h), ?_⟩
  have hk22 := hC22.keptR (Sep.offFeet (As := [_]) hS)
  replace hS := Sep.leave (As := [_]) hS hC22; simp only [List.cons_append, List.nil_append] at hS
  refine q_assign rfl rfl ?_
  refine eseq_nil ?_
  refine hK16 _ _ ?_
  refine e_ret ?_
  obtain rfl := Option.some.inj h
  exact ⟨_, res1 rfl rfl, v24, _, rfl, (hS.pickB [1] 3 rfl rfl)⟩
end Go.Proofs.Ytfgmboklpjanlaa
