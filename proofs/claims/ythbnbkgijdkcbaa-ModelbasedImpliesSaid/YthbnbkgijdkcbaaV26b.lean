/- The rules of chapter 26. -/
import Derived.Test.YthbnbkgijdkcbaaV26a
set_option linter.unusedSimpArgs false
set_option linter.unusedVariables false
namespace Go.Proofs.Ythbnbkgijdkcbaa
open Go.RowKit Go.Mine
attribute [local irreducible] eseq ewp
variable {w : World} {S1 S2 : Nat → Prop} {v1 v2 : Value} {l1 l2 : List Int}

theorem equal26 (h1 : IsSlice Ty.int w S1 v1 l1) (h2 : IsSlice Ty.int w S2 v2 l2) (hl : l1.length ≤ 1000000000) :
    Gives Try.prog 75 [v1, v2] w fun v w' => v = .bool (decide (l1 = l2)) ∧ Below w.heap.size w w' := by
  refine fn_of Try.func75 rfl Try.ntmps75 (Nat.le_of_ble_eq_true rfl) ?_
  have hT := Below.refl w.heap.size w
  refine e_seq fun K hK => ?_
  refine e_region_text rfl ?_
  refine q_assign rfl rfl ?_
  refine eseq_nil ?_
  refine hK _ _ ?_; clear hK
  refine e_seq fun K hK => ?_
  refine e_seq fun K hK => ?_
  refine e_region_text rfl ?_
  refine q_move rfl rfl ?_
  refine q_lenS rfl h1 rfl ?_
  refine q_move rfl rfl ?_
  refine q_lenS rfl h2 rfl ?_
  refine q_neq rfl rfl rfl ?_
  refine eseq_nil ?_
  refine hK _ _ ?_; clear hK
  refine e_cond rfl (fun hb => ?_) (fun hb => ?_)
  · skip
    refine e_seq fun K hK => ?_
    refine e_region_text rfl ?_
    refine q_assign rfl rfl ?_
    refine eseq_nil ?_
    refine hK _ _ ?_; clear hK
    refine e_ret ?_
    have : l1 ≠ l2 := by rintro rfl; simp at hb
    exact ⟨_, res1 rfl rfl, by simp [this], hT⟩
  have hll : l1.length = l2.length := by simp at hb; omega
  refine e_skip ?_
  refine hK _ _ ?_; clear hK
  refine e_seq fun K hK => ?_
  refine e_seq fun K hK => ?_
  refine e_region_text rfl ?_
  refine q_move rfl rfl ?_
  refine q_lenS rfl h1 rfl ?_
  refine q_move rfl rfl ?_
  refine eseq_nil ?_
  refine hK _ _ ?_; clear hK
  refine e_block ?_
  refine e_loop (fun n E w' => ∃ k : Nat, k ≤ l1.length ∧ n = l1.length - k ∧ l1.take k = l2.take k ∧ w' = w ∧ E = [(0, v1), (1, v2), (12, .int .i64 l1.length), (13, .int .i64 k)]) l1.length ⟨_, ⟨0, by omega, by omega, rfl, rfl, rfl⟩, Sub.cons rfl (Sub.cons rfl (Sub.cons rfl (Sub.cons rfl (Sub.nil _))))⟩ ?_
  rintro n E w' ⟨k, hk, rfl, ht, rfl, rfl⟩
  refine e_seq fun K hK => ?_
  refine e_region_text rfl ?_
  refine q_lss rfl rfl rfl ?_
  refine eseq_nil ?_
  refine hK _ _ ?_; clear hK
  refine e_seq fun K hK => ?_
  refine e_cond rfl (fun hb => ?_) (fun hb => ?_)
  · skip
    have hlt : k < l1.length := by simpa using hb
    have hlt2 : k < l2.length := by omega
    refine e_skip ?_
    refine hK _ _ ?_; clear hK
    refine e_seq fun K hK => ?_
    refine e_block ?_
    refine e_seq fun K hK => ?_
    refine e_region_text rfl ?_
    refine q_move rfl rfl ?_
    refine q_assign rfl rfl ?_
    refine eseq_nil ?_
    refine hK _ _ ?_; clear hK
    refine e_seq fun K hK => ?_
    refine e_region_draw mixed (fun _ => False) [0, 0, 3, 7, 0, 0, 48, 112, 255] [] [0, 1, 2, 3, 4, 5, 6, 7, 8] (by kernel_rfl) ?_
    refine q_move rfl rfl ?_
    refine q_move rfl rfl ?_
    first | refine q_indexSn (by infer_instance) rfl h1 rfl (by first | omega | decide) rfl fun b18 o18 f18 => ?_ | refine q_indexS (by infer_instance) rfl h1 rfl (by first | omega | decide) (by first | omega | decide) rfl fun b18 o18 f18 => ?_
    refine q_load rfl (El.intCell f18) rfl ?_
    refine q_move rfl rfl ?_
    refine q_move rfl rfl ?_
    first | refine q_indexSn (by infer_instance) rfl h2 rfl (by first | omega | decide) rfl fun b22 o22 f22 => ?_ | refine q_indexS (by infer_instance) rfl h2 rfl (by first | omega | decide) (by first | omega | decide) rfl fun b22 o22 f22 => ?_
    refine q_load rfl (El.intCell f22) rfl ?_
    refine q_neq rfl rfl rfl ?_
    refine eseq_nil ?_
    refine hK _ _ ?_; clear hK
    refine e_cond rfl (fun hb => ?_) (fun hb => ?_)
    · skip
      refine e_seq fun K hK => ?_
      refine e_region_text rfl ?_
      refine q_assign rfl rfl ?_
      refine eseq_nil ?_
      refine hK _ _ ?_; clear hK
      refine e_ret ?_
      have : l1 ≠ l2 := by rintro rfl; simp at hb
      exact ⟨_, res1 rfl rfl, by simp [this], hT⟩
    · skip
      refine e_skip ?_
      refine hK _ _ ?_; clear hK
      refine e_region_text rfl ?_
      refine q_add rfl rfl (wr64 (by omega) (by omega)) rfl ?_
      refine q_move rfl rfl ?_
      refine eseq_nil ?_
      refine ⟨l1.length - (k + 1), _, by omega, ⟨k + 1, by omega, rfl, ?_, rfl, rfl⟩, Sub.cons rfl (Sub.cons rfl (Sub.cons rfl (Sub.cons rfl (Sub.nil _))))⟩
      have hh : l1[k] = l2[k] := by simpa [nth_eq hlt, nth_eq hlt2] using hb
      rw [List.take_succ_eq_append_getElem hlt, List.take_succ_eq_append_getElem hlt2, ht, hh]
  · skip
    have hge : k = l1.length := by simp at hb; omega
    refine e_exit ?_
    clear hK
    refine hK _ _ ?_; clear hK
    refine e_seq fun K hK => ?_
    refine e_region_text rfl ?_
    refine q_assign rfl rfl ?_
    refine eseq_nil ?_
    refine hK _ _ ?_; clear hK
    refine e_ret ?_
    refine ⟨_, res1 rfl rfl, ?_, hT⟩
    have : l1 = l2 := by
      rw [← List.take_of_length_le (Nat.le_of_eq hge.symm) (l := l1), ← List.take_of_length_le (show l2.length ≤ k by omega) (l := l2)]; exact ht
    simp [this]

theorem news26 (h1 : IsSlice Ty.int w S1 v1 l1) (h2 : IsSlice Ty.int w S2 v2 l2) (hl : l1.length ≤ 1000000) (hl2 : l2.length ≤ 1000000) :
    Gives Try.prog 66 [v1, v2] w fun v w' => v = .bool (newV l1 l2) ∧ Below w.heap.size w w' := by
  replace h1 := h1.old; replace h2 := h2.old
  have hS := Sep.start w
  refine fn_of Try.func66 rfl Try.ntmps66 (Nat.le_of_ble_eq_true rfl) ?_
  have hT := Below.refl w.heap.size w
  refine e_seq fun K hK => ?_
  refine e_region_text rfl ?_
  refine q_assign rfl rfl ?_
  refine eseq_nil ?_
  refine hK _ _ ?_; clear hK
  refine e_seq fun K hK => ?_
  refine e_region_text rfl ?_
  refine q_move rfl rfl ?_
  refine q_move rfl rfl ?_
  refine q_call rfl (merge26 (Sep.enter (As := []) hS) h1 h2 hl hl2) rfl ?_
  rintro v7 wc hC; refine ⟨(fun h => by cases h), ?_⟩
  have hkc := hC.keptR (Sep.offFeet (As := []) hS)
  replace h1 := h1.kept hkc
  replace h2 := h2.kept hkc
  replace hS := Sep.leave (As := []) hS hC
  replace hS : Sep _ _ _ w wc [HP.own Ty.int (fun _ => False) 3 v7 (mergeV l1 l2)] := hS
  have hml := mergeV_length (a := l1) (b := l2)
  refine q_move rfl rfl ?_
  refine q_call rfl (equal26 (hS.isl 0 rfl) h1 (by omega)) rfl ?_
  rintro _ w1 ⟨rfl, hB1⟩; refine ⟨fun _ => .of_below hB1, ?_⟩
  replace h1 := h1.ext hB1
  replace h2 := h2.ext hB1
  replace hS := hS.below hB1
  refine q_not rfl rfl ?_
  refine q_assign rfl rfl ?_
  refine eseq_nil ?_
  refine hK _ _ ?_; clear hK
  refine e_ret ?_
  exact ⟨_, res1 rfl rfl, rfl, hS.step.below⟩

theorem sel1 (a b : Bool) : Gives Try.prog 63 [v1, v2, .bool a, .bool b] w fun v w' => v = .bool b ∧ Below w.heap.size w w' := by
  refine fn_of Try.func63 rfl Try.ntmps63 (Nat.le_of_ble_eq_true rfl) ?_
  have hT := Below.refl w.heap.size w
  refine e_seq fun K hK => ?_
  refine e_region_text rfl ?_
  refine q_assign rfl rfl ?_
  refine eseq_nil ?_
  refine hK _ _ ?_; clear hK
  refine e_seq fun K hK => ?_
  refine e_region_text rfl ?_
  refine q_move rfl rfl ?_
  refine q_assign rfl rfl ?_
  refine eseq_nil ?_
  refine hK _ _ ?_; clear hK
  refine e_ret ?_
  exact ⟨_, res1 rfl rfl, rfl, hT⟩
theorem sel2 (a b : Bool) : Gives Try.prog 64 [v1, v2, .bool a, .bool b] w fun v w' => v = .bool a ∧ Below w.heap.size w w' := by
  refine fn_of Try.func64 rfl Try.ntmps64 (Nat.le_of_ble_eq_true rfl) ?_
  have hT := Below.refl w.heap.size w
  refine e_seq fun K hK => ?_
  refine e_region_text rfl ?_
  refine q_assign rfl rfl ?_
  refine eseq_nil ?_
  refine hK _ _ ?_; clear hK
  refine e_seq fun K hK => ?_
  refine e_region_text rfl ?_
  refine q_move rfl rfl ?_
  refine q_assign rfl rfl ?_
  refine eseq_nil ?_
  refine hK _ _ ?_; clear hK
  refine e_ret ?_
  exact ⟨_, res1 rfl rfl, rfl, hT⟩
theorem sel3 (h1 : IsSlice Ty.int w S1 v1 l1) (h2 : IsSlice Ty.int w S2 v2 l2) (hl : l1.length ≤ 1000000) (hl2 : l2.length ≤ 1000000) (a b : Bool) : Gives Try.prog 65 [v1, v2, .bool a, .bool b] w fun v w' => v = .bool (b && newV l1 l2) ∧ Below w.heap.size w w' := by
  refine fn_of Try.func65 rfl Try.ntmps65 (Nat.le_of_ble_eq_true rfl) ?_
  have hT := Below.refl w.heap.size w
  refine e_seq fun K hK => ?_
  refine e_region_text rfl ?_
  refine q_assign rfl rfl ?_
  refine eseq_nil ?_
  refine hK _ _ ?_; clear hK
  refine e_seq fun K hK => ?_
  refine e_region_text rfl ?_
  refine q_move rfl rfl ?_
  refine q_move rfl rfl ?_
  refine g_and 3 rfl trivial rfl rfl ?_; apply Exists.intro; refine ⟨fun hg => ?_, fun hg => ?_, fun wm1 hBm1 => ?_⟩
  · have hg0 := hg
    have hTm1 := Below.refl (World.heap w).size w
    try simp at hg
    refine g_run rfl ?_; refine q_move rfl rfl ?_
    refine g_run rfl ?_; refine q_move rfl rfl ?_
    refine g_run rfl ?_; refine q_call rfl (news26 h1 h2 hl hl2) rfl ?_
    rintro _ w2 ⟨rfl, hB2⟩; refine ⟨fun _ => .of_below hB2, ?_⟩
    replace h1 := h1.ext hB2
    replace h2 := h2.ext hB2
    replace hT := hT.trans (Below.mono hB2 hT.size)
    replace hTm1 := hTm1.trans (Below.mono hB2 hTm1.size)
    exact eseq_nil ⟨hTm1, Sub.set rfl (Sub.set rfl (Sub.set rfl (Sub.bool true rfl hg0))), rfl⟩
  · have hg0 := hg
    refine g_skip rfl rfl rfl ?_
    refine g_skip rfl rfl rfl ?_
    refine g_skip rfl rfl rfl ?_
    exact eseq_nil ⟨rfl, Sub.set rfl (Sub.set rfl (Sub.set rfl (Sub.bool false rfl hg0)))⟩
  replace h1 := h1.ext hBm1
  replace h2 := h2.ext hBm1
  replace hT := hT.trans (Below.mono hBm1 hT.size)
  refine q_assign rfl rfl ?_
  refine eseq_nil ?_
  refine hK _ _ ?_; clear hK
  refine e_ret ?_
  exact ⟨_, res1 rfl rfl, rfl, hT⟩
theorem sel4 (h1 : IsSlice Ty.int w S1 v1 l1) (h2 : IsSlice Ty.int w S2 v2 l2) (hl : l1.length ≤ 1000000) (hl2 : l2.length ≤ 1000000) (a b : Bool) : Gives Try.prog 67 [v1, v2, .bool a, .bool b] w fun v w' => v = .bool (a && newV l1 l2) ∧ Below w.heap.size w w' := by
  refine fn_of Try.func67 rfl Try.ntmps67 (Nat.le_of_ble_eq_true rfl) ?_
  have hT := Below.refl w.heap.size w
  refine e_seq fun K hK => ?_
  refine e_region_text rfl ?_
  refine q_assign rfl rfl ?_
  refine eseq_nil ?_
  refine hK _ _ ?_; clear hK
  refine e_seq fun K hK => ?_
  refine e_region_text rfl ?_
  refine q_move rfl rfl ?_
  refine q_move rfl rfl ?_
  refine g_and 3 rfl trivial rfl rfl ?_; apply Exists.intro; refine ⟨fun hg => ?_, fun hg => ?_, fun wm1 hBm1 => ?_⟩
  · have hg0 := hg
    have hTm1 := Below.refl (World.heap w).size w
    try simp at hg
    refine g_run rfl ?_; refine q_move rfl rfl ?_
    refine g_run rfl ?_; refine q_move rfl rfl ?_
    refine g_run rfl ?_; refine q_call rfl (news26 h1 h2 hl hl2) rfl ?_
    rintro _ w2 ⟨rfl, hB2⟩; refine ⟨fun _ => .of_below hB2, ?_⟩
    replace h1 := h1.ext hB2
    replace h2 := h2.ext hB2
    replace hT := hT.trans (Below.mono hB2 hT.size)
    replace hTm1 := hTm1.trans (Below.mono hB2 hTm1.size)
    exact eseq_nil ⟨hTm1, Sub.set rfl (Sub.set rfl (Sub.set rfl (Sub.bool true rfl hg0))), rfl⟩
  · have hg0 := hg
    refine g_skip rfl rfl rfl ?_
    refine g_skip rfl rfl rfl ?_
    refine g_skip rfl rfl rfl ?_
    exact eseq_nil ⟨rfl, Sub.set rfl (Sub.set rfl (Sub.set rfl (Sub.bool false rfl hg0)))⟩
  replace h1 := h1.ext hBm1
  replace h2 := h2.ext hBm1
  replace hT := hT.trans (Below.mono hBm1 hT.size)
  refine q_assign rfl rfl ?_
  refine eseq_nil ?_
  refine hK _ _ ?_; clear hK
  refine e_ret ?_
  exact ⟨_, res1 rfl rfl, rfl, hT⟩
theorem sel5 (a b : Bool) : Gives Try.prog 68 [v1, v2, .bool a, .bool b] w fun v w' => v = .bool false ∧ Below w.heap.size w w' := by
  refine fn_of Try.func68 rfl Try.ntmps68 (Nat.le_of_ble_eq_true rfl) ?_
  have hT := Below.refl w.heap.size w
  refine e_seq fun K hK => ?_
  refine e_region_text rfl ?_
  refine q_assign rfl rfl ?_
  refine eseq_nil ?_
  refine hK _ _ ?_; clear hK
  refine e_seq fun K hK => ?_
  refine e_region_text rfl ?_
  refine q_assign rfl rfl ?_
  refine eseq_nil ?_
  refine hK _ _ ?_; clear hK
  refine e_ret ?_
  exact ⟨_, res1 rfl rfl, rfl, hT⟩

/-- the function of a rule -/
def condF (rule : Int) : FuncId := if rule = 1 then 63 else if rule = 2 then 64 else if rule = 3 then 65 else if rule = 4 then 67 else 68
instance (rule : Int) : TFn Try.prog (condF rule) := by
  unfold condF
  split
  · infer_instance
  split
  · infer_instance
  split
  · infer_instance
  split
  · infer_instance
  · infer_instance
theorem cond26 (h1 : IsSlice Ty.int w S1 v1 l1) (h2 : IsSlice Ty.int w S2 v2 l2) (hl : l1.length ≤ 1000000) (hl2 : l2.length ≤ 1000000) (rule : Int) (a b : Bool) :
    Gives Try.prog (condF rule) [v1, v2, .bool a, .bool b] w fun v w' => v = .bool (forcesV rule l1 l2 a b) ∧ Below w.heap.size w w' := by
  unfold condF forcesV
  split
  · exact sel1 a b
  split
  · exact sel2 a b
  split
  · exact sel3 h1 h2 hl hl2 a b
  split
  · exact sel4 h1 h2 hl hl2 a b
  · exact sel5 a b

theorem selected26 (rule : Int) : Gives Try.prog 43 [.int .i64 rule] w fun v w' => v = .func (.func (condF rule)) #[] #[] ∧ Below w.heap.size w w' := by
  refine fn_of Try.func43 rfl Try.ntmps43 (Nat.le_of_ble_eq_true rfl) ?_
  have hT := Below.refl w.heap.size w
  refine e_seq fun K hK => ?_
  refine e_region_text rfl ?_
  refine q_assign rfl rfl ?_
  refine eseq_nil ?_
  refine hK _ _ ?_; clear hK
  refine e_seq fun K hK => ?_
  refine e_seq fun K hK => ?_
  refine e_region_text rfl ?_
  refine q_move rfl rfl ?_
  refine eseq_nil ?_
  refine hK _ _ ?_; clear hK
  refine e_block ?_
  refine e_seq fun K hK => ?_
  refine e_region_text rfl ?_
  refine q_eql rfl rfl rfl ?_
  refine q_assign rfl rfl ?_
  refine eseq_nil ?_
  refine hK _ _ ?_; clear hK
  refine e_cond rfl (fun h1 => ?_) (fun h1 => ?_)
  · skip
    have h1 : rule = 1 := by simpa using h1
    refine e_seq fun K hK => ?_
    refine e_region_text rfl ?_
    refine q_assign rfl rfl ?_
    refine eseq_nil ?_
    refine hK _ _ ?_; clear hK
    refine e_ret ?_
    exact ⟨_, res1 rfl rfl, by rw [condF, if_pos h1], hT⟩
  have h1 : ¬ rule = 1 := by simpa using h1
  refine e_seq fun K hK => ?_
  refine e_region_text rfl ?_
  refine q_eql rfl rfl rfl ?_
  refine q_assign rfl rfl ?_
  refine eseq_nil ?_
  refine hK _ _ ?_; clear hK
  refine e_cond rfl (fun h2 => ?_) (fun h2 => ?_)
  · skip
    have h2 : rule = 2 := by simpa using h2
    refine e_seq fun K hK => ?_
    refine e_region_text rfl ?_
    refine q_assign rfl rfl ?_
    refine eseq_nil ?_
    refine hK _ _ ?_; clear hK
    refine e_ret ?_
    exact ⟨_, res1 rfl rfl, by rw [condF, if_neg h1, if_pos h2], hT⟩
  have h2 : ¬ rule = 2 := by simpa using h2
  refine e_seq fun K hK => ?_
  refine e_region_text rfl ?_
  refine q_eql rfl rfl rfl ?_
  refine q_assign rfl rfl ?_
  refine eseq_nil ?_
  refine hK _ _ ?_; clear hK
  refine e_cond rfl (fun h3 => ?_) (fun h3 => ?_)
  · skip
    have h3 : rule = 3 := by simpa using h3
    refine e_seq fun K hK => ?_
    refine e_region_text rfl ?_
    refine q_assign rfl rfl ?_
    refine eseq_nil ?_
    refine hK _ _ ?_; clear hK
    refine e_ret ?_
    exact ⟨_, res1 rfl rfl, by rw [condF, if_neg h1, if_neg h2, if_pos h3], hT⟩
  have h3 : ¬ rule = 3 := by simpa using h3
  refine e_seq fun K hK => ?_
  refine e_region_text rfl ?_
  refine q_eql rfl rfl rfl ?_
  refine q_assign rfl rfl ?_
  refine eseq_nil ?_
  refine hK _ _ ?_; clear hK
  refine e_cond rfl (fun h4 => ?_) (fun h4 => ?_)
  · skip
    have h4 : rule = 4 := by simpa using h4
    refine e_seq fun K hK => ?_
    refine e_region_text rfl ?_
    refine q_assign rfl rfl ?_
    refine eseq_nil ?_
    refine hK _ _ ?_; clear hK
    refine e_ret ?_
    exact ⟨_, res1 rfl rfl, by rw [condF, if_neg h1, if_neg h2, if_neg h3, if_pos h4], hT⟩
  have h4 : ¬ rule = 4 := by simpa using h4
  refine e_skip ?_
  refine hK _ _ ?_; clear hK
  refine e_seq fun K hK => ?_
  refine e_region_text rfl ?_
  refine q_assign rfl rfl ?_
  refine eseq_nil ?_
  refine hK _ _ ?_; clear hK
  refine e_ret ?_
  exact ⟨_, res1 rfl rfl, by rw [condF, if_neg h1, if_neg h2, if_neg h3, if_neg h4], hT⟩

theorem forces26 (h1 : IsSlice Ty.int w S1 v1 l1) (h2 : IsSlice Ty.int w S2 v2 l2) (hl : l1.length ≤ 1000000) (hl2 : l2.length ≤ 1000000) (rule : Int) (a b : Bool) :
    Gives Try.prog 23 [.int .i64 rule, v1, v2, .bool a, .bool b] w fun v w' => v = .bool (forcesV rule l1 l2 a b) ∧ Below w.heap.size w w' := by
  refine fn_of Try.func23 rfl Try.ntmps23 (Nat.le_of_ble_eq_true rfl) ?_
  have hT := Below.refl w.heap.size w
  refine e_seq fun K hK => ?_
  refine e_region_text rfl ?_
  refine q_assign rfl rfl ?_
  refine eseq_nil ?_
  refine hK _ _ ?_; clear hK
  refine e_seq fun K hK => ?_
  refine e_region_text rfl ?_
  refine q_move rfl rfl ?_
  refine q_call rfl (selected26 rule) rfl ?_
  rintro _ w1 ⟨rfl, hB1⟩; refine ⟨fun _ => .of_below hB1, ?_⟩
  replace h1 := h1.ext hB1
  replace h2 := h2.ext hB1
  replace hT := hT.trans (Below.mono hB1 hT.size)
  refine q_move rfl rfl ?_
  refine q_move rfl rfl ?_
  refine q_move rfl rfl ?_
  refine q_move rfl rfl ?_
  refine q_callV rfl rfl (cond26 h1 h2 hl hl2 rule a b) rfl ?_
  rintro _ wc ⟨rfl, hBc⟩; refine ⟨fun _ => .of_below hBc, ?_⟩
  replace h1 := h1.ext hBc
  replace h2 := h2.ext hBc
  replace hT := hT.trans (Below.mono hBc hT.size)
  refine q_assign rfl rfl ?_
  refine eseq_nil ?_
  refine hK _ _ ?_; clear hK
  refine e_ret ?_
  exact ⟨_, res1 rfl rfl, rfl, hT⟩

theorem newR26 (h1 : IsSlice Ty.int w S1 v1 l1) (h2 : IsSlice Ty.int w S2 v2 l2) (hl : l1.length ≤ 1000000) (hl2 : l2.length ≤ 1000000) :
    Gives Try.prog 44 [v1, v2] w fun v w' => v = .bool (newV l1 l2) ∧ Below w.heap.size w w' := by
  replace h1 := h1.old; replace h2 := h2.old
  have hS := Sep.start w
  refine fn_of Try.func44 rfl Try.ntmps44 (Nat.le_of_ble_eq_true rfl) ?_
  have hT := Below.refl w.heap.size w
  refine e_seq fun K hK => ?_
  refine e_region_text rfl ?_
  refine q_assign rfl rfl ?_
  refine eseq_nil ?_
  refine hK _ _ ?_; clear hK
  refine e_seq fun K hK => ?_
  refine e_seq fun K hK => ?_
  refine e_region_text rfl ?_
  refine q_assign rfl rfl ?_
  refine eseq_nil ?_
  refine hK _ _ ?_; clear hK
  refine e_block ?_
  refine e_loop (fun mm E wfor => ∃ k : Nat, (k ≤ l1.length ∧ ∀ i, i < k → i < l2.length ∧ nth l2 i ≤ nth l1 i) ∧ mm = l1.length - k ∧ Below (World.heap w).size w wfor ∧ E = [(0, v1), (1, v2), (5, .int .i64 k)]) _ ⟨_, ⟨0, ⟨Nat.zero_le _, fun i hi => absurd hi (Nat.not_lt_zero _)⟩, rfl, Below.refl _ _, rfl⟩, Sub.cons rfl (Sub.cons rfl (Sub.cons rfl (Sub.nil _)))⟩ ?_
  rintro mm E wl1 ⟨k, hk1, rfl, hTl1, rfl⟩
  replace h1 := h1.ext hTl1
  replace h2 := h2.ext hTl1
  replace hS := hS.below hTl1
  refine e_seq fun K hK => ?_
  refine e_seq fun K hK => ?_
  refine e_region_text rfl ?_
  refine q_move rfl rfl ?_
  refine q_move rfl rfl ?_
  refine q_lenS rfl h1 rfl ?_
  refine q_lss rfl rfl rfl ?_
  refine q_move rfl rfl ?_
  refine g_and 4 rfl trivial rfl rfl ?_; apply Exists.intro; refine ⟨fun hg => ?_, fun hg => ?_, fun wm2 hBm2 => ?_⟩
  · have hg0 := hg
    have hTm2 := Below.refl (World.heap wl1).size wl1
    try simp at hg
    refine g_run rfl ?_; refine q_move rfl rfl ?_
    refine g_run rfl ?_; refine q_move rfl rfl ?_
    refine g_run rfl ?_; refine q_lenS rfl h2 rfl ?_
    refine g_run rfl ?_; refine q_lss rfl rfl rfl ?_
    exact eseq_nil ⟨hTm2, Sub.set rfl (Sub.set rfl (Sub.set rfl (Sub.set rfl (Sub.bool true rfl hg0)))), rfl⟩
  · have hg0 := hg
    refine g_skip rfl rfl rfl ?_
    refine g_skip rfl rfl rfl ?_
    refine g_skip rfl rfl rfl ?_
    refine g_skip rfl rfl rfl ?_
    exact eseq_nil ⟨rfl, Sub.set rfl (Sub.set rfl (Sub.set rfl (Sub.set rfl (Sub.bool false rfl hg0))))⟩
  replace h1 := h1.ext hBm2
  replace h2 := h2.ext hBm2
  replace hS := hS.below hBm2
  replace hTl1 := hTl1.trans (Below.mono hBm2 hTl1.size)
  refine eseq_nil ?_
  refine hK _ _ ?_; clear hK
  refine e_cond rfl (fun hc => ?_) (fun hc => ?_)
  · skip
    have hlt : k < l1.length ∧ k < l2.length := by simpa using hc
    refine e_skip ?_
    refine hK _ _ ?_; clear hK
    refine e_seq fun K hK => ?_
    refine e_block ?_
    refine e_seq fun K hK => ?_
    refine e_region_draw mixed (fun _ => False) [0, 0, 3, 7, 0, 0, 48, 112, 255] [] [0, 1, 2, 3, 4, 5, 6, 7, 8] (by kernel_rfl) ?_
    refine q_move rfl rfl ?_
    refine q_move rfl rfl ?_
    first | refine q_indexSn (by infer_instance) rfl h2 rfl (by first | omega | decide) rfl fun b20 o20 f20 => ?_ | refine q_indexS (by infer_instance) rfl h2 rfl (by first | omega | decide) (by first | omega | decide) rfl fun b20 o20 f20 => ?_
    refine q_load rfl (El.intCell f20) rfl ?_
    refine q_move rfl rfl ?_
    refine q_move rfl rfl ?_
    first | refine q_indexSn (by infer_instance) rfl h1 rfl (by first | omega | decide) rfl fun b24 o24 f24 => ?_ | refine q_indexS (by infer_instance) rfl h1 rfl (by first | omega | decide) (by first | omega | decide) rfl fun b24 o24 f24 => ?_
    refine q_load rfl (El.intCell f24) rfl ?_
    refine q_gtr rfl rfl rfl ?_
    refine eseq_nil ?_
    refine hK _ _ ?_; clear hK
    refine e_cond rfl (fun hc2 => ?_) (fun hc2 => ?_)
    · skip
      refine e_seq fun K hK => ?_
      refine e_region_text rfl ?_
      refine q_assign rfl rfl ?_
      refine eseq_nil ?_
      refine hK _ _ ?_; clear hK
      refine e_ret ?_
      exact ⟨_, res1 rfl rfl, by rw [newV_true hlt.1 hlt.2 (by simpa using hc2)], hS.step.below⟩
    · skip
      refine e_skip ?_
      refine hK _ _ ?_; clear hK
      refine e_region_text rfl ?_
      refine q_move rfl rfl ?_
      refine q_add rfl rfl (wr64 (by omega) (by omega)) rfl ?_
      refine q_assign rfl rfl ?_
      refine eseq_nil ?_
      refine ⟨l1.length - (k + 1), _, by omega, ⟨k + 1, ⟨by omega, fun i hi => (by rcases Nat.lt_or_ge i k with h | h; exact hk1.2 i h; obtain rfl : i = k := (by omega); exact ⟨hlt.2, (by simpa using hc2)⟩)⟩, rfl, hTl1, rfl⟩, Sub.cons rfl (Sub.cons rfl (Sub.cons rfl (Sub.nil _)))⟩
  · skip
    have hge : l1.length ≤ k ∨ l2.length ≤ k := by simp at hc; omega
    refine e_exit ?_
    clear hK
    refine hK _ _ ?_; clear hK
    refine e_seq fun K hK => ?_
    refine e_region_text rfl ?_
    refine q_assign rfl rfl ?_
    refine eseq_nil ?_
    refine hK _ _ ?_; clear hK
    refine e_ret ?_
    exact ⟨_, res1 rfl rfl, by rw [newV_false fun i hi1 hi2 => (hk1.2 i (by omega)).2], hS.step.below⟩

theorem forcesR26 (h1 : IsSlice Ty.int w S1 v1 l1) (h2 : IsSlice Ty.int w S2 v2 l2) (hl : l1.length ≤ 1000000) (hl2 : l2.length ≤ 1000000) (rule : Int) (a b : Bool) :
    Gives Try.prog 24 [.int .i64 rule, v1, v2, .bool a, .bool b] w fun v w' => v = .bool (forcesV rule l1 l2 a b) ∧ Below w.heap.size w w' := by
  refine fn_of Try.func24 rfl Try.ntmps24 (Nat.le_of_ble_eq_true rfl) ?_
  have hT := Below.refl w.heap.size w
  refine e_seq fun K hK => ?_
  refine e_region_text rfl ?_
  refine q_assign rfl rfl ?_
  refine eseq_nil ?_
  refine hK _ _ ?_; clear hK
  refine e_seq fun K hK => ?_
  refine e_seq fun K hK => ?_
  refine e_region_text rfl ?_
  refine q_move rfl rfl ?_
  refine eseq_nil ?_
  refine hK _ _ ?_; clear hK
  refine e_block ?_
  refine e_seq fun K hK => ?_
  refine e_region_text rfl ?_
  refine q_eql rfl rfl rfl ?_
  refine q_assign rfl rfl ?_
  refine eseq_nil ?_
  refine hK _ _ ?_; clear hK
  refine e_cond rfl (fun g1 => ?_) (fun g1 => ?_)
  · skip
    have g1 : rule = 1 := by simpa using g1
    refine e_seq fun K hK => ?_
    refine e_region_text rfl ?_
    refine q_move rfl rfl ?_
    refine q_assign rfl rfl ?_
    refine eseq_nil ?_
    refine hK _ _ ?_; clear hK
    refine e_ret ?_
    exact ⟨_, res1 rfl rfl, by rw [forcesV, if_pos g1], hT⟩
  have g1 : ¬ rule = 1 := by simpa using g1
  refine e_seq fun K hK => ?_
  refine e_region_text rfl ?_
  refine q_eql rfl rfl rfl ?_
  refine q_assign rfl rfl ?_
  refine eseq_nil ?_
  refine hK _ _ ?_; clear hK
  refine e_cond rfl (fun g2 => ?_) (fun g2 => ?_)
  · skip
    have g2 : rule = 2 := by simpa using g2
    refine e_seq fun K hK => ?_
    refine e_region_text rfl ?_
    refine q_move rfl rfl ?_
    refine q_assign rfl rfl ?_
    refine eseq_nil ?_
    refine hK _ _ ?_; clear hK
    refine e_ret ?_
    exact ⟨_, res1 rfl rfl, by rw [forcesV, if_neg g1, if_pos g2], hT⟩
  have g2 : ¬ rule = 2 := by simpa using g2
  refine e_seq fun K hK => ?_
  refine e_region_text rfl ?_
  refine q_eql rfl rfl rfl ?_
  refine q_assign rfl rfl ?_
  refine eseq_nil ?_
  refine hK _ _ ?_; clear hK
  refine e_cond rfl (fun g3 => ?_) (fun g3 => ?_)
  · skip
    have g3 : rule = 3 := by simpa using g3
    refine e_seq fun K hK => ?_
    refine e_region_text rfl ?_
    refine q_move rfl rfl ?_
    refine q_move rfl rfl ?_
    refine g_and 3 rfl trivial rfl rfl ?_; apply Exists.intro; refine ⟨fun hg => ?_, fun hg => ?_, fun wm1 hBm1 => ?_⟩
    · have hg0 := hg
      have hTm1 := Below.refl (World.heap w).size w
      try simp at hg
      refine g_run rfl ?_; refine q_move rfl rfl ?_
      refine g_run rfl ?_; refine q_move rfl rfl ?_
      refine g_run rfl ?_; refine q_call rfl (newR26 h1 h2 hl hl2) rfl ?_
      rintro _ w2 ⟨rfl, hB2⟩; refine ⟨fun _ => .of_below hB2, ?_⟩
      replace h1 := h1.ext hB2
      replace h2 := h2.ext hB2
      replace hT := hT.trans (Below.mono hB2 hT.size)
      replace hTm1 := hTm1.trans (Below.mono hB2 hTm1.size)
      exact eseq_nil ⟨hTm1, Sub.set rfl (Sub.set rfl (Sub.set rfl (Sub.bool true rfl hg0))), rfl⟩
    · have hg0 := hg
      refine g_skip rfl rfl rfl ?_
      refine g_skip rfl rfl rfl ?_
      refine g_skip rfl rfl rfl ?_
      exact eseq_nil ⟨rfl, Sub.set rfl (Sub.set rfl (Sub.set rfl (Sub.bool false rfl hg0)))⟩
    replace h1 := h1.ext hBm1
    replace h2 := h2.ext hBm1
    replace hT := hT.trans (Below.mono hBm1 hT.size)
    refine q_assign rfl rfl ?_
    refine eseq_nil ?_
    refine hK _ _ ?_; clear hK
    refine e_ret ?_
    exact ⟨_, res1 rfl rfl, by rw [forcesV, if_neg g1, if_neg g2, if_pos g3], hT⟩
  have g3 : ¬ rule = 3 := by simpa using g3
  refine e_seq fun K hK => ?_
  refine e_region_text rfl ?_
  refine q_eql rfl rfl rfl ?_
  refine q_assign rfl rfl ?_
  refine eseq_nil ?_
  refine hK _ _ ?_; clear hK
  refine e_cond rfl (fun g4 => ?_) (fun g4 => ?_)
  · skip
    have g4 : rule = 4 := by simpa using g4
    refine e_seq fun K hK => ?_
    refine e_region_text rfl ?_
    refine q_move rfl rfl ?_
    refine q_move rfl rfl ?_
    refine g_and 3 rfl trivial rfl rfl ?_; apply Exists.intro; refine ⟨fun hg => ?_, fun hg => ?_, fun wm3 hBm3 => ?_⟩
    · have hg0 := hg
      have hTm3 := Below.refl (World.heap w).size w
      try simp at hg
      refine g_run rfl ?_; refine q_move rfl rfl ?_
      refine g_run rfl ?_; refine q_move rfl rfl ?_
      refine g_run rfl ?_; refine q_call rfl (newR26 h1 h2 hl hl2) rfl ?_
      rintro _ w4 ⟨rfl, hB4⟩; refine ⟨fun _ => .of_below hB4, ?_⟩
      replace h1 := h1.ext hB4
      replace h2 := h2.ext hB4
      replace hT := hT.trans (Below.mono hB4 hT.size)
      replace hTm3 := hTm3.trans (Below.mono hB4 hTm3.size)
      exact eseq_nil ⟨hTm3, Sub.set rfl (Sub.set rfl (Sub.set rfl (Sub.bool true rfl hg0))), rfl⟩
    · have hg0 := hg
      refine g_skip rfl rfl rfl ?_
      refine g_skip rfl rfl rfl ?_
      refine g_skip rfl rfl rfl ?_
      exact eseq_nil ⟨rfl, Sub.set rfl (Sub.set rfl (Sub.set rfl (Sub.bool false rfl hg0)))⟩
    replace h1 := h1.ext hBm3
    replace h2 := h2.ext hBm3
    replace hT := hT.trans (Below.mono hBm3 hT.size)
    refine q_assign rfl rfl ?_
    refine eseq_nil ?_
    refine hK _ _ ?_; clear hK
    refine e_ret ?_
    exact ⟨_, res1 rfl rfl, by rw [forcesV, if_neg g1, if_neg g2, if_neg g3, if_pos g4], hT⟩
  have g4 : ¬ rule = 4 := by simpa using g4
  refine e_skip ?_
  refine hK _ _ ?_; clear hK
  refine e_seq fun K hK => ?_
  refine e_region_text rfl ?_
  refine q_assign rfl rfl ?_
  refine eseq_nil ?_
  refine hK _ _ ?_; clear hK
  refine e_ret ?_
  exact ⟨_, res1 rfl rfl, by rw [forcesV, if_neg g1, if_neg g2, if_neg g3, if_neg g4], hT⟩

theorem mergeR26 {F R : Nat → Prop} {a b : List Int} (h : Sep F R R w w []) (h1 : IsSlice Ty.int w R v1 a) (h2 : IsSlice Ty.int w R v2 b) (hl : a.length ≤ 1000000) (hl2 : b.length ≤ 1000000) :
    Gives Try.prog 14 [v1, v2] w fun v' w' => Sep F R R w w' [HP.own Ty.int (fun _ => False) 3 v' (mergeV a b)] := by
  have hS := h
  refine fn_of Try.func14 rfl Try.ntmps14 (Nat.le_of_ble_eq_true rfl) ?_
  have hT := Below.refl w.heap.size w
  refine e_seq fun K hK => ?_
  refine e_region_text rfl ?_
  refine q_assign rfl rfl ?_
  refine eseq_nil ?_
  refine hK _ _ ?_; clear hK
  refine e_seq fun K hK => ?_
  refine e_region_text rfl ?_
  refine q_move rfl rfl ?_
  replace hS := hS.nilOwn0 Ty.int 3
  refine q_appendS rfl rfl rfl rfl (hS.own 0 rfl) rfl h1 Enc.any (by simp; omega) (Nat.zero_le _) rfl (fun h => by cases h) fun v8 wz hwz hgz hnz => ?_
  have hkz := hS.keptOwn 0 rfl hgz
  replace h1 := h1.kept hkz
  replace h2 := h2.kept hkz
  replace hS := hS.setOwn 0 rfl hwz hgz hnz; simp only [List.set, List.nil_append] at hS
  refine q_assign rfl rfl ?_
  refine eseq_nil ?_
  refine hK _ _ ?_; clear hK
  refine e_seq fun K hK => ?_
  refine e_seq fun K hK => ?_
  refine e_region_text rfl ?_
  refine q_assign rfl rfl ?_
  refine eseq_nil ?_
  refine hK _ _ ?_; clear hK
  refine e_block ?_
  have h20 := h2
  obtain ⟨ad2, c2, rfl, -, -, -, -⟩ := h20
  refine e_loop (fun m E wx => ∃ k : Nat, k ≤ a.length ∧ Sep F R R w wx [HP.own Ty.int (fun _ => False) 3 v8 (mergeV a (b.take k))] ∧ IsSlice Ty.int wx R (.slice ad2 b.length c2) b ∧ m = a.length - k ∧ E = [(1, .slice ad2 b.length c2), (5, v8), (6, .int .i64 k)]) _ ⟨_, ⟨0, Nat.zero_le _, by rw [List.take_zero, mergeV_nil]; exact hS, h2, rfl, rfl⟩, Sub.cons rfl (Sub.cons rfl (Sub.cons rfl (Sub.nil _)))⟩ ?_
  clear hS h2 hkz hwz hgz hnz
  rintro m E wx ⟨k, hk, hS, h2, rfl, rfl⟩
  have hml := mergeV_length (a := a) (b := b.take k)
  refine e_seq fun K hK => ?_
  refine e_seq fun K hK => ?_
  refine e_region_text rfl ?_
  refine q_move rfl rfl ?_
  refine q_move rfl rfl ?_
  refine q_lenS rfl (hS.isl 0 rfl) rfl ?_
  refine q_lss rfl rfl rfl ?_
  refine q_move rfl rfl ?_
  refine g_and 4 rfl trivial rfl rfl ?_; apply Exists.intro; refine ⟨fun hg => ?_, fun hg => ?_, fun wm1 hBm1 => ?_⟩
  · have hg0 := hg
    have hTm1 := Below.refl (World.heap wx).size wx
    try simp at hg
    refine g_run rfl ?_; refine q_move rfl rfl ?_
    refine g_run rfl ?_; refine q_move rfl rfl ?_
    refine g_run rfl ?_; refine q_lenS rfl h2 rfl ?_
    refine g_run rfl ?_; refine q_lss rfl rfl rfl ?_
    exact eseq_nil ⟨hTm1, Sub.set rfl (Sub.set rfl (Sub.set rfl (Sub.set rfl (Sub.bool true rfl hg0)))), rfl⟩
  · have hg0 := hg
    refine g_skip rfl rfl rfl ?_
    refine g_skip rfl rfl rfl ?_
    refine g_skip rfl rfl rfl ?_
    refine g_skip rfl rfl rfl ?_
    exact eseq_nil ⟨rfl, Sub.set rfl (Sub.set rfl (Sub.set rfl (Sub.set rfl (Sub.bool false rfl hg0))))⟩
  replace h2 := h2.ext hBm1
  replace hS := hS.below hBm1
  refine eseq_nil ?_
  refine hK _ _ ?_; clear hK
  refine e_cond rfl (fun hc => ?_) (fun hc => ?_)
  · skip
    have hlt : k < a.length ∧ k < b.length := by simp at hc; omega
    obtain ⟨g, cap, cur, hv, hb, hcl⟩ := (hS.own 0 rfl).form (by omega)
    subst hv
    refine e_skip ?_
    refine hK _ _ ?_; clear hK
    refine e_seq fun K hK => ?_
    refine e_block ?_
    refine e_region_draw mixed (fun _ => False) [0, 0, 0, 0, 12, 28, 0, 0, 192, 448, 1020, 2047, 4095] [] [0, 1, 2, 3, 4, 5, 6, 7, 8, 9, 10, 11, 12] (by kernel_rfl) ?_
    refine q_move rfl rfl ?_
    refine q_move rfl rfl ?_
    refine q_move rfl rfl ?_
    refine q_move rfl rfl ?_
    first | refine q_indexn rfl rfl (by omega) rfl ?_ | refine q_index rfl rfl ⟨by omega, by omega⟩ rfl ?_
    refine q_load rfl (Own.cellAt (hS.own 0 rfl) k 0 (by omega) rfl) rfl ?_
    refine q_move rfl rfl ?_
    refine q_move rfl rfl ?_
    first | refine q_indexSn (by infer_instance) rfl h2 rfl (by first | omega | decide) rfl fun b29 o29 f29 => ?_ | refine q_indexS (by infer_instance) rfl h2 rfl (by first | omega | decide) (by first | omega | decide) rfl fun b29 o29 f29 => ?_
    refine q_load rfl (El.intCell f29) rfl ?_
    refine q_max rfl rfl rfl ?_
    first | refine q_indexn rfl rfl (by omega) rfl ?_ | refine q_index rfl rfl ⟨by omega, by omega⟩ rfl ?_
    refine q_storeOwn (i := k) (j := 0) rfl rfl (hS.own 0 rfl) (by omega) rfl rfl rfl (fun _ h => h.elim) (max (nth (mergeV a (b.take k)) k) (nth b k)) rfl fun ws hws hOs => ?_
    have hks := hS.keptOwnO 0 rfl hOs
    replace h2 := h2.kept hks
    replace hS := hS.putOwn 0 rfl hws hOs; simp only [List.set] at hS
    refine eseq_nil ?_
    refine hK _ _ ?_; clear hK
    refine e_region_text rfl ?_
    refine q_move rfl rfl ?_
    refine q_add rfl rfl (wr64 (by omega) (by omega)) rfl ?_
    refine q_assign rfl rfl ?_
    refine eseq_nil ?_
    rw [mergeV_step hlt.1 hlt.2] at hS
    exact ⟨_, _, by omega, ⟨k + 1, by omega, hS, h2, rfl, rfl⟩, Sub.cons rfl (Sub.cons rfl (Sub.cons rfl (Sub.nil _)))⟩
  · skip
    have hge : a.length ≤ k ∨ b.length ≤ k := by simp at hc; omega
    refine e_exit ?_
    clear hK
    refine hK _ _ ?_; clear hK
    refine e_seq fun K hK => ?_
    refine e_region_text rfl ?_
    refine q_move rfl rfl ?_
    refine q_assign rfl rfl ?_
    refine eseq_nil ?_
    refine hK _ _ ?_; clear hK
    refine e_ret ?_
    rw [mergeV_take hge] at hS
    exact ⟨_, res1 rfl rfl, hS⟩
end Go.Proofs.Ythbnbkgijdkcbaa
