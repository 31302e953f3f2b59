/- The rules of chapter 26. -/
import Derived.Test.YtbmjcbhappjnaaaV26a
set_option linter.unusedSimpArgs false
set_option linter.unusedVariables false
namespace Go.Proofs.Ytbmjcbhappjnaaa
open Go.RowKit Go.Mine
attribute [local irreducible] eseq ewp
variable {w : World} {S1 S2 : Nat → Prop} {v1 v2 : Value} {l1 l2 : List Int}

theorem equal26 (h1 : IsSlice Ty.int w S1 v1 l1) (h2 : IsSlice Ty.int w S2 v2 l2) (hl : l1.length ≤ 1000000000) :
    Gives Try.prog 143 [v1, v2] w fun v w' => v = .bool (decide (l1 = l2)) ∧ Below w.heap.size w w' := by
  refine fn_of Try.func143 rfl Try.ntmps143 (Nat.le_of_ble_eq_true rfl) ?_
  have hT := Below.refl w.heap.size w
  refine e_seq fun K hK => ?_
  refine e_region_text rfl ?_
  refine q_assign rfl rfl ?_
  refine eseq_nil ?_
  refine hK _ _ ?_; clear hK
  refine e_seq fun K hK => ?_
  refine e_seq fun K hK => ?_
  refine e_region_text rfl ?_
  refine q_move rfl rfl ?_
  refine q_lenS rfl h1 rfl ?_
  refine q_move rfl rfl ?_
  refine q_lenS rfl h2 rfl ?_
  refine q_neq rfl rfl rfl ?_
  refine eseq_nil ?_
  refine hK _ _ ?_; clear hK
  refine e_cond rfl (fun hb => ?_) (fun hb => ?_)
  · skip
    refine e_seq fun K hK => ?_
    refine e_region_text rfl ?_
    refine q_assign rfl rfl ?_
    refine eseq_nil ?_
    refine hK _ _ ?_; clear hK
    refine e_ret ?_
    have : l1 ≠ l2 := by rintro rfl; simp at hb
    exact ⟨_, res1 rfl rfl, by simp [this], hT⟩
  have hll : l1.length = l2.length := by simp at hb; omega
  refine e_skip ?_
  refine hK _ _ ?_; clear hK
  refine e_seq fun K hK => ?_
  refine e_seq fun K hK => ?_
  refine e_region_text rfl ?_
  refine q_move rfl rfl ?_
  refine q_lenS rfl h1 rfl ?_
  refine q_move rfl rfl ?_
  refine eseq_nil ?_
  refine hK _ _ ?_; clear hK
  refine e_block ?_
  refine e_loop (fun n E w' => ∃ k : Nat, k ≤ l1.length ∧ n = l1.length - k ∧ l1.take k = l2.take k ∧ w' = w ∧ E = [(0, v1), (1, v2), (12, .int .i64 l1.length), (13, .int .i64 k)]) l1.length ⟨_, ⟨0, by omega, by omega, rfl, rfl, rfl⟩, Sub.cons rfl (Sub.cons rfl (Sub.cons rfl (Sub.cons rfl (Sub.nil _))))⟩ ?_
  rintro n E w' ⟨k, hk, rfl, ht, rfl, rfl⟩
  refine e_seq fun K hK => ?_
  refine e_region_text rfl ?_
  refine q_lss rfl rfl rfl ?_
  refine eseq_nil ?_
  refine hK _ _ ?_; clear hK
  refine e_seq fun K hK => ?_
  refine e_cond rfl (fun hb => ?_) (fun hb => ?_)
  · skip
    have hlt : k < l1.length := by simpa using hb
    have hlt2 : k < l2.length := by omega
    refine e_skip ?_
    refine hK _ _ ?_; clear hK
    refine e_seq fun K hK => ?_
    refine e_block ?_
    refine e_seq fun K hK => ?_
    refine e_region_text rfl ?_
    refine q_move rfl rfl ?_
    refine q_assign rfl rfl ?_
    refine eseq_nil ?_
    refine hK _ _ ?_; clear hK
    refine e_seq fun K hK => ?_
    refine e_region_draw mixed (fun _ => False) [0, 0, 3, 7, 0, 0, 48, 112, 255] [] [0, 1, 2, 3, 4, 5, 6, 7, 8] (by kernel_rfl) ?_
    refine q_move rfl rfl ?_
    refine q_move rfl rfl ?_
    first | refine q_indexSn (by infer_instance) rfl h1 rfl (by first | omega | decide) rfl fun b18 o18 f18 => ?_ | refine q_indexS (by infer_instance) rfl h1 rfl (by first | omega | decide) (by first | omega | decide) rfl fun b18 o18 f18 => ?_
    refine q_load rfl (El.intCell f18) rfl ?_
    refine q_move rfl rfl ?_
    refine q_move rfl rfl ?_
    first | refine q_indexSn (by infer_instance) rfl h2 rfl (by first | omega | decide) rfl fun b22 o22 f22 => ?_ | refine q_indexS (by infer_instance) rfl h2 rfl (by first | omega | decide) (by first | omega | decide) rfl fun b22 o22 f22 => ?_
    refine q_load rfl (El.intCell f22) rfl ?_
    refine q_neq rfl rfl rfl ?_
    refine eseq_nil ?_
    refine hK _ _ ?_; clear hK
    refine e_cond rfl (fun hb => ?_) (fun hb => ?_)
    · skip
      refine e_seq fun K hK => ?_
      refine e_region_text rfl ?_
      refine q_assign rfl rfl ?_
      refine eseq_nil ?_
      refine hK _ _ ?_; clear hK
      refine e_ret ?_
      have : l1 ≠ l2 := by rintro rfl; simp at hb
      exact ⟨_, res1 rfl rfl, by simp [this], hT⟩
    · skip
      refine e_skip ?_
      refine hK _ _ ?_; clear hK
      refine e_region_text rfl ?_
      refine q_add rfl rfl (wr64 (by omega) (by omega)) rfl ?_
      refine q_move rfl rfl ?_
      refine eseq_nil ?_
      refine ⟨l1.length - (k + 1), _, by omega, ⟨k + 1, by omega, rfl, ?_, rfl, rfl⟩, Sub.cons rfl (Sub.cons rfl (Sub.cons rfl (Sub.cons rfl (Sub.nil _))))⟩
      have hh : l1[k] = l2[k] := by simpa [nth_eq hlt, nth_eq hlt2] using hb
      rw [List.take_succ_eq_append_getElem hlt, List.take_succ_eq_append_getElem hlt2, ht, hh]
  · skip
    have hge : k = l1.length := by simp at hb; omega
    refine e_exit ?_
    clear hK
    refine hK _ _ ?_; clear hK
    refine e_seq fun K hK => ?_
    refine e_region_text rfl ?_
    refine q_assign rfl rfl ?_
    refine eseq_nil ?_
    refine hK _ _ ?_; clear hK
    refine e_ret ?_
    refine ⟨_, res1 rfl rfl, ?_, hT⟩
    have : l1 = l2 := by
      rw [← List.take_of_length_le (Nat.le_of_eq hge.symm) (l := l1), ← List.take_of_length_le (show l2.length ≤ k by omega) (l := l2)]; exact ht
    simp [this]

theorem news26 (h1 : IsSlice Ty.int w S1 v1 l1) (h2 : IsSlice Ty.int w S2 v2 l2) (hl : l1.length ≤ 1000000) (hl2 : l2.length ≤ 1000000) :
    Gives Try.prog 124 [v1, v2] w fun v w' => v = .bool (newV l1 l2) ∧ Below w.heap.size w w' := by
  replace h1 := h1.old; replace h2 := h2.old
  have hS := Sep.start w
  refine fn_of Try.func124 rfl Try.ntmps124 (Nat.le_of_ble_eq_true rfl) ?_
  have hT := Below.refl w.heap.size w
  refine e_seq fun K hK => ?_
  refine e_region_text rfl ?_
  refine q_assign rfl rfl ?_
  refine eseq_nil ?_
  refine hK _ _ ?_; clear hK
  refine e_seq fun K hK => ?_
  refine e_region_text rfl ?_
  refine q_move rfl rfl ?_
  refine q_move rfl rfl ?_
  refine q_call rfl (merge26 (Sep.enter (As := []) hS) h1 h2 hl hl2) rfl ?_
  rintro v7 wc hC; refine ⟨(fun h => by cases h), ?_⟩
  have hkc := hC.keptR (Sep.offFeet (As := []) hS)
  replace h1 := h1.kept hkc
  replace h2 := h2.kept hkc
  replace hS := Sep.leave (As := []) hS hC
  replace hS : Sep _ _ _ w wc [HP.own Ty.int (fun _ => False) 3 v7 (mergeV l1 l2)] := hS
  have hml := mergeV_length (a := l1) (b := l2)
  refine q_move rfl rfl ?_
  refine q_call rfl (equal26 (hS.isl 0 rfl) h1 (by omega)) rfl ?_
  rintro _ w1 ⟨rfl, hB1⟩; refine ⟨fun _ => .of_below hB1, ?_⟩
  replace h1 := h1.ext hB1
  replace h2 := h2.ext hB1
  replace hS := hS.below hB1
  refine q_not rfl rfl ?_
  refine q_assign rfl rfl ?_
  refine eseq_nil ?_
  refine hK _ _ ?_; clear hK
  refine e_ret ?_
  exact ⟨_, res1 rfl rfl, rfl, hS.step.below⟩

theorem sel1 (a b : Bool) : Gives Try.prog 121 [v1, v2, .bool a, .bool b] w fun v w' => v = .bool b ∧ Below w.heap.size w w' := by
  refine fn_of Try.func121 rfl Try.ntmps121 (Nat.le_of_ble_eq_true rfl) ?_
  have hT := Below.refl w.heap.size w
  refine e_seq fun K hK => ?_
  refine e_region_text rfl ?_
  refine q_assign rfl rfl ?_
  refine eseq_nil ?_
  refine hK _ _ ?_; clear hK
  refine e_seq fun K hK => ?_
  refine e_region_text rfl ?_
  refine q_move rfl rfl ?_
  refine q_assign rfl rfl ?_
  refine eseq_nil ?_
  refine hK _ _ ?_; clear hK
  refine e_ret ?_
  exact ⟨_, res1 rfl rfl, rfl, hT⟩
theorem sel2 (a b : Bool) : Gives Try.prog 122 [v1, v2, .bool a, .bool b] w fun v w' => v = .bool a ∧ Below w.heap.size w w' := by
  refine fn_of Try.func122 rfl Try.ntmps122 (Nat.le_of_ble_eq_true rfl) ?_
  have hT := Below.refl w.heap.size w
  refine e_seq fun K hK => ?_
  refine e_region_text rfl ?_
  refine q_assign rfl rfl ?_
  refine eseq_nil ?_
  refine hK _ _ ?_; clear hK
  refine e_seq fun K hK => ?_
  refine e_region_text rfl ?_
  refine q_move rfl rfl ?_
  refine q_assign rfl rfl ?_
  refine eseq_nil ?_
  refine hK _ _ ?_; clear hK
  refine e_ret ?_
  exact ⟨_, res1 rfl rfl, rfl, hT⟩
theorem sel3 (h1 : IsSlice Ty.int w S1 v1 l1) (h2 : IsSlice Ty.int w S2 v2 l2) (hl : l1.length ≤ 1000000) (hl2 : l2.length ≤ 1000000) (a b : Bool) : Gives Try.prog 123 [v1, v2, .bool a, .bool b] w fun v w' => v = .bool (b && newV l1 l2) ∧ Below w.heap.size w w' := by
  refine fn_of Try.func123 rfl Try.ntmps123 (Nat.le_of_ble_eq_true rfl) ?_
  have hT := Below.refl w.heap.size w
  refine e_seq fun K hK => ?_
  refine e_region_text rfl ?_
  refine q_assign rfl rfl ?_
  refine eseq_nil ?_
  refine hK _ _ ?_; clear hK
  refine e_seq fun K hK => ?_
  refine e_region_text rfl ?_
  refine q_move rfl rfl ?_
  refine q_move rfl rfl ?_
  refine g_and 3 rfl trivial rfl rfl ?_; apply Exists.intro; refine ⟨fun hg => ?_, fun hg => ?_, fun wm1 hBm1 => ?_⟩
  · have hg0 := hg
    have hTm1 := Below.refl (World.heap w).size w
    try simp at hg
    refine g_run rfl ?_; refine q_move rfl rfl ?_
    refine g_run rfl ?_; refine q_move rfl rfl ?_
    refine g_run rfl ?_; refine q_call rfl (news26 h1 h2 hl hl2) rfl ?_
    rintro _ w2 ⟨rfl, hB2⟩; refine ⟨fun _ => .of_below hB2, ?_⟩
    replace h1 := h1.ext hB2
    replace h2 := h2.ext hB2
    replace hT := hT.trans (Below.mono hB2 hT.size)
    replace hTm1 := hTm1.trans (Below.mono hB2 hTm1.size)
    exact eseq_nil ⟨hTm1, Sub.set rfl (Sub.set rfl (Sub.set rfl (Sub.bool true rfl hg0))), rfl⟩
  · have hg0 := hg
    refine g_skip rfl rfl rfl ?_
    refine g_skip rfl rfl rfl ?_
    refine g_skip rfl rfl rfl ?_
    exact eseq_nil ⟨rfl, Sub.set rfl (Sub.set rfl (Sub.set rfl (Sub.bool false rfl hg0)))⟩
  replace h1 := h1.ext hBm1
  replace h2 := h2.ext hBm1
  replace hT := hT.trans (Below.mono hBm1 hT.size)
  refine q_assign rfl rfl ?_
  refine eseq_nil ?_
  refine hK _ _ ?_; clear hK
  refine e_ret ?_
  exact ⟨_, res1 rfl rfl, rfl, hT⟩
theorem sel4 (h1 : IsSlice Ty.int w S1 v1 l1) (h2 : IsSlice Ty.int w S2 v2 l2) (hl : l1.length ≤ 1000000) (hl2 : l2.length ≤ 1000000) (a b : Bool) : Gives Try.prog 125 [v1, v2, .bool a, .bool b] w fun v w' => v = .bool (a && newV l1 l2) ∧ Below w.heap.size w w' := by
  refine fn_of Try.func125 rfl Try.ntmps125 (Nat.le_of_ble_eq_true rfl) ?_
  have hT := Below.refl w.heap.size w
  refine e_seq fun K hK => ?_
  refine e_region_text rfl ?_
  refine q_assign rfl rfl ?_
  refine eseq_nil ?_
  refine hK _ _ ?_; clear hK
  refine e_seq fun K hK => ?_
  refine e_region_text rfl ?_
  refine q_move rfl rfl ?_
  refine q_move rfl rfl ?_
  refine g_and 3 rfl trivial rfl rfl ?_; apply Exists.intro; refine ⟨fun hg => ?_, fun hg => ?_, fun wm1 hBm1 => ?_⟩
  · have hg0 := hg
    have hTm1 := Below.refl (World.heap w).size w
    try simp at hg
    refine g_run rfl ?_; refine q_move rfl rfl ?_
    refine g_run rfl ?_; refine q_move rfl rfl ?_
    refine g_run rfl ?_; refine q_call rfl (news26 h1 h2 hl hl2) rfl ?_
    rintro _ w2 ⟨rfl, hB2⟩; refine ⟨fun _ => .of_below hB2, ?_⟩
    replace h1 := h1.ext hB2
    replace h2 := h2.ext hB2
    replace hT := hT.trans (Below.mono hB2 hT.size)
    replace hTm1 := hTm1.trans (Below.mono hB2 hTm1.size)
    exact eseq_nil ⟨hTm1, Sub.set rfl (Sub.set rfl (Sub.set rfl (Sub.bool true rfl hg0))), rfl⟩
  · have hg0 := hg
    refine g_skip rfl rfl rfl ?_
    refine g_skip rfl rfl rfl ?_
    refine g_skip rfl rfl rfl ?_
    exact eseq_nil ⟨rfl, Sub.set rfl (Sub.set rfl (Sub.set rfl (Sub.bool false rfl hg0)))⟩
  replace h1 := h1.ext hBm1
  replace h2 := h2.ext hBm1
  replace hT := hT.trans (Below.mono hBm1 hT.size)
  refine q_assign rfl rfl ?_
  refine eseq_nil ?_
  refine hK _ _ ?_; clear hK
  refine e_ret ?_
  exact ⟨_, res1 rfl rfl, rfl, hT⟩
theorem sel5 (a b : Bool) : Gives Try.prog 126 [v1, v2, .bool a, .bool b] w fun v w' => v = .bool false ∧ Below w.heap.size w w' := by
  refine fn_of Try.func126 rfl Try.ntmps126 (Nat.le_of_ble_eq_true rfl) ?_
  have hT := Below.refl w.heap.size w
  refine e_seq fun K hK => ?_
  refine e_region_text rfl ?_
  refine q_assign rfl rfl ?_
  refine eseq_nil ?_
  refine hK _ _ ?_; clear hK
  refine e_seq fun K hK => ?_
  refine e_region_text rfl ?_
  refine q_assign rfl rfl ?_
  refine eseq_nil ?_
  refine hK _ _ ?_; clear hK
  refine e_ret ?_
  exact ⟨_, res1 rfl rfl, rfl, hT⟩

/-- the function of a rule -/
def condF (rule : Int) : FuncId := if rule = 1 then 121 else if rule = 2 then 122 else if rule = 3 then 123 else if rule = 4 then 125 else 126
instance (rule : Int) : TFn Try.prog (condF rule) := by
  unfold condF
  split
  · infer_instance
  split
  · infer_instance
  split
  · infer_instance
  split
  · infer_instance
  · infer_instance
theorem cond26 (h1 : IsSlice Ty.int w S1 v1 l1) (h2 : IsSlice Ty.int w S2 v2 l2) (hl : l1.length ≤ 1000000) (hl2 : l2.length ≤ 1000000) (rule : Int) (a b : Bool) :
    Gives Try.prog (condF rule) [v1, v2, .bool a, .bool b] w fun v w' => v = .bool (forcesV rule l1 l2 a b) ∧ Below w.heap.size w w' := by
  unfold condF forcesV
  split
  · exact sel1 a b
  split
  · exact sel2 a b
  split
  · exact sel3 h1 h2 hl hl2 a b
  split
  · exact sel4 h1 h2 hl hl2 a b
  · exact sel5 a b

theorem selected26 (rule : Int) : Gives Try.prog 87 [.int .i64 rule] w fun v w' => v = .func (.func (condF rule)) #[] #[] ∧ Below w.heap.size w w' := by
  refine fn_of Try.func87 rfl Try.ntmps87 (Nat.le_of_ble_eq_true rfl) ?_
  have hT := Below.refl w.heap.size w
  refine e_seq fun K hK => ?_
  refine e_region_text rfl ?_
  refine q_assign rfl rfl ?_
  refine eseq_nil ?_
  refine hK _ _ ?_; clear hK
  refine e_seq fun K hK => ?_
  refine e_seq fun K hK => ?_
  refine e_region_text rfl ?_
  refine q_move rfl rfl ?_
  refine eseq_nil ?_
  refine hK _ _ ?_; clear hK
  refine e_block ?_
  refine e_seq fun K hK => ?_
  refine e_region_text rfl ?_
  refine q_eql rfl rfl rfl ?_
  refine q_assign rfl rfl ?_
  refine eseq_nil ?_
  refine hK _ _ ?_; clear hK
  refine e_cond rfl (fun h1 => ?_) (fun h1 => ?_)
  · skip
    have h1 : rule = 1 := by simpa using h1
    refine e_seq fun K hK => ?_
    refine e_region_text rfl ?_
    refine q_assign rfl rfl ?_
    refine eseq_nil ?_
    refine hK _ _ ?_; clear hK
    refine e_ret ?_
    exact ⟨_, res1 rfl rfl, by rw [condF, if_pos h1], hT⟩
  have h1 : ¬ rule = 1 := by simpa using h1
  refine e_seq fun K hK => ?_
  refine e_region_text rfl ?_
  refine q_eql rfl rfl rfl ?_
  refine q_assign rfl rfl ?_
  refine eseq_nil ?_
  refine hK _ _ ?_; clear hK
  refine e_cond rfl (fun h2 => ?_) (fun h2 => ?_)
  · skip
    have h2 : rule = 2 := by simpa using h2
    refine e_seq fun K hK => ?_
    refine e_region_text rfl ?_
    refine q_assign rfl rfl ?_
    refine eseq_nil ?_
    refine hK _ _ ?_; clear hK
    refine e_ret ?_
    exact ⟨_, res1 rfl rfl, by rw [condF, if_neg h1, if_pos h2], hT⟩
  have h2 : ¬ rule = 2 := by simpa using h2
  refine e_seq fun K hK => ?_
  refine e_region_text rfl ?_
  refine q_eql rfl rfl rfl ?_
  refine q_assign rfl rfl ?_
  refine eseq_nil ?_
  refine hK _ _ ?_; clear hK
  refine e_cond rfl (fun h3 => ?_) (fun h3 => ?_)
  · skip
    have h3 : rule = 3 := by simpa using h3
    refine e_seq fun K hK => ?_
    refine e_region_text rfl ?_
    refine q_assign rfl rfl ?_
    refine eseq_nil ?_
    refine hK _ _ ?_; clear hK
    refine e_ret ?_
    exact ⟨_, res1 rfl rfl, by rw [condF, if_neg h1, if_neg h2, if_pos h3], hT⟩
  have h3 : ¬ rule = 3 := by simpa using h3
  refine e_seq fun K hK => ?_
  refine e_region_text rfl ?_
  refine q_eql rfl rfl rfl ?_
  refine q_assign rfl rfl ?_
  refine eseq_nil ?_
  refine hK _ _ ?_; clear hK
  refine e_cond rfl (fun h4 => ?_) (fun h4 => ?_)
  · skip
    have h4 : rule = 4 := by simpa using h4
    refine e_seq fun K hK => ?_
    refine e_region_text rfl ?_
    refine q_assign rfl rfl ?_
    refine eseq_nil ?_
    refine hK _ _ ?_; clear hK
    refine e_ret ?_
    exact ⟨_, res1 rfl rfl, by rw [condF, if_neg h1, if_neg h2, if_neg h3, if_pos h4], hT⟩
  have h4 : ¬ rule = 4 := by simpa using h4
  refine e_skip ?_
  refine hK _ _ ?_; clear hK
  refine e_seq fun K hK => ?_
  refine e_region_text rfl ?_
  refine q_assign rfl rfl ?_
  refine eseq_nil ?_
  refine hK _ _ ?_; clear hK
  refine e_ret ?_
  exact ⟨_, res1 rfl rfl, by rw [condF, if_neg h1, if_neg h2, if_neg h3, if_neg h4], hT⟩
end Go.Proofs.Ytbmjcbhappjnaaa
