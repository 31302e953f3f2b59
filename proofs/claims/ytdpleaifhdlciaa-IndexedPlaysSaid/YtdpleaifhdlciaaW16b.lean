/- The walks of chapter 16's reference: arc, possible, Check, for patterns that are right. -/
import Derived.Test.YtdpleaifhdlciaaW16
set_option linter.unusedSimpArgs false
set_option linter.unusedVariables false
namespace Go.Proofs.Ytdpleaifhdlciaa
open Go.RowKit Go.Mine
attribute [local irreducible] eseq ewp
variable {w : World} {SL SC SA : Nat → Prop} {vL vC vA : Value} {p : Pat}

theorem arc16 (hL : IsSlice Ty.int w SL vL p.lens) (hC : IsSlice Ty.int.slice w SC vC p.ckpts) (hA : IsSlice arcTy w SA vA p.arcs) (n : Nat) (hn : n < p.arcs.length) (hl : p.arcs.length ≤ 1000000000) :
    Gives Try.prog 57 [.agg #[vL, vC, vA], .int .i64 n] w fun v w' => v = .int .i64 (arcE p n) ∧ Below w.heap.size w w' := by
  replace hL := hL.old; replace hC := hC.old; replace hA := hA.old
  have hS := Sep.start w
  refine fn_of Try.func57 rfl Try.ntmps57 (Nat.le_of_ble_eq_true rfl) ?_
  have hT := Below.refl w.heap.size w
  refine e_seq fun K hK => ?_
  refine e_region_text rfl ?_
  refine q_boxB rfl rfl rfl fun w1 bl1 hg1 hb1 hB1 => ?_
  replace hL := hL.ext hB1
  replace hC := hC.ext hB1
  replace hA := hA.ext hB1
  replace hS := hS.newBlk hB1 hg1 hb1
  refine q_assign rfl rfl ?_
  refine eseq_nil ?_
  refine hK _ _ ?_; clear hK
  refine e_seq fun K hK => ?_
  refine e_region_text rfl ?_
  refine q_field rfl rfl ?_
  refine q_load rfl (Blk.cell (hS.blk 0 rfl) rfl) rfl ?_
  refine q_move rfl rfl ?_
  first | refine q_indexSn (by infer_instance) rfl hA rfl (by first | omega | decide) rfl fun b10 o10 f10 => ?_ | refine q_indexS (by infer_instance) rfl hA rfl (by first | omega | decide) (by first | omega | decide) rfl fun b10 o10 f10 => ?_
  refine q_loadAgg rfl (ArcL f10) rfl rfl ?_
  refine q_allocB rfl fun w2 bl2 hg2 hb2 hB2 => ?_
  replace hL := hL.ext hB2
  replace hC := hC.ext hB2
  replace hA := hA.ext hB2
  replace f10 := f10.ext hB2
  replace hS := hS.newBlk hB2 hg2 hb2
  refine q_storeAgg rfl rfl (hS.blk 0 rfl) rfl (Nat.le_of_ble_eq_true rfl) (all_cons rfl (all_cons rfl (all_cons rfl (all_cons rfl (all_nil))))) rfl rfl fun w3 hb3 hO3 => ?_
  simp only [setN, List.take, List.drop, List.set] at hb3
  have hk3 := hS.keptBlk 0 rfl hO3
  replace hL := hL.kept hk3
  replace hC := hC.kept hk3
  replace hA := hA.kept hk3
  replace f10 := f10.kept hk3
  replace hS := hS.setBlk 0 rfl hb3 hO3; simp only [List.set] at hS
  refine eseq_nil ?_
  refine hK _ _ ?_; clear hK
  refine e_seq fun K hK => ?_
  refine e_seq fun K hK => ?_
  refine e_region_draw mixed (fun _ => False) [0, 0, 2, 7, 15, 31, 63, 63, 191, 511, 1023, 2047, 4095, 8191, 16383, 8191, 40959, 131071, 262143, 524287, 1048575, 2097151, 4194303, 8388607, 16777215, 33554431, 67108863, 33554431, 167772159, 33554431, 570425343, 2046820351, 4194303999, 8589934591, 17179869183, 34359738367, 68719476735, 137438953471, 274877906943, 549755813887, 1099511627775, 2199023255551, 4398046511103, 2199023255551, 10995116277759, 2199023255551, 37383395344383, 134140418588671, 274877906943999, 562949953421311, 1125899906842623] [] [0, 1, 2, 3, 4, 5, 6, 7, 8, 9, 10, 11, 12, 13, 14, 15, 16, 17, 18, 19, 20, 21, 22, 23, 24, 25, 26, 27, 28, 29, 30, 31, 32, 33, 34, 35, 36, 37, 38, 39, 40, 41, 42, 43, 44, 45, 46, 47, 48, 49, 50] (by kernel_rfl) ?_
  refine q_loadAgg rfl (Blk.cellsAt (hS.blk 1 rfl) 0 3 rfl) rfl rfl ?_
  refine q_field rfl rfl ?_
  refine q_load rfl (Blk.cell (hS.blk 0 rfl) rfl) rfl ?_
  refine q_call rfl (proc16 hL (nth p.arcs n).fr) rfl ?_
  rintro _ w4 ⟨rfl, hB4⟩; refine ⟨fun _ => .of_below hB4, ?_⟩
  replace hL := hL.ext hB4
  replace hC := hC.ext hB4
  replace hA := hA.ext hB4
  replace f10 := f10.ext hB4
  replace hS := hS.below hB4
  refine q_not rfl rfl ?_
  refine q_move rfl rfl ?_
  refine g_or 5 rfl trivial rfl rfl ?_; apply Exists.intro; refine ⟨fun hg => ?_, fun hg => ?_, fun wm5 hBm5 => ?_⟩
  · have hg0 := hg
    refine g_skip rfl rfl rfl ?_
    refine g_skip rfl rfl rfl ?_
    refine g_skip rfl rfl rfl ?_
    refine g_skip rfl rfl rfl ?_
    refine g_skip rfl rfl rfl ?_
    exact eseq_nil ⟨rfl, Sub.set rfl (Sub.set rfl (Sub.set rfl (Sub.set rfl (Sub.set rfl (Sub.bool true rfl hg0)))))⟩
  · have hg0 := hg
    have hTm5 := Below.refl (World.heap w4).size w4
    try simp at hg
    refine g_run rfl ?_; refine q_loadAgg rfl (Blk.cellsAt (hS.blk 1 rfl) 0 3 rfl) rfl rfl ?_
    refine g_run rfl ?_; refine q_field rfl rfl ?_
    refine g_run rfl ?_; refine q_load rfl (Blk.cell (hS.blk 0 rfl) rfl) rfl ?_
    refine g_run rfl ?_; refine q_call rfl (proc16 hL (nth p.arcs n).to) rfl ?_
    rintro _ w6 ⟨rfl, hB6⟩; refine ⟨fun _ => .of_below hB6, ?_⟩
    replace hL := hL.ext hB6
    replace hC := hC.ext hB6
    replace hA := hA.ext hB6
    replace f10 := f10.ext hB6
    replace hS := hS.below hB6
    replace hTm5 := hTm5.trans (Below.mono hB6 hTm5.size)
    refine g_run rfl ?_; refine q_not rfl rfl ?_
    exact eseq_nil ⟨hTm5, Sub.set rfl (Sub.set rfl (Sub.set rfl (Sub.set rfl (Sub.set rfl (Sub.bool false rfl hg0))))), rfl⟩
  replace hL := hL.ext hBm5
  replace hC := hC.ext hBm5
  replace hA := hA.ext hBm5
  replace f10 := f10.ext hBm5
  replace hS := hS.below hBm5
  refine q_move rfl rfl ?_
  refine g_or 5 rfl trivial rfl rfl ?_; apply Exists.intro; refine ⟨fun hg => ?_, fun hg => ?_, fun wm7 hBm7 => ?_⟩
  · have hg0 := hg
    refine g_skip rfl rfl rfl ?_
    refine g_skip rfl rfl rfl ?_
    refine g_skip rfl rfl rfl ?_
    refine g_skip rfl rfl rfl ?_
    refine g_skip rfl rfl rfl ?_
    exact eseq_nil ⟨rfl, Sub.set rfl (Sub.set rfl (Sub.set rfl (Sub.set rfl (Sub.set rfl (Sub.bool true rfl hg0)))))⟩
  · have hg0 := hg
    have hTm7 := Below.refl (World.heap wm5).size wm5
    try simp at hg
    refine g_run rfl ?_; refine q_field rfl rfl ?_
    refine g_run rfl ?_; refine q_load rfl (Blk.cell (hS.blk 0 rfl) rfl) rfl ?_
    refine g_run rfl ?_; refine q_field rfl rfl ?_
    refine g_run rfl ?_; refine q_load rfl (Blk.cell (hS.blk 0 rfl) rfl) rfl ?_
    refine g_run rfl ?_; refine q_eql rfl rfl rfl ?_
    exact eseq_nil ⟨hTm7, Sub.set rfl (Sub.set rfl (Sub.set rfl (Sub.set rfl (Sub.set rfl (Sub.bool false rfl hg0))))), rfl⟩
  replace hL := hL.ext hBm7
  replace hC := hC.ext hBm7
  replace hA := hA.ext hBm7
  replace f10 := f10.ext hBm7
  replace hS := hS.below hBm7
  refine q_move rfl rfl ?_
  refine g_or 3 rfl trivial rfl rfl ?_; apply Exists.intro; refine ⟨fun hg => ?_, fun hg => ?_, fun wm8 hBm8 => ?_⟩
  · have hg0 := hg
    refine g_skip rfl rfl rfl ?_
    refine g_skip rfl rfl rfl ?_
    refine g_skip rfl rfl rfl ?_
    exact eseq_nil ⟨rfl, Sub.set rfl (Sub.set rfl (Sub.set rfl (Sub.bool true rfl hg0)))⟩
  · have hg0 := hg
    have hTm8 := Below.refl (World.heap wm7).size wm7
    try simp at hg
    refine g_run rfl ?_; refine q_field rfl rfl ?_
    refine g_run rfl ?_; refine q_load rfl (Blk.cell (hS.blk 0 rfl) rfl) rfl ?_
    refine g_run rfl ?_; refine q_lss rfl rfl rfl ?_
    exact eseq_nil ⟨hTm8, Sub.set rfl (Sub.set rfl (Sub.set rfl (Sub.bool false rfl hg0))), rfl⟩
  replace hL := hL.ext hBm8
  replace hC := hC.ext hBm8
  replace hA := hA.ext hBm8
  replace f10 := f10.ext hBm8
  replace hS := hS.below hBm8
  refine q_move rfl rfl ?_
  refine g_or 9 rfl trivial rfl rfl ?_; apply Exists.intro; refine ⟨fun hg => ?_, fun hg => ?_, fun wm9 hBm9 => ?_⟩
  · have hg0 := hg
    refine g_skip rfl rfl rfl ?_
    refine g_skip rfl rfl rfl ?_
    refine g_skip rfl rfl rfl ?_
    refine g_skip rfl rfl rfl ?_
    refine g_skip rfl rfl rfl ?_
    refine g_skip rfl rfl rfl ?_
    refine g_skip rfl rfl rfl ?_
    refine g_skip rfl rfl rfl ?_
    refine g_skip rfl rfl rfl ?_
    exact eseq_nil ⟨rfl, Sub.set rfl (Sub.set rfl (Sub.set rfl (Sub.set rfl (Sub.set rfl (Sub.set rfl (Sub.set rfl (Sub.set rfl (Sub.set rfl (Sub.bool true rfl hg0)))))))))⟩
  · have hg0 := hg
    have hTm9 := Below.refl (World.heap wm8).size wm8
    try simp at hg
    have hp1 : procB p (nth p.arcs n).fr = true := by simp_all
    simp only [procB, Bool.and_eq_true, decide_eq_true_eq] at hp1
    refine g_run rfl ?_; refine q_field rfl rfl ?_
    refine g_run rfl ?_; refine q_load rfl (Blk.cell (hS.blk 0 rfl) rfl) rfl ?_
    refine g_run rfl ?_; refine q_field rfl rfl ?_
    refine g_run rfl ?_; refine q_load rfl (Blk.cell (hS.blk 1 rfl) rfl) rfl ?_
    refine g_run rfl ?_; refine q_field rfl rfl ?_
    refine g_run rfl ?_; refine q_load rfl (Blk.cell (hS.blk 0 rfl) rfl) rfl ?_
    refine g_run rfl ?_; first | refine q_indexSn (by infer_instance) rfl hL rfl (by first | omega | decide) rfl fun b43 o43 f43 => ?_ | refine q_indexS (by infer_instance) rfl hL rfl (by first | omega | decide) (by first | omega | decide) rfl fun b43 o43 f43 => ?_
    refine g_run rfl ?_; refine q_load rfl (El.intCell f43) rfl ?_
    refine g_run rfl ?_; refine q_gtr rfl rfl rfl ?_
    exact eseq_nil ⟨hTm9, Sub.set rfl (Sub.set rfl (Sub.set rfl (Sub.set rfl (Sub.set rfl (Sub.set rfl (Sub.set rfl (Sub.set rfl (Sub.set rfl (Sub.bool false rfl hg0))))))))), rfl⟩
  replace hL := hL.ext hBm9
  replace hC := hC.ext hBm9
  replace hA := hA.ext hBm9
  replace f10 := f10.ext hBm9
  replace hS := hS.below hBm9
  refine q_move rfl rfl ?_
  refine g_or 3 rfl trivial rfl rfl ?_; apply Exists.intro; refine ⟨fun hg => ?_, fun hg => ?_, fun wm10 hBm10 => ?_⟩
  · have hg0 := hg
    refine g_skip rfl rfl rfl ?_
    refine g_skip rfl rfl rfl ?_
    refine g_skip rfl rfl rfl ?_
    exact eseq_nil ⟨rfl, Sub.set rfl (Sub.set rfl (Sub.set rfl (Sub.bool true rfl hg0)))⟩
  · have hg0 := hg
    have hTm10 := Below.refl (World.heap wm9).size wm9
    try simp at hg
    refine g_run rfl ?_; refine q_field rfl rfl ?_
    refine g_run rfl ?_; refine q_load rfl (Blk.cell (hS.blk 0 rfl) rfl) rfl ?_
    refine g_run rfl ?_; refine q_lss rfl rfl rfl ?_
    exact eseq_nil ⟨hTm10, Sub.set rfl (Sub.set rfl (Sub.set rfl (Sub.bool false rfl hg0))), rfl⟩
  replace hL := hL.ext hBm10
  replace hC := hC.ext hBm10
  replace hA := hA.ext hBm10
  replace f10 := f10.ext hBm10
  replace hS := hS.below hBm10
  refine q_move rfl rfl ?_
  refine g_or 9 rfl trivial rfl rfl ?_; apply Exists.intro; refine ⟨fun hg => ?_, fun hg => ?_, fun wm11 hBm11 => ?_⟩
  · have hg0 := hg
    refine g_skip rfl rfl rfl ?_
    refine g_skip rfl rfl rfl ?_
    refine g_skip rfl rfl rfl ?_
    refine g_skip rfl rfl rfl ?_
    refine g_skip rfl rfl rfl ?_
    refine g_skip rfl rfl rfl ?_
    refine g_skip rfl rfl rfl ?_
    refine g_skip rfl rfl rfl ?_
    refine g_skip rfl rfl rfl ?_
    exact eseq_nil ⟨rfl, Sub.set rfl (Sub.set rfl (Sub.set rfl (Sub.set rfl (Sub.set rfl (Sub.set rfl (Sub.set rfl (Sub.set rfl (Sub.set rfl (Sub.bool true rfl hg0)))))))))⟩
  · have hg0 := hg
    have hTm11 := Below.refl (World.heap wm10).size wm10
    try simp at hg
    have hp1 : procB p (nth p.arcs n).to = true := by simp_all
    simp only [procB, Bool.and_eq_true, decide_eq_true_eq] at hp1
    refine g_run rfl ?_; refine q_field rfl rfl ?_
    refine g_run rfl ?_; refine q_load rfl (Blk.cell (hS.blk 0 rfl) rfl) rfl ?_
    refine g_run rfl ?_; refine q_field rfl rfl ?_
    refine g_run rfl ?_; refine q_load rfl (Blk.cell (hS.blk 1 rfl) rfl) rfl ?_
    refine g_run rfl ?_; refine q_field rfl rfl ?_
    refine g_run rfl ?_; refine q_load rfl (Blk.cell (hS.blk 0 rfl) rfl) rfl ?_
    refine g_run rfl ?_; first | refine q_indexSn (by infer_instance) rfl hL rfl (by first | omega | decide) rfl fun b59 o59 f59 => ?_ | refine q_indexS (by infer_instance) rfl hL rfl (by first | omega | decide) (by first | omega | decide) rfl fun b59 o59 f59 => ?_
    refine g_run rfl ?_; refine q_load rfl (El.intCell f59) rfl ?_
    refine g_run rfl ?_; refine q_gtr rfl rfl rfl ?_
    exact eseq_nil ⟨hTm11, Sub.set rfl (Sub.set rfl (Sub.set rfl (Sub.set rfl (Sub.set rfl (Sub.set rfl (Sub.set rfl (Sub.set rfl (Sub.set rfl (Sub.bool false rfl hg0))))))))), rfl⟩
  replace hL := hL.ext hBm11
  replace hC := hC.ext hBm11
  replace hA := hA.ext hBm11
  replace f10 := f10.ext hBm11
  replace hS := hS.below hBm11
  refine eseq_nil ?_
  refine hK _ _ ?_; clear hK
  refine e_cond rfl (fun hb => ?_) (fun hb => ?_)
  · skip
    refine e_seq fun K hK => ?_
    refine e_region_text rfl ?_
    refine q_assign rfl rfl ?_
    refine eseq_nil ?_
    refine hK _ _ ?_; clear hK
    refine e_ret ?_
    have hbad : arcBad p (nth p.arcs n) = true := by rw [← hb]; rfl
    exact ⟨_, res1 rfl rfl, by rw [arcE]; simp only [hbad, if_true], hS.step.below⟩
  have hbad : arcBad p (nth p.arcs n) = false := by rw [← hb]; rfl
  refine e_skip ?_
  refine hK _ _ ?_; clear hK
  refine e_seq fun K hK => ?_
  refine e_seq fun K hK => ?_
  refine e_region_text rfl ?_
  refine q_assign rfl rfl ?_
  refine eseq_nil ?_
  refine hK _ _ ?_; clear hK
  refine e_block ?_
  refine e_loop (fun mm E wfor => ∃ k : Nat, (k ≤ n ∧ ∀ i, i < k → (!((nth p.arcs n).rcv != 0 && (nth p.arcs i).to == (nth p.arcs n).to && (nth p.arcs i).rcv == (nth p.arcs n).rcv)) = true) ∧ mm = n - k ∧ Below (World.heap wm11).size wm11 wfor ∧ E = [(1, .int .i64 n), (2, .pointer (some ⟨bl1, 0, none⟩)), (5, .pointer (some ⟨bl2, 0, none⟩)), (6, .int .i64 k)]) _ ⟨_, ⟨0, ⟨by omega, fun i hi => absurd hi (Nat.not_lt_zero _)⟩, rfl, Below.refl _ _, rfl⟩, Sub.cons rfl (Sub.cons rfl (Sub.cons rfl (Sub.cons rfl (Sub.nil _))))⟩ ?_
  rintro mm E wl12 ⟨k, hk12, rfl, hTl12, rfl⟩
  replace hL := hL.ext hTl12
  replace hC := hC.ext hTl12
  replace hA := hA.ext hTl12
  replace f10 := f10.ext hTl12
  replace hS := hS.below hTl12
  obtain ⟨hkl, ht⟩ := hk12
  refine e_seq fun K hK => ?_
  refine e_seq fun K hK => ?_
  refine e_region_text rfl ?_
  refine q_move rfl rfl ?_
  refine q_move rfl rfl ?_
  refine q_lss rfl rfl rfl ?_
  refine eseq_nil ?_
  refine hK _ _ ?_; clear hK
  refine e_cond rfl (fun hc => ?_) (fun hc => ?_)
  · skip
    have hlt : k < n := by simpa using hc
    refine e_skip ?_
    refine hK _ _ ?_; clear hK
    refine e_seq fun K hK => ?_
    refine e_block ?_
    refine e_seq fun K hK => ?_
    refine e_region_draw mixed (fun _ => False) [0, 1, 3, 7, 15, 31, 15, 127, 255, 511, 15, 1039, 4095, 8191, 16383, 32767, 65535, 32767, 262143, 524287, 1048575, 32767, 2129919, 8388607, 16777215] [] [0, 1, 2, 3, 4, 5, 6, 7, 8, 9, 10, 11, 12, 13, 14, 15, 16, 17, 18, 19, 20, 21, 22, 23, 24] (by kernel_rfl) ?_
    refine q_field rfl rfl ?_
    refine q_load rfl (Blk.cell (hS.blk 0 rfl) rfl) rfl ?_
    refine q_neq rfl rfl rfl ?_
    refine q_move rfl rfl ?_
    refine g_and 9 rfl trivial rfl rfl ?_; apply Exists.intro; refine ⟨fun hg => ?_, fun hg => ?_, fun wm13 hBm13 => ?_⟩
    · have hg0 := hg
      have hTm13 := Below.refl (World.heap wl12).size wl12
      try simp at hg
      refine g_run rfl ?_; refine q_field rfl rfl ?_
      refine g_run rfl ?_; refine q_load rfl (Blk.cell (hS.blk 1 rfl) rfl) rfl ?_
      refine g_run rfl ?_; refine q_move rfl rfl ?_
      refine g_run rfl ?_; first | refine q_indexSn (by infer_instance) rfl hA rfl (by first | omega | decide) rfl fun b75 o75 f75 => ?_ | refine q_indexS (by infer_instance) rfl hA rfl (by first | omega | decide) (by first | omega | decide) rfl fun b75 o75 f75 => ?_
      refine g_run rfl ?_; refine q_field rfl rfl ?_
      have f76 := ArcF2 f75
      refine g_run rfl ?_; refine q_load rfl (El.intCell f76) rfl ?_
      refine g_run rfl ?_; refine q_field rfl rfl ?_
      refine g_run rfl ?_; refine q_load rfl (Blk.cell (hS.blk 0 rfl) rfl) rfl ?_
      refine g_run rfl ?_; refine q_eql rfl rfl rfl ?_
      exact eseq_nil ⟨hTm13, Sub.set rfl (Sub.set rfl (Sub.set rfl (Sub.set rfl (Sub.set rfl (Sub.set rfl (Sub.set rfl (Sub.set rfl (Sub.set rfl (Sub.bool true rfl hg0))))))))), rfl⟩
    · have hg0 := hg
      refine g_skip rfl rfl rfl ?_
      refine g_skip rfl rfl rfl ?_
      refine g_skip rfl rfl rfl ?_
      refine g_skip rfl rfl rfl ?_
      refine g_skip rfl rfl rfl ?_
      refine g_skip rfl rfl rfl ?_
      refine g_skip rfl rfl rfl ?_
      refine g_skip rfl rfl rfl ?_
      refine g_skip rfl rfl rfl ?_
      exact eseq_nil ⟨rfl, Sub.set rfl (Sub.set rfl (Sub.set rfl (Sub.set rfl (Sub.set rfl (Sub.set rfl (Sub.set rfl (Sub.set rfl (Sub.set rfl (Sub.bool false rfl hg0)))))))))⟩
    replace hL := hL.ext hBm13
    replace hC := hC.ext hBm13
    replace hA := hA.ext hBm13
    replace f10 := f10.ext hBm13
    replace hS := hS.below hBm13
    replace hTl12 := hTl12.trans (Below.mono hBm13 hTl12.size)
    refine q_move rfl rfl ?_
    refine g_and 9 rfl trivial rfl rfl ?_; apply Exists.intro; refine ⟨fun hg => ?_, fun hg => ?_, fun wm14 hBm14 => ?_⟩
    · have hg0 := hg
      have hTm14 := Below.refl (World.heap wm13).size wm13
      try simp at hg
      refine g_run rfl ?_; refine q_field rfl rfl ?_
      refine g_run rfl ?_; refine q_load rfl (Blk.cell (hS.blk 1 rfl) rfl) rfl ?_
      refine g_run rfl ?_; refine q_move rfl rfl ?_
      refine g_run rfl ?_; first | refine q_indexSn (by infer_instance) rfl hA rfl (by first | omega | decide) rfl fun b86 o86 f86 => ?_ | refine q_indexS (by infer_instance) rfl hA rfl (by first | omega | decide) (by first | omega | decide) rfl fun b86 o86 f86 => ?_
      refine g_run rfl ?_; refine q_field rfl rfl ?_
      have f87 := ArcF3 f86
      refine g_run rfl ?_; refine q_load rfl (El.intCell f87) rfl ?_
      refine g_run rfl ?_; refine q_field rfl rfl ?_
      refine g_run rfl ?_; refine q_load rfl (Blk.cell (hS.blk 0 rfl) rfl) rfl ?_
      refine g_run rfl ?_; refine q_eql rfl rfl rfl ?_
      exact eseq_nil ⟨hTm14, Sub.set rfl (Sub.set rfl (Sub.set rfl (Sub.set rfl (Sub.set rfl (Sub.set rfl (Sub.set rfl (Sub.set rfl (Sub.set rfl (Sub.bool true rfl hg0))))))))), rfl⟩
    · have hg0 := hg
      refine g_skip rfl rfl rfl ?_
      refine g_skip rfl rfl rfl ?_
      refine g_skip rfl rfl rfl ?_
      refine g_skip rfl rfl rfl ?_
      refine g_skip rfl rfl rfl ?_
      refine g_skip rfl rfl rfl ?_
      refine g_skip rfl rfl rfl ?_
      refine g_skip rfl rfl rfl ?_
      refine g_skip rfl rfl rfl ?_
      exact eseq_nil ⟨rfl, Sub.set rfl (Sub.set rfl (Sub.set rfl (Sub.set rfl (Sub.set rfl (Sub.set rfl (Sub.set rfl (Sub.set rfl (Sub.set rfl (Sub.bool false rfl hg0)))))))))⟩
    replace hL := hL.ext hBm14
    replace hC := hC.ext hBm14
    replace hA := hA.ext hBm14
    replace f10 := f10.ext hBm14
    replace hS := hS.below hBm14
    replace hTl12 := hTl12.trans (Below.mono hBm14 hTl12.size)
    refine eseq_nil ?_
    refine hK _ _ ?_; clear hK
    refine e_cond rfl (fun hc2 => ?_) (fun hc2 => ?_)
    · skip
      refine e_seq fun K hK => ?_
      refine e_region_text rfl ?_
      refine q_assign rfl rfl ?_
      refine eseq_nil ?_
      refine hK _ _ ?_; clear hK
      refine e_ret ?_
      have hall := allR_no (n := n) (k := k) (f := fun i => !((nth p.arcs n).rcv != 0 && (nth p.arcs i).to == (nth p.arcs n).to && (nth p.arcs i).rcv == (nth p.arcs n).rcv)) hlt (by simpa using hc2)
      exact ⟨_, res1 rfl rfl, by rw [arcE]; simp only [hbad, hall]; rfl, hS.step.below⟩
    · skip
      refine e_skip ?_
      refine hK _ _ ?_; clear hK
      refine e_region_text rfl ?_
      refine q_move rfl rfl ?_
      refine q_add rfl rfl (wr64 (by omega) (by omega)) rfl ?_
      refine q_assign rfl rfl ?_
      refine eseq_nil ?_
      refine ⟨n - (k + 1), _, by omega, ⟨k + 1, ⟨by omega, fun i hi => (by rcases Nat.lt_or_ge i k with h | h; exact ht i h; obtain rfl : i = k := (by omega); simp only [hc2]; rfl)⟩, rfl, hTl12, rfl⟩, Sub.cons rfl (Sub.cons rfl (Sub.cons rfl (Sub.cons rfl (Sub.nil _))))⟩
  · skip
    have hge : k = n := by simp at hc; omega
    refine e_exit ?_
    clear hK
    refine hK _ _ ?_; clear hK
    refine e_seq fun K hK => ?_
    refine e_region_text rfl ?_
    refine q_assign rfl rfl ?_
    refine eseq_nil ?_
    refine hK _ _ ?_; clear hK
    refine e_ret ?_
    subst hge
    exact ⟨_, res1 rfl rfl, by rw [arcE]; simp only [hbad, allR_yes ht]; rfl, hS.step.below⟩

theorem possible16 (hL : IsSlice Ty.int w SL vL p.lens) (hC : IsSlice Ty.int.slice w SC vC p.ckpts) (hA : IsSlice arcTy w SA vA p.arcs) (hl : p.arcs.length ≤ 1000000000) (hll : p.lens.length ≤ 1000) (hlen : ∀ q, q < p.lens.length → 0 ≤ nth p.lens q ∧ nth p.lens q ≤ 1000000) (hin : arcsIn p) (hpos : Free p) :
    Gives Try.prog 58 [.agg #[vL, vC, vA]] w fun v w' => v = .bool true ∧ Below w.heap.size w w' := by
  replace hL := hL.old; replace hC := hC.old; replace hA := hA.old
  have hS := Sep.start w
  have hL0 := hL; have hC0 := hC; have hA0 := hA
  refine fn_of Try.func58 rfl Try.ntmps58 (Nat.le_of_ble_eq_true rfl) ?_
  have hT := Below.refl w.heap.size w
  refine e_seq fun K hK => ?_
  refine e_region_text rfl ?_
  refine q_boxB rfl rfl rfl fun w1 bl1 hg1 hb1 hB1 => ?_
  replace hL := hL.ext hB1
  replace hC := hC.ext hB1
  replace hA := hA.ext hB1
  replace hS := hS.newBlk hB1 hg1 hb1
  refine q_assign rfl rfl ?_
  refine eseq_nil ?_
  refine hK _ _ ?_; clear hK
  refine e_seq fun K hK => ?_
  refine e_region_text rfl ?_
  refine q_field rfl rfl ?_
  refine q_load rfl (Blk.cell (hS.blk 0 rfl) rfl) rfl ?_
  refine q_lenS rfl hL rfl ?_
  refine q_make (z := [.int .i64 0]) (sz := 1) (n := p.lens.length) rfl rfl rfl rfl (by omega) rfl fun w2 bl2 hg2 hb2 hB2 => ?_
  rw [replicate_ints] at hb2
  replace hL := hL.ext hB2
  replace hC := hC.ext hB2
  replace hA := hA.ext hB2
  replace hS := hS.newBlk hB2 hg2 hb2
  refine q_assign rfl rfl ?_
  refine eseq_nil ?_
  refine hK _ _ ?_; clear hK
  refine e_seq fun K hK => ?_
  refine e_seq fun K hK => ?_
  refine e_region_text rfl ?_
  refine q_assign rfl rfl ?_
  refine eseq_nil ?_
  refine hK _ _ ?_; clear hK
  refine e_block ?_
  refine e_loop (fun m E wx => ∃ (x : List Int) (mv : Bool), Cut p x ∧ Sep (fun _ => False) (fun k => k < w.heap.size) (fun k => k < w.heap.size) w wx [HP.blk bl2 (x.map encI) 3, HP.blk bl1 [vL, vC, vA] 32] ∧
    (mv = false → ∀ q, q < p.lens.length → canB p x q = false) ∧ m = 2 * (p.lens.sum - x.sum).toNat + (if mv then 1 else 0) ∧ E = [(1, .pointer (some ⟨bl1, 0, none⟩)), (3, .slice (some ⟨bl2, 0, none⟩) p.lens.length p.lens.length), (4, .bool mv)]) _
    ⟨_, ⟨List.replicate p.lens.length 0, true, ⟨by simp, fun q hq => by simp [nth, hq], fun q hq => by have e : nth (List.replicate p.lens.length (0 : Int)) q = 0 := (by simp [nth, hq]); rw [e]; exact (hlen q hq).1⟩, hS, fun h => (by cases h), rfl, rfl⟩, Sub.cons rfl (Sub.cons rfl (Sub.cons rfl (Sub.nil _)))⟩ ?_
  clear hS hL hC hA
  rintro m E wx ⟨x0, mv, hx0, hS, hmv, rfl, rfl⟩
  have hL := hL0.ext hS.step.below; have hC := hC0.ext hS.step.below; have hA := hA0.ext hS.step.below
  refine e_seq fun K hK => ?_
  refine e_seq fun K hK => ?_
  refine e_region_text rfl ?_
  refine q_move rfl rfl ?_
  refine eseq_nil ?_
  refine hK _ _ ?_; clear hK
  refine e_cond rfl (fun hc => ?_) (fun hc => ?_)
  · skip
    have hmt : mv = true := hc
    subst hmt
    refine e_skip ?_
    refine hK _ _ ?_; clear hK
    refine e_block ?_
    refine e_seq fun K hK => ?_
    refine e_region_text rfl ?_
    refine q_assign rfl rfl ?_
    refine eseq_nil ?_
    refine hK _ _ ?_; clear hK
    refine e_seq fun K hK => ?_
    refine e_region_text rfl ?_
    refine q_assign rfl rfl ?_
    refine eseq_nil ?_
    refine hK _ _ ?_; clear hK
    refine e_block ?_
    refine e_loop (fun m E wx => ∃ (k : Nat) (x : List Int) (mv : Bool), k ≤ p.lens.length ∧ Cut p x ∧ Sep (fun _ => False) (fun k => k < w.heap.size) (fun k => k < w.heap.size) w wx [HP.blk bl2 (x.map encI) 3, HP.blk bl1 [vL, vC, vA] 32] ∧
      (mv = false → x = x0 ∧ ∀ q, q < k → canB p x q = false) ∧ (mv = true → x0.sum < x.sum) ∧ m = p.lens.length - k ∧ E = [(1, .pointer (some ⟨bl1, 0, none⟩)), (3, .slice (some ⟨bl2, 0, none⟩) p.lens.length p.lens.length), (4, .bool mv), (5, .int .i64 k)]) _
      ⟨_, ⟨0, x0, false, by omega, hx0, hS, fun _ => ⟨rfl, fun q hq => absurd hq (Nat.not_lt_zero _)⟩, fun h => (by cases h), rfl, rfl⟩, Sub.cons rfl (Sub.cons rfl (Sub.cons rfl (Sub.cons rfl (Sub.nil _))))⟩ ?_
    clear hS hL hC hA
    rintro m2 E2 wx2 ⟨k, x1, mv1, hk, hx1, hS, hmf, hmt, rfl, rfl⟩
    have hL := hL0.ext hS.step.below; have hC := hC0.ext hS.step.below; have hA := hA0.ext hS.step.below
    refine e_seq fun K hK => ?_
    refine e_seq fun K hK => ?_
    refine e_region_text rfl ?_
    refine q_move rfl rfl ?_
    refine q_move rfl rfl ?_
    refine q_len rfl rfl ?_
    refine q_lss rfl rfl rfl ?_
    refine eseq_nil ?_
    refine hK _ _ ?_; clear hK
    refine e_cond rfl (fun hc2 => ?_) (fun hc2 => ?_)
    · skip
      have hlt : k < p.lens.length := by simpa using hc2
      refine e_skip ?_
      refine hK _ _ ?_; clear hK
      refine e_seq fun K hK => ?_
      refine e_block ?_
      refine e_block ?_
      refine e_loop (fun m E wx => ∃ (x : List Int) (mv : Bool), Cut p x ∧ Sep (fun _ => False) (fun k => k < w.heap.size) (fun k => k < w.heap.size) w wx [HP.blk bl2 (x.map encI) 3, HP.blk bl1 [vL, vC, vA] 32] ∧
        (mv = false → x = x0 ∧ ∀ q, q < k → canB p x q = false) ∧ (mv = true → x0.sum < x.sum) ∧ m = (nth p.lens k - nth x k).toNat ∧ E = [(1, .pointer (some ⟨bl1, 0, none⟩)), (3, .slice (some ⟨bl2, 0, none⟩) p.lens.length p.lens.length), (4, .bool mv), (5, .int .i64 k)]) _
        ⟨_, ⟨x1, mv1, hx1, hS, hmf, hmt, rfl, rfl⟩, Sub.cons rfl (Sub.cons rfl (Sub.cons rfl (Sub.cons rfl (Sub.nil _))))⟩ ?_
      clear hS hL hC hA hmf hmt hx1 x1 mv1
      rintro m3 E3 wx3 ⟨x1, mv1, hx1, hS, hmf, hmt, rfl, rfl⟩
      have hL := hL0.ext hS.step.below; have hC := hC0.ext hS.step.below; have hA := hA0.ext hS.step.below
      have hxl := hx1.len; have hxlo := hx1.lo k hlt; have hxhi := hx1.hi k hlt; have hlk := hlen k hlt
      have hx := hS.jsl 0 rfl
      rw [hxl] at hx
      refine e_seq fun K hK => ?_
      refine e_seq fun K hK => ?_
      refine e_region_text rfl ?_
      refine q_loadAgg rfl (Blk.cellsAt (hS.blk 1 rfl) 0 3 rfl) rfl rfl ?_
      refine q_move rfl rfl ?_
      refine q_move rfl rfl ?_
      refine q_call rfl (can16 hL hC hA hx k hlt hxl ⟨by omega, by omega⟩ hl hin) rfl ?_
      rintro _ w3 ⟨rfl, hB3⟩; refine ⟨fun _ => .of_below hB3, ?_⟩
      replace hL := hL.ext hB3
      replace hC := hC.ext hB3
      replace hA := hA.ext hB3
      replace hS := hS.below hB3
      refine eseq_nil ?_
      refine hK _ _ ?_; clear hK
      refine e_cond rfl (fun hc3 => ?_) (fun hc3 => ?_)
      · skip
        have hcan : canB p x1 k = true := hc3
        refine e_skip ?_
        refine hK _ _ ?_; clear hK
        refine e_block ?_
        refine e_seq fun K hK => ?_
        refine e_region_text rfl ?_
        refine q_move rfl rfl ?_
        refine q_move rfl rfl ?_
        first | refine q_indexn rfl rfl (by omega) rfl ?_ | refine q_index rfl rfl ⟨by omega, by omega⟩ rfl ?_
        refine q_load rfl (Blk.intAt (hS.blk 0 rfl) (by first | omega | (simp; omega))) rfl ?_
        refine q_add rfl rfl (wr64 (by omega) (by omega)) rfl ?_
        first | refine q_indexn rfl rfl (by omega) rfl ?_ | refine q_index rfl rfl ⟨by omega, by omega⟩ rfl ?_
        refine q_storeIx rfl rfl (hS.blk 0 rfl) (by first | omega | (simp; omega)) rfl fun w4 hb4 hO4 => ?_
        have hk4 := hS.keptBlk 0 rfl hO4
        replace hL := hL.kept hk4
        replace hC := hC.kept hk4
        replace hA := hA.kept hk4
        replace hS := hS.setBlk 0 rfl hb4 hO4; simp only [List.set] at hS
        refine eseq_nil ?_
        refine hK _ _ ?_; clear hK
        refine e_region_text rfl ?_
        refine q_assign rfl rfl ?_
        refine eseq_nil ?_
        have hx2 := hx1.step hlt hcan
        have hsum := sum_set (x := x1) (q := k) (y := nth x1 k + 1) (by omega)
        have hmt1 : x0.sum ≤ x1.sum := by
          cases mv1 with
          | false => rw [(hmf rfl).1]; exact Int.le_refl _
          | true => have := hmt rfl; omega
        have hm2 : nth (x1.set k (nth x1 k + 1)) k = nth x1 k + 1 := by rw [nth_set' (by omega), if_pos rfl]
        have hhi2 := hx2.hi k hlt
        exact ⟨_, _, by rw [hm2] at hhi2 ⊢; omega, ⟨x1.set k (nth x1 k + 1), true, hx2, hS, fun h => (by cases h), fun _ => by omega, rfl, rfl⟩, Sub.cons rfl (Sub.cons rfl (Sub.cons rfl (Sub.cons rfl (Sub.nil _))))⟩
      · skip
        have hcan : canB p x1 k = false := hc3
        refine e_exit ?_
        clear hK
        refine hK _ _ ?_; clear hK
        refine e_region_text rfl ?_
        refine q_move rfl rfl ?_
        refine q_add rfl rfl (wr64 (by omega) (by omega)) rfl ?_
        refine q_assign rfl rfl ?_
        refine eseq_nil ?_
        exact ⟨p.lens.length - (k + 1), _, by omega, ⟨k + 1, x1, mv1, by omega, hx1, hS, fun h => ⟨(hmf h).1, fun q hq => (by rcases Nat.lt_or_ge q k with h1 | h1; exact (hmf h).2 q h1; obtain rfl : q = k := (by omega); exact hcan)⟩, hmt, rfl, rfl⟩, Sub.cons rfl (Sub.cons rfl (Sub.cons rfl (Sub.cons rfl (Sub.nil _))))⟩
    · skip
      have hge : k = p.lens.length := by simp at hc2; omega
      refine e_exit ?_
      clear hK
      have hs1 := hx1.sum
      refine ⟨_, _, ?_, ⟨x1, mv1, hx1, hS, fun h => by have := (hmf h).2; rw [hge] at this; exact this, rfl, rfl⟩, Sub.cons rfl (Sub.cons rfl (Sub.cons rfl (Sub.nil _)))⟩
      cases mv1 with
      | false => rw [(hmf rfl).1]; simp
      | true => have := hmt rfl; simp; omega
  · skip
    have hmt : mv = false := hc
    subst hmt
    have hfin := hpos x0 hx0.len hx0.lo hx0.hi (hmv rfl)
    have hxl := hx0.len
    refine e_exit ?_
    clear hK
    refine hK _ _ ?_; clear hK
    refine e_seq fun K hK => ?_
    refine e_seq fun K hK => ?_
    refine e_region_text rfl ?_
    refine q_assign rfl rfl ?_
    refine eseq_nil ?_
    refine hK _ _ ?_; clear hK
    refine e_block ?_
    refine e_loop (fun mm E wfor => ∃ k : Nat, (k ≤ p.lens.length) ∧ mm = p.lens.length - k ∧ Below (World.heap wx).size wx wfor ∧ E = [(1, .pointer (some ⟨bl1, 0, none⟩)), (3, .slice (some ⟨bl2, 0, none⟩) p.lens.length p.lens.length), (6, .int .i64 k)]) _ ⟨_, ⟨0, by omega, rfl, Below.refl _ _, rfl⟩, Sub.cons rfl (Sub.cons rfl (Sub.cons rfl (Sub.nil _)))⟩ ?_
    rintro mm E wl5 ⟨k, hk5, rfl, hTl5, rfl⟩
    replace hL := hL.ext hTl5
    replace hC := hC.ext hTl5
    replace hA := hA.ext hTl5
    replace hS := hS.below hTl5
    refine e_seq fun K hK => ?_
    refine e_seq fun K hK => ?_
    refine e_region_text rfl ?_
    refine q_move rfl rfl ?_
    refine q_move rfl rfl ?_
    refine q_len rfl rfl ?_
    refine q_lss rfl rfl rfl ?_
    refine eseq_nil ?_
    refine hK _ _ ?_; clear hK
    refine e_cond rfl (fun hc4 => ?_) (fun hc4 => ?_)
    · skip
      have hlt : k < p.lens.length := by simpa using hc4
      refine e_skip ?_
      refine hK _ _ ?_; clear hK
      refine e_seq fun K hK => ?_
      refine e_block ?_
      refine e_seq fun K hK => ?_
      refine e_region_draw mixed (fun _ => False) [0, 0, 3, 7, 0, 16, 0, 112, 240, 511] [] [0, 1, 2, 3, 4, 5, 6, 7, 8, 9] (by kernel_rfl) ?_
      refine q_move rfl rfl ?_
      refine q_move rfl rfl ?_
      first | refine q_indexn rfl rfl (by omega) rfl ?_ | refine q_index rfl rfl ⟨by omega, by omega⟩ rfl ?_
      refine q_load rfl (Blk.intAt (hS.blk 0 rfl) (by first | omega | (simp; omega))) rfl ?_
      refine q_field rfl rfl ?_
      refine q_load rfl (Blk.cell (hS.blk 1 rfl) rfl) rfl ?_
      refine q_move rfl rfl ?_
      first | refine q_indexSn (by infer_instance) rfl hL rfl (by first | omega | decide) rfl fun b41 o41 f41 => ?_ | refine q_indexS (by infer_instance) rfl hL rfl (by first | omega | decide) (by first | omega | decide) rfl fun b41 o41 f41 => ?_
      refine q_load rfl (El.intCell f41) rfl ?_
      refine q_lss rfl rfl rfl ?_
      refine eseq_nil ?_
      refine hK _ _ ?_; clear hK
      refine e_cond rfl (fun hc5 => ?_) (fun hc5 => ?_)
      · skip
        have := hfin k hlt
        simp at hc5; omega
      · skip
        refine e_skip ?_
        refine hK _ _ ?_; clear hK
        refine e_region_text rfl ?_
        refine q_move rfl rfl ?_
        refine q_add rfl rfl (wr64 (by omega) (by omega)) rfl ?_
        refine q_assign rfl rfl ?_
        refine eseq_nil ?_
        refine ⟨p.lens.length - (k + 1), _, by omega, ⟨k + 1, by omega, rfl, hTl5, rfl⟩, Sub.cons rfl (Sub.cons rfl (Sub.cons rfl (Sub.nil _)))⟩
    · skip
      refine e_exit ?_
      clear hK
      refine hK _ _ ?_; clear hK
      refine e_seq fun K hK => ?_
      refine e_region_text rfl ?_
      refine q_assign rfl rfl ?_
      refine eseq_nil ?_
      refine hK _ _ ?_; clear hK
      refine e_ret ?_
      exact ⟨_, res1 rfl rfl, rfl, hS.step.below⟩

theorem check16 (hL : IsSlice Ty.int w SL vL p.lens) (hC : IsSlice Ty.int.slice w SC vC p.ckpts) (hA : IsSlice arcTy w SA vA p.arcs) (hp : p.Ok) :
    Gives Try.prog 39 [.agg #[vL, vC, vA]] w fun v w' => v = .int .i64 0 ∧ Below w.heap.size w w' := by
  replace hL := hL.old; replace hC := hC.old; replace hA := hA.old
  have hS := Sep.start w
  have h1 := hp.procs; have h2 := hp.arcs; have h3 := hp.rows
  refine fn_of Try.func39 rfl Try.ntmps39 (Nat.le_of_ble_eq_true rfl) ?_
  have hT := Below.refl w.heap.size w
  refine e_seq fun K hK => ?_
  refine e_region_text rfl ?_
  refine q_boxB rfl rfl rfl fun w1 bl1 hg1 hb1 hB1 => ?_
  replace hL := hL.ext hB1
  replace hC := hC.ext hB1
  replace hA := hA.ext hB1
  replace hS := hS.newBlk hB1 hg1 hb1
  refine q_assign rfl rfl ?_
  refine eseq_nil ?_
  refine hK _ _ ?_; clear hK
  refine e_seq fun K hK => ?_
  refine e_seq fun K hK => ?_
  refine e_region_text rfl ?_
  refine q_field rfl rfl ?_
  refine q_load rfl (Blk.cell (hS.blk 0 rfl) rfl) rfl ?_
  refine q_lenS rfl hL rfl ?_
  refine q_gtr rfl rfl rfl ?_
  refine q_move rfl rfl ?_
  refine g_or 4 rfl trivial rfl rfl ?_; apply Exists.intro; refine ⟨fun hg => ?_, fun hg => ?_, fun wm2 hBm2 => ?_⟩
  · have hg0 := hg
    refine g_skip rfl rfl rfl ?_
    refine g_skip rfl rfl rfl ?_
    refine g_skip rfl rfl rfl ?_
    refine g_skip rfl rfl rfl ?_
    exact eseq_nil ⟨rfl, Sub.set rfl (Sub.set rfl (Sub.set rfl (Sub.set rfl (Sub.bool true rfl hg0))))⟩
  · have hg0 := hg
    have hTm2 := Below.refl (World.heap w1).size w1
    try simp at hg
    refine g_run rfl ?_; refine q_field rfl rfl ?_
    refine g_run rfl ?_; refine q_load rfl (Blk.cell (hS.blk 0 rfl) rfl) rfl ?_
    refine g_run rfl ?_; refine q_lenS rfl hA rfl ?_
    refine g_run rfl ?_; refine q_gtr rfl rfl rfl ?_
    exact eseq_nil ⟨hTm2, Sub.set rfl (Sub.set rfl (Sub.set rfl (Sub.set rfl (Sub.bool false rfl hg0)))), rfl⟩
  replace hL := hL.ext hBm2
  replace hC := hC.ext hBm2
  replace hA := hA.ext hBm2
  replace hS := hS.below hBm2
  refine eseq_nil ?_
  refine hK _ _ ?_; clear hK
  refine e_cond rfl (fun hc => ?_) (fun hc => ?_)
  · skip
    simp at hc; omega
  refine e_skip ?_
  refine hK _ _ ?_; clear hK
  refine e_seq fun K hK => ?_
  refine e_seq fun K hK => ?_
  refine e_region_text rfl ?_
  refine q_field rfl rfl ?_
  refine q_load rfl (Blk.cell (hS.blk 0 rfl) rfl) rfl ?_
  refine q_lenS rfl hC rfl ?_
  refine q_field rfl rfl ?_
  refine q_load rfl (Blk.cell (hS.blk 0 rfl) rfl) rfl ?_
  refine q_lenS rfl hL rfl ?_
  refine q_neq rfl rfl rfl ?_
  refine eseq_nil ?_
  refine hK _ _ ?_; clear hK
  refine e_cond rfl (fun hc => ?_) (fun hc => ?_)
  · skip
    simp at hc; omega
  refine e_skip ?_
  refine hK _ _ ?_; clear hK
  refine e_seq fun K hK => ?_
  refine e_seq fun K hK => ?_
  refine e_region_text rfl ?_
  refine q_assign rfl rfl ?_
  refine eseq_nil ?_
  refine hK _ _ ?_; clear hK
  refine e_block ?_
  refine e_loop (fun mm E wfor => ∃ k : Nat, (k ≤ p.lens.length) ∧ mm = p.lens.length - k ∧ Below (World.heap wm2).size wm2 wfor ∧ E = [(1, .pointer (some ⟨bl1, 0, none⟩)), (3, .int .i64 k)]) _ ⟨_, ⟨0, by omega, rfl, Below.refl _ _, rfl⟩, Sub.cons rfl (Sub.cons rfl (Sub.nil _))⟩ ?_
  rintro mm E wl3 ⟨k, hk3, rfl, hTl3, rfl⟩
  replace hL := hL.ext hTl3
  replace hC := hC.ext hTl3
  replace hA := hA.ext hTl3
  replace hS := hS.below hTl3
  refine e_seq fun K hK => ?_
  refine e_seq fun K hK => ?_
  refine e_region_text rfl ?_
  refine q_move rfl rfl ?_
  refine q_field rfl rfl ?_
  refine q_load rfl (Blk.cell (hS.blk 0 rfl) rfl) rfl ?_
  refine q_lenS rfl hL rfl ?_
  refine q_lss rfl rfl rfl ?_
  refine eseq_nil ?_
  refine hK _ _ ?_; clear hK
  refine e_cond rfl (fun hc4 => ?_) (fun hc4 => ?_)
  · skip
    have hlt : k < p.lens.length := by simpa using hc4
    have hr := hp.lens k hlt
    refine e_skip ?_
    refine hK _ _ ?_; clear hK
    refine e_seq fun K hK => ?_
    refine e_block ?_
    refine e_seq fun K hK => ?_
    refine e_region_text rfl ?_
    refine q_field rfl rfl ?_
    refine q_load rfl (Blk.cell (hS.blk 0 rfl) rfl) rfl ?_
    refine q_move rfl rfl ?_
    first | refine q_indexSn (by infer_instance) rfl hL rfl (by first | omega | decide) rfl fun b34 o34 f34 => ?_ | refine q_indexS (by infer_instance) rfl hL rfl (by first | omega | decide) (by first | omega | decide) rfl fun b34 o34 f34 => ?_
    refine q_load rfl (El.intCell f34) rfl ?_
    refine q_lss rfl rfl rfl ?_
    refine q_move rfl rfl ?_
    refine g_or 6 rfl trivial rfl rfl ?_; apply Exists.intro; refine ⟨fun hg => ?_, fun hg => ?_, fun wm4 hBm4 => ?_⟩
    · have hg0 := hg
      refine g_skip rfl rfl rfl ?_
      refine g_skip rfl rfl rfl ?_
      refine g_skip rfl rfl rfl ?_
      refine g_skip rfl rfl rfl ?_
      refine g_skip rfl rfl rfl ?_
      refine g_skip rfl rfl rfl ?_
      exact eseq_nil ⟨rfl, Sub.set rfl (Sub.set rfl (Sub.set rfl (Sub.set rfl (Sub.set rfl (Sub.set rfl (Sub.bool true rfl hg0))))))⟩
    · have hg0 := hg
      have hTm4 := Below.refl (World.heap wl3).size wl3
      try simp at hg
      refine g_run rfl ?_; refine q_field rfl rfl ?_
      refine g_run rfl ?_; refine q_load rfl (Blk.cell (hS.blk 0 rfl) rfl) rfl ?_
      refine g_run rfl ?_; refine q_move rfl rfl ?_
      refine g_run rfl ?_; first | refine q_indexSn (by infer_instance) rfl hL rfl (by first | omega | decide) rfl fun b41 o41 f41 => ?_ | refine q_indexS (by infer_instance) rfl hL rfl (by first | omega | decide) (by first | omega | decide) rfl fun b41 o41 f41 => ?_
      refine g_run rfl ?_; refine q_load rfl (El.intCell f41) rfl ?_
      refine g_run rfl ?_; refine q_gtr rfl rfl rfl ?_
      exact eseq_nil ⟨hTm4, Sub.set rfl (Sub.set rfl (Sub.set rfl (Sub.set rfl (Sub.set rfl (Sub.set rfl (Sub.bool false rfl hg0)))))), rfl⟩
    replace hL := hL.ext hBm4
    replace hC := hC.ext hBm4
    replace hA := hA.ext hBm4
    replace f34 := f34.ext hBm4
    replace hS := hS.below hBm4
    replace hTl3 := hTl3.trans (Below.mono hBm4 hTl3.size)
    refine eseq_nil ?_
    refine hK _ _ ?_; clear hK
    refine e_cond rfl (fun hc5 => ?_) (fun hc5 => ?_)
    · skip
      simp at hc5; omega
    · skip
      refine e_skip ?_
      refine hK _ _ ?_; clear hK
      refine e_region_text rfl ?_
      refine q_move rfl rfl ?_
      refine q_add rfl rfl (wr64 (by omega) (by omega)) rfl ?_
      refine q_assign rfl rfl ?_
      refine eseq_nil ?_
      refine ⟨p.lens.length - (k + 1), _, by omega, ⟨k + 1, by omega, rfl, hTl3, rfl⟩, Sub.cons rfl (Sub.cons rfl (Sub.nil _))⟩
  clear hc4
  refine e_exit ?_
  clear hK
  refine hK _ _ ?_; clear hK
  refine e_seq fun K hK => ?_
  refine e_seq fun K hK => ?_
  refine e_region_text rfl ?_
  refine q_assign rfl rfl ?_
  refine eseq_nil ?_
  refine hK _ _ ?_; clear hK
  refine e_block ?_
  refine e_loop (fun mm E wfor => ∃ k2 : Nat, (k2 ≤ p.lens.length) ∧ mm = p.lens.length - k2 ∧ Below (World.heap wl3).size wl3 wfor ∧ E = [(1, .pointer (some ⟨bl1, 0, none⟩)), (4, .int .i64 k2)]) _ ⟨_, ⟨0, by omega, rfl, Below.refl _ _, rfl⟩, Sub.cons rfl (Sub.cons rfl (Sub.nil _))⟩ ?_
  rintro mm E wl5 ⟨k2, hk5, rfl, hTl5, rfl⟩
  replace hL := hL.ext hTl5
  replace hC := hC.ext hTl5
  replace hA := hA.ext hTl5
  replace hS := hS.below hTl5
  refine e_seq fun K hK => ?_
  refine e_seq fun K hK => ?_
  refine e_region_text rfl ?_
  refine q_move rfl rfl ?_
  refine q_field rfl rfl ?_
  refine q_load rfl (Blk.cell (hS.blk 0 rfl) rfl) rfl ?_
  refine q_lenS rfl hL rfl ?_
  refine q_lss rfl rfl rfl ?_
  refine eseq_nil ?_
  refine hK _ _ ?_; clear hK
  refine e_cond rfl (fun hc4 => ?_) (fun hc4 => ?_)
  · skip
    have hlt : k2 < p.lens.length := by simpa using hc4
    have hr := hp.ckpts k2 hlt
    refine e_skip ?_
    refine hK _ _ ?_; clear hK
    refine e_seq fun K hK => ?_
    refine e_block ?_
    refine e_seq fun K hK => ?_
    refine e_region_draw mixed (fun _ => False) [0, 1, 0, 7, 15, 0, 32, 0, 224, 480, 1023, 2047] [] [0, 1, 2, 3, 4, 5, 6, 7, 8, 9, 10, 11] (by kernel_rfl) ?_
    refine q_field rfl rfl ?_
    refine q_load rfl (Blk.cell (hS.blk 0 rfl) rfl) rfl ?_
    refine q_move rfl rfl ?_
    first | refine q_indexSn (by infer_instance) rfl hC rfl (by first | omega | decide) rfl fun b55 o55 f55 => ?_ | refine q_indexS (by infer_instance) rfl hC rfl (by first | omega | decide) (by first | omega | decide) rfl fun b55 o55 f55 => ?_
    refine q_loadS rfl f55 rfl fun v56 f56 => ?_
    refine q_field rfl rfl ?_
    refine q_load rfl (Blk.cell (hS.blk 0 rfl) rfl) rfl ?_
    refine q_move rfl rfl ?_
    first | refine q_indexSn (by infer_instance) rfl hL rfl (by first | omega | decide) rfl fun b60 o60 f60 => ?_ | refine q_indexS (by infer_instance) rfl hL rfl (by first | omega | decide) (by first | omega | decide) rfl fun b60 o60 f60 => ?_
    refine q_load rfl (El.intCell f60) rfl ?_
    refine q_call rfl (ckpts16 f56 (nth p.lens k2) (hp.short k2 hlt)) rfl ?_
    rintro _ w6 ⟨rfl, hB6⟩; refine ⟨fun _ => .of_below hB6, ?_⟩
    replace hL := hL.ext hB6
    replace hC := hC.ext hB6
    replace hA := hA.ext hB6
    replace f55 := f55.ext hB6
    replace f56 := f56.ext hB6
    replace f60 := f60.ext hB6
    replace hS := hS.below hB6
    replace hTl5 := hTl5.trans (Below.mono hB6 hTl5.size)
    refine q_not rfl rfl ?_
    refine eseq_nil ?_
    refine hK _ _ ?_; clear hK
    refine e_cond rfl (fun hc5 => ?_) (fun hc5 => ?_)
    · skip
      rw [hr] at hc5; cases hc5
    · skip
      refine e_skip ?_
      refine hK _ _ ?_; clear hK
      refine e_region_text rfl ?_
      refine q_move rfl rfl ?_
      refine q_add rfl rfl (wr64 (by omega) (by omega)) rfl ?_
      refine q_assign rfl rfl ?_
      refine eseq_nil ?_
      refine ⟨p.lens.length - (k2 + 1), _, by omega, ⟨k2 + 1, by omega, rfl, hTl5, rfl⟩, Sub.cons rfl (Sub.cons rfl (Sub.nil _))⟩
  clear hc4
  refine e_exit ?_
  clear hK
  refine hK _ _ ?_; clear hK
  refine e_seq fun K hK => ?_
  refine e_seq fun K hK => ?_
  refine e_region_text rfl ?_
  refine q_assign rfl rfl ?_
  refine eseq_nil ?_
  refine hK _ _ ?_; clear hK
  refine e_block ?_
  refine e_loop (fun mm E wfor => ∃ k3 : Nat, (k3 ≤ p.arcs.length) ∧ mm = p.arcs.length - k3 ∧ Below (World.heap wl5).size wl5 wfor ∧ E = [(1, .pointer (some ⟨bl1, 0, none⟩)), (5, .int .i64 k3)]) _ ⟨_, ⟨0, by omega, rfl, Below.refl _ _, rfl⟩, Sub.cons rfl (Sub.cons rfl (Sub.nil _))⟩ ?_
  rintro mm E wl7 ⟨k3, hk7, rfl, hTl7, rfl⟩
  replace hL := hL.ext hTl7
  replace hC := hC.ext hTl7
  replace hA := hA.ext hTl7
  replace hS := hS.below hTl7
  refine e_seq fun K hK => ?_
  refine e_seq fun K hK => ?_
  refine e_region_text rfl ?_
  refine q_move rfl rfl ?_
  refine q_field rfl rfl ?_
  refine q_load rfl (Blk.cell (hS.blk 0 rfl) rfl) rfl ?_
  refine q_lenS rfl hA rfl ?_
  refine q_lss rfl rfl rfl ?_
  refine eseq_nil ?_
  refine hK _ _ ?_; clear hK
  refine e_cond rfl (fun hc4 => ?_) (fun hc4 => ?_)
  · skip
    have hlt : k3 < p.arcs.length := by simpa using hc4
    have hr := hp.arc k3 hlt
    refine e_skip ?_
    refine hK _ _ ?_; clear hK
    refine e_seq fun K hK => ?_
    refine e_block ?_
    refine e_seq fun K hK => ?_
    refine e_region_text rfl ?_
    refine q_loadAgg rfl (Blk.cellsAt (hS.blk 0 rfl) 0 3 rfl) rfl rfl ?_
    refine q_move rfl rfl ?_
    refine q_call rfl (arc16 hL hC hA k3 hlt (by omega)) rfl ?_
    rintro _ w8 ⟨rfl, hB8⟩; refine ⟨fun _ => .of_below hB8, ?_⟩
    replace hL := hL.ext hB8
    replace hC := hC.ext hB8
    replace hA := hA.ext hB8
    replace hS := hS.below hB8
    replace hTl7 := hTl7.trans (Below.mono hB8 hTl7.size)
    refine q_assign rfl rfl ?_
    refine eseq_nil ?_
    refine hK _ _ ?_; clear hK
    refine e_seq fun K hK => ?_
    refine e_region_text rfl ?_
    refine q_move rfl rfl ?_
    refine q_neq rfl rfl rfl ?_
    refine eseq_nil ?_
    refine hK _ _ ?_; clear hK
    refine e_cond rfl (fun hc5 => ?_) (fun hc5 => ?_)
    · skip
      rw [hr] at hc5; cases hc5
    · skip
      refine e_skip ?_
      refine hK _ _ ?_; clear hK
      refine e_region_text rfl ?_
      refine q_move rfl rfl ?_
      refine q_add rfl rfl (wr64 (by omega) (by omega)) rfl ?_
      refine q_assign rfl rfl ?_
      refine eseq_nil ?_
      refine ⟨p.arcs.length - (k3 + 1), _, by omega, ⟨k3 + 1, by omega, rfl, hTl7, rfl⟩, Sub.cons rfl (Sub.cons rfl (Sub.nil _))⟩
  clear hc4
  refine e_exit ?_
  clear hK
  refine hK _ _ ?_; clear hK
  refine e_seq fun K hK => ?_
  refine e_seq fun K hK => ?_
  refine e_region_text rfl ?_
  refine q_loadAgg rfl (Blk.cellsAt (hS.blk 0 rfl) 0 3 rfl) rfl rfl ?_
  refine q_call rfl (possible16 hL hC hA (by omega) (by omega) (fun q hq => by have := hp.lens q hq; omega) hp.inn hp.free) rfl ?_
  rintro _ w9 ⟨rfl, hB9⟩; refine ⟨fun _ => .of_below hB9, ?_⟩
  replace hL := hL.ext hB9
  replace hC := hC.ext hB9
  replace hA := hA.ext hB9
  replace hS := hS.below hB9
  refine q_not rfl rfl ?_
  refine eseq_nil ?_
  refine hK _ _ ?_; clear hK
  refine e_cond rfl (fun hc5 => ?_) (fun hc5 => ?_)
  · skip
    cases hc5
  refine e_skip ?_
  refine hK _ _ ?_; clear hK
  refine e_seq fun K hK => ?_
  refine e_region_text rfl ?_
  refine q_assign rfl rfl ?_
  refine eseq_nil ?_
  refine hK _ _ ?_; clear hK
  refine e_ret ?_
  exact ⟨_, res1 rfl rfl, rfl, hS.step.below⟩
end Go.Proofs.Ytdpleaifhdlciaa
