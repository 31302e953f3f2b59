/- Same of chapter 16's reference, for patterns that are the same. -/
import Derived.Test.YtdpleaifhdlciaaW16
set_option linter.unusedSimpArgs false
set_option linter.unusedVariables false
namespace Go.Proofs.Ytdpleaifhdlciaa
open Go.RowKit Go.Mine
attribute [local irreducible] eseq ewp
variable {w : World} {SL SC SA SL2 SC2 SA2 : Nat → Prop} {vL vC vA uL uC uA : Value} {p : Pat}

theorem same16 (hL : IsSlice Ty.int w SL vL p.lens) (hC : IsSlice Ty.int.slice w SC vC p.ckpts) (hA : IsSlice arcTy w SA vA p.arcs) (kL : IsSlice Ty.int w SL2 uL p.lens) (kC : IsSlice Ty.int.slice w SC2 uC p.ckpts) (kA : IsSlice arcTy w SA2 uA p.arcs) (hf : p.Fits) :
    Gives Try.prog 19 [.agg #[vL, vC, vA], .agg #[uL, uC, uA]] w fun v w' => v = .bool true ∧ Below w.heap.size w w' := by
  replace hL := hL.old; replace hC := hC.old; replace hA := hA.old; replace kL := kL.old; replace kC := kC.old; replace kA := kA.old
  have hS := Sep.start w
  have h1 := hf.lens; have h2 := hf.ckpts; have h3 := hf.arcs
  refine fn_of Try.func19 rfl Try.ntmps19 (Nat.le_of_ble_eq_true rfl) ?_
  have hT := Below.refl w.heap.size w
  refine e_seq fun K hK => ?_
  refine e_region_text rfl ?_
  refine q_boxB rfl rfl rfl fun w1 bl1 hg1 hb1 hB1 => ?_
  replace hL := hL.ext hB1
  replace hC := hC.ext hB1
  replace hA := hA.ext hB1
  replace kL := kL.ext hB1
  replace kC := kC.ext hB1
  replace kA := kA.ext hB1
  replace hS := hS.newBlk hB1 hg1 hb1
  refine q_boxB rfl rfl rfl fun w2 bl2 hg2 hb2 hB2 => ?_
  replace hL := hL.ext hB2
  replace hC := hC.ext hB2
  replace hA := hA.ext hB2
  replace kL := kL.ext hB2
  replace kC := kC.ext hB2
  replace kA := kA.ext hB2
  replace hS := hS.newBlk hB2 hg2 hb2
  refine q_assign rfl rfl ?_
  refine eseq_nil ?_
  refine hK _ _ ?_; clear hK
  refine e_seq fun K hK => ?_
  refine e_seq fun K hK => ?_
  refine e_region_text rfl ?_
  refine q_field rfl rfl ?_
  refine q_load rfl (Blk.cell (hS.blk 1 rfl) rfl) rfl ?_
  refine q_field rfl rfl ?_
  refine q_load rfl (Blk.cell (hS.blk 0 rfl) rfl) rfl ?_
  refine q_call rfl (sameInts16 hL kL (by omega)) rfl ?_
  rintro _ w3 ⟨rfl, hB3⟩; refine ⟨fun _ => .of_below hB3, ?_⟩
  replace hL := hL.ext hB3
  replace hC := hC.ext hB3
  replace hA := hA.ext hB3
  replace kL := kL.ext hB3
  replace kC := kC.ext hB3
  replace kA := kA.ext hB3
  replace hS := hS.below hB3
  refine q_not rfl rfl ?_
  refine q_move rfl rfl ?_
  refine g_or 7 rfl trivial rfl rfl ?_; apply Exists.intro; refine ⟨fun hg => ?_, fun hg => ?_, fun wm4 hBm4 => ?_⟩
  · have hg0 := hg
    refine g_skip rfl rfl rfl ?_
    refine g_skip rfl rfl rfl ?_
    refine g_skip rfl rfl rfl ?_
    refine g_skip rfl rfl rfl ?_
    refine g_skip rfl rfl rfl ?_
    refine g_skip rfl rfl rfl ?_
    refine g_skip rfl rfl rfl ?_
    exact eseq_nil ⟨rfl, Sub.set rfl (Sub.set rfl (Sub.set rfl (Sub.set rfl (Sub.set rfl (Sub.set rfl (Sub.set rfl (Sub.bool true rfl hg0)))))))⟩
  · have hg0 := hg
    have hTm4 := Below.refl (World.heap w3).size w3
    try simp at hg
    refine g_run rfl ?_; refine q_field rfl rfl ?_
    refine g_run rfl ?_; refine q_load rfl (Blk.cell (hS.blk 1 rfl) rfl) rfl ?_
    refine g_run rfl ?_; refine q_lenS rfl hC rfl ?_
    refine g_run rfl ?_; refine q_field rfl rfl ?_
    refine g_run rfl ?_; refine q_load rfl (Blk.cell (hS.blk 0 rfl) rfl) rfl ?_
    refine g_run rfl ?_; refine q_lenS rfl kC rfl ?_
    refine g_run rfl ?_; refine q_neq rfl rfl rfl ?_
    exact eseq_nil ⟨hTm4, Sub.set rfl (Sub.set rfl (Sub.set rfl (Sub.set rfl (Sub.set rfl (Sub.set rfl (Sub.set rfl (Sub.bool false rfl hg0))))))), rfl⟩
  replace hL := hL.ext hBm4
  replace hC := hC.ext hBm4
  replace hA := hA.ext hBm4
  replace kL := kL.ext hBm4
  replace kC := kC.ext hBm4
  replace kA := kA.ext hBm4
  replace hS := hS.below hBm4
  refine q_move rfl rfl ?_
  refine g_or 7 rfl trivial rfl rfl ?_; apply Exists.intro; refine ⟨fun hg => ?_, fun hg => ?_, fun wm5 hBm5 => ?_⟩
  · have hg0 := hg
    refine g_skip rfl rfl rfl ?_
    refine g_skip rfl rfl rfl ?_
    refine g_skip rfl rfl rfl ?_
    refine g_skip rfl rfl rfl ?_
    refine g_skip rfl rfl rfl ?_
    refine g_skip rfl rfl rfl ?_
    refine g_skip rfl rfl rfl ?_
    exact eseq_nil ⟨rfl, Sub.set rfl (Sub.set rfl (Sub.set rfl (Sub.set rfl (Sub.set rfl (Sub.set rfl (Sub.set rfl (Sub.bool true rfl hg0)))))))⟩
  · have hg0 := hg
    have hTm5 := Below.refl (World.heap wm4).size wm4
    try simp at hg
    refine g_run rfl ?_; refine q_field rfl rfl ?_
    refine g_run rfl ?_; refine q_load rfl (Blk.cell (hS.blk 1 rfl) rfl) rfl ?_
    refine g_run rfl ?_; refine q_lenS rfl hA rfl ?_
    refine g_run rfl ?_; refine q_field rfl rfl ?_
    refine g_run rfl ?_; refine q_load rfl (Blk.cell (hS.blk 0 rfl) rfl) rfl ?_
    refine g_run rfl ?_; refine q_lenS rfl kA rfl ?_
    refine g_run rfl ?_; refine q_neq rfl rfl rfl ?_
    exact eseq_nil ⟨hTm5, Sub.set rfl (Sub.set rfl (Sub.set rfl (Sub.set rfl (Sub.set rfl (Sub.set rfl (Sub.set rfl (Sub.bool false rfl hg0))))))), rfl⟩
  replace hL := hL.ext hBm5
  replace hC := hC.ext hBm5
  replace hA := hA.ext hBm5
  replace kL := kL.ext hBm5
  replace kC := kC.ext hBm5
  replace kA := kA.ext hBm5
  replace hS := hS.below hBm5
  refine eseq_nil ?_
  refine hK _ _ ?_; clear hK
  refine e_cond rfl (fun hc => ?_) (fun hc => ?_)
  · skip
    simp at hc
  refine e_skip ?_
  refine hK _ _ ?_; clear hK
  refine e_seq fun K hK => ?_
  refine e_seq fun K hK => ?_
  refine e_region_text rfl ?_
  refine q_assign rfl rfl ?_
  refine eseq_nil ?_
  refine hK _ _ ?_; clear hK
  refine e_block ?_
  refine e_loop (fun mm E wfor => ∃ k : Nat, (k ≤ p.ckpts.length) ∧ mm = p.ckpts.length - k ∧ Below (World.heap wm5).size wm5 wfor ∧ E = [(2, .pointer (some ⟨bl1, 0, none⟩)), (3, .pointer (some ⟨bl2, 0, none⟩)), (5, .int .i64 k)]) _ ⟨_, ⟨0, by omega, rfl, Below.refl _ _, rfl⟩, Sub.cons rfl (Sub.cons rfl (Sub.cons rfl (Sub.nil _)))⟩ ?_
  rintro mm E wl6 ⟨k, hk6, rfl, hTl6, rfl⟩
  replace hL := hL.ext hTl6
  replace hC := hC.ext hTl6
  replace hA := hA.ext hTl6
  replace kL := kL.ext hTl6
  replace kC := kC.ext hTl6
  replace kA := kA.ext hTl6
  replace hS := hS.below hTl6
  refine e_seq fun K hK => ?_
  refine e_seq fun K hK => ?_
  refine e_region_text rfl ?_
  refine q_move rfl rfl ?_
  refine q_field rfl rfl ?_
  refine q_load rfl (Blk.cell (hS.blk 1 rfl) rfl) rfl ?_
  refine q_lenS rfl hC rfl ?_
  refine q_lss rfl rfl rfl ?_
  refine eseq_nil ?_
  refine hK _ _ ?_; clear hK
  refine e_cond rfl (fun hc4 => ?_) (fun hc4 => ?_)
  · skip
    have hlt : k < p.ckpts.length := by simpa using hc4
    refine e_skip ?_
    refine hK _ _ ?_; clear hK
    refine e_seq fun K hK => ?_
    refine e_block ?_
    refine e_seq fun K hK => ?_
    refine e_region_draw mixed (fun _ => False) [0, 1, 0, 7, 15, 0, 32, 0, 224, 480, 1023, 2047] [] [0, 1, 2, 3, 4, 5, 6, 7, 8, 9, 10, 11] (by kernel_rfl) ?_
    refine q_field rfl rfl ?_
    refine q_load rfl (Blk.cell (hS.blk 1 rfl) rfl) rfl ?_
    refine q_move rfl rfl ?_
    first | refine q_indexSn (by infer_instance) rfl hC rfl (by first | omega | decide) rfl fun b41 o41 f41 => ?_ | refine q_indexS (by infer_instance) rfl hC rfl (by first | omega | decide) (by first | omega | decide) rfl fun b41 o41 f41 => ?_
    refine q_loadS rfl f41 rfl fun v42 f42 => ?_
    refine q_field rfl rfl ?_
    refine q_load rfl (Blk.cell (hS.blk 0 rfl) rfl) rfl ?_
    refine q_move rfl rfl ?_
    first | refine q_indexSn (by infer_instance) rfl kC rfl (by first | omega | decide) rfl fun b46 o46 f46 => ?_ | refine q_indexS (by infer_instance) rfl kC rfl (by first | omega | decide) (by first | omega | decide) rfl fun b46 o46 f46 => ?_
    refine q_loadS rfl f46 rfl fun v47 f47 => ?_
    refine q_call rfl (sameInts16 f42 f47 (by rw [nth_eq hlt]; exact hf.rows _ (by simp))) rfl ?_
    rintro _ w7 ⟨rfl, hB7⟩; refine ⟨fun _ => .of_below hB7, ?_⟩
    replace hL := hL.ext hB7
    replace hC := hC.ext hB7
    replace hA := hA.ext hB7
    replace kL := kL.ext hB7
    replace kC := kC.ext hB7
    replace kA := kA.ext hB7
    replace f41 := f41.ext hB7
    replace f42 := f42.ext hB7
    replace f46 := f46.ext hB7
    replace f47 := f47.ext hB7
    replace hS := hS.below hB7
    replace hTl6 := hTl6.trans (Below.mono hB7 hTl6.size)
    refine q_not rfl rfl ?_
    refine eseq_nil ?_
    refine hK _ _ ?_; clear hK
    refine e_cond rfl (fun hc5 => ?_) (fun hc5 => ?_)
    · skip
      simp at hc5
    · skip
      refine e_skip ?_
      refine hK _ _ ?_; clear hK
      refine e_region_text rfl ?_
      refine q_move rfl rfl ?_
      refine q_add rfl rfl (wr64 (by omega) (by omega)) rfl ?_
      refine q_assign rfl rfl ?_
      refine eseq_nil ?_
      refine ⟨p.ckpts.length - (k + 1), _, by omega, ⟨k + 1, by omega, rfl, hTl6, rfl⟩, Sub.cons rfl (Sub.cons rfl (Sub.cons rfl (Sub.nil _)))⟩
  clear hc4
  refine e_exit ?_
  clear hK
  refine hK _ _ ?_; clear hK
  refine e_seq fun K hK => ?_
  refine e_seq fun K hK => ?_
  refine e_region_text rfl ?_
  refine q_assign rfl rfl ?_
  refine eseq_nil ?_
  refine hK _ _ ?_; clear hK
  refine e_block ?_
  refine e_loop (fun mm E wfor => ∃ k2 : Nat, (k2 ≤ p.arcs.length) ∧ mm = p.arcs.length - k2 ∧ Below (World.heap wl6).size wl6 wfor ∧ E = [(2, .pointer (some ⟨bl1, 0, none⟩)), (3, .pointer (some ⟨bl2, 0, none⟩)), (6, .int .i64 k2)]) _ ⟨_, ⟨0, by omega, rfl, Below.refl _ _, rfl⟩, Sub.cons rfl (Sub.cons rfl (Sub.cons rfl (Sub.nil _)))⟩ ?_
  rintro mm E wl8 ⟨k2, hk8, rfl, hTl8, rfl⟩
  replace hL := hL.ext hTl8
  replace hC := hC.ext hTl8
  replace hA := hA.ext hTl8
  replace kL := kL.ext hTl8
  replace kC := kC.ext hTl8
  replace kA := kA.ext hTl8
  replace hS := hS.below hTl8
  refine e_seq fun K hK => ?_
  refine e_seq fun K hK => ?_
  refine e_region_text rfl ?_
  refine q_move rfl rfl ?_
  refine q_field rfl rfl ?_
  refine q_load rfl (Blk.cell (hS.blk 1 rfl) rfl) rfl ?_
  refine q_lenS rfl hA rfl ?_
  refine q_lss rfl rfl rfl ?_
  refine eseq_nil ?_
  refine hK _ _ ?_; clear hK
  refine e_cond rfl (fun hc4 => ?_) (fun hc4 => ?_)
  · skip
    have hlt : k2 < p.arcs.length := by simpa using hc4
    refine e_skip ?_
    refine hK _ _ ?_; clear hK
    refine e_seq fun K hK => ?_
    refine e_block ?_
    refine e_seq fun K hK => ?_
    refine e_region_draw mixed (fun _ => False) [0, 1, 0, 7, 15, 0, 32, 0, 224, 480, 1023] [] [0, 1, 2, 3, 4, 5, 6, 7, 8, 9, 10] (by kernel_rfl) ?_
    refine q_field rfl rfl ?_
    refine q_load rfl (Blk.cell (hS.blk 1 rfl) rfl) rfl ?_
    refine q_move rfl rfl ?_
    first | refine q_indexSn (by infer_instance) rfl hA rfl (by first | omega | decide) rfl fun b60 o60 f60 => ?_ | refine q_indexS (by infer_instance) rfl hA rfl (by first | omega | decide) (by first | omega | decide) rfl fun b60 o60 f60 => ?_
    refine q_loadAgg rfl (ArcL f60) rfl rfl ?_
    refine q_field rfl rfl ?_
    refine q_load rfl (Blk.cell (hS.blk 0 rfl) rfl) rfl ?_
    refine q_move rfl rfl ?_
    first | refine q_indexSn (by infer_instance) rfl kA rfl (by first | omega | decide) rfl fun b65 o65 f65 => ?_ | refine q_indexS (by infer_instance) rfl kA rfl (by first | omega | decide) (by first | omega | decide) rfl fun b65 o65 f65 => ?_
    refine q_loadAgg rfl (ArcL f65) rfl rfl ?_
    refine q_neqA eqT46 (by kernel_rfl) rfl rfl rfl ?_
    refine eseq_nil ?_
    refine hK _ _ ?_; clear hK
    refine e_cond rfl (fun hc5 => ?_) (fun hc5 => ?_)
    · skip
      simp at hc5
    · skip
      refine e_skip ?_
      refine hK _ _ ?_; clear hK
      refine e_region_text rfl ?_
      refine q_move rfl rfl ?_
      refine q_add rfl rfl (wr64 (by omega) (by omega)) rfl ?_
      refine q_assign rfl rfl ?_
      refine eseq_nil ?_
      refine ⟨p.arcs.length - (k2 + 1), _, by omega, ⟨k2 + 1, by omega, rfl, hTl8, rfl⟩, Sub.cons rfl (Sub.cons rfl (Sub.cons rfl (Sub.nil _)))⟩
  refine e_exit ?_
  clear hK
  refine hK _ _ ?_; clear hK
  refine e_seq fun K hK => ?_
  refine e_region_text rfl ?_
  refine q_assign rfl rfl ?_
  refine eseq_nil ?_
  refine hK _ _ ?_; clear hK
  refine e_ret ?_
  exact ⟨_, res1 rfl rfl, rfl, hS.step.below⟩
end Go.Proofs.Ytdpleaifhdlciaa
