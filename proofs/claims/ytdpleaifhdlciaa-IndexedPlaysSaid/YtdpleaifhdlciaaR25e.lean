/- Same of chapter 25's reference, for histories that are the same. -/
import Derived.Test.YtdpleaifhdlciaaW25g
import Derived.Test.YtdpleaifhdlciaaW16c
set_option linter.unusedSimpArgs false
set_option linter.unusedVariables false
namespace Go.Mine
structure Hist.Fits (h : Hist) : Prop where
  pat : (⟨h.lens, h.ckpts, h.arcs⟩ : Pat).Fits
  clocks : h.clocks.length ≤ 1000000000
  rows : ∀ l ∈ h.clocks, l.length ≤ 1000000000
  vecs : h.vecs = []
  forced : h.forced.length ≤ 1000000000
  marks : ∀ l ∈ h.forced, l.length ≤ 1000000000
end Go.Mine
namespace Go.Proofs.Ytdpleaifhdlciaa
open Go.RowKit Go.Mine
attribute [local irreducible] eseq ewp
variable {w : World} {S S2 : Nat → Prop} {vL vC vA vK vV vF uL uC uA uK uV uF : Value}

theorem sameR25 {h : Hist} (hh : HistAt w S vL vC vA vK vV vF h) (kk : HistAt w S2 uL uC uA uK uV uF h) (hf : h.Fits) :
    Gives Try.prog 16 [.agg #[vL, vC, vA, vK, vV, vF], .agg #[uL, uC, uA, uK, uV, uF]] w fun v w' => v = .bool true ∧ Below w.heap.size w w' := by
  have hL := hh.lens.old; have hC := hh.ckpts.old; have hA := hh.arcs.old; have hK1 := hh.clocks.old; have hV := hh.vecs.old; have hF := hh.forced.old
  have kL := kk.lens.old; have kC := kk.ckpts.old; have kA := kk.arcs.old; have kK1 := kk.clocks.old; have kV := kk.vecs.old; have kF := kk.forced.old
  have hS := Sep.start w
  have h1 := hf.clocks; have h2 := hf.forced; have h3 := hf.vecs
  refine fn_of Try.func16 rfl Try.ntmps16 (Nat.le_of_ble_eq_true rfl) ?_
  have hT := Below.refl w.heap.size w
  refine e_seq fun K hK => ?_
  refine e_region_text rfl ?_
  refine q_boxB rfl rfl rfl fun w1 bl1 hg1 hb1 hB1 => ?_
  replace hL := hL.ext hB1
  replace hC := hC.ext hB1
  replace hA := hA.ext hB1
  replace hK1 := hK1.ext hB1
  replace hV := hV.ext hB1
  replace hF := hF.ext hB1
  replace kL := kL.ext hB1
  replace kC := kC.ext hB1
  replace kA := kA.ext hB1
  replace kK1 := kK1.ext hB1
  replace kV := kV.ext hB1
  replace kF := kF.ext hB1
  replace hS := hS.newBlk hB1 hg1 hb1
  refine q_boxB rfl rfl rfl fun w2 bl2 hg2 hb2 hB2 => ?_
  replace hL := hL.ext hB2
  replace hC := hC.ext hB2
  replace hA := hA.ext hB2
  replace hK1 := hK1.ext hB2
  replace hV := hV.ext hB2
  replace hF := hF.ext hB2
  replace kL := kL.ext hB2
  replace kC := kC.ext hB2
  replace kA := kA.ext hB2
  replace kK1 := kK1.ext hB2
  replace kV := kV.ext hB2
  replace kF := kF.ext hB2
  replace hS := hS.newBlk hB2 hg2 hb2
  refine q_assign rfl rfl ?_
  refine eseq_nil ?_
  refine hK _ _ ?_; clear hK
  refine e_seq fun K hK => ?_
  refine e_seq fun K hK => ?_
  refine e_region_text rfl ?_
  refine q_field rfl rfl ?_
  refine q_loadAgg rfl (Blk.cellsAt (hS.blk 1 rfl) 0 3 rfl) rfl rfl ?_
  refine q_field rfl rfl ?_
  refine q_loadAgg rfl (Blk.cellsAt (hS.blk 0 rfl) 0 3 rfl) rfl rfl ?_
  refine q_call rfl (same16 (p := ⟨h.lens, h.ckpts, h.arcs⟩) hL hC hA kL kC kA hf.pat) rfl ?_
  rintro _ w3 ⟨rfl, hB3⟩; refine ⟨fun _ => .of_below hB3, ?_⟩
  replace hL := hL.ext hB3
  replace hC := hC.ext hB3
  replace hA := hA.ext hB3
  replace hK1 := hK1.ext hB3
  replace hV := hV.ext hB3
  replace hF := hF.ext hB3
  replace kL := kL.ext hB3
  replace kC := kC.ext hB3
  replace kA := kA.ext hB3
  replace kK1 := kK1.ext hB3
  replace kV := kV.ext hB3
  replace kF := kF.ext hB3
  replace hS := hS.below hB3
  refine q_not rfl rfl ?_
  refine q_move rfl rfl ?_
  refine g_or 6 rfl trivial rfl rfl ?_; apply Exists.intro; refine ⟨fun hg => ?_, fun hg => ?_, fun wm4 hBm4 => ?_⟩
  · have hg0 := hg
    refine g_skip rfl rfl rfl ?_
    refine g_skip rfl rfl rfl ?_
    refine g_skip rfl rfl rfl ?_
    refine g_skip rfl rfl rfl ?_
    refine g_skip rfl rfl rfl ?_
    refine g_skip rfl rfl rfl ?_
    exact eseq_nil ⟨rfl, Sub.set rfl (Sub.set rfl (Sub.set rfl (Sub.set rfl (Sub.set rfl (Sub.set rfl (Sub.bool true rfl hg0))))))⟩
  · have hg0 := hg
    have hTm4 := Below.refl (World.heap w3).size w3
    try simp at hg
    refine g_run rfl ?_; refine q_field rfl rfl ?_
    refine g_run rfl ?_; refine q_load rfl (Blk.cell (hS.blk 1 rfl) rfl) rfl ?_
    refine g_run rfl ?_; refine q_field rfl rfl ?_
    refine g_run rfl ?_; refine q_load rfl (Blk.cell (hS.blk 0 rfl) rfl) rfl ?_
    refine g_run rfl ?_; refine q_call rfl (sameLists hK1 kK1 (by omega) hf.rows) rfl ?_
    rintro _ w5 ⟨rfl, hB5⟩; refine ⟨fun _ => .of_below hB5, ?_⟩
    replace hL := hL.ext hB5
    replace hC := hC.ext hB5
    replace hA := hA.ext hB5
    replace hK1 := hK1.ext hB5
    replace hV := hV.ext hB5
    replace hF := hF.ext hB5
    replace kL := kL.ext hB5
    replace kC := kC.ext hB5
    replace kA := kA.ext hB5
    replace kK1 := kK1.ext hB5
    replace kV := kV.ext hB5
    replace kF := kF.ext hB5
    replace hS := hS.below hB5
    replace hTm4 := hTm4.trans (Below.mono hB5 hTm4.size)
    refine g_run rfl ?_; refine q_not rfl rfl ?_
    exact eseq_nil ⟨hTm4, Sub.set rfl (Sub.set rfl (Sub.set rfl (Sub.set rfl (Sub.set rfl (Sub.set rfl (Sub.bool false rfl hg0)))))), rfl⟩
  replace hL := hL.ext hBm4
  replace hC := hC.ext hBm4
  replace hA := hA.ext hBm4
  replace hK1 := hK1.ext hBm4
  replace hV := hV.ext hBm4
  replace hF := hF.ext hBm4
  replace kL := kL.ext hBm4
  replace kC := kC.ext hBm4
  replace kA := kA.ext hBm4
  replace kK1 := kK1.ext hBm4
  replace kV := kV.ext hBm4
  replace kF := kF.ext hBm4
  replace hS := hS.below hBm4
  refine q_move rfl rfl ?_
  refine g_or 7 rfl trivial rfl rfl ?_; apply Exists.intro; refine ⟨fun hg => ?_, fun hg => ?_, fun wm6 hBm6 => ?_⟩
  · have hg0 := hg
    refine g_skip rfl rfl rfl ?_
    refine g_skip rfl rfl rfl ?_
    refine g_skip rfl rfl rfl ?_
    refine g_skip rfl rfl rfl ?_
    refine g_skip rfl rfl rfl ?_
    refine g_skip rfl rfl rfl ?_
    refine g_skip rfl rfl rfl ?_
    exact eseq_nil ⟨rfl, Sub.set rfl (Sub.set rfl (Sub.set rfl (Sub.set rfl (Sub.set rfl (Sub.set rfl (Sub.set rfl (Sub.bool true rfl hg0)))))))⟩
  · have hg0 := hg
    have hTm6 := Below.refl (World.heap wm4).size wm4
    try simp at hg
    refine g_run rfl ?_; refine q_field rfl rfl ?_
    refine g_run rfl ?_; refine q_load rfl (Blk.cell (hS.blk 1 rfl) rfl) rfl ?_
    refine g_run rfl ?_; refine q_lenS rfl hV rfl ?_
    refine g_run rfl ?_; refine q_field rfl rfl ?_
    refine g_run rfl ?_; refine q_load rfl (Blk.cell (hS.blk 0 rfl) rfl) rfl ?_
    refine g_run rfl ?_; refine q_lenS rfl kV rfl ?_
    refine g_run rfl ?_; refine q_neq rfl rfl rfl ?_
    exact eseq_nil ⟨hTm6, Sub.set rfl (Sub.set rfl (Sub.set rfl (Sub.set rfl (Sub.set rfl (Sub.set rfl (Sub.set rfl (Sub.bool false rfl hg0))))))), rfl⟩
  replace hL := hL.ext hBm6
  replace hC := hC.ext hBm6
  replace hA := hA.ext hBm6
  replace hK1 := hK1.ext hBm6
  replace hV := hV.ext hBm6
  replace hF := hF.ext hBm6
  replace kL := kL.ext hBm6
  replace kC := kC.ext hBm6
  replace kA := kA.ext hBm6
  replace kK1 := kK1.ext hBm6
  replace kV := kV.ext hBm6
  replace kF := kF.ext hBm6
  replace hS := hS.below hBm6
  refine q_move rfl rfl ?_
  refine g_or 7 rfl trivial rfl rfl ?_; apply Exists.intro; refine ⟨fun hg => ?_, fun hg => ?_, fun wm7 hBm7 => ?_⟩
  · have hg0 := hg
    refine g_skip rfl rfl rfl ?_
    refine g_skip rfl rfl rfl ?_
    refine g_skip rfl rfl rfl ?_
    refine g_skip rfl rfl rfl ?_
    refine g_skip rfl rfl rfl ?_
    refine g_skip rfl rfl rfl ?_
    refine g_skip rfl rfl rfl ?_
    exact eseq_nil ⟨rfl, Sub.set rfl (Sub.set rfl (Sub.set rfl (Sub.set rfl (Sub.set rfl (Sub.set rfl (Sub.set rfl (Sub.bool true rfl hg0)))))))⟩
  · have hg0 := hg
    have hTm7 := Below.refl (World.heap wm6).size wm6
    try simp at hg
    refine g_run rfl ?_; refine q_field rfl rfl ?_
    refine g_run rfl ?_; refine q_load rfl (Blk.cell (hS.blk 1 rfl) rfl) rfl ?_
    refine g_run rfl ?_; refine q_lenS rfl hF rfl ?_
    refine g_run rfl ?_; refine q_field rfl rfl ?_
    refine g_run rfl ?_; refine q_load rfl (Blk.cell (hS.blk 0 rfl) rfl) rfl ?_
    refine g_run rfl ?_; refine q_lenS rfl kF rfl ?_
    refine g_run rfl ?_; refine q_neq rfl rfl rfl ?_
    exact eseq_nil ⟨hTm7, Sub.set rfl (Sub.set rfl (Sub.set rfl (Sub.set rfl (Sub.set rfl (Sub.set rfl (Sub.set rfl (Sub.bool false rfl hg0))))))), rfl⟩
  replace hL := hL.ext hBm7
  replace hC := hC.ext hBm7
  replace hA := hA.ext hBm7
  replace hK1 := hK1.ext hBm7
  replace hV := hV.ext hBm7
  replace hF := hF.ext hBm7
  replace kL := kL.ext hBm7
  replace kC := kC.ext hBm7
  replace kA := kA.ext hBm7
  replace kK1 := kK1.ext hBm7
  replace kV := kV.ext hBm7
  replace kF := kF.ext hBm7
  replace hS := hS.below hBm7
  refine eseq_nil ?_
  refine hK _ _ ?_; clear hK
  refine e_cond rfl (fun hc => ?_) (fun hc => ?_)
  · skip
    simp at hc
  refine e_skip ?_
  refine hK _ _ ?_; clear hK
  refine e_seq fun K hK => ?_
  refine e_seq fun K hK => ?_
  refine e_region_text rfl ?_
  refine q_assign rfl rfl ?_
  refine eseq_nil ?_
  refine hK _ _ ?_; clear hK
  refine e_block ?_
  refine e_loop (fun mm E wfor => ∃ k : Nat, (k ≤ h.vecs.length) ∧ mm = h.vecs.length - k ∧ Below (World.heap wm7).size wm7 wfor ∧ E = [(2, .pointer (some ⟨bl1, 0, none⟩)), (3, .pointer (some ⟨bl2, 0, none⟩)), (5, .int .i64 k)]) _ ⟨_, ⟨0, by omega, rfl, Below.refl _ _, rfl⟩, Sub.cons rfl (Sub.cons rfl (Sub.cons rfl (Sub.nil _)))⟩ ?_
  rintro mm E wl8 ⟨k, hk8, rfl, hTl8, rfl⟩
  replace hL := hL.ext hTl8
  replace hC := hC.ext hTl8
  replace hA := hA.ext hTl8
  replace hK1 := hK1.ext hTl8
  replace hV := hV.ext hTl8
  replace hF := hF.ext hTl8
  replace kL := kL.ext hTl8
  replace kC := kC.ext hTl8
  replace kA := kA.ext hTl8
  replace kK1 := kK1.ext hTl8
  replace kV := kV.ext hTl8
  replace kF := kF.ext hTl8
  replace hS := hS.below hTl8
  refine e_seq fun K hK => ?_
  refine e_seq fun K hK => ?_
  refine e_region_text rfl ?_
  refine q_move rfl rfl ?_
  refine q_field rfl rfl ?_
  refine q_load rfl (Blk.cell (hS.blk 1 rfl) rfl) rfl ?_
  refine q_lenS rfl hV rfl ?_
  refine q_lss rfl rfl rfl ?_
  refine eseq_nil ?_
  refine hK _ _ ?_; clear hK
  refine e_cond rfl (fun hc4 => ?_) (fun hc4 => ?_)
  · skip
    rw [h3] at hc4; simp at hc4; omega
  clear hc4
  refine e_exit ?_
  clear hK
  refine hK _ _ ?_; clear hK
  refine e_seq fun K hK => ?_
  refine e_seq fun K hK => ?_
  refine e_region_text rfl ?_
  refine q_assign rfl rfl ?_
  refine eseq_nil ?_
  refine hK _ _ ?_; clear hK
  refine e_block ?_
  refine e_loop (fun mm E wfor => ∃ k2 : Nat, (k2 ≤ h.forced.length) ∧ mm = h.forced.length - k2 ∧ Below (World.heap wl8).size wl8 wfor ∧ E = [(2, .pointer (some ⟨bl1, 0, none⟩)), (3, .pointer (some ⟨bl2, 0, none⟩)), (6, .int .i64 k2)]) _ ⟨_, ⟨0, by omega, rfl, Below.refl _ _, rfl⟩, Sub.cons rfl (Sub.cons rfl (Sub.cons rfl (Sub.nil _)))⟩ ?_
  rintro mm E wl9 ⟨k2, hk9, rfl, hTl9, rfl⟩
  replace hL := hL.ext hTl9
  replace hC := hC.ext hTl9
  replace hA := hA.ext hTl9
  replace hK1 := hK1.ext hTl9
  replace hV := hV.ext hTl9
  replace hF := hF.ext hTl9
  replace kL := kL.ext hTl9
  replace kC := kC.ext hTl9
  replace kA := kA.ext hTl9
  replace kK1 := kK1.ext hTl9
  replace kV := kV.ext hTl9
  replace kF := kF.ext hTl9
  replace hS := hS.below hTl9
  refine e_seq fun K hK => ?_
  refine e_seq fun K hK => ?_
  refine e_region_text rfl ?_
  refine q_move rfl rfl ?_
  refine q_field rfl rfl ?_
  refine q_load rfl (Blk.cell (hS.blk 1 rfl) rfl) rfl ?_
  refine q_lenS rfl hF rfl ?_
  refine q_lss rfl rfl rfl ?_
  refine eseq_nil ?_
  refine hK _ _ ?_; clear hK
  refine e_cond rfl (fun hc4 => ?_) (fun hc4 => ?_)
  · skip
    have hlt : k2 < h.forced.length := by simpa using hc4
    refine e_skip ?_
    refine hK _ _ ?_; clear hK
    refine e_seq fun K hK => ?_
    refine e_block ?_
    refine e_seq fun K hK => ?_
    refine e_region_draw mixed (fun _ => False) [0, 1, 0, 7, 15, 0, 32, 0, 224, 480, 1023, 2047] [] [0, 1, 2, 3, 4, 5, 6, 7, 8, 9, 10, 11] (by kernel_rfl) ?_
    refine q_field rfl rfl ?_
    refine q_load rfl (Blk.cell (hS.blk 1 rfl) rfl) rfl ?_
    refine q_move rfl rfl ?_
    first | refine q_indexSn (by infer_instance) rfl hF rfl (by first | omega | decide) rfl fun b68 o68 f68 => ?_ | refine q_indexS (by infer_instance) rfl hF rfl (by first | omega | decide) (by first | omega | decide) rfl fun b68 o68 f68 => ?_
    refine q_loadS rfl f68 rfl fun v69 f69 => ?_
    refine q_field rfl rfl ?_
    refine q_load rfl (Blk.cell (hS.blk 0 rfl) rfl) rfl ?_
    refine q_move rfl rfl ?_
    first | refine q_indexSn (by infer_instance) rfl kF rfl (by first | omega | decide) rfl fun b73 o73 f73 => ?_ | refine q_indexS (by infer_instance) rfl kF rfl (by first | omega | decide) (by first | omega | decide) rfl fun b73 o73 f73 => ?_
    refine q_loadS rfl f73 rfl fun v74 f74 => ?_
    refine q_call rfl (sameBools f69 f74 (by rw [nth_eq hlt]; exact hf.marks _ (by simp))) rfl ?_
    rintro _ w10 ⟨rfl, hB10⟩; refine ⟨fun _ => .of_below hB10, ?_⟩
    replace hL := hL.ext hB10
    replace hC := hC.ext hB10
    replace hA := hA.ext hB10
    replace hK1 := hK1.ext hB10
    replace hV := hV.ext hB10
    replace hF := hF.ext hB10
    replace kL := kL.ext hB10
    replace kC := kC.ext hB10
    replace kA := kA.ext hB10
    replace kK1 := kK1.ext hB10
    replace kV := kV.ext hB10
    replace kF := kF.ext hB10
    replace f68 := f68.ext hB10
    replace f69 := f69.ext hB10
    replace f73 := f73.ext hB10
    replace f74 := f74.ext hB10
    replace hS := hS.below hB10
    replace hTl9 := hTl9.trans (Below.mono hB10 hTl9.size)
    refine q_not rfl rfl ?_
    refine eseq_nil ?_
    refine hK _ _ ?_; clear hK
    refine e_cond rfl (fun hc5 => ?_) (fun hc5 => ?_)
    · skip
      simp at hc5
    · skip
      refine e_skip ?_
      refine hK _ _ ?_; clear hK
      refine e_region_text rfl ?_
      refine q_move rfl rfl ?_
      refine q_add rfl rfl (wr64 (by omega) (by omega)) rfl ?_
      refine q_assign rfl rfl ?_
      refine eseq_nil ?_
      refine ⟨h.forced.length - (k2 + 1), _, by omega, ⟨k2 + 1, by omega, rfl, hTl9, rfl⟩, Sub.cons rfl (Sub.cons rfl (Sub.cons rfl (Sub.nil _)))⟩
  refine e_exit ?_
  clear hK
  refine hK _ _ ?_; clear hK
  refine e_seq fun K hK => ?_
  refine e_region_text rfl ?_
  refine q_assign rfl rfl ?_
  refine eseq_nil ?_
  refine hK _ _ ?_; clear hK
  refine e_ret ?_
  exact ⟨_, res1 rfl rfl, rfl, hS.step.below⟩
end Go.Proofs.Ytdpleaifhdlciaa
