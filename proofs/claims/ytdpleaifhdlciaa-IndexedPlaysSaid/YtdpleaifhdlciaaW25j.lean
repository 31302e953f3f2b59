/- The check of a history, of chapter 25. -/
import Derived.Test.YtdpleaifhdlciaaW25g
import Derived.Test.YtdpleaifhdlciaaW16b
set_option linter.unusedSimpArgs false
set_option linter.unusedVariables false
namespace Go.Mine
open Go.RowKit
def Hist.pat (h : Hist) : Pat := ⟨h.lens, h.ckpts, h.arcs⟩
structure Hist.Sound (h : Hist) (n : Nat) : Prop where
  lens : h.lens.length = n
  ckpts : h.ckpts.length = n
  clocks : h.clocks.length = n
  forced : h.forced.length = n
  rows : ∀ q, q < n → (nth h.clocks q).length = (nth h.ckpts q).length ∧ (nth h.forced q).length = (nth h.ckpts q).length
  ok : h.pat.Ok
end Go.Mine
namespace Go.Proofs.Ytdpleaifhdlciaa
open Go.RowKit Go.Mine
attribute [local irreducible] eseq ewp
variable {w : World} {S : Nat → Prop} {vL vC vA vK vV vF : Value}

theorem sound25 {h : Hist} (n : Nat) (hh : HistAt w S vL vC vA vK vV vF h) (hs : h.Sound n) :
    Gives Try.prog 17 [.agg #[vL, vC, vA, vK, vV, vF], .int .i64 n] w fun v w' => v = .bool true ∧ Below w.heap.size w w' := by
  have hL := hh.lens.old; have hC := hh.ckpts.old; have hA := hh.arcs.old; have hK1 := hh.clocks.old; have hV := hh.vecs.old; have hF := hh.forced.old
  have e1 := hs.lens; have e2 := hs.ckpts; have e3 := hs.clocks; have e4 := hs.forced
  have e5 := hs.ok.procs
  have e6 : h.pat.lens.length = h.lens.length := rfl
  have hS := Sep.start w
  refine fn_of Try.func17 rfl Try.ntmps17 (Nat.le_of_ble_eq_true rfl) ?_
  have hT := Below.refl w.heap.size w
  refine e_seq fun K hK => ?_
  refine e_region_text rfl ?_
  refine q_boxB rfl rfl rfl fun w1 bl1 hg1 hb1 hB1 => ?_
  replace hL := hL.ext hB1
  replace hC := hC.ext hB1
  replace hA := hA.ext hB1
  replace hK1 := hK1.ext hB1
  replace hV := hV.ext hB1
  replace hF := hF.ext hB1
  replace hS := hS.newBlk hB1 hg1 hb1
  refine q_assign rfl rfl ?_
  refine eseq_nil ?_
  refine hK _ _ ?_; clear hK
  refine e_seq fun K hK => ?_
  refine e_seq fun K hK => ?_
  refine e_region_text rfl ?_
  refine q_field rfl rfl ?_
  refine q_field rfl rfl ?_
  refine q_load rfl (Blk.cell (hS.blk 0 rfl) rfl) rfl ?_
  refine q_lenS rfl hL rfl ?_
  refine q_move rfl rfl ?_
  refine q_neq rfl rfl rfl ?_
  refine q_move rfl rfl ?_
  refine g_or 6 rfl trivial rfl rfl ?_; apply Exists.intro; refine ⟨fun hg => ?_, fun hg => ?_, fun wm2 hBm2 => ?_⟩
  · have hg0 := hg
    refine g_skip rfl rfl rfl ?_
    refine g_skip rfl rfl rfl ?_
    refine g_skip rfl rfl rfl ?_
    refine g_skip rfl rfl rfl ?_
    refine g_skip rfl rfl rfl ?_
    refine g_skip rfl rfl rfl ?_
    exact eseq_nil ⟨rfl, Sub.set rfl (Sub.set rfl (Sub.set rfl (Sub.set rfl (Sub.set rfl (Sub.set rfl (Sub.bool true rfl hg0))))))⟩
  · have hg0 := hg
    have hTm2 := Below.refl (World.heap w1).size w1
    try simp at hg
    refine g_run rfl ?_; refine q_field rfl rfl ?_
    refine g_run rfl ?_; refine q_field rfl rfl ?_
    refine g_run rfl ?_; refine q_load rfl (Blk.cell (hS.blk 0 rfl) rfl) rfl ?_
    refine g_run rfl ?_; refine q_lenS rfl hC rfl ?_
    refine g_run rfl ?_; refine q_move rfl rfl ?_
    refine g_run rfl ?_; refine q_neq rfl rfl rfl ?_
    exact eseq_nil ⟨hTm2, Sub.set rfl (Sub.set rfl (Sub.set rfl (Sub.set rfl (Sub.set rfl (Sub.set rfl (Sub.bool false rfl hg0)))))), rfl⟩
  replace hL := hL.ext hBm2
  replace hC := hC.ext hBm2
  replace hA := hA.ext hBm2
  replace hK1 := hK1.ext hBm2
  replace hV := hV.ext hBm2
  replace hF := hF.ext hBm2
  replace hS := hS.below hBm2
  refine q_move rfl rfl ?_
  refine g_or 5 rfl trivial rfl rfl ?_; apply Exists.intro; refine ⟨fun hg => ?_, fun hg => ?_, fun wm3 hBm3 => ?_⟩
  · have hg0 := hg
    refine g_skip rfl rfl rfl ?_
    refine g_skip rfl rfl rfl ?_
    refine g_skip rfl rfl rfl ?_
    refine g_skip rfl rfl rfl ?_
    refine g_skip rfl rfl rfl ?_
    exact eseq_nil ⟨rfl, Sub.set rfl (Sub.set rfl (Sub.set rfl (Sub.set rfl (Sub.set rfl (Sub.bool true rfl hg0)))))⟩
  · have hg0 := hg
    have hTm3 := Below.refl (World.heap wm2).size wm2
    try simp at hg
    refine g_run rfl ?_; refine q_field rfl rfl ?_
    refine g_run rfl ?_; refine q_load rfl (Blk.cell (hS.blk 0 rfl) rfl) rfl ?_
    refine g_run rfl ?_; refine q_lenS rfl hK1 rfl ?_
    refine g_run rfl ?_; refine q_move rfl rfl ?_
    refine g_run rfl ?_; refine q_neq rfl rfl rfl ?_
    exact eseq_nil ⟨hTm3, Sub.set rfl (Sub.set rfl (Sub.set rfl (Sub.set rfl (Sub.set rfl (Sub.bool false rfl hg0))))), rfl⟩
  replace hL := hL.ext hBm3
  replace hC := hC.ext hBm3
  replace hA := hA.ext hBm3
  replace hK1 := hK1.ext hBm3
  replace hV := hV.ext hBm3
  replace hF := hF.ext hBm3
  replace hS := hS.below hBm3
  refine q_move rfl rfl ?_
  refine g_or 5 rfl trivial rfl rfl ?_; apply Exists.intro; refine ⟨fun hg => ?_, fun hg => ?_, fun wm4 hBm4 => ?_⟩
  · have hg0 := hg
    refine g_skip rfl rfl rfl ?_
    refine g_skip rfl rfl rfl ?_
    refine g_skip rfl rfl rfl ?_
    refine g_skip rfl rfl rfl ?_
    refine g_skip rfl rfl rfl ?_
    exact eseq_nil ⟨rfl, Sub.set rfl (Sub.set rfl (Sub.set rfl (Sub.set rfl (Sub.set rfl (Sub.bool true rfl hg0)))))⟩
  · have hg0 := hg
    have hTm4 := Below.refl (World.heap wm3).size wm3
    try simp at hg
    refine g_run rfl ?_; refine q_field rfl rfl ?_
    refine g_run rfl ?_; refine q_load rfl (Blk.cell (hS.blk 0 rfl) rfl) rfl ?_
    refine g_run rfl ?_; refine q_lenS rfl hF rfl ?_
    refine g_run rfl ?_; refine q_move rfl rfl ?_
    refine g_run rfl ?_; refine q_neq rfl rfl rfl ?_
    exact eseq_nil ⟨hTm4, Sub.set rfl (Sub.set rfl (Sub.set rfl (Sub.set rfl (Sub.set rfl (Sub.bool false rfl hg0))))), rfl⟩
  replace hL := hL.ext hBm4
  replace hC := hC.ext hBm4
  replace hA := hA.ext hBm4
  replace hK1 := hK1.ext hBm4
  replace hV := hV.ext hBm4
  replace hF := hF.ext hBm4
  replace hS := hS.below hBm4
  refine eseq_nil ?_
  refine hK _ _ ?_; clear hK
  refine e_cond rfl (fun hc => ?_) (fun hc => ?_)
  · skip
    simp at hc; omega
  refine e_skip ?_
  refine hK _ _ ?_; clear hK
  refine e_seq fun K hK => ?_
  refine e_seq fun K hK => ?_
  refine e_region_text rfl ?_
  refine q_assign rfl rfl ?_
  refine eseq_nil ?_
  refine hK _ _ ?_; clear hK
  refine e_block ?_
  refine e_loop (fun mm E wfor => ∃ k : Nat, (k ≤ n) ∧ mm = n - k ∧ Below (World.heap wm4).size wm4 wfor ∧ E = [(1, .int .i64 n), (2, .pointer (some ⟨bl1, 0, none⟩)), (5, .int .i64 k)]) _ ⟨_, ⟨0, by omega, rfl, Below.refl _ _, rfl⟩, Sub.cons rfl (Sub.cons rfl (Sub.cons rfl (Sub.nil _)))⟩ ?_
  rintro mm E wl5 ⟨k, hk5, rfl, hTl5, rfl⟩
  replace hL := hL.ext hTl5
  replace hC := hC.ext hTl5
  replace hA := hA.ext hTl5
  replace hK1 := hK1.ext hTl5
  replace hV := hV.ext hTl5
  replace hF := hF.ext hTl5
  replace hS := hS.below hTl5
  refine e_seq fun K hK => ?_
  refine e_seq fun K hK => ?_
  refine e_region_text rfl ?_
  refine q_move rfl rfl ?_
  refine q_move rfl rfl ?_
  refine q_lss rfl rfl rfl ?_
  refine eseq_nil ?_
  refine hK _ _ ?_; clear hK
  refine e_cond rfl (fun hc4 => ?_) (fun hc4 => ?_)
  · skip
    have hlt : k < n := by simpa using hc4
    have hr := hs.rows k hlt
    refine e_skip ?_
    refine hK _ _ ?_; clear hK
    refine e_seq fun K hK => ?_
    refine e_block ?_
    refine e_seq fun K hK => ?_
    refine e_region_draw mixed (fun _ => False) [0, 1, 0, 7, 15, 31, 0, 64, 192, 0, 960, 1984, 4032, 8191, 16383, 32767, 65535, 32767, 262143, 524287, 1048575, 32767, 2129919, 6324223, 32767, 31490047, 65044479, 132153343, 268435455, 536870911] [] [0, 1, 2, 3, 4, 5, 6, 7, 8, 9, 10, 11, 12, 13, 14, 15, 16, 17, 18, 19, 20, 21, 22, 23, 24, 25, 26, 27, 28, 29] (by kernel_rfl) ?_
    refine q_field rfl rfl ?_
    refine q_load rfl (Blk.cell (hS.blk 0 rfl) rfl) rfl ?_
    refine q_move rfl rfl ?_
    first | refine q_indexSn (by infer_instance) rfl hK1 rfl (by first | omega | decide) rfl fun b42 o42 f42 => ?_ | refine q_indexS (by infer_instance) rfl hK1 rfl (by first | omega | decide) (by first | omega | decide) rfl fun b42 o42 f42 => ?_
    refine q_loadS rfl f42 rfl fun v43 f43 => ?_
    refine q_lenS rfl f43 rfl ?_
    refine q_field rfl rfl ?_
    refine q_field rfl rfl ?_
    refine q_load rfl (Blk.cell (hS.blk 0 rfl) rfl) rfl ?_
    refine q_move rfl rfl ?_
    first | refine q_indexSn (by infer_instance) rfl hC rfl (by first | omega | decide) rfl fun b49 o49 f49 => ?_ | refine q_indexS (by infer_instance) rfl hC rfl (by first | omega | decide) (by first | omega | decide) rfl fun b49 o49 f49 => ?_
    refine q_loadS rfl f49 rfl fun v50 f50 => ?_
    refine q_lenS rfl f50 rfl ?_
    refine q_neq rfl rfl rfl ?_
    refine q_move rfl rfl ?_
    refine g_or 14 rfl trivial rfl rfl ?_; apply Exists.intro; refine ⟨fun hg => ?_, fun hg => ?_, fun wm6 hBm6 => ?_⟩
    · have hg0 := hg
      refine g_skip rfl rfl rfl ?_
      refine g_skip rfl rfl rfl ?_
      refine g_skip rfl rfl rfl ?_
      refine g_skip rfl rfl rfl ?_
      refine g_skip rfl rfl rfl ?_
      refine g_skip rfl rfl rfl ?_
      refine g_skip rfl rfl rfl ?_
      refine g_skip rfl rfl rfl ?_
      refine g_skip rfl rfl rfl ?_
      refine g_skip rfl rfl rfl ?_
      refine g_skip rfl rfl rfl ?_
      refine g_skip rfl rfl rfl ?_
      refine g_skip rfl rfl rfl ?_
      refine g_skip rfl rfl rfl ?_
      exact eseq_nil ⟨rfl, Sub.set rfl (Sub.set rfl (Sub.set rfl (Sub.set rfl (Sub.set rfl (Sub.set rfl (Sub.set rfl (Sub.set rfl (Sub.set rfl (Sub.set rfl (Sub.set rfl (Sub.set rfl (Sub.set rfl (Sub.set rfl (Sub.bool true rfl hg0))))))))))))))⟩
    · have hg0 := hg
      have hTm6 := Below.refl (World.heap wl5).size wl5
      try simp at hg
      refine g_run rfl ?_; refine q_field rfl rfl ?_
      refine g_run rfl ?_; refine q_load rfl (Blk.cell (hS.blk 0 rfl) rfl) rfl ?_
      refine g_run rfl ?_; refine q_move rfl rfl ?_
      refine g_run rfl ?_; first | refine q_indexSn (by infer_instance) rfl hF rfl (by first | omega | decide) rfl fun b57 o57 f57 => ?_ | refine q_indexS (by infer_instance) rfl hF rfl (by first | omega | decide) (by first | omega | decide) rfl fun b57 o57 f57 => ?_
      refine g_run rfl ?_; refine q_loadS rfl f57 rfl fun v58 f58 => ?_
      refine g_run rfl ?_; refine q_lenS rfl f58 rfl ?_
      refine g_run rfl ?_; refine q_field rfl rfl ?_
      refine g_run rfl ?_; refine q_field rfl rfl ?_
      refine g_run rfl ?_; refine q_load rfl (Blk.cell (hS.blk 0 rfl) rfl) rfl ?_
      refine g_run rfl ?_; refine q_move rfl rfl ?_
      refine g_run rfl ?_; first | refine q_indexSn (by infer_instance) rfl hC rfl (by first | omega | decide) rfl fun b64 o64 f64 => ?_ | refine q_indexS (by infer_instance) rfl hC rfl (by first | omega | decide) (by first | omega | decide) rfl fun b64 o64 f64 => ?_
      refine g_run rfl ?_; refine q_loadS rfl f64 rfl fun v65 f65 => ?_
      refine g_run rfl ?_; refine q_lenS rfl f65 rfl ?_
      refine g_run rfl ?_; refine q_neq rfl rfl rfl ?_
      exact eseq_nil ⟨hTm6, Sub.set rfl (Sub.set rfl (Sub.set rfl (Sub.set rfl (Sub.set rfl (Sub.set rfl (Sub.set rfl (Sub.set rfl (Sub.set rfl (Sub.set rfl (Sub.set rfl (Sub.set rfl (Sub.set rfl (Sub.set rfl (Sub.bool false rfl hg0)))))))))))))), rfl⟩
    replace hL := hL.ext hBm6
    replace hC := hC.ext hBm6
    replace hA := hA.ext hBm6
    replace hK1 := hK1.ext hBm6
    replace hV := hV.ext hBm6
    replace hF := hF.ext hBm6
    replace f42 := f42.ext hBm6
    replace f43 := f43.ext hBm6
    replace f49 := f49.ext hBm6
    replace f50 := f50.ext hBm6
    replace hS := hS.below hBm6
    replace hTl5 := hTl5.trans (Below.mono hBm6 hTl5.size)
    refine eseq_nil ?_
    refine hK _ _ ?_; clear hK
    refine e_cond rfl (fun hc5 => ?_) (fun hc5 => ?_)
    · skip
      simp [hr.1, hr.2] at hc5
    · skip
      refine e_skip ?_
      refine hK _ _ ?_; clear hK
      refine e_region_text rfl ?_
      refine q_move rfl rfl ?_
      refine q_add rfl rfl (wr64 (by omega) (by omega)) rfl ?_
      refine q_assign rfl rfl ?_
      refine eseq_nil ?_
      refine ⟨n - (k + 1), _, by omega, ⟨k + 1, by omega, rfl, hTl5, rfl⟩, Sub.cons rfl (Sub.cons rfl (Sub.cons rfl (Sub.nil _)))⟩
  refine e_exit ?_
  clear hK
  refine hK _ _ ?_; clear hK
  refine e_seq fun K hK => ?_
  refine e_region_text rfl ?_
  refine q_field rfl rfl ?_
  refine q_loadAgg rfl (Blk.cellsAt (hS.blk 0 rfl) 0 3 rfl) rfl rfl ?_
  refine q_call rfl (check16 (p := h.pat) hL hC hA hs.ok) rfl ?_
  rintro _ w7 ⟨rfl, hB7⟩; refine ⟨fun _ => .of_below hB7, ?_⟩
  replace hL := hL.ext hB7
  replace hC := hC.ext hB7
  replace hA := hA.ext hB7
  replace hK1 := hK1.ext hB7
  replace hV := hV.ext hB7
  replace hF := hF.ext hB7
  replace hS := hS.below hB7
  refine q_eql rfl rfl rfl ?_
  refine q_assign rfl rfl ?_
  refine eseq_nil ?_
  refine hK _ _ ?_; clear hK
  refine e_ret ?_
  exact ⟨_, res1 rfl rfl, rfl, hS.step.below⟩
end Go.Proofs.Ytdpleaifhdlciaa
