/- The walks of chapter 16's reference: what each function computes. -/
import Derived.Test.YtdpleaifhdlciaaP16
import Derived.Test.YtdpleaifhdlciaaSame
set_option linter.unusedSimpArgs false
namespace Go.Proofs.Ytdpleaifhdlciaa
open Go.RowKit Go.Mine
attribute [local irreducible] eseq ewp
variable {w : World} {SL SC SA : Nat → Prop} {vL vC vA : Value} {p : Pat}

theorem proc16 (hL : IsSlice Ty.int w SL vL p.lens) (n : Int) :
    Gives Try.prog 63 [.agg #[vL, vC, vA], .int .i64 n] w fun v w' => v = .bool (procB p n) ∧ Below w.heap.size w w' := by
  refine fn_of Try.func63 rfl Try.ntmps63 (Nat.le_of_ble_eq_true rfl) ?_
  have hT := Below.refl w.heap.size w
  refine e_seq fun K hK => ?_
  refine e_region_text rfl ?_
  refine q_boxB rfl rfl rfl fun w1 bl1 hg1 hb1 hB1 => ?_
  have hz1hT := Nat.le_trans hT.size hg1
  replace hL := hL.ext hB1
  replace hT := hT.trans (Below.mono hB1 hT.size)
  refine q_assign rfl rfl ?_
  refine eseq_nil ?_
  refine hK _ _ ?_; clear hK
  refine e_seq fun K hK => ?_
  refine e_region_text rfl ?_
  refine q_move rfl rfl ?_
  refine q_geq rfl rfl rfl ?_
  refine q_move rfl rfl ?_
  refine g_and 5 rfl trivial rfl rfl ?_; apply Exists.intro; refine ⟨fun hg => ?_, fun hg => ?_, fun wm2 hBm2 => ?_⟩
  · have hg0 := hg
    have hTm2 := Below.refl (World.heap w1).size w1
    try simp at hg
    refine g_run rfl ?_; refine q_move rfl rfl ?_
    refine g_run rfl ?_; refine q_field rfl rfl ?_
    refine g_run rfl ?_; refine q_load rfl (Blk.cell hb1 rfl) rfl ?_
    refine g_run rfl ?_; refine q_lenS rfl hL rfl ?_
    refine g_run rfl ?_; refine q_lss rfl rfl rfl ?_
    exact eseq_nil ⟨hTm2, Sub.set rfl (Sub.set rfl (Sub.set rfl (Sub.set rfl (Sub.set rfl (Sub.bool true rfl hg0))))), rfl⟩
  · have hg0 := hg
    refine g_skip rfl rfl rfl ?_
    refine g_skip rfl rfl rfl ?_
    refine g_skip rfl rfl rfl ?_
    refine g_skip rfl rfl rfl ?_
    refine g_skip rfl rfl rfl ?_
    exact eseq_nil ⟨rfl, Sub.set rfl (Sub.set rfl (Sub.set rfl (Sub.set rfl (Sub.set rfl (Sub.bool false rfl hg0)))))⟩
  replace hL := hL.ext hBm2
  replace hb1 := hb1.ext hBm2
  replace hT := hT.trans (Below.mono hBm2 hT.size)
  refine q_assign rfl rfl ?_
  refine eseq_nil ?_
  refine hK _ _ ?_; clear hK
  refine e_ret ?_
  exact ⟨_, res1 rfl rfl, by simp [procB], hT⟩

theorem ckpts16 {S : Nat → Prop} {v1 : Value} {l : List Int} (h1 : IsSlice Ty.int w S v1 l) (len : Int) (hl : l.length ≤ 1000000000) :
    Gives Try.prog 56 [v1, .int .i64 len] w fun v w' => v = .bool (ckptsB l len) ∧ Below w.heap.size w w' := by
  refine fn_of Try.func56 rfl Try.ntmps56 (Nat.le_of_ble_eq_true rfl) ?_
  have hT := Below.refl w.heap.size w
  refine e_seq fun K hK => ?_
  refine e_region_text rfl ?_
  refine q_assign rfl rfl ?_
  refine eseq_nil ?_
  refine hK _ _ ?_; clear hK
  refine e_seq fun K hK => ?_
  refine e_seq fun K hK => ?_
  refine e_region_text rfl ?_
  refine q_move rfl rfl ?_
  refine q_lenS rfl h1 rfl ?_
  refine q_eql rfl rfl rfl ?_
  refine q_move rfl rfl ?_
  refine g_or 4 rfl trivial rfl rfl ?_; apply Exists.intro; refine ⟨fun hg => ?_, fun hg => ?_, fun wm1 hBm1 => ?_⟩
  · have hg0 := hg
    refine g_skip rfl rfl rfl ?_
    refine g_skip rfl rfl rfl ?_
    refine g_skip rfl rfl rfl ?_
    refine g_skip rfl rfl rfl ?_
    exact eseq_nil ⟨rfl, Sub.set rfl (Sub.set rfl (Sub.set rfl (Sub.set rfl (Sub.bool true rfl hg0))))⟩
  · have hg0 := hg
    have hTm1 := Below.refl (World.heap w).size w
    try simp at hg
    have hne0 : 0 < l.length := by cases l <;> simp_all
    refine g_run rfl ?_; refine q_move rfl rfl ?_
    refine g_run rfl ?_; first | refine q_indexSn (by infer_instance) rfl h1 rfl (by first | omega | decide) rfl fun b11 o11 f11 => ?_ | refine q_indexS (by infer_instance) rfl h1 rfl (by first | omega | decide) (by first | omega | decide) rfl fun b11 o11 f11 => ?_
    refine g_run rfl ?_; refine q_load rfl (El.intCell f11) rfl ?_
    refine g_run rfl ?_; refine q_neq rfl rfl rfl ?_
    exact eseq_nil ⟨hTm1, Sub.set rfl (Sub.set rfl (Sub.set rfl (Sub.set rfl (Sub.bool false rfl hg0)))), rfl⟩
  replace h1 := h1.ext hBm1
  replace hT := hT.trans (Below.mono hBm1 hT.size)
  refine eseq_nil ?_
  refine hK _ _ ?_; clear hK
  refine e_cond rfl (fun hb => ?_) (fun hb => ?_)
  · skip
    refine e_seq fun K hK => ?_
    refine e_region_text rfl ?_
    refine q_assign rfl rfl ?_
    refine eseq_nil ?_
    refine hK _ _ ?_; clear hK
    refine e_ret ?_
    exact ⟨_, res1 rfl rfl, by rw [ckptsB, show (((l.length : Int) == 0 || nth l 0 != 0) = true) from hb]; rfl, hT⟩
  have hne : 0 < l.length := by simp at hb; have := hb.1; cases l <;> simp_all
  refine e_skip ?_
  refine hK _ _ ?_; clear hK
  refine e_seq fun K hK => ?_
  refine e_seq fun K hK => ?_
  refine e_region_text rfl ?_
  refine q_assign rfl rfl ?_
  refine eseq_nil ?_
  refine hK _ _ ?_; clear hK
  refine e_block ?_
  refine e_loop (fun mm E wfor => ∃ k : Nat, (1 ≤ k ∧ k ≤ l.length ∧ ∀ i, i < k → (i == 0 || !(decide (nth l i ≤ nth l (i - 1)) || decide (len < nth l i))) = true) ∧ mm = l.length - k ∧ Below (World.heap wm1).size wm1 wfor ∧ E = [(0, v1), (1, .int .i64 len), (5, .int .i64 k)]) _ ⟨_, ⟨1, ⟨by omega, by omega, fun i hi => (by have h0 : i = 0 := (by omega); subst h0; rfl)⟩, rfl, Below.refl _ _, rfl⟩, Sub.cons rfl (Sub.cons rfl (Sub.cons rfl (Sub.nil _)))⟩ ?_
  rintro mm E wl2 ⟨k, hk2, rfl, hTl2, rfl⟩
  replace h1 := h1.ext hTl2
  replace hT := hT.trans (Below.mono hTl2 hT.size)
  obtain ⟨hk1, hkl, ht⟩ := ‹_ ∧ _ ∧ _›
  refine e_seq fun K hK => ?_
  refine e_seq fun K hK => ?_
  refine e_region_text rfl ?_
  refine q_move rfl rfl ?_
  refine q_move rfl rfl ?_
  refine q_lenS rfl h1 rfl ?_
  refine q_lss rfl rfl rfl ?_
  refine eseq_nil ?_
  refine hK _ _ ?_; clear hK
  refine e_cond rfl (fun hb2 => ?_) (fun hb2 => ?_)
  · skip
    have hlt : k < l.length := by simpa using hb2
    refine e_skip ?_
    refine hK _ _ ?_; clear hK
    refine e_seq fun K hK => ?_
    refine e_block ?_
    refine e_seq fun K hK => ?_
    refine e_region_draw mixed (fun _ => False) [0, 0, 3, 7, 0, 0, 32, 112, 240, 511, 1023, 2047, 2047, 8191, 16383, 2047, 65535, 131071] [] [0, 1, 2, 3, 4, 5, 6, 7, 8, 9, 10, 11, 12, 13, 14, 15, 16, 17] (by kernel_rfl) ?_
    refine q_move rfl rfl ?_
    refine q_move rfl rfl ?_
    first | refine q_indexSn (by infer_instance) rfl h1 rfl (by first | omega | decide) rfl fun b23 o23 f23 => ?_ | refine q_indexS (by infer_instance) rfl h1 rfl (by first | omega | decide) (by first | omega | decide) rfl fun b23 o23 f23 => ?_
    refine q_load rfl (El.intCell f23) rfl ?_
    refine q_move rfl rfl ?_
    refine q_move rfl rfl ?_
    refine q_sub rfl rfl (wr64 (by omega) (by omega)) rfl ?_
    first | refine q_indexSn (by infer_instance) rfl h1 rfl (by first | omega | decide) rfl fun b28 o28 f28 => ?_ | refine q_indexS (by infer_instance) rfl h1 rfl (by first | omega | decide) (by first | omega | decide) rfl fun b28 o28 f28 => ?_
    refine q_load rfl (El.intCell f28) rfl ?_
    refine q_leq rfl rfl rfl ?_
    refine q_move rfl rfl ?_
    refine g_or 6 rfl trivial rfl rfl ?_; apply Exists.intro; refine ⟨fun hg => ?_, fun hg => ?_, fun wm3 hBm3 => ?_⟩
    · have hg0 := hg
      refine g_skip rfl rfl rfl ?_
      refine g_skip rfl rfl rfl ?_
      refine g_skip rfl rfl rfl ?_
      refine g_skip rfl rfl rfl ?_
      refine g_skip rfl rfl rfl ?_
      refine g_skip rfl rfl rfl ?_
      exact eseq_nil ⟨rfl, Sub.set rfl (Sub.set rfl (Sub.set rfl (Sub.set rfl (Sub.set rfl (Sub.set rfl (Sub.bool true rfl hg0))))))⟩
    · have hg0 := hg
      have hTm3 := Below.refl (World.heap wl2).size wl2
      try simp at hg
      refine g_run rfl ?_; refine q_move rfl rfl ?_
      refine g_run rfl ?_; refine q_move rfl rfl ?_
      refine g_run rfl ?_; first | refine q_indexSn (by infer_instance) rfl h1 rfl (by first | omega | decide) rfl fun b34 o34 f34 => ?_ | refine q_indexS (by infer_instance) rfl h1 rfl (by first | omega | decide) (by first | omega | decide) rfl fun b34 o34 f34 => ?_
      refine g_run rfl ?_; refine q_load rfl (El.intCell f34) rfl ?_
      refine g_run rfl ?_; refine q_move rfl rfl ?_
      refine g_run rfl ?_; refine q_gtr rfl rfl rfl ?_
      exact eseq_nil ⟨hTm3, Sub.set rfl (Sub.set rfl (Sub.set rfl (Sub.set rfl (Sub.set rfl (Sub.set rfl (Sub.bool false rfl hg0)))))), rfl⟩
    replace h1 := h1.ext hBm3
    replace f23 := f23.ext hBm3
    replace f28 := f28.ext hBm3
    replace hT := hT.trans (Below.mono hBm3 hT.size)
    replace hTl2 := hTl2.trans (Below.mono hBm3 hTl2.size)
    refine eseq_nil ?_
    refine hK _ _ ?_; clear hK
    refine e_cond rfl (fun hb3 => ?_) (fun hb3 => ?_)
    · skip
      refine e_seq fun K hK => ?_
      refine e_region_text rfl ?_
      refine q_assign rfl rfl ?_
      refine eseq_nil ?_
      refine hK _ _ ?_; clear hK
      refine e_ret ?_
      refine ⟨_, res1 rfl rfl, ?_, hT⟩
      have e1 : ((k : Int) - 1).toNat = k - 1 := by omega
      rw [e1] at hb3
      have := allR_no (f := fun i => i == 0 || !(decide (nth l i ≤ nth l (i - 1)) || decide (len < nth l i))) hlt (by simp only [hb3]; simp; omega)
      simp only [ckptsB, this, Bool.and_false]
    · skip
      refine e_skip ?_
      refine hK _ _ ?_; clear hK
      refine e_region_text rfl ?_
      refine q_move rfl rfl ?_
      refine q_add rfl rfl (wr64 (by omega) (by omega)) rfl ?_
      refine q_assign rfl rfl ?_
      refine eseq_nil ?_
      have e1 : ((k : Int) - 1).toNat = k - 1 := by omega
      rw [e1] at hb3
      refine ⟨l.length - (k + 1), _, by omega, ⟨k + 1, ⟨by omega, by omega, fun i hi => (by rcases Nat.lt_or_ge i k with h | h; exact ht i h; obtain rfl : i = k := (by omega); simp only [hb3]; simp)⟩, rfl, hTl2, rfl⟩, Sub.cons rfl (Sub.cons rfl (Sub.cons rfl (Sub.nil _)))⟩
  · skip
    have hge : k = l.length := by simp at hb2; omega
    refine e_exit ?_
    clear hK
    refine hK _ _ ?_; clear hK
    refine e_seq fun K hK => ?_
    refine e_region_text rfl ?_
    refine q_assign rfl rfl ?_
    refine eseq_nil ?_
    refine hK _ _ ?_; clear hK
    refine e_ret ?_
    refine ⟨_, res1 rfl rfl, ?_, hT⟩
    subst hge
    have := allR_yes ht
    simp only [ckptsB, this, show (((l.length : Int) == 0 || nth l 0 != 0) = false) from hb]; rfl

theorem received16 (hL : IsSlice Ty.int w SL vL p.lens) (hC : IsSlice Ty.int.slice w SC vC p.ckpts) (hA : IsSlice arcTy w SA vA p.arcs) (q ix : Int) (hl : p.arcs.length ≤ 1000000000) :
    Gives Try.prog 75 [.agg #[vL, vC, vA], .int .i64 q, .int .i64 ix] w fun v w' => v = .int .i64 (recvE p q ix) ∧ Below w.heap.size w w' := by
  refine fn_of Try.func75 rfl Try.ntmps75 (Nat.le_of_ble_eq_true rfl) ?_
  have hT := Below.refl w.heap.size w
  refine e_seq fun K hK => ?_
  refine e_region_text rfl ?_
  refine q_boxB rfl rfl rfl fun w1 bl1 hg1 hb1 hB1 => ?_
  have hz1hT := Nat.le_trans hT.size hg1
  replace hL := hL.ext hB1
  replace hC := hC.ext hB1
  replace hA := hA.ext hB1
  replace hT := hT.trans (Below.mono hB1 hT.size)
  refine q_assign rfl rfl ?_
  refine eseq_nil ?_
  refine hK _ _ ?_; clear hK
  refine e_seq fun K hK => ?_
  refine e_seq fun K hK => ?_
  refine e_region_text rfl ?_
  refine q_assign rfl rfl ?_
  refine eseq_nil ?_
  refine hK _ _ ?_; clear hK
  refine e_block ?_
  refine e_loop (fun mm E wfor => ∃ k : Nat, (k ≤ p.arcs.length ∧ ∀ i, i < k → (decide (0 < ix) && (nth p.arcs i).to == q && (nth p.arcs i).rcv == ix) = false) ∧ mm = p.arcs.length - k ∧ Below (World.heap w1).size w1 wfor ∧ E = [(1, .int .i64 q), (2, .int .i64 ix), (3, .pointer (some ⟨bl1, 0, none⟩)), (7, .int .i64 k)]) _ ⟨_, ⟨0, ⟨by omega, fun i hi => absurd hi (Nat.not_lt_zero _)⟩, rfl, Below.refl _ _, rfl⟩, Sub.cons rfl (Sub.cons rfl (Sub.cons rfl (Sub.cons rfl (Sub.nil _))))⟩ ?_
  rintro mm E wl2 ⟨k, hk2, rfl, hTl2, rfl⟩
  replace hL := hL.ext hTl2
  replace hC := hC.ext hTl2
  replace hA := hA.ext hTl2
  replace hb1 := hb1.ext hTl2
  replace hT := hT.trans (Below.mono hTl2 hT.size)
  obtain ⟨hkl, ht⟩ := hk2
  refine e_seq fun K hK => ?_
  refine e_seq fun K hK => ?_
  refine e_region_text rfl ?_
  refine q_move rfl rfl ?_
  refine q_field rfl rfl ?_
  refine q_load rfl (Blk.cell hb1 rfl) rfl ?_
  refine q_lenS rfl hA rfl ?_
  refine q_lss rfl rfl rfl ?_
  refine eseq_nil ?_
  refine hK _ _ ?_; clear hK
  refine e_cond rfl (fun hb => ?_) (fun hb => ?_)
  · skip
    have hlt : k < p.arcs.length := by simpa using hb
    refine e_skip ?_
    refine hK _ _ ?_; clear hK
    refine e_seq fun K hK => ?_
    refine e_block ?_
    refine e_seq fun K hK => ?_
    refine e_region_text rfl ?_
    refine q_move rfl rfl ?_
    refine q_gtr rfl rfl rfl ?_
    refine q_move rfl rfl ?_
    refine g_and 8 rfl trivial rfl rfl ?_; apply Exists.intro; refine ⟨fun hg => ?_, fun hg => ?_, fun wm3 hBm3 => ?_⟩
    · have hg0 := hg
      have hTm3 := Below.refl (World.heap wl2).size wl2
      try simp at hg
      refine g_run rfl ?_; refine q_field rfl rfl ?_
      refine g_run rfl ?_; refine q_load rfl (Blk.cell hb1 rfl) rfl ?_
      refine g_run rfl ?_; refine q_move rfl rfl ?_
      refine g_run rfl ?_; first | refine q_indexSn (by infer_instance) rfl hA rfl (by first | omega | decide) rfl fun b21 o21 f21 => ?_ | refine q_indexS (by infer_instance) rfl hA rfl (by first | omega | decide) (by first | omega | decide) rfl fun b21 o21 f21 => ?_
      refine g_run rfl ?_; refine q_field rfl rfl ?_
      have f22 := ArcF2 f21
      refine g_run rfl ?_; refine q_load rfl (El.intCell f22) rfl ?_
      refine g_run rfl ?_; refine q_move rfl rfl ?_
      refine g_run rfl ?_; refine q_eql rfl rfl rfl ?_
      exact eseq_nil ⟨hTm3, Sub.set rfl (Sub.set rfl (Sub.set rfl (Sub.set rfl (Sub.set rfl (Sub.set rfl (Sub.set rfl (Sub.set rfl (Sub.bool true rfl hg0)))))))), rfl⟩
    · have hg0 := hg
      refine g_skip rfl rfl rfl ?_
      refine g_skip rfl rfl rfl ?_
      refine g_skip rfl rfl rfl ?_
      refine g_skip rfl rfl rfl ?_
      refine g_skip rfl rfl rfl ?_
      refine g_skip rfl rfl rfl ?_
      refine g_skip rfl rfl rfl ?_
      refine g_skip rfl rfl rfl ?_
      exact eseq_nil ⟨rfl, Sub.set rfl (Sub.set rfl (Sub.set rfl (Sub.set rfl (Sub.set rfl (Sub.set rfl (Sub.set rfl (Sub.set rfl (Sub.bool false rfl hg0))))))))⟩
    replace hL := hL.ext hBm3
    replace hC := hC.ext hBm3
    replace hA := hA.ext hBm3
    replace hb1 := hb1.ext hBm3
    replace hT := hT.trans (Below.mono hBm3 hT.size)
    replace hTl2 := hTl2.trans (Below.mono hBm3 hTl2.size)
    refine q_move rfl rfl ?_
    refine g_and 8 rfl trivial rfl rfl ?_; apply Exists.intro; refine ⟨fun hg => ?_, fun hg => ?_, fun wm4 hBm4 => ?_⟩
    · have hg0 := hg
      have hTm4 := Below.refl (World.heap wm3).size wm3
      try simp at hg
      refine g_run rfl ?_; refine q_field rfl rfl ?_
      refine g_run rfl ?_; refine q_load rfl (Blk.cell hb1 rfl) rfl ?_
      refine g_run rfl ?_; refine q_move rfl rfl ?_
      refine g_run rfl ?_; first | refine q_indexSn (by infer_instance) rfl hA rfl (by first | omega | decide) rfl fun b31 o31 f31 => ?_ | refine q_indexS (by infer_instance) rfl hA rfl (by first | omega | decide) (by first | omega | decide) rfl fun b31 o31 f31 => ?_
      refine g_run rfl ?_; refine q_field rfl rfl ?_
      have f32 := ArcF3 f31
      refine g_run rfl ?_; refine q_load rfl (El.intCell f32) rfl ?_
      refine g_run rfl ?_; refine q_move rfl rfl ?_
      refine g_run rfl ?_; refine q_eql rfl rfl rfl ?_
      exact eseq_nil ⟨hTm4, Sub.set rfl (Sub.set rfl (Sub.set rfl (Sub.set rfl (Sub.set rfl (Sub.set rfl (Sub.set rfl (Sub.set rfl (Sub.bool true rfl hg0)))))))), rfl⟩
    · have hg0 := hg
      refine g_skip rfl rfl rfl ?_
      refine g_skip rfl rfl rfl ?_
      refine g_skip rfl rfl rfl ?_
      refine g_skip rfl rfl rfl ?_
      refine g_skip rfl rfl rfl ?_
      refine g_skip rfl rfl rfl ?_
      refine g_skip rfl rfl rfl ?_
      refine g_skip rfl rfl rfl ?_
      exact eseq_nil ⟨rfl, Sub.set rfl (Sub.set rfl (Sub.set rfl (Sub.set rfl (Sub.set rfl (Sub.set rfl (Sub.set rfl (Sub.set rfl (Sub.bool false rfl hg0))))))))⟩
    replace hL := hL.ext hBm4
    replace hC := hC.ext hBm4
    replace hA := hA.ext hBm4
    replace hb1 := hb1.ext hBm4
    replace hT := hT.trans (Below.mono hBm4 hT.size)
    replace hTl2 := hTl2.trans (Below.mono hBm4 hTl2.size)
    refine eseq_nil ?_
    refine hK _ _ ?_; clear hK
    refine e_cond rfl (fun hb3 => ?_) (fun hb3 => ?_)
    · skip
      refine e_seq fun K hK => ?_
      refine e_region_text rfl ?_
      refine q_move rfl rfl ?_
      refine q_assign rfl rfl ?_
      refine eseq_nil ?_
      refine hK _ _ ?_; clear hK
      refine e_ret ?_
      exact ⟨_, res1 rfl rfl, by rw [recvE, findR_hit hlt ht hb3], hT⟩
    · skip
      refine e_skip ?_
      refine hK _ _ ?_; clear hK
      refine e_region_text rfl ?_
      refine q_move rfl rfl ?_
      refine q_add rfl rfl (wr64 (by omega) (by omega)) rfl ?_
      refine q_assign rfl rfl ?_
      refine eseq_nil ?_
      refine ⟨p.arcs.length - (k + 1), _, by omega, ⟨k + 1, ⟨by omega, fun i hi => (by rcases Nat.lt_or_ge i k with h | h; exact ht i h; obtain rfl : i = k := (by omega); exact hb3)⟩, rfl, hTl2, rfl⟩, Sub.cons rfl (Sub.cons rfl (Sub.cons rfl (Sub.cons rfl (Sub.nil _))))⟩
  · skip
    have hge : k = p.arcs.length := by simp at hb; omega
    refine e_exit ?_
    clear hK
    refine hK _ _ ?_; clear hK
    refine e_seq fun K hK => ?_
    refine e_region_text rfl ?_
    refine q_assign rfl rfl ?_
    refine eseq_nil ?_
    refine hK _ _ ?_; clear hK
    refine e_ret ?_
    subst hge
    exact ⟨_, res1 rfl rfl, by rw [recvE, findR_none ht], hT⟩

theorem can16 {Sx : Nat → Prop} {vx : Value} {x : List Int} (hL : IsSlice Ty.int w SL vL p.lens) (hC : IsSlice Ty.int.slice w SC vC p.ckpts) (hA : IsSlice arcTy w SA vA p.arcs) (hx : IsSlice Ty.int w Sx vx x) (q : Nat) (hq : q < p.lens.length) (hxl : x.length = p.lens.length)
    (hxr : -1000000000 ≤ nth x q ∧ nth x q ≤ 1000000000) (hl : p.arcs.length ≤ 1000000000) (hin : arcsIn p) :
    Gives Try.prog 64 [.agg #[vL, vC, vA], vx, .int .i64 q] w fun v w' => v = .bool (canB p x q) ∧ Below w.heap.size w w' := by
  refine fn_of Try.func64 rfl Try.ntmps64 (Nat.le_of_ble_eq_true rfl) ?_
  have hT := Below.refl w.heap.size w
  have hq2 : q < x.length := by omega
  obtain ⟨hxr1, hxr2⟩ := hxr
  refine e_seq fun K hK => ?_
  refine e_region_text rfl ?_
  refine q_boxB rfl rfl rfl fun w1 bl1 hg1 hb1 hB1 => ?_
  have hz1hT := Nat.le_trans hT.size hg1
  replace hL := hL.ext hB1
  replace hC := hC.ext hB1
  replace hA := hA.ext hB1
  replace hx := hx.ext hB1
  replace hT := hT.trans (Below.mono hB1 hT.size)
  refine q_assign rfl rfl ?_
  refine eseq_nil ?_
  refine hK _ _ ?_; clear hK
  refine e_seq fun K hK => ?_
  refine e_seq fun K hK => ?_
  refine e_region_draw mixed (fun _ => False) [0, 0, 3, 7, 0, 16, 0, 112, 240, 511] [] [0, 1, 2, 3, 4, 5, 6, 7, 8, 9] (by kernel_rfl) ?_
  refine q_move rfl rfl ?_
  refine q_move rfl rfl ?_
  first | refine q_indexSn (by infer_instance) rfl hx rfl (by first | omega | decide) rfl fun b10 o10 f10 => ?_ | refine q_indexS (by infer_instance) rfl hx rfl (by first | omega | decide) (by first | omega | decide) rfl fun b10 o10 f10 => ?_
  refine q_load rfl (El.intCell f10) rfl ?_
  refine q_field rfl rfl ?_
  refine q_load rfl (Blk.cell hb1 rfl) rfl ?_
  refine q_move rfl rfl ?_
  first | refine q_indexSn (by infer_instance) rfl hL rfl (by first | omega | decide) rfl fun b15 o15 f15 => ?_ | refine q_indexS (by infer_instance) rfl hL rfl (by first | omega | decide) (by first | omega | decide) rfl fun b15 o15 f15 => ?_
  refine q_load rfl (El.intCell f15) rfl ?_
  refine q_geq rfl rfl rfl ?_
  refine eseq_nil ?_
  refine hK _ _ ?_; clear hK
  refine e_cond rfl (fun hb => ?_) (fun hb => ?_)
  · skip
    refine e_seq fun K hK => ?_
    refine e_region_text rfl ?_
    refine q_assign rfl rfl ?_
    refine eseq_nil ?_
    refine hK _ _ ?_; clear hK
    refine e_ret ?_
    exact ⟨_, res1 rfl rfl, by simp only [canB]; rw [show decide (nth p.lens q ≤ nth x q) = true from hb]; rfl, hT⟩
  have hr := recvE_lt p q (nth x q + 1)
  have hfr : 0 ≤ recvE p q (nth x q + 1) → 0 ≤ (nth p.arcs (recvE p q (nth x q + 1)).toNat).fr ∧ (nth p.arcs (recvE p q (nth x q + 1)).toNat).fr < p.lens.length := fun h0 => by
    have := hin (recvE p q (nth x q + 1)).toNat (by omega)
    simpa [procB] using this
  refine e_skip ?_
  refine hK _ _ ?_; clear hK
  refine e_seq fun K hK => ?_
  refine e_region_draw mixed (fun _ => False) [0, 0, 0, 0, 12, 28, 60, 127, 255] [] [0, 1, 2, 3, 4, 5, 6, 7, 8] (by kernel_rfl) ?_
  refine q_loadAgg rfl (Blk.cellsAt hb1 0 3 rfl) rfl rfl ?_
  refine q_move rfl rfl ?_
  refine q_move rfl rfl ?_
  refine q_move rfl rfl ?_
  first | refine q_indexSn (by infer_instance) rfl hx rfl (by first | omega | decide) rfl fun b22 o22 f22 => ?_ | refine q_indexS (by infer_instance) rfl hx rfl (by first | omega | decide) (by first | omega | decide) rfl fun b22 o22 f22 => ?_
  refine q_load rfl (El.intCell f22) rfl ?_
  refine q_add rfl rfl (wr64 (by omega) (by omega)) rfl ?_
  refine q_call rfl (received16 hL hC hA q (nth x q + 1) hl) rfl ?_
  rintro _ w2 ⟨rfl, hB2⟩; refine ⟨fun _ => .of_below hB2, ?_⟩
  replace hL := hL.ext hB2
  replace hC := hC.ext hB2
  replace hA := hA.ext hB2
  replace hx := hx.ext hB2
  replace hb1 := hb1.ext hB2
  replace f10 := f10.ext hB2
  replace f15 := f15.ext hB2
  replace f22 := f22.ext hB2
  replace hT := hT.trans (Below.mono hB2 hT.size)
  refine q_assign rfl rfl ?_
  refine eseq_nil ?_
  refine hK _ _ ?_; clear hK
  refine e_seq fun K hK => ?_
  refine e_region_draw mixed (fun _ => False) [0, 1, 3, 7, 15, 7, 63, 127, 255, 7, 7, 1031, 7, 7175, 15367, 31751, 65031, 130567, 262143, 524287, 1048575] [] [0, 1, 2, 3, 4, 5, 6, 7, 8, 9, 10, 11, 12, 13, 14, 15, 16, 17, 18, 19, 20] (by kernel_rfl) ?_
  refine q_move rfl rfl ?_
  refine q_lss rfl rfl rfl ?_
  refine q_move rfl rfl ?_
  refine g_or 16 rfl trivial rfl rfl ?_; apply Exists.intro; refine ⟨fun hg => ?_, fun hg => ?_, fun wm3 hBm3 => ?_⟩
  · have hg0 := hg
    refine g_skip rfl rfl rfl ?_
    refine g_skip rfl rfl rfl ?_
    refine g_skip rfl rfl rfl ?_
    refine g_skip rfl rfl rfl ?_
    refine g_skip rfl rfl rfl ?_
    refine g_skip rfl rfl rfl ?_
    refine g_skip rfl rfl rfl ?_
    refine g_skip rfl rfl rfl ?_
    refine g_skip rfl rfl rfl ?_
    refine g_skip rfl rfl rfl ?_
    refine g_skip rfl rfl rfl ?_
    refine g_skip rfl rfl rfl ?_
    refine g_skip rfl rfl rfl ?_
    refine g_skip rfl rfl rfl ?_
    refine g_skip rfl rfl rfl ?_
    refine g_skip rfl rfl rfl ?_
    exact eseq_nil ⟨rfl, Sub.set rfl (Sub.set rfl (Sub.set rfl (Sub.set rfl (Sub.set rfl (Sub.set rfl (Sub.set rfl (Sub.set rfl (Sub.set rfl (Sub.set rfl (Sub.set rfl (Sub.set rfl (Sub.set rfl (Sub.set rfl (Sub.set rfl (Sub.set rfl (Sub.bool true rfl hg0))))))))))))))))⟩
  · have hg0 := hg
    have hTm3 := Below.refl (World.heap w2).size w2
    try simp at hg
    obtain ⟨hf1, hf2⟩ := hfr (by omega)
    refine g_run rfl ?_; refine q_field rfl rfl ?_
    refine g_run rfl ?_; refine q_load rfl (Blk.cell hb1 rfl) rfl ?_
    refine g_run rfl ?_; refine q_move rfl rfl ?_
    refine g_run rfl ?_; first | refine q_indexSn (by infer_instance) rfl hA rfl (by first | omega | decide) rfl fun b32 o32 f32 => ?_ | refine q_indexS (by infer_instance) rfl hA rfl (by first | omega | decide) (by first | omega | decide) rfl fun b32 o32 f32 => ?_
    refine g_run rfl ?_; refine q_field rfl rfl ?_
    have f33 := ArcF1 f32
    refine g_run rfl ?_; refine q_load rfl (El.intCell f33) rfl ?_
    refine g_run rfl ?_; refine q_move rfl rfl ?_
    refine g_run rfl ?_; refine q_field rfl rfl ?_
    refine g_run rfl ?_; refine q_load rfl (Blk.cell hb1 rfl) rfl ?_
    refine g_run rfl ?_; refine q_move rfl rfl ?_
    refine g_run rfl ?_; first | refine q_indexSn (by infer_instance) rfl hA rfl (by first | omega | decide) rfl fun b39 o39 f39 => ?_ | refine q_indexS (by infer_instance) rfl hA rfl (by first | omega | decide) (by first | omega | decide) rfl fun b39 o39 f39 => ?_
    refine g_run rfl ?_; refine q_field rfl rfl ?_
    have f40 := ArcF0 f39
    refine g_run rfl ?_; refine q_load rfl (El.intCell f40) rfl ?_
    refine g_run rfl ?_; first | refine q_indexSn (by infer_instance) rfl hx rfl (by first | omega | decide) rfl fun b42 o42 f42 => ?_ | refine q_indexS (by infer_instance) rfl hx rfl (by first | omega | decide) (by first | omega | decide) rfl fun b42 o42 f42 => ?_
    refine g_run rfl ?_; refine q_load rfl (El.intCell f42) rfl ?_
    refine g_run rfl ?_; refine q_leq rfl rfl rfl ?_
    exact eseq_nil ⟨hTm3, Sub.set rfl (Sub.set rfl (Sub.set rfl (Sub.set rfl (Sub.set rfl (Sub.set rfl (Sub.set rfl (Sub.set rfl (Sub.set rfl (Sub.set rfl (Sub.set rfl (Sub.set rfl (Sub.set rfl (Sub.set rfl (Sub.set rfl (Sub.set rfl (Sub.bool false rfl hg0)))))))))))))))), rfl⟩
  replace hL := hL.ext hBm3
  replace hC := hC.ext hBm3
  replace hA := hA.ext hBm3
  replace hx := hx.ext hBm3
  replace hb1 := hb1.ext hBm3
  replace f10 := f10.ext hBm3
  replace f15 := f15.ext hBm3
  replace f22 := f22.ext hBm3
  replace hT := hT.trans (Below.mono hBm3 hT.size)
  refine q_assign rfl rfl ?_
  refine eseq_nil ?_
  refine hK _ _ ?_; clear hK
  refine e_ret ?_
  refine ⟨_, res1 rfl rfl, ?_, hT⟩
  simp only [canB]; rw [show decide (nth p.lens q ≤ nth x q) = false from hb]; rfl
end Go.Proofs.Ytdpleaifhdlciaa
