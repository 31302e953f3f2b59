/- The small methods of the indexed computation. -/
import Derived.Test.YtdpleaifhdlciaaComp
set_option linter.unusedSimpArgs false
namespace Go.Proofs.Ytdpleaifhdlciaa
open Go.RowKit Go.Mine
attribute [local irreducible] eseq ewp
variable {w : World} {B lo : Nat} {own : Nat → Nat} {T0 eG : TypeId} {c : Comp} {vL vC vA vK vF vT vG : Value}

theorem process25 (h : CompAt w B lo own T0 eG c vL vC vA vK vF vT vG) (q : Int) :
    Gives Try.prog 35 [.pointer (some ⟨B, 0, none⟩), .int .i64 q] w fun v w' => v = .bool (decide (0 ≤ q) && decide (q < c.now.length)) ∧ Below w.heap.size w w' := by
  have hb := h.blk
  have hN := h.now.isSlice
  refine fn_of Try.func35 rfl Try.ntmps35 (Nat.le_of_ble_eq_true rfl) ?_
  have hT := Below.refl w.heap.size w
  refine e_seq fun K hK => ?_
  refine e_region_text rfl ?_
  refine q_assign rfl rfl ?_
  refine eseq_nil ?_
  refine hK _ _ ?_; clear hK
  refine e_seq fun K hK => ?_
  refine e_region_text rfl ?_
  refine q_move rfl rfl ?_
  refine q_geq rfl rfl rfl ?_
  refine q_move rfl rfl ?_
  refine g_and 7 rfl trivial rfl rfl ?_; apply Exists.intro; refine ⟨fun hg => ?_, fun hg => ?_, fun wm1 hBm1 => ?_⟩
  · have hg0 := hg
    have hTm1 := Below.refl (World.heap w).size w
    try simp at hg
    refine g_run rfl ?_; refine q_move rfl rfl ?_
    refine g_run rfl ?_; refine q_move rfl rfl ?_
    refine g_run rfl ?_; refine q_nilCheck rfl rfl ?_
    refine g_run rfl ?_; refine q_field rfl rfl ?_
    refine g_run rfl ?_; refine q_load rfl (Blk.cell hb rfl) rfl ?_
    refine g_run rfl ?_; refine q_lenS rfl hN rfl ?_
    refine g_run rfl ?_; refine q_lss rfl rfl rfl ?_
    exact eseq_nil ⟨hTm1, Sub.set rfl (Sub.set rfl (Sub.set rfl (Sub.set rfl (Sub.set rfl (Sub.set rfl (Sub.set rfl (Sub.bool true rfl hg0))))))), rfl⟩
  · have hg0 := hg
    refine g_skip rfl rfl rfl ?_
    refine g_skip rfl rfl rfl ?_
    refine g_skip rfl rfl rfl ?_
    refine g_skip rfl rfl rfl ?_
    refine g_skip rfl rfl rfl ?_
    refine g_skip rfl rfl rfl ?_
    refine g_skip rfl rfl rfl ?_
    exact eseq_nil ⟨rfl, Sub.set rfl (Sub.set rfl (Sub.set rfl (Sub.set rfl (Sub.set rfl (Sub.set rfl (Sub.set rfl (Sub.bool false rfl hg0)))))))⟩
  replace hN := hN.ext hBm1
  replace hb := hb.ext hBm1
  replace hT := hT.trans (Below.mono hBm1 hT.size)
  refine q_assign rfl rfl ?_
  refine eseq_nil ?_
  refine hK _ _ ?_; clear hK
  refine e_ret ?_
  exact ⟨_, res1 rfl rfl, rfl, hT⟩

theorem full25 (h : CompAt w B lo own T0 eG c vL vC vA vK vF vT vG) (q : Int) (hq0 : 0 ≤ q) (hq : q < c.lens.length) :
    Gives Try.prog 50 [.pointer (some ⟨B, 0, none⟩), .int .i64 q] w fun v w' => v = .bool (decide (64 ≤ nth c.lens q.toNat)) ∧ Below w.heap.size w w' := by
  have hb := h.blk
  have hN := h.lens.isSlice
  refine fn_of Try.func50 rfl Try.ntmps50 (Nat.le_of_ble_eq_true rfl) ?_
  have hT := Below.refl w.heap.size w
  refine e_seq fun K hK => ?_
  refine e_region_text rfl ?_
  refine q_assign rfl rfl ?_
  refine eseq_nil ?_
  refine hK _ _ ?_; clear hK
  refine e_seq fun K hK => ?_
  refine e_region_text rfl ?_
  refine q_move rfl rfl ?_
  refine q_nilCheck rfl rfl ?_
  refine q_field rfl rfl ?_
  refine q_field rfl rfl ?_
  refine q_field rfl rfl ?_
  refine q_load rfl (Blk.cell hb rfl) rfl ?_
  refine q_move rfl rfl ?_
  first | refine q_indexSn (by infer_instance) rfl hN rfl (by first | omega | decide) rfl fun b12 o12 f12 => ?_ | refine q_indexS (by infer_instance) rfl hN rfl (by first | omega | decide) (by first | omega | decide) rfl fun b12 o12 f12 => ?_
  refine q_load rfl (El.intCell f12) rfl ?_
  refine q_geq rfl rfl rfl ?_
  refine q_assign rfl rfl ?_
  refine eseq_nil ?_
  refine hK _ _ ?_; clear hK
  refine e_ret ?_
  exact ⟨_, res1 rfl rfl, rfl, hT⟩

theorem spares_of_only {w1 : World} {g : Nat} {t : Nat} (hO : Only w w1 g) (hg : own g = t) : Spares own own w w1 (fun x => x ≠ t) :=
  ⟨hO.size, fun _ _ => rfl, fun k hk hne => hO.block k hk (by rintro rfl; exact hne hg)⟩

theorem event25 (h : CompAt w B lo own T0 eG c vL vC vA vK vF vT vG) (q : Int) (hq0 : 0 ≤ q) (hq : q < c.lens.length) (hr : -1000000000 ≤ nth c.lens q.toNat ∧ nth c.lens q.toNat ≤ 1000000000) :
    Gives Try.prog 51 [.pointer (some ⟨B, 0, none⟩), .int .i64 q] w fun v w' => v = .int .i64 (nth c.lens q.toNat + 1) ∧ CompAt w' B lo own T0 eG { c with lens := c.lens.set q.toNat (nth c.lens q.toNat + 1) } vL vC vA vK vF vT vG ∧ RelX (fun k => own k = 2) w w' ∧ Below lo w w' := by
  obtain ⟨hr1, hr2⟩ := hr
  have hb := h.blk
  have hg0 := h.lens
  obtain ⟨g, rfl, hgt, hg⟩ := hg0
  have hne : B ≠ g := by rintro rfl; have := h.tag; omega
  have hlog : lo ≤ g := (h.low g (by omega)).1
  refine fn_of Try.func51 rfl Try.ntmps51 (Nat.le_of_ble_eq_true rfl) ?_
  have hT := Below.refl w.heap.size w
  replace hT := Below.refl lo w
  have hlow : lo ≤ w.heap.size := by have := hg.lt; omega
  refine e_seq fun K hK => ?_
  refine e_region_text rfl ?_
  refine q_assign rfl rfl ?_
  refine eseq_nil ?_
  refine hK _ _ ?_; clear hK
  refine e_seq fun K hK => ?_
  refine e_region_text rfl ?_
  refine q_move rfl rfl ?_
  refine q_nilCheck rfl rfl ?_
  refine q_field rfl rfl ?_
  refine q_field rfl rfl ?_
  refine q_field rfl rfl ?_
  refine q_load rfl (Blk.cell hb rfl) rfl ?_
  refine q_move rfl rfl ?_
  first | refine q_indexn rfl rfl (by omega) rfl ?_ | refine q_index rfl rfl ⟨by omega, by omega⟩ rfl ?_
  refine q_load rfl (Blk.intAt hg (by first | omega | (simp; omega))) rfl ?_
  refine q_add rfl rfl (wr64 (by omega) (by omega)) rfl ?_
  first | refine q_indexn rfl rfl (by omega) rfl ?_ | refine q_index rfl rfl ⟨by omega, by omega⟩ rfl ?_
  refine q_storeIx rfl rfl hg (by first | omega | (simp; omega)) rfl fun w1 hb1 hO1 => ?_
  replace hb := hb.only hO1 (by omega)
  replace hT := Below.onlyB hT hO1 hg.lt (by omega)
  refine eseq_nil ?_
  refine hK _ _ ?_; clear hK
  refine e_seq fun K hK => ?_
  refine e_region_text rfl ?_
  refine q_move rfl rfl ?_
  refine q_nilCheck rfl rfl ?_
  refine q_field rfl rfl ?_
  refine q_field rfl rfl ?_
  refine q_field rfl rfl ?_
  refine q_load rfl (Blk.cell hb rfl) rfl ?_
  refine q_move rfl rfl ?_
  first | refine q_indexn rfl rfl (by omega) rfl ?_ | refine q_index rfl rfl ⟨by omega, by omega⟩ rfl ?_
  refine q_load rfl (Blk.intAt hb1 (by first | omega | (simp; omega))) rfl ?_
  refine q_assign rfl rfl ?_
  refine eseq_nil ?_
  refine hK _ _ ?_; clear hK
  refine e_ret ?_
  refine ⟨_, res1 rfl rfl, ?_, ?_, ⟨hO1.os, hO1.tape, hO1.output, hO1.size, fun k hk hnx => hO1.block k hk (by rintro rfl; exact hnx hgt)⟩, hT⟩
  · rw [nth_eq (by simp; omega)]; simp
  · have hl := spares_of_only hO1 hgt
    exact ⟨hb, h.tag, fun k hk => ⟨(h.low k hk).1, Nat.lt_of_lt_of_le (h.low k hk).2 hO1.size⟩, ⟨g, by simp, hgt, hb1⟩, h.arcs.step hl (by simp), h.now.step hl (by simp), h.fly.step hl (by simp), h.ckpts.step hl (by intro i _; omega), h.clocks.step hl (by intro i _; omega), h.forced.step hl (by intro i _; omega), h.few⟩
end Go.Proofs.Ytdpleaifhdlciaa
