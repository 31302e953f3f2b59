/- Play of chapter 25's reference. -/
import Derived.Test.YtdpleaifhdlciaaR25b
import Derived.Test.YtdpleaifhdlciaaR25c
import Derived.Test.YtdpleaifhdlciaaW25g
set_option linter.unusedSimpArgs false
set_option linter.unusedVariables false
namespace Go.Proofs.Ytdpleaifhdlciaa
open Go.RowKit Go.Mine
attribute [local irreducible] eseq ewp
variable {w : World}

theorem playR25 {S : Nat → Prop} {vD : Value} {l : List Deed} (n : Int) (hD : IsSlice deedTy w S vD l) (hll : l.length ≤ 1000000000) :
    Gives Try.prog 15 [.int .i64 n, vD] w fun v w' => ∃ vL vC vA vK vV vF, v = .tuple #[.agg #[vL, vC, vA, vK, vV, vF], .int .i64 (playE n l).2] ∧ HistAt w' (fun k => w.heap.size ≤ k) vL vC vA vK vV vF (playE n l).1 ∧ Below w.heap.size w w' := by
  replace hD := hD.old
  have hD0 := hD
  have hS := Sep.start w
  refine fn_of Try.func15 rfl Try.ntmps15 (Nat.le_of_ble_eq_true rfl) ?_
  have hT := Below.refl w.heap.size w
  refine e_seq fun K hK => ?_
  refine e_region_text rfl ?_
  refine q_allocB rfl fun w1 bl1 hg1 hb1 hB1 => ?_
  replace hD := hD.ext hB1
  replace hS := hS.newBlk hB1 hg1 hb1
  refine q_assign rfl rfl ?_
  refine eseq_nil ?_
  refine hK _ _ ?_; clear hK
  refine e_seq fun K hK => ?_
  refine e_seq fun K hK => ?_
  refine e_region_text rfl ?_
  refine q_move rfl rfl ?_
  refine q_lss rfl rfl rfl ?_
  refine q_move rfl rfl ?_
  refine g_or 2 rfl trivial rfl rfl ?_; apply Exists.intro; refine ⟨fun hg => ?_, fun hg => ?_, fun wm2 hBm2 => ?_⟩
  · have hg0 := hg
    refine g_skip rfl rfl rfl ?_
    refine g_skip rfl rfl rfl ?_
    exact eseq_nil ⟨rfl, Sub.set rfl (Sub.set rfl (Sub.bool true rfl hg0))⟩
  · have hg0 := hg
    have hTm2 := Below.refl (World.heap w1).size w1
    try simp at hg
    refine g_run rfl ?_; refine q_move rfl rfl ?_
    refine g_run rfl ?_; refine q_gtr rfl rfl rfl ?_
    exact eseq_nil ⟨hTm2, Sub.set rfl (Sub.set rfl (Sub.bool false rfl hg0)), rfl⟩
  replace hD := hD.ext hBm2
  replace hS := hS.below hBm2
  refine eseq_nil ?_
  refine hK _ _ ?_; clear hK
  refine e_cond rfl (fun hc1 => ?_) (fun hc1 => ?_)
  · skip
    refine e_seq fun K hK => ?_
    refine e_region_text rfl ?_
    refine q_build Parts.nil rfl rfl ?_
    refine q_storeAgg rfl rfl (hS.blk 0 rfl) rfl (Nat.le_of_ble_eq_true rfl) (all_cons rfl (all_cons rfl (all_cons rfl (all_cons rfl (all_cons rfl (all_cons rfl (all_nil))))))) rfl rfl fun w3 hb3 hO3 => ?_
    simp only [setN, List.take, List.drop, List.set] at hb3
    have hk3 := hS.keptBlk 0 rfl hO3
    replace hD := hD.kept hk3
    replace hS := hS.setBlk 0 rfl hb3 hO3; simp only [List.set] at hS
    refine q_assign rfl rfl ?_
    refine eseq_nil ?_
    refine hK _ _ ?_; clear hK
    refine e_ret ?_
    have e1 : playE n l = (.none, 3) := by rw [playE, if_pos hc1]
    rw [e1]
    exact ⟨_, resC2 rfl rfl ((hS.blk 0 rfl).cellsAt 0 6 rfl) rfl rfl, _, _, _, _, _, _, rfl, ⟨.nil _ _ _, .nil _ _ _, .nil _ _ _, .nil _ _ _, .nil _ _ _, .nil _ _ _⟩, hS.step.below⟩
  have hn : 1 ≤ n ∧ n ≤ 5 := by simp at hc1; omega
  refine e_skip ?_
  refine hK _ _ ?_; clear hK
  refine e_seq fun K hK => ?_
  refine e_seq fun K hK => ?_
  refine e_region_text rfl ?_
  refine q_move rfl rfl ?_
  refine q_lenS rfl hD rfl ?_
  refine q_gtr rfl rfl rfl ?_
  refine eseq_nil ?_
  refine hK _ _ ?_; clear hK
  refine e_cond rfl (fun hc2 => ?_) (fun hc2 => ?_)
  · skip
    refine e_seq fun K hK => ?_
    refine e_region_text rfl ?_
    refine q_build Parts.nil rfl rfl ?_
    refine q_storeAgg rfl rfl (hS.blk 0 rfl) rfl (Nat.le_of_ble_eq_true rfl) (all_cons rfl (all_cons rfl (all_cons rfl (all_cons rfl (all_cons rfl (all_cons rfl (all_nil))))))) rfl rfl fun w4 hb4 hO4 => ?_
    simp only [setN, List.take, List.drop, List.set] at hb4
    have hk4 := hS.keptBlk 0 rfl hO4
    replace hD := hD.kept hk4
    replace hS := hS.setBlk 0 rfl hb4 hO4; simp only [List.set] at hS
    refine q_assign rfl rfl ?_
    refine eseq_nil ?_
    refine hK _ _ ?_; clear hK
    refine e_ret ?_
    have e1 : playE n l = (.none, 4) := by rw [playE, if_neg (by rw [hc1]; simp), if_pos (by simp at hc2; omega)]
    rw [e1]
    exact ⟨_, resC2 rfl rfl ((hS.blk 0 rfl).cellsAt 0 6 rfl) rfl rfl, _, _, _, _, _, _, rfl, ⟨.nil _ _ _, .nil _ _ _, .nil _ _ _, .nil _ _ _, .nil _ _ _, .nil _ _ _⟩, hS.step.below⟩
  have hl2 : l.length ≤ 200 := by simp at hc2; omega
  obtain ⟨nn, rfl⟩ := Int.eq_ofNat_of_zero_le (show 0 ≤ n by omega)
  have hplay : playE nn l = ((Comp.run nn l).hist, 0) := by rw [playE, if_neg (by rw [hc1]; simp), if_neg (by omega)]; simp
  refine e_skip ?_
  refine hK _ _ ?_; clear hK
  refine e_seq fun K hK => ?_
  refine e_region_text rfl ?_
  refine q_move rfl rfl ?_
  refine q_call rfl (beginR25 (Sep.enter (As := []) hS) nn (by omega) (by omega)) rfl ?_
  rintro _ wb ⟨x0, rfl, hcap0, hC0⟩; refine ⟨(fun h => by cases h), ?_⟩
  have hS1 := Sep.leave (As := []) hS hC0
  obtain ⟨B, hBx⟩ : ∃ B, B = x0.B := ⟨_, rfl⟩
  rw [← hBx]
  clear hS hD
  refine q_assign rfl rfl ?_
  refine eseq_nil ?_
  refine hK _ _ ?_; clear hK
  refine e_seq fun K hK => ?_
  refine e_seq fun K hK => ?_
  refine e_region_text rfl ?_
  refine q_assign rfl rfl ?_
  refine eseq_nil ?_
  refine hK _ _ ?_; clear hK
  refine e_block ?_
  refine e_loop (fun m E wx => ∃ (k : Nat) (x : RN), k ≤ l.length ∧ x.B = B ∧ (nn ≤ x.capC ∧ nn ≤ x.capK ∧ nn ≤ x.capF) ∧ Sep (fun _ => False) (fun k => k < w.heap.size) (fun k => k < w.heap.size) w wx (runParts nn x (Comp.run nn (l.take k)) ++ [HP.blk bl1 [.slice none 0 0, .slice none 0 0, .slice none 0 0, .slice none 0 0, .slice none 0 0, .slice none 0 0] 36]) ∧
    m = l.length - k ∧ E = [(1, vD), (4, .pointer (some ⟨bl1, 0, none⟩)), (6, .pointer (some ⟨B, 0, none⟩)), (7, .int .i64 k)]) _ ⟨_, ⟨0, x0, by omega, hBx.symm, hcap0, hS1, rfl, rfl⟩, Sub.cons rfl (Sub.cons rfl (Sub.cons rfl (Sub.cons rfl (Sub.nil _))))⟩ ?_
  clear hS1 hC0 hBx hcap0 x0
  rintro m E wx ⟨k, x, hk, hB, hcap, hS, rfl, rfl⟩
  subst hB
  have hD := hD0.ext hS.step.below
  have hinv := (Comp.Inv.run (n := nn) (l := l.take k) (by simp; omega))
  refine e_seq fun K hK => ?_
  refine e_seq fun K hK => ?_
  refine e_region_text rfl ?_
  refine q_move rfl rfl ?_
  refine q_move rfl rfl ?_
  refine q_lenS rfl hD rfl ?_
  refine q_lss rfl rfl rfl ?_
  refine eseq_nil ?_
  refine hK _ _ ?_; clear hK
  refine e_cond rfl (fun hif => ?_) (fun hif => ?_)
  · skip
    have hlt : k < l.length := by simpa using hif
    have hrun : Comp.run nn (l.take (k + 1)) = (Comp.run nn (l.take k)).deed (nth l k) := by rw [nth_eq hlt]; exact foldl_take hlt
    generalize Comp.run nn (l.take k) = c at hS hinv hrun
    refine e_skip ?_
    refine hK _ _ ?_; clear hK
    refine e_seq fun K hK => ?_
    refine e_block ?_
    refine e_region_text rfl ?_
    refine q_move rfl rfl ?_
    refine q_move rfl rfl ?_
    refine q_move rfl rfl ?_
    first | refine q_indexSn (by infer_instance) rfl hD rfl (by first | omega | decide) rfl fun b30 o30 f30 => ?_ | refine q_indexS (by infer_instance) rfl hD rfl (by first | omega | decide) (by first | omega | decide) rfl fun b30 o30 f30 => ?_
    refine q_loadAgg rfl (ActL f30) rfl rfl ?_
    have hm1 : (l.take k).length ≤ 200 := by simp; omega
    refine q_call rfl (actR25 (Sep.enter hS) hinv (by omega) (by omega) hcap (by omega) (nth l k).kind (nth l k).proc (nth l k).other) rfl ?_
    rintro _ wy ⟨rfl, x', hB', hcap', hC⟩; refine ⟨(fun h => by cases h), ?_⟩
    have hS4 := Sep.leave hS hC
    refine eseq_nil ?_
    refine hK _ _ ?_; clear hK
    refine e_region_text rfl ?_
    refine q_move rfl rfl ?_
    refine q_add rfl rfl (wr64 (by omega) (by omega)) rfl ?_
    refine q_assign rfl rfl ?_
    refine eseq_nil ?_
    refine ⟨l.length - (k + 1), _, by omega, ⟨k + 1, x', by omega, hB', hcap', ?_, rfl, rfl⟩, Sub.cons rfl (Sub.cons rfl (Sub.cons rfl (Sub.cons rfl (Sub.nil _))))⟩
    rw [hrun]; exact hS4
  · skip
    have hge : k = l.length := by simp at hif; omega
    rw [hge, List.take_length] at hS hinv
    generalize Comp.run nn l = c at hS hinv hplay
    simp only [runParts, List.cons_append, List.nil_append] at hS
    have g1 := hinv.good.lens; have g2 := hinv.good.ckpts; have g3 := hinv.good.clocks; have g4 := hinv.good.forced; have g5 := hinv.good.now
    refine e_exit ?_
    clear hK
    refine hK _ _ ?_; clear hK
    refine e_seq fun K hK => ?_
    refine e_region_text rfl ?_
    refine q_move rfl rfl ?_
    refine q_nilCheck rfl rfl ?_
    refine q_field rfl rfl ?_
    refine q_loadAgg rfl (Blk.cellsAt (hS.blk 0 rfl) 0 6 rfl) rfl rfl ?_
    refine q_storeAgg rfl rfl (hS.blk 11 rfl) rfl (Nat.le_of_ble_eq_true rfl) (all_cons rfl (all_cons rfl (all_cons (hS.own 4 rfl).one (all_cons rfl (all_cons rfl (all_cons rfl (all_nil))))))) rfl rfl fun w5 hb5 hO5 => ?_
    simp only [setN, List.take, List.drop, List.set] at hb5
    have hk5 := hS.keptBlk 11 rfl hO5
    replace hS := hS.setBlk 11 rfl hb5 hO5; simp only [List.set] at hS
    refine q_assign rfl rfl ?_
    refine eseq_nil ?_
    refine hK _ _ ?_; clear hK
    refine e_ret ?_
    rw [hplay]
    refine ⟨_, resC2 rfl rfl ((hS.blk 11 rfl).cellsAt 0 6 rfl) rfl rfl, _, _, _, _, _, _, rfl, ⟨?_, ?_, ?_, ?_, .nil _ _ _, ?_⟩, hS.step.below⟩
    · have := Blk.ints (S := fun k => w.heap.size ≤ k) (c := c.lens.length) (hS.blk 1 rfl) (hS.fresh 1 rfl _ rfl) (Nat.le_refl _)
      rw [g1] at this; exact this
    · exact (hS.rowsSlice 2 3 rfl rfl g2.symm hcap.1).mono fun k hk _ => hk.elim (fun h => hS.fresh 2 rfl _ h) (fun h => hS.fresh 3 rfl _ h)
    · exact (Own.reads (hS.own 4 rfl)).mono fun k hk _ => hk.elim (fun h => h.elim) (fun h => hS.fresh 4 rfl _ h)
    · exact (hS.rowsSlice 5 6 rfl rfl g3.symm hcap.2.1).mono fun k hk _ => hk.elim (fun h => hS.fresh 5 rfl _ h) (fun h => hS.fresh 6 rfl _ h)
    · exact (hS.rowsSlice 7 8 rfl rfl g4.symm hcap.2.2).mono fun k hk _ => hk.elim (fun h => hS.fresh 7 rfl _ h) (fun h => hS.fresh 8 rfl _ h)
end Go.Proofs.Ytdpleaifhdlciaa
