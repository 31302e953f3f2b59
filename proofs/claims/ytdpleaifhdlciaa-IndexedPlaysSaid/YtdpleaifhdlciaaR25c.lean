/- The acts of the reference's computation of chapter 25. -/
import Derived.Test.YtdpleaifhdlciaaR25a
set_option linter.unusedSimpArgs false
set_option linter.unusedVariables false
namespace Go.Proofs.Ytdpleaifhdlciaa
open Go.RowKit Go.Mine
attribute [local irreducible] eseq ewp
variable {w : World} {F R : Nat → Prop} {n : Nat} {x : RN} {c : Comp}

theorem forcesR25 (a b : Int) : Gives Try.prog 54 [.int .i64 a, .int .i64 b] w fun v w' => v = .bool (decide (a < b)) ∧ Below w.heap.size w w' := by
  refine fn_of Try.func54 rfl Try.ntmps54 (Nat.le_of_ble_eq_true rfl) ?_
  have hT := Below.refl w.heap.size w
  refine e_seq fun K hK => ?_
  refine e_region_text rfl ?_
  refine q_assign rfl rfl ?_
  refine eseq_nil ?_
  refine hK _ _ ?_; clear hK
  refine e_seq fun K hK => ?_
  refine e_region_text rfl ?_
  refine q_move rfl rfl ?_
  refine q_move rfl rfl ?_
  refine q_gtr rfl rfl rfl ?_
  refine q_assign rfl rfl ?_
  refine eseq_nil ?_
  refine hK _ _ ?_; clear hK
  refine e_ret ?_
  exact ⟨_, res1 rfl rfl, rfl, hT⟩

def RunTo (F R : Nat → Prop) (n : Nat) (x : RN) (w w' : World) (c : Comp) : Prop := ∃ x' : RN, x'.B = x.B ∧ (n ≤ x'.capC ∧ n ≤ x'.capK ∧ n ≤ x'.capF) ∧ Sep F R R w w' (runParts n x' c)

theorem actR25 {r m : Nat} (h : Sep F R R w w (runParts n x c)) (hinv : c.Inv n r m) (hr : r ≤ 999) (hm : m ≤ 1000) (hcap : n ≤ x.capC ∧ n ≤ x.capK ∧ n ≤ x.capF) (hn100 : n ≤ 100) (ak ap ao : Int) :
    Gives Try.prog 38 [.pointer (some ⟨x.B, 0, none⟩), .agg #[.int .i64 ak, .int .i64 ap, .int .i64 ao]] w fun v w' => v = .tuple #[] ∧ RunTo F R n x w w' (c.deed ⟨ak, ap, ao⟩) := by
  have hS := h
  simp only [runParts] at hS
  have hg := hinv.good
  have g1 := hg.lens; have g2 := hg.ckpts; have g3 := hg.clocks; have g4 := hg.forced; have g5 := hg.now
  have l2 := hS.famLen 3 rfl; have l3 := hS.famLen 6 rfl; have l4 := hS.famLen 8 rfl
  have hal := hinv.arcs; have hfl := hinv.fly
  refine fn_of Try.func38 rfl Try.ntmps38 (Nat.le_of_ble_eq_true rfl) ?_
  have hT := Below.refl w.heap.size w
  refine e_seq fun K hK => ?_
  refine e_region_text rfl ?_
  refine q_boxB rfl rfl rfl fun w1 bl1 hg1 hb1 hB1 => ?_
  replace hS := hS.newBlk hB1 hg1 hb1
  refine eseq_nil ?_
  refine hK _ _ ?_; clear hK
  refine e_seq fun K hK => ?_
  refine e_region_text rfl ?_
  refine q_move rfl rfl ?_
  refine q_nilCheck rfl rfl ?_
  refine q_field rfl rfl ?_
  refine q_field rfl rfl ?_
  refine q_assign rfl rfl ?_
  refine eseq_nil ?_
  refine hK _ _ ?_; clear hK
  refine e_seq fun K hK => ?_
  refine e_region_text rfl ?_
  refine q_move rfl rfl ?_
  refine q_nilCheck rfl rfl ?_
  refine q_field rfl rfl ?_
  refine q_load rfl (Blk.cell (hS.blk 1 rfl) rfl) rfl ?_
  refine q_len rfl rfl ?_
  refine q_assign rfl rfl ?_
  refine eseq_nil ?_
  refine hK _ _ ?_; clear hK
  refine e_seq fun K hK => ?_
  refine e_region_text rfl ?_
  refine q_field rfl rfl ?_
  refine q_load rfl (Blk.cell (hS.blk 0 rfl) rfl) rfl ?_
  refine eseq_nil ?_
  refine hK _ _ ?_; clear hK
  refine e_block ?_
  refine e_seq fun K hK => ?_
  refine e_region_text rfl ?_
  refine q_eql rfl rfl rfl ?_
  refine q_assign rfl rfl ?_
  refine eseq_nil ?_
  refine hK _ _ ?_; clear hK
  refine e_cond rfl (fun hk1 => ?_) (fun hk1 => ?_)
  · skip
    have hk1 : ak = 1 := by simpa using hk1
    subst hk1
    refine e_seq fun K hK => ?_
    refine e_seq fun K hK => ?_
    refine e_region_draw mixed (fun _ => False) [0, 1, 3, 7, 15, 31, 15, 127, 255, 511, 1023, 2047, 4095, 8191, 16383, 32767, 65535, 32767, 262143, 524287, 1048575, 2097151, 4194303, 2097151, 10485759, 33554431, 67108863, 134217727, 268435455, 536870911, 1073741823, 2147483647, 268435455, 4563402751, 17179869183, 34359738367, 68719476735, 137438953471] [] [0, 1, 2, 3, 4, 5, 6, 7, 8, 9, 10, 11, 12, 13, 14, 15, 16, 17, 18, 19, 20, 21, 22, 23, 24, 25, 26, 27, 28, 29, 30, 31, 32, 33, 34, 35, 36, 37] (by kernel_rfl) ?_
    refine q_field rfl rfl ?_
    refine q_load rfl (Blk.cell (hS.blk 0 rfl) rfl) rfl ?_
    refine q_lss rfl rfl rfl ?_
    refine q_move rfl rfl ?_
    refine g_or 4 rfl trivial rfl rfl ?_; apply Exists.intro; refine ⟨fun hg => ?_, fun hg => ?_, fun wm2 hBm2 => ?_⟩
    · have hg0 := hg
      refine g_skip rfl rfl rfl ?_
      refine g_skip rfl rfl rfl ?_
      refine g_skip rfl rfl rfl ?_
      refine g_skip rfl rfl rfl ?_
      exact eseq_nil ⟨rfl, Sub.set rfl (Sub.set rfl (Sub.set rfl (Sub.set rfl (Sub.bool true rfl hg0))))⟩
    · have hg0 := hg
      have hTm2 := Below.refl (World.heap w1).size w1
      try simp at hg
      refine g_run rfl ?_; refine q_field rfl rfl ?_
      refine g_run rfl ?_; refine q_load rfl (Blk.cell (hS.blk 0 rfl) rfl) rfl ?_
      refine g_run rfl ?_; refine q_move rfl rfl ?_
      refine g_run rfl ?_; refine q_geq rfl rfl rfl ?_
      exact eseq_nil ⟨hTm2, Sub.set rfl (Sub.set rfl (Sub.set rfl (Sub.set rfl (Sub.bool false rfl hg0)))), rfl⟩
    replace hS := hS.below hBm2
    refine q_move rfl rfl ?_
    refine g_or 3 rfl trivial rfl rfl ?_; apply Exists.intro; refine ⟨fun hg => ?_, fun hg => ?_, fun wm3 hBm3 => ?_⟩
    · have hg0 := hg
      refine g_skip rfl rfl rfl ?_
      refine g_skip rfl rfl rfl ?_
      refine g_skip rfl rfl rfl ?_
      exact eseq_nil ⟨rfl, Sub.set rfl (Sub.set rfl (Sub.set rfl (Sub.bool true rfl hg0)))⟩
    · have hg0 := hg
      have hTm3 := Below.refl (World.heap wm2).size wm2
      try simp at hg
      refine g_run rfl ?_; refine q_field rfl rfl ?_
      refine g_run rfl ?_; refine q_load rfl (Blk.cell (hS.blk 0 rfl) rfl) rfl ?_
      refine g_run rfl ?_; refine q_lss rfl rfl rfl ?_
      exact eseq_nil ⟨hTm3, Sub.set rfl (Sub.set rfl (Sub.set rfl (Sub.bool false rfl hg0))), rfl⟩
    replace hS := hS.below hBm3
    refine q_move rfl rfl ?_
    refine g_or 4 rfl trivial rfl rfl ?_; apply Exists.intro; refine ⟨fun hg => ?_, fun hg => ?_, fun wm4 hBm4 => ?_⟩
    · have hg0 := hg
      refine g_skip rfl rfl rfl ?_
      refine g_skip rfl rfl rfl ?_
      refine g_skip rfl rfl rfl ?_
      refine g_skip rfl rfl rfl ?_
      exact eseq_nil ⟨rfl, Sub.set rfl (Sub.set rfl (Sub.set rfl (Sub.set rfl (Sub.bool true rfl hg0))))⟩
    · have hg0 := hg
      have hTm4 := Below.refl (World.heap wm3).size wm3
      try simp at hg
      refine g_run rfl ?_; refine q_field rfl rfl ?_
      refine g_run rfl ?_; refine q_load rfl (Blk.cell (hS.blk 0 rfl) rfl) rfl ?_
      refine g_run rfl ?_; refine q_move rfl rfl ?_
      refine g_run rfl ?_; refine q_geq rfl rfl rfl ?_
      exact eseq_nil ⟨hTm4, Sub.set rfl (Sub.set rfl (Sub.set rfl (Sub.set rfl (Sub.bool false rfl hg0)))), rfl⟩
    replace hS := hS.below hBm4
    refine q_move rfl rfl ?_
    refine g_or 5 rfl trivial rfl rfl ?_; apply Exists.intro; refine ⟨fun hg => ?_, fun hg => ?_, fun wm5 hBm5 => ?_⟩
    · have hg0 := hg
      refine g_skip rfl rfl rfl ?_
      refine g_skip rfl rfl rfl ?_
      refine g_skip rfl rfl rfl ?_
      refine g_skip rfl rfl rfl ?_
      refine g_skip rfl rfl rfl ?_
      exact eseq_nil ⟨rfl, Sub.set rfl (Sub.set rfl (Sub.set rfl (Sub.set rfl (Sub.set rfl (Sub.bool true rfl hg0)))))⟩
    · have hg0 := hg
      have hTm5 := Below.refl (World.heap wm4).size wm4
      try simp at hg
      refine g_run rfl ?_; refine q_field rfl rfl ?_
      refine g_run rfl ?_; refine q_load rfl (Blk.cell (hS.blk 0 rfl) rfl) rfl ?_
      refine g_run rfl ?_; refine q_field rfl rfl ?_
      refine g_run rfl ?_; refine q_load rfl (Blk.cell (hS.blk 0 rfl) rfl) rfl ?_
      refine g_run rfl ?_; refine q_eql rfl rfl rfl ?_
      exact eseq_nil ⟨hTm5, Sub.set rfl (Sub.set rfl (Sub.set rfl (Sub.set rfl (Sub.set rfl (Sub.bool false rfl hg0))))), rfl⟩
    replace hS := hS.below hBm5
    refine q_move rfl rfl ?_
    refine g_or 9 rfl trivial rfl rfl ?_; apply Exists.intro; refine ⟨fun hg => ?_, fun hg => ?_, fun wm6 hBm6 => ?_⟩
    · have hg0 := hg
      refine g_skip rfl rfl rfl ?_
      refine g_skip rfl rfl rfl ?_
      refine g_skip rfl rfl rfl ?_
      refine g_skip rfl rfl rfl ?_
      refine g_skip rfl rfl rfl ?_
      refine g_skip rfl rfl rfl ?_
      refine g_skip rfl rfl rfl ?_
      refine g_skip rfl rfl rfl ?_
      refine g_skip rfl rfl rfl ?_
      exact eseq_nil ⟨rfl, Sub.set rfl (Sub.set rfl (Sub.set rfl (Sub.set rfl (Sub.set rfl (Sub.set rfl (Sub.set rfl (Sub.set rfl (Sub.set rfl (Sub.bool true rfl hg0)))))))))⟩
    · have hg0 := hg
      have hTm6 := Below.refl (World.heap wm5).size wm5
      try simp at hg
      have hpn : 0 ≤ ap ∧ ap < n := by simp_all
      refine g_run rfl ?_; refine q_move rfl rfl ?_
      refine g_run rfl ?_; refine q_nilCheck rfl rfl ?_
      refine g_run rfl ?_; refine q_field rfl rfl ?_
      refine g_run rfl ?_; refine q_load rfl (Blk.cell (hS.blk 1 rfl) rfl) rfl ?_
      refine g_run rfl ?_; refine q_field rfl rfl ?_
      refine g_run rfl ?_; refine q_load rfl (Blk.cell (hS.blk 0 rfl) rfl) rfl ?_
      refine g_run rfl ?_; first | refine q_indexn rfl rfl (by omega) rfl ?_ | refine q_index rfl rfl ⟨by omega, by omega⟩ rfl ?_
      refine g_run rfl ?_; refine q_load rfl (Blk.intAt (hS.blk 2 rfl) (by first | omega | (simp; omega))) rfl ?_
      refine g_run rfl ?_; refine q_geq rfl rfl rfl ?_
      exact eseq_nil ⟨hTm6, Sub.set rfl (Sub.set rfl (Sub.set rfl (Sub.set rfl (Sub.set rfl (Sub.set rfl (Sub.set rfl (Sub.set rfl (Sub.set rfl (Sub.bool false rfl hg0))))))))), rfl⟩
    replace hS := hS.below hBm6
    refine eseq_nil ?_
    refine hK _ _ ?_; clear hK
    refine e_cond rfl (fun hcond => ?_) (fun hcond => ?_)
    · skip
      refine e_ret ?_
      refine ⟨_, res0 rfl, rfl, x, rfl, hcap, ?_⟩
      have e : c.deed ⟨1, ap, ao⟩ = c := by
        rw [Comp.deed, if_pos rfl, Comp.send, if_pos]
        rw [g5]
        simp only [Bool.or_eq_true, decide_eq_true_eq, beq_iff_eq] at hcond
        simp only [Bool.or_eq_true, Bool.not_eq_true', Bool.and_eq_false_iff, decide_eq_false_iff_not, beq_iff_eq, decide_eq_true_eq]
        omega
      rw [e]
      exact hS.tail
    · skip
      have hc1 : (0 ≤ ap ∧ ap < n) ∧ (0 ≤ ao ∧ ao < n) ∧ ap ≠ ao ∧ ¬ 64 ≤ nth c.lens ap.toNat := by
        simp only [Bool.or_eq_false_iff, decide_eq_false_iff_not, beq_eq_false_iff_ne] at hcond
        omega
      have hl64 := hinv.lens ap.toNat (by omega)
      have hnow := hinv.now ap.toNat (by omega)
      refine e_skip ?_
      refine hK _ _ ?_; clear hK
      refine e_seq fun K hK => ?_
      refine e_region_draw mixed (fun _ => False) [0, 1, 3, 7, 0, 16, 63, 127, 255, 511, 1023] [] [0, 1, 2, 3, 4, 5, 6, 7, 8, 9, 10] (by kernel_rfl) ?_
      refine q_move rfl rfl ?_
      refine q_nilCheck rfl rfl ?_
      refine q_field rfl rfl ?_
      refine q_load rfl (Blk.cell (hS.blk 1 rfl) rfl) rfl ?_
      refine q_field rfl rfl ?_
      refine q_load rfl (Blk.cell (hS.blk 0 rfl) rfl) rfl ?_
      first | refine q_indexn rfl rfl (by omega) rfl ?_ | refine q_index rfl rfl ⟨by omega, by omega⟩ rfl ?_
      refine q_load rfl (Blk.intAt (hS.blk 2 rfl) (by first | omega | (simp; omega))) rfl ?_
      refine q_add rfl rfl (wr64 (by omega) (by omega)) rfl ?_
      first | refine q_indexn rfl rfl (by omega) rfl ?_ | refine q_index rfl rfl ⟨by omega, by omega⟩ rfl ?_
      refine q_storeIx rfl rfl (hS.blk 2 rfl) (by first | omega | (simp; omega)) rfl fun w7 hb7 hO7 => ?_
      have hk7 := hS.keptBlk 2 rfl hO7
      replace hS := hS.setBlk 2 rfl hb7 hO7; simp only [List.set] at hS
      refine eseq_nil ?_
      refine hK _ _ ?_; clear hK
      refine e_seq fun K hK => ?_
      refine e_region_draw mixed (fun _ => False) [0, 0, 2, 6, 14, 0, 32, 96, 224, 480, 0, 1024, 3072, 7168, 0, 16384, 64512, 130048, 262112, 524256, 1048574, 2097151, 4194303, 8388607] [19] [0, 1, 2, 3, 4, 5, 6, 7, 8, 9, 10, 11, 12, 13, 14, 15, 16, 17, 18, 19, 20, 21, 22, 23] (by kernel_rfl) ?_
      refine q_move rfl rfl ?_
      refine q_move rfl rfl ?_
      refine q_nilCheck rfl rfl ?_
      refine q_field rfl rfl ?_
      refine q_load rfl (Blk.cell (hS.blk 1 rfl) rfl) rfl ?_
      refine q_move rfl rfl ?_
      refine q_nilCheck rfl rfl ?_
      refine q_field rfl rfl ?_
      refine q_load rfl (Blk.cell (hS.blk 1 rfl) rfl) rfl ?_
      refine q_lenS rfl (hS.isl 5 rfl) rfl ?_
      refine q_move rfl rfl ?_
      refine q_nilCheck rfl rfl ?_
      refine q_field rfl rfl ?_
      refine q_load rfl (Blk.cell (hS.blk 1 rfl) rfl) rfl ?_
      refine q_field rfl rfl ?_
      refine q_load rfl (Blk.cell (hS.blk 0 rfl) rfl) rfl ?_
      first | refine q_indexn rfl rfl (by omega) rfl ?_ | refine q_index rfl rfl ⟨by omega, by omega⟩ rfl ?_
      refine q_load rfl (Blk.intAt (hS.blk 10 rfl) (by first | omega | (simp; omega))) rfl ?_
      refine q_build (Parts.cons rfl rfl (Parts.cons rfl rfl Parts.nil)) rfl rfl ?_
      refine q_slice1 rfl rfl rfl rfl rfl rfl fun w8 bl8 hg8 hb8 hB8 => ?_
      replace hS := hS.below hB8
      refine q_append1 (u := (⟨c.arcs.length, nth c.now ap.toNat⟩ : Letter)) rfl rfl rfl rfl (hS.own 11 rfl) rfl hb8 (letterR.2 rfl) (by omega) (Nat.zero_le _) rfl (fun h => by cases h) fun v89 w9 hw9 hgr9 hnw9 => ?_
      have hk9 := hS.keptOwn 11 rfl hgr9
      replace hS := hS.setOwn 11 rfl hw9 hgr9 hnw9; simp only [List.set] at hS
      refine q_nilCheck rfl rfl ?_
      refine q_field rfl rfl ?_
      refine q_store rfl rfl (hS.blk 1 rfl) (Nat.le_of_ble_eq_true rfl) (hS.own 11 rfl).one rfl rfl fun w10 hb10 hO10 => ?_
      have hk10 := hS.keptBlk 1 rfl hO10
      replace hS := hS.setBlk 1 rfl hb10 hO10; simp only [List.set] at hS
      refine eseq_nil ?_
      refine hK _ _ ?_; clear hK
      refine e_region_draw mixed (fun _ => False) [0, 0, 2, 6, 14, 0, 32, 0, 128, 384, 896, 0, 2048, 8064, 16256, 0, 32768, 131040, 262112, 524286, 1048575, 2097151, 4194303] [18] [0, 1, 2, 3, 4, 5, 6, 7, 8, 9, 10, 11, 12, 13, 14, 15, 16, 17, 18, 19, 20, 21, 22] (by kernel_rfl) ?_
      refine q_move rfl rfl ?_
      refine q_move rfl rfl ?_
      refine q_nilCheck rfl rfl ?_
      refine q_field rfl rfl ?_
      refine q_load rfl (Blk.cell (hS.blk 1 rfl) rfl) rfl ?_
      refine q_field rfl rfl ?_
      refine q_load rfl (Blk.cell (hS.blk 0 rfl) rfl) rfl ?_
      refine q_move rfl rfl ?_
      refine q_nilCheck rfl rfl ?_
      refine q_field rfl rfl ?_
      refine q_load rfl (Blk.cell (hS.blk 1 rfl) rfl) rfl ?_
      refine q_field rfl rfl ?_
      refine q_load rfl (Blk.cell (hS.blk 0 rfl) rfl) rfl ?_
      first | refine q_indexn rfl rfl (by omega) rfl ?_ | refine q_index rfl rfl ⟨by omega, by omega⟩ rfl ?_
      refine q_load rfl (Blk.intAt (hS.blk 2 rfl) (by first | omega | (simp; omega))) rfl ?_
      refine q_field rfl rfl ?_
      refine q_load rfl (Blk.cell (hS.blk 0 rfl) rfl) rfl ?_
      refine q_build (Parts.cons rfl rfl (Parts.cons rfl rfl (Parts.cons rfl rfl Parts.nil))) rfl rfl ?_
      refine q_slice1 rfl rfl rfl rfl rfl rfl fun w11 bl11 hg11 hb11 hB11 => ?_
      replace hS := hS.below hB11
      refine q_append1 (u := (⟨ap, nth c.lens ap.toNat + 1, ao, 0⟩ : Arc)) rfl rfl rfl rfl (hS.own 5 rfl) rfl hb11 (arcR.2 (by rw [nth_set (by omega), if_pos rfl]; rfl)) (by omega) (Nat.zero_le _) rfl (fun h => by cases h) fun v111 w12 hw12 hgr12 hnw12 => ?_
      have hk12 := hS.keptOwn 5 rfl hgr12
      replace hS := hS.setOwn 5 rfl hw12 hgr12 hnw12; simp only [List.set] at hS
      refine q_nilCheck rfl rfl ?_
      refine q_field rfl rfl ?_
      refine q_store rfl rfl (hS.blk 1 rfl) (Nat.le_of_ble_eq_true rfl) (hS.own 5 rfl).one rfl rfl fun w13 hb13 hO13 => ?_
      have hk13 := hS.keptBlk 1 rfl hO13
      replace hS := hS.setBlk 1 rfl hb13 hO13; simp only [List.set] at hS
      refine eseq_nil ?_
      refine ⟨_, res0 rfl, rfl, { x with vA := v111, vG := v89 }, rfl, hcap, ?_⟩
      have e : c.deed ⟨1, ap, ao⟩ = { c with lens := c.lens.set ap.toNat (nth c.lens ap.toNat + 1), fly := c.fly ++ [⟨c.arcs.length, nth c.now ap.toNat⟩], arcs := c.arcs ++ [⟨ap, nth c.lens ap.toNat + 1, ao, 0⟩] } := by
        rw [Comp.deed, if_pos rfl, Comp.send, if_neg]
        rw [g5]
        simp only [Bool.or_eq_true, Bool.not_eq_true', Bool.and_eq_false_iff, decide_eq_false_iff_not, beq_iff_eq, decide_eq_true_eq]
        omega
      rw [e]
      exact hS.tail
  · skip
    have hk1 : ¬ ak = 1 := by simpa using hk1
    refine e_seq fun K hK => ?_
    refine e_region_text rfl ?_
    refine q_eql rfl rfl rfl ?_
    refine q_assign rfl rfl ?_
    refine eseq_nil ?_
    refine hK _ _ ?_; clear hK
    refine e_cond rfl (fun hk2 => ?_) (fun hk2 => ?_)
    · skip
      have hk2 : ak = 2 := by simpa using hk2
      subst hk2
      refine e_seq fun K hK => ?_
      refine e_seq fun K hK => ?_
      refine e_region_draw mixed (fun _ => False) [0, 1, 3, 7, 15, 31, 15, 79, 207, 463, 975, 2047, 4095, 8191, 16383, 32767, 65535, 131071, 16383, 278527, 802815, 1851391, 16383, 4210687, 12599295, 29376511, 16383, 67125247, 264257535, 532692991, 1069563903, 2147237887, 4294721535, 8589688831, 17179869183, 34359738367, 68719476735, 137438953471] [] [0, 1, 2, 3, 4, 5, 6, 7, 8, 9, 10, 11, 12, 13, 14, 15, 16, 17, 18, 19, 20, 21, 22, 23, 24, 25, 26, 27, 28, 29, 30, 31, 32, 33, 34, 35, 36, 37] (by kernel_rfl) ?_
      refine q_field rfl rfl ?_
      refine q_load rfl (Blk.cell (hS.blk 0 rfl) rfl) rfl ?_
      refine q_lss rfl rfl rfl ?_
      refine q_move rfl rfl ?_
      refine g_or 8 rfl trivial rfl rfl ?_; apply Exists.intro; refine ⟨fun hg => ?_, fun hg => ?_, fun wm14 hBm14 => ?_⟩
      · have hg0 := hg
        refine g_skip rfl rfl rfl ?_
        refine g_skip rfl rfl rfl ?_
        refine g_skip rfl rfl rfl ?_
        refine g_skip rfl rfl rfl ?_
        refine g_skip rfl rfl rfl ?_
        refine g_skip rfl rfl rfl ?_
        refine g_skip rfl rfl rfl ?_
        refine g_skip rfl rfl rfl ?_
        exact eseq_nil ⟨rfl, Sub.set rfl (Sub.set rfl (Sub.set rfl (Sub.set rfl (Sub.set rfl (Sub.set rfl (Sub.set rfl (Sub.set rfl (Sub.bool true rfl hg0))))))))⟩
      · have hg0 := hg
        have hTm14 := Below.refl (World.heap w1).size w1
        try simp at hg
        refine g_run rfl ?_; refine q_field rfl rfl ?_
        refine g_run rfl ?_; refine q_load rfl (Blk.cell (hS.blk 0 rfl) rfl) rfl ?_
        refine g_run rfl ?_; refine q_move rfl rfl ?_
        refine g_run rfl ?_; refine q_nilCheck rfl rfl ?_
        refine g_run rfl ?_; refine q_field rfl rfl ?_
        refine g_run rfl ?_; refine q_load rfl (Blk.cell (hS.blk 1 rfl) rfl) rfl ?_
        refine g_run rfl ?_; refine q_lenS rfl (hS.isl 11 rfl) rfl ?_
        refine g_run rfl ?_; refine q_geq rfl rfl rfl ?_
        exact eseq_nil ⟨hTm14, Sub.set rfl (Sub.set rfl (Sub.set rfl (Sub.set rfl (Sub.set rfl (Sub.set rfl (Sub.set rfl (Sub.set rfl (Sub.bool false rfl hg0)))))))), rfl⟩
      replace hS := hS.below hBm14
      refine q_move rfl rfl ?_
      refine g_or 23 rfl trivial rfl rfl ?_; apply Exists.intro; refine ⟨fun hg => ?_, fun hg => ?_, fun wm15 hBm15 => ?_⟩
      · have hg0 := hg
        refine g_skip rfl rfl rfl ?_
        refine g_skip rfl rfl rfl ?_
        refine g_skip rfl rfl rfl ?_
        refine g_skip rfl rfl rfl ?_
        refine g_skip rfl rfl rfl ?_
        refine g_skip rfl rfl rfl ?_
        refine g_skip rfl rfl rfl ?_
        refine g_skip rfl rfl rfl ?_
        refine g_skip rfl rfl rfl ?_
        refine g_skip rfl rfl rfl ?_
        refine g_skip rfl rfl rfl ?_
        refine g_skip rfl rfl rfl ?_
        refine g_skip rfl rfl rfl ?_
        refine g_skip rfl rfl rfl ?_
        refine g_skip rfl rfl rfl ?_
        refine g_skip rfl rfl rfl ?_
        refine g_skip rfl rfl rfl ?_
        refine g_skip rfl rfl rfl ?_
        refine g_skip rfl rfl rfl ?_
        refine g_skip rfl rfl rfl ?_
        refine g_skip rfl rfl rfl ?_
        refine g_skip rfl rfl rfl ?_
        refine g_skip rfl rfl rfl ?_
        exact eseq_nil ⟨rfl, Sub.set rfl (Sub.set rfl (Sub.set rfl (Sub.set rfl (Sub.set rfl (Sub.set rfl (Sub.set rfl (Sub.set rfl (Sub.set rfl (Sub.set rfl (Sub.set rfl (Sub.set rfl (Sub.set rfl (Sub.set rfl (Sub.set rfl (Sub.set rfl (Sub.set rfl (Sub.set rfl (Sub.set rfl (Sub.set rfl (Sub.set rfl (Sub.set rfl (Sub.set rfl (Sub.bool true rfl hg0)))))))))))))))))))))))⟩
      · have hg0 := hg
        have hTm15 := Below.refl (World.heap wm14).size wm14
        try simp at hg
        have hpn : 0 ≤ ao ∧ ao < c.fly.length := by simp_all
        have hlt := hinv.letters _ (nth_mem (show ao.toNat < c.fly.length by omega))
        have hto := hinv.tos _ (nth_mem (show (nth c.fly ao.toNat).arc.toNat < c.arcs.length by omega))
        refine g_run rfl ?_; refine q_move rfl rfl ?_
        refine g_run rfl ?_; refine q_nilCheck rfl rfl ?_
        refine g_run rfl ?_; refine q_field rfl rfl ?_
        refine g_run rfl ?_; refine q_load rfl (Blk.cell (hS.blk 1 rfl) rfl) rfl ?_
        refine g_run rfl ?_; refine q_move rfl rfl ?_
        refine g_run rfl ?_; refine q_nilCheck rfl rfl ?_
        refine g_run rfl ?_; refine q_field rfl rfl ?_
        refine g_run rfl ?_; refine q_load rfl (Blk.cell (hS.blk 1 rfl) rfl) rfl ?_
        refine g_run rfl ?_; refine q_move rfl rfl ?_
        refine g_run rfl ?_; refine q_nilCheck rfl rfl ?_
        refine g_run rfl ?_; refine q_field rfl rfl ?_
        refine g_run rfl ?_; refine q_load rfl (Blk.cell (hS.blk 1 rfl) rfl) rfl ?_
        refine g_run rfl ?_; refine q_field rfl rfl ?_
        refine g_run rfl ?_; refine q_load rfl (Blk.cell (hS.blk 0 rfl) rfl) rfl ?_
        refine g_run rfl ?_; first | refine q_indexSn (by infer_instance) rfl (hS.isl 11 rfl) rfl (by first | omega | decide) rfl fun b144 o144 f144 => ?_ | refine q_indexS (by infer_instance) rfl (hS.isl 11 rfl) rfl (by first | omega | decide) (by first | omega | decide) rfl fun b144 o144 f144 => ?_
        refine g_run rfl ?_; refine q_field rfl rfl ?_
        have f145 := flyingF0 f144
        refine g_run rfl ?_; refine q_load rfl (El.intCell f145) rfl ?_
        refine g_run rfl ?_; first | refine q_indexSn (by infer_instance) rfl (hS.isl 5 rfl) rfl (by first | omega | decide) rfl fun b147 o147 f147 => ?_ | refine q_indexS (by infer_instance) rfl (hS.isl 5 rfl) rfl (by first | omega | decide) (by first | omega | decide) rfl fun b147 o147 f147 => ?_
        refine g_run rfl ?_; refine q_field rfl rfl ?_
        have f148 := ArcF2 f147
        refine g_run rfl ?_; refine q_load rfl (El.intCell f148) rfl ?_
        refine g_run rfl ?_; first | refine q_indexn rfl rfl (by omega) rfl ?_ | refine q_index rfl rfl ⟨by omega, by omega⟩ rfl ?_
        refine g_run rfl ?_; refine q_load rfl (Blk.intAt (hS.blk 2 rfl) (by first | omega | (simp; omega))) rfl ?_
        refine g_run rfl ?_; refine q_geq rfl rfl rfl ?_
        exact eseq_nil ⟨hTm15, Sub.set rfl (Sub.set rfl (Sub.set rfl (Sub.set rfl (Sub.set rfl (Sub.set rfl (Sub.set rfl (Sub.set rfl (Sub.set rfl (Sub.set rfl (Sub.set rfl (Sub.set rfl (Sub.set rfl (Sub.set rfl (Sub.set rfl (Sub.set rfl (Sub.set rfl (Sub.set rfl (Sub.set rfl (Sub.set rfl (Sub.set rfl (Sub.set rfl (Sub.set rfl (Sub.bool false rfl hg0))))))))))))))))))))))), rfl⟩
      replace hS := hS.below hBm15
      refine eseq_nil ?_
      refine hK _ _ ?_; clear hK
      refine e_cond rfl (fun hcond => ?_) (fun hcond => ?_)
      · skip
        refine e_ret ?_
        refine ⟨_, res0 rfl, rfl, x, rfl, hcap, ?_⟩
        have e : c.deed ⟨2, ap, ao⟩ = c := by
          rw [Comp.deed, if_neg hk1, if_pos rfl, Comp.receive]
          dsimp only
          simp only [Bool.or_eq_true, decide_eq_true_eq] at hcond
          split
          · rfl
          · rename_i hb
            simp only [Bool.or_eq_true, decide_eq_true_eq] at hb
            rw [if_pos (by omega)]
        rw [e]
        exact hS.tail
      · skip
        have hc1 : (0 ≤ ao ∧ ao < c.fly.length) ∧ ¬ 64 ≤ nth c.lens (nth c.arcs (nth c.fly ao.toNat).arc.toNat).to.toNat := by
          simp only [Bool.or_eq_false_iff, decide_eq_false_iff_not] at hcond
          omega
        obtain ⟨pl, rfl⟩ := Int.eq_ofNat_of_zero_le hc1.1.1
        simp only [Int.toNat_natCast] at hc1
        have hpl : pl < c.fly.length := by omega
        obtain ⟨t1, t2, t3, t4⟩ := hinv.letters _ (nth_mem hpl)
        obtain ⟨t5, t6⟩ := hinv.tos _ (nth_mem (show (nth c.fly pl).arc.toNat < c.arcs.length by omega))
        have hrec : c.deed ⟨2, ap, pl⟩ = ((c.took pl).raised (nth c.arcs (nth c.fly pl).arc.toNat).to.toNat (nth c.fly pl).clock).got (nth c.arcs (nth c.fly pl).arc.toNat).to.toNat (nth c.fly pl).arc.toNat := by
          rw [Comp.deed, if_neg hk1, if_pos rfl]; exact receive_go hpl hc1.2
        obtain ⟨qq, hqq⟩ := Int.eq_ofNat_of_zero_le t5
        have hqn : qq < n := by omega
        rw [hqq, Int.toNat_natCast] at hc1
        obtain ⟨ar, har⟩ := Int.eq_ofNat_of_zero_le t1
        rw [har, Int.toNat_natCast] at hqq
        rw [har, Int.toNat_natCast, hqq, Int.toNat_natCast] at hrec
        refine e_skip ?_
        refine hK _ _ ?_; clear hK
        refine e_seq fun K hK => ?_
        refine e_region_draw mixed (fun _ => False) [0, 1, 3, 7, 0, 16, 63, 127, 0, 511] [8] [0, 1, 2, 3, 4, 5, 6, 7, 8, 9] (by kernel_rfl) ?_
        refine q_move rfl rfl ?_
        refine q_nilCheck rfl rfl ?_
        refine q_field rfl rfl ?_
        refine q_load rfl (Blk.cell (hS.blk 1 rfl) rfl) rfl ?_
        refine q_field rfl rfl ?_
        refine q_load rfl (Blk.cell (hS.blk 0 rfl) rfl) rfl ?_
        first | refine q_indexSn (by infer_instance) rfl (hS.isl 11 rfl) rfl (by first | omega | decide) rfl fun b160 o160 f160 => ?_ | refine q_indexS (by infer_instance) rfl (hS.isl 11 rfl) rfl (by first | omega | decide) (by first | omega | decide) rfl fun b160 o160 f160 => ?_
        refine q_loadAgg rfl (flyingL f160) rfl rfl ?_
        refine q_allocB rfl fun w16 bl16 hg16 hb16 hB16 => ?_
        replace hS := hS.newBlk hB16 hg16 hb16
        refine q_storeAgg rfl rfl (hS.blk 0 rfl) rfl (Nat.le_of_ble_eq_true rfl) (all_cons rfl (all_cons rfl (all_nil))) rfl rfl fun w17 hb17 hO17 => ?_
        simp only [setN, List.take, List.drop, List.set] at hb17
        have hk17 := hS.keptBlk 0 rfl hO17
        replace hS := hS.setBlk 0 rfl hb17 hO17; simp only [List.set] at hS
        refine eseq_nil ?_
        refine hK _ _ ?_; clear hK
        refine e_seq fun K hK => ?_
        refine e_region_draw mixed (fun _ => False) [0, 0, 2, 6, 14, 0, 32, 126, 254, 0, 512, 1536, 3584, 0, 8192, 24576, 65024, 131070, 262143, 524287, 1048575] [8] [0, 1, 2, 3, 4, 5, 6, 7, 9, 10, 11, 12, 13, 14, 15, 16, 8, 17, 18, 19, 20] (by kernel_rfl) ?_
        refine q_move rfl rfl ?_
        refine q_move rfl rfl ?_
        refine q_nilCheck rfl rfl ?_
        refine q_field rfl rfl ?_
        refine q_load rfl (Blk.cell (hS.blk 2 rfl) rfl) rfl ?_
        refine q_field rfl rfl ?_
        refine q_load rfl (Blk.cell (hS.blk 1 rfl) rfl) rfl ?_
        refine q_sliceH (by infer_instance) rfl (hS.isl 12 rfl) rfl (by first | omega | (simp; omega)) rfl fun v169 f169 => ?_
        refine q_move rfl rfl ?_
        refine q_nilCheck rfl rfl ?_
        refine q_field rfl rfl ?_
        refine q_load rfl (Blk.cell (hS.blk 2 rfl) rfl) rfl ?_
        refine q_field rfl rfl ?_
        refine q_load rfl (Blk.cell (hS.blk 1 rfl) rfl) rfl ?_
        refine q_add rfl rfl (wr64 (by omega) (by omega)) rfl ?_
        rw [show ((pl : Int) + 1) = ((pl + 1 : Nat) : Int) from by omega]
        refine q_sliceL (by infer_instance) rfl (hS.isl 12 rfl) rfl (by first | omega | (simp; omega)) rfl fun v178 f178 => ?_
        replace hS := hS.nilOwn0 letterTy 98
        refine q_appendS rfl rfl rfl rfl (hS.own 0 rfl) rfl f169 Enc.any (by simp; omega) (Nat.zero_le _) rfl (fun _ k hk => by cases hk) fun v170 wz hwz hgz hnz => ?_
        replace f178 := f178.kept (Kept.of_grown hgz (fun k _ => by simp [Value.ownBlock]))
        replace hS := hS.setOwn 0 rfl hwz hgz hnz; simp only [List.set] at hS
        refine q_appendS rfl rfl rfl rfl (hS.own 0 rfl) rfl (f178) (Enc.any) (by first | omega | (simp; omega)) (Nat.zero_le _) rfl (fun h => by cases h) fun v179 w18 hw18 hgr18 hnw18 => ?_
        have hk18 := hS.keptOwn 0 rfl hgr18
        replace hS := hS.setOwn 0 rfl hw18 hgr18 hnw18; simp only [List.set] at hS
        refine q_nilCheck rfl rfl ?_
        refine q_field rfl rfl ?_
        refine q_store rfl rfl (hS.blk 3 rfl) (Nat.le_of_ble_eq_true rfl) (hS.own 0 rfl).one rfl rfl fun w19 hb19 hO19 => ?_
        have hk19 := hS.keptBlk 3 rfl hO19
        replace hS := hS.setBlk 3 rfl hb19 hO19; simp only [List.set] at hS
        refine eseq_nil ?_
        refine hK _ _ ?_; clear hK
        refine e_seq fun K hK => ?_
        refine e_region_draw mixed (fun _ => False) [0, 1, 3, 7, 0, 16, 63, 127, 255, 511] [] [0, 1, 2, 3, 4, 5, 6, 7, 8, 9] (by kernel_rfl) ?_
        refine q_move rfl rfl ?_
        refine q_nilCheck rfl rfl ?_
        refine q_field rfl rfl ?_
        refine q_load rfl (Blk.cell (hS.blk 3 rfl) rfl) rfl ?_
        refine q_field rfl rfl ?_
        refine q_load rfl (Blk.cell (hS.blk 1 rfl) rfl) rfl ?_
        rw [har]
        simp only [List.nil_append] at hS
        replace hS := hS.erase 13 rfl; simp only [List.eraseIdx] at hS
        first | refine q_indexSn (by infer_instance) rfl (hS.isl 7 rfl) rfl (by first | omega | decide) rfl fun b188 o188 f188 => ?_ | refine q_indexS (by infer_instance) rfl (hS.isl 7 rfl) rfl (by first | omega | decide) (by first | omega | decide) rfl fun b188 o188 f188 => ?_
        refine q_field rfl rfl ?_
        have f189 := ArcF2 f188
        refine q_load rfl (El.intCell f189) rfl ?_
        rw [hqq]
        refine q_assign rfl rfl ?_
        refine eseq_nil ?_
        refine hK _ _ ?_; clear hK
        refine e_seq fun K hK => ?_
        refine e_seq fun K hK => ?_
        refine e_region_draw mixed (fun _ => False) [0, 1, 3, 7, 0, 31, 63, 0, 128, 511] [] [0, 1, 2, 3, 4, 5, 6, 7, 8, 9] (by kernel_rfl) ?_
        refine q_move rfl rfl ?_
        refine q_nilCheck rfl rfl ?_
        refine q_field rfl rfl ?_
        refine q_load rfl (Blk.cell (hS.blk 3 rfl) rfl) rfl ?_
        refine q_move rfl rfl ?_
        first | refine q_indexn rfl rfl (by omega) rfl ?_ | refine q_index rfl rfl ⟨by omega, by omega⟩ rfl ?_
        refine q_load rfl (Blk.intAt (hS.blk 12 rfl) (by first | omega | (simp; omega))) rfl ?_
        refine q_field rfl rfl ?_
        refine q_load rfl (Blk.cell (hS.blk 1 rfl) rfl) rfl ?_
        refine q_call rfl (forcesR25 (nth c.now qq) (nth c.fly pl).clock) rfl ?_
        rintro _ w20 ⟨rfl, hB20⟩; refine ⟨fun _ => .of_below hB20, ?_⟩
        replace hS := hS.below hB20
        refine eseq_nil ?_
        refine hK _ _ ?_; clear hK
        refine e_cond rfl (fun hfo => ?_) (fun hfo => ?_)
        · skip
          have hfo' : nth c.now qq < (nth c.fly pl).clock := by simpa using hfo
          refine e_seq fun K hK => ?_
          refine e_region_draw mixed (fun _ => False) [0, 1, 3, 7, 0, 0, 32, 127, 255] [] [0, 1, 2, 3, 4, 5, 6, 7, 8] (by kernel_rfl) ?_
          refine q_move rfl rfl ?_
          refine q_nilCheck rfl rfl ?_
          refine q_field rfl rfl ?_
          refine q_load rfl (Blk.cell (hS.blk 3 rfl) rfl) rfl ?_
          refine q_move rfl rfl ?_
          refine q_field rfl rfl ?_
          refine q_load rfl (Blk.cell (hS.blk 1 rfl) rfl) rfl ?_
          first | refine q_indexn rfl rfl (by omega) rfl ?_ | refine q_index rfl rfl ⟨by omega, by omega⟩ rfl ?_
          refine q_storeIx rfl rfl (hS.blk 12 rfl) (by first | omega | (simp; omega)) rfl fun w21 hb21 hO21 => ?_
          have hk21 := hS.keptBlk 12 rfl hO21
          replace hS := hS.setBlk 12 rfl hb21 hO21; simp only [List.set] at hS
          refine eseq_nil ?_
          refine hK _ _ ?_; clear hK
          refine e_region_text rfl ?_
          refine q_move rfl rfl ?_
          refine q_move rfl rfl ?_
          have hS2 := hS.order [3, 4, 5, 6, 7, 8, 9, 10, 11, 12, 0, 1, 2] 13 rfl (by decide)
          simp only [List.map_cons, List.map_nil, List.getD_cons_zero, List.getD_cons_succ] at hS2
          have hS3 : Sep F R R w _ (runParts n { x with vG := v179 } { c.took pl with now := c.now.set qq (nth c.fly pl).clock } ++ [_, _]) := hS2
          have hgd : ({ c.took pl with now := c.now.set qq (nth c.fly pl).clock } : Comp).Good n := ⟨hg.lens, hg.ckpts, hg.clocks, hg.forced, by simpa using g5, hg.rows⟩
          refine q_call rfl (ckptR25 (x := { x with vG := v179 }) (Sep.enter hS3) hgd qq (by omega) true hcap) rfl ?_
          rintro _ wy ⟨rfl, x', hB', hcap', hC⟩; refine ⟨(fun h => by cases h), ?_⟩
          have hS4 := Sep.leave hS3 hC
          obtain ⟨gd2, e1, e2, e3, e4⟩ := checkpoint_good (f := true) hgd (fun q hq => Nat.le_trans (hinv.rows q hq) hr) hqn
          have er : (c.took pl).raised qq (nth c.fly pl).clock = ({ c.took pl with now := c.now.set qq (nth c.fly pl).clock } : Comp).checkpoint qq true := by rw [Comp.raised]; exact if_pos hfo'
          generalize ({ c.took pl with now := c.now.set qq (nth c.fly pl).clock } : Comp).checkpoint qq true = c2 at hS4 gd2 e1 e2 er
          replace e1 : c2.lens = c.lens := e1
          replace e2 : c2.arcs = c.arcs := e2
          have hB'' : x'.B = x.B := hB'
          clear hS
          have hS := hS4
          simp only [runParts, List.cons_append, List.nil_append, hB''] at hS
          have q1 := gd2.lens
          have hl64 := hinv.lens qq (by omega)
          rw [← e1] at hl64
          rw [← e2] at t2
          obtain ⟨gA, capA, curA, hvA, hbA, hlA⟩ := (hS.own 4 rfl).form (by omega)
          rw [hvA] at hS
          refine eseq_nil ?_
          refine hK _ _ ?_; clear hK
          refine e_seq fun K hK => ?_
          refine e_region_text rfl ?_
          refine q_move rfl rfl ?_
          refine q_nilCheck rfl rfl ?_
          refine q_field rfl rfl ?_
          refine q_load rfl (Blk.cell (hS.blk 0 rfl) rfl) rfl ?_
          refine q_move rfl rfl ?_
          first | refine q_indexn rfl rfl (by omega) rfl ?_ | refine q_index rfl rfl ⟨by omega, by omega⟩ rfl ?_
          refine q_load rfl (Blk.intAt (hS.blk 1 rfl) (by first | omega | (simp; omega))) rfl ?_
          refine q_add rfl rfl (wr64 (by omega) (by omega)) rfl ?_
          first | refine q_indexn rfl rfl (by omega) rfl ?_ | refine q_index rfl rfl ⟨by omega, by omega⟩ rfl ?_
          refine q_storeIx rfl rfl (hS.blk 1 rfl) (by first | omega | (simp; omega)) rfl fun w22 hb22 hO22 => ?_
          have hk22 := hS.keptBlk 1 rfl hO22
          replace hS := hS.setBlk 1 rfl hb22 hO22; simp only [List.set] at hS
          refine eseq_nil ?_
          refine hK _ _ ?_; clear hK
          refine e_region_draw mixed (fun _ => False) [0, 1, 3, 7, 0, 16, 0, 64, 192, 448, 0, 1984, 4032, 8191, 16383, 32767] [] [0, 1, 2, 3, 4, 5, 6, 7, 8, 9, 10, 11, 12, 13, 14, 15] (by kernel_rfl) ?_
          refine q_move rfl rfl ?_
          refine q_nilCheck rfl rfl ?_
          refine q_field rfl rfl ?_
          refine q_load rfl (Blk.cell (hS.blk 0 rfl) rfl) rfl ?_
          refine q_field rfl rfl ?_
          refine q_load rfl (Blk.cell (hS.blk 11 rfl) rfl) rfl ?_
          rw [har]
          refine q_move rfl rfl ?_
          refine q_nilCheck rfl rfl ?_
          refine q_field rfl rfl ?_
          refine q_load rfl (Blk.cell (hS.blk 0 rfl) rfl) rfl ?_
          refine q_move rfl rfl ?_
          first | refine q_indexn rfl rfl (by omega) rfl ?_ | refine q_index rfl rfl ⟨by omega, by omega⟩ rfl ?_
          refine q_load rfl (Blk.intAt (hS.blk 1 rfl) (by first | omega | (simp; omega))) rfl ?_
          rw [nth_set (by omega), if_pos rfl]
          first | refine q_indexn rfl rfl (by omega) rfl ?_ | refine q_index rfl rfl ⟨by omega, by omega⟩ rfl ?_
          refine q_field rfl rfl ?_
          refine q_storeOwn rfl rfl (hS.own 4 rfl) (by omega) rfl rfl rfl (fun _ h => h.elim) ({ nth c2.arcs ar with rcv := nth c2.lens qq + 1 }) rfl fun w23 hw23 hO23 => ?_
          have hk23 := hS.keptOwnO 4 rfl hO23
          replace hS := hS.putOwn 4 rfl hw23 hO23; simp only [List.set] at hS
          refine eseq_nil ?_
          refine ⟨_, res0 rfl, rfl, { x' with vA := .slice (some ⟨gA, 0, none⟩) c2.arcs.length capA }, hB'', hcap', ?_⟩
          have hS9 := hS.erase 12 rfl
          have hS10 := hS9.erase 11 rfl
          simp only [List.eraseIdx] at hS10
          rw [hrec, er]
          simp only [runParts, Comp.got, hB'']
          exact hS10
        · skip
          have hfo' : ¬ nth c.now qq < (nth c.fly pl).clock := by simpa using hfo
          have er : (c.took pl).raised qq (nth c.fly pl).clock = c.took pl := by rw [Comp.raised]; exact if_neg hfo'
          have hS2 := hS.order [3, 4, 5, 6, 7, 8, 9, 10, 11, 12, 0, 1, 2] 13 rfl (by decide)
          simp only [List.map_cons, List.map_nil, List.getD_cons_zero, List.getD_cons_succ] at hS2
          clear hS
          have hS := hS2
          have q1 : (c.took pl).lens.length = n := g1
          have hl64 : 0 ≤ nth (c.took pl).lens qq ∧ nth (c.took pl).lens qq ≤ 64 := hinv.lens qq (by omega)
          replace t2 : (nth c.fly pl).arc < (c.took pl).arcs.length := t2
          change Sep F R R w _ (HP.blk x.B _ _ :: HP.blk x.gL ((c.took pl).lens.map encI) _ :: _ :: _ :: HP.own arcTy _ _ x.vA (c.took pl).arcs :: _) at hS
          obtain ⟨gA, capA, curA, hvA, hbA, hlA⟩ := (hS.own 4 rfl).form (by omega)
          rw [hvA] at hS
          refine e_skip ?_
          refine hK _ _ ?_; clear hK
          refine e_seq fun K hK => ?_
          refine e_region_text rfl ?_
          refine q_move rfl rfl ?_
          refine q_nilCheck rfl rfl ?_
          refine q_field rfl rfl ?_
          refine q_load rfl (Blk.cell (hS.blk 0 rfl) rfl) rfl ?_
          refine q_move rfl rfl ?_
          first | refine q_indexn rfl rfl (by omega) rfl ?_ | refine q_index rfl rfl ⟨by omega, by omega⟩ rfl ?_
          refine q_load rfl (Blk.intAt (hS.blk 1 rfl) (by first | omega | (simp; omega))) rfl ?_
          refine q_add rfl rfl (wr64 (by omega) (by omega)) rfl ?_
          first | refine q_indexn rfl rfl (by omega) rfl ?_ | refine q_index rfl rfl ⟨by omega, by omega⟩ rfl ?_
          refine q_storeIx rfl rfl (hS.blk 1 rfl) (by first | omega | (simp; omega)) rfl fun w24 hb24 hO24 => ?_
          have hk24 := hS.keptBlk 1 rfl hO24
          replace hS := hS.setBlk 1 rfl hb24 hO24; simp only [List.set] at hS
          refine eseq_nil ?_
          refine hK _ _ ?_; clear hK
          refine e_region_draw mixed (fun _ => False) [0, 1, 3, 7, 0, 16, 0, 64, 192, 448, 0, 1984, 4032, 8191, 16383, 32767] [] [0, 1, 2, 3, 4, 5, 6, 7, 8, 9, 10, 11, 12, 13, 14, 15] (by kernel_rfl) ?_
          refine q_move rfl rfl ?_
          refine q_nilCheck rfl rfl ?_
          refine q_field rfl rfl ?_
          refine q_load rfl (Blk.cell (hS.blk 0 rfl) rfl) rfl ?_
          refine q_field rfl rfl ?_
          refine q_load rfl (Blk.cell (hS.blk 11 rfl) rfl) rfl ?_
          rw [har]
          refine q_move rfl rfl ?_
          refine q_nilCheck rfl rfl ?_
          refine q_field rfl rfl ?_
          refine q_load rfl (Blk.cell (hS.blk 0 rfl) rfl) rfl ?_
          refine q_move rfl rfl ?_
          first | refine q_indexn rfl rfl (by omega) rfl ?_ | refine q_index rfl rfl ⟨by omega, by omega⟩ rfl ?_
          refine q_load rfl (Blk.intAt (hS.blk 1 rfl) (by first | omega | (simp; omega))) rfl ?_
          rw [nth_set (by omega), if_pos rfl]
          first | refine q_indexn rfl rfl (by omega) rfl ?_ | refine q_index rfl rfl ⟨by omega, by omega⟩ rfl ?_
          refine q_field rfl rfl ?_
          refine q_storeOwn rfl rfl (hS.own 4 rfl) (by omega) rfl rfl rfl (fun _ h => h.elim) ({ nth (c.took pl).arcs ar with rcv := nth (c.took pl).lens qq + 1 }) rfl fun w25 hw25 hO25 => ?_
          have hk25 := hS.keptOwnO 4 rfl hO25
          replace hS := hS.putOwn 4 rfl hw25 hO25; simp only [List.set] at hS
          refine eseq_nil ?_
          refine ⟨_, res0 rfl, rfl, { x with vG := v179, vA := .slice (some ⟨gA, 0, none⟩) (c.took pl).arcs.length capA }, rfl, hcap, ?_⟩
          have hS9 := hS.erase 12 rfl
          have hS10 := hS9.erase 11 rfl
          simp only [List.eraseIdx] at hS10
          rw [hrec, er]
          simp only [runParts, Comp.got]
          exact hS10
    · skip
      have hk2 : ¬ ak = 2 := by simpa using hk2
      refine e_seq fun K hK => ?_
      refine e_region_text rfl ?_
      refine q_eql rfl rfl rfl ?_
      refine q_assign rfl rfl ?_
      refine eseq_nil ?_
      refine hK _ _ ?_; clear hK
      refine e_cond rfl (fun hk3 => ?_) (fun hk3 => ?_)
      · skip
        have hk3 : ak = 3 := by simpa using hk3
        subst hk3
        refine e_seq fun K hK => ?_
        refine e_region_text rfl ?_
        refine q_field rfl rfl ?_
        refine q_load rfl (Blk.cell (hS.blk 0 rfl) rfl) rfl ?_
        refine q_geq rfl rfl rfl ?_
        refine q_move rfl rfl ?_
        refine g_and 4 rfl trivial rfl rfl ?_; apply Exists.intro; refine ⟨fun hg => ?_, fun hg => ?_, fun wm26 hBm26 => ?_⟩
        · have hg0 := hg
          have hTm26 := Below.refl (World.heap w1).size w1
          try simp at hg
          refine g_run rfl ?_; refine q_field rfl rfl ?_
          refine g_run rfl ?_; refine q_load rfl (Blk.cell (hS.blk 0 rfl) rfl) rfl ?_
          refine g_run rfl ?_; refine q_move rfl rfl ?_
          refine g_run rfl ?_; refine q_lss rfl rfl rfl ?_
          exact eseq_nil ⟨hTm26, Sub.set rfl (Sub.set rfl (Sub.set rfl (Sub.set rfl (Sub.bool true rfl hg0)))), rfl⟩
        · have hg0 := hg
          refine g_skip rfl rfl rfl ?_
          refine g_skip rfl rfl rfl ?_
          refine g_skip rfl rfl rfl ?_
          refine g_skip rfl rfl rfl ?_
          exact eseq_nil ⟨rfl, Sub.set rfl (Sub.set rfl (Sub.set rfl (Sub.set rfl (Sub.bool false rfl hg0))))⟩
        replace hS := hS.below hBm26
        refine eseq_nil ?_
        refine hK _ _ ?_; clear hK
        refine e_cond rfl (fun hp => ?_) (fun hp => ?_)
        · skip
          have hpn : 0 ≤ ap ∧ ap < n := by simpa using hp
          obtain ⟨pq, rfl⟩ := Int.eq_ofNat_of_zero_le hpn.1
          have hnow := hinv.now pq (by omega)
          refine e_seq fun K hK => ?_
          refine e_region_draw mixed (fun _ => False) [0, 1, 3, 7, 0, 16, 63, 127, 255, 511, 1023] [] [0, 1, 2, 3, 4, 5, 6, 7, 8, 9, 10] (by kernel_rfl) ?_
          refine q_move rfl rfl ?_
          refine q_nilCheck rfl rfl ?_
          refine q_field rfl rfl ?_
          refine q_load rfl (Blk.cell (hS.blk 1 rfl) rfl) rfl ?_
          refine q_field rfl rfl ?_
          refine q_load rfl (Blk.cell (hS.blk 0 rfl) rfl) rfl ?_
          first | refine q_indexn rfl rfl (by omega) rfl ?_ | refine q_index rfl rfl ⟨by omega, by omega⟩ rfl ?_
          refine q_load rfl (Blk.intAt (hS.blk 10 rfl) (by first | omega | (simp; omega))) rfl ?_
          refine q_add rfl rfl (wr64 (by omega) (by omega)) rfl ?_
          first | refine q_indexn rfl rfl (by omega) rfl ?_ | refine q_index rfl rfl ⟨by omega, by omega⟩ rfl ?_
          refine q_storeIx rfl rfl (hS.blk 10 rfl) (by first | omega | (simp; omega)) rfl fun w27 hb27 hO27 => ?_
          have hk27 := hS.keptBlk 10 rfl hO27
          replace hS := hS.setBlk 10 rfl hb27 hO27; simp only [List.set] at hS
          refine eseq_nil ?_
          refine hK _ _ ?_; clear hK
          refine e_region_text rfl ?_
          refine q_move rfl rfl ?_
          refine q_field rfl rfl ?_
          refine q_load rfl (Blk.cell (hS.blk 0 rfl) rfl) rfl ?_
          have hS2 := hS.order [1, 2, 3, 4, 5, 6, 7, 8, 9, 10, 11, 0] 12 rfl (by decide)
          simp only [List.map_cons, List.map_nil, List.getD_cons_zero, List.getD_cons_succ] at hS2
          have hS3 : Sep F R R w _ (runParts n x (c.bump pq) ++ [_]) := hS2
          have hgd : (c.bump pq).Good n := ⟨hg.lens, hg.ckpts, hg.clocks, hg.forced, by simpa [Comp.bump] using g5, hg.rows⟩
          refine q_call rfl (ckptR25 (Sep.enter hS3) hgd pq (by omega) false hcap) rfl ?_
          rintro _ wy ⟨rfl, x', hB', hcap', hC⟩; refine ⟨(fun h => by cases h), ?_⟩
          have hS4 := (Sep.leave hS3 hC).left
          refine eseq_nil ?_
          refine ⟨_, res0 rfl, rfl, x', hB', hcap', ?_⟩
          rw [Comp.deed, if_neg hk1, if_neg hk2, if_pos rfl, Comp.tick, if_pos (by rw [g5]; simpa using hp)]
          exact hS4
        · skip
          have hpn : ¬ (0 ≤ ap ∧ ap < n) := by simpa using hp
          refine e_skip ?_
          refine ⟨_, res0 rfl, rfl, x, rfl, hcap, ?_⟩
          rw [Comp.deed, if_neg hk1, if_neg hk2, if_pos rfl, Comp.tick, if_neg (by rw [g5]; simp; omega)]
          exact hS.tail
      · skip
        have hk3 : ¬ ak = 3 := by simpa using hk3
        refine e_skip ?_
        refine ⟨_, res0 rfl, rfl, x, rfl, hcap, ?_⟩
        rw [Comp.deed, if_neg hk1, if_neg hk2, if_neg hk3]
        exact hS.tail
end Go.Proofs.Ytdpleaifhdlciaa
