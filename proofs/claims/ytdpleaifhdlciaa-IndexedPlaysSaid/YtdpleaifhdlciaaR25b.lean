/- The beginning of the reference's computation of chapter 25. -/
import Derived.Test.YtdpleaifhdlciaaR25a
set_option linter.unusedSimpArgs false
set_option linter.unusedVariables false
namespace Go.Proofs.Ytdpleaifhdlciaa
open Go.RowKit Go.Mine
attribute [local irreducible] eseq ewp
variable {w : World} {F R : Nat → Prop} {n : Nat}

theorem emptyR25 (h : Sep F R R w w []) (n : Nat) (hn : n ≤ 100) :
    Gives Try.prog 53 [.int .i64 n] w fun v w' => ∃ gL vC vF vsC vsF, v = .agg #[.slice (some ⟨gL, 0, none⟩) n n, vC, .slice none 0 0, .slice none 0 0, .slice none 0 0, vF] ∧ Sep F R R w w'
      [HP.blk gL ((List.replicate n 0).map encI) 3, HP.own Ty.raw (fun _ => False) 28 vC vsC, HP.fam Ty.int 3 vsC (List.replicate n [0]), HP.own Ty.raw (fun _ => False) 43 vF vsF, HP.fam Ty.bool 4 vsF (List.replicate n [false])] := by
  have hS := h
  refine fn_of Try.func53 rfl Try.ntmps53 (Nat.le_of_ble_eq_true rfl) ?_
  have hT := Below.refl w.heap.size w
  refine e_seq fun K hK => ?_
  refine e_region_text rfl ?_
  refine q_allocB rfl fun w1 bl1 hg1 hb1 hB1 => ?_
  replace hS := hS.newBlk hB1 hg1 hb1
  refine eseq_nil ?_
  refine hK _ _ ?_; clear hK
  refine e_seq fun K hK => ?_
  refine e_region_text rfl ?_
  refine q_move rfl rfl ?_
  refine q_make (z := [.int .i64 0]) (sz := 1) (n := n) rfl rfl rfl rfl (by omega) rfl fun w2 bl2 hg2 hb2 hB2 => ?_
  rw [replicate_ints] at hb2
  replace hS := hS.newBlk hB2 hg2 hb2
  refine q_build (Parts.cons rfl rfl Parts.nil) rfl rfl ?_
  refine q_build (Parts.cons rfl rfl Parts.nil) rfl rfl ?_
  refine q_allocB rfl fun w3 bl3 hg3 hb3 hB3 => ?_
  replace hS := hS.newBlk hB3 hg3 hb3
  refine q_storeAgg rfl rfl (hS.blk 0 rfl) rfl (Nat.le_of_ble_eq_true rfl) (all_cons rfl (all_cons rfl (all_cons rfl (all_cons rfl (all_cons rfl (all_cons rfl (all_nil))))))) rfl rfl fun w4 hb4 hO4 => ?_
  simp only [setN, List.take, List.drop, List.set] at hb4
  have hk4 := hS.keptBlk 0 rfl hO4
  replace hS := hS.setBlk 0 rfl hb4 hO4; simp only [List.set] at hS
  refine eseq_nil ?_
  refine hK _ _ ?_; clear hK
  refine e_seq fun K hK => ?_
  refine e_seq fun K hK => ?_
  refine e_region_text rfl ?_
  refine q_assign rfl rfl ?_
  refine eseq_nil ?_
  refine hK _ _ ?_; clear hK
  refine e_block ?_
  replace hS := (((hS.nilFam Ty.bool 4).nilOwn0 Ty.raw 43).nilFam Ty.int 3).nilOwn0 Ty.raw 28
  refine e_loop (fun m E wx => ∃ (k : Nat) (vC vF : Value) (vsC vsF : List Value), k ≤ n ∧ Sep F R R w wx [HP.own Ty.raw (fun _ => False) 28 vC vsC, HP.fam Ty.int 3 vsC (List.replicate k [0]), HP.own Ty.raw (fun _ => False) 43 vF vsF, HP.fam Ty.bool 4 vsF (List.replicate k [false]),
      HP.blk bl3 [.slice (some ⟨bl2, 0, none⟩) n n, vC, .slice none 0 0, .slice none 0 0, .slice none 0 0, vF] 36, HP.blk bl2 ((List.replicate n 0).map encI) 3, HP.blk bl1 [.slice none 0 0, .slice none 0 0, .slice none 0 0, .slice none 0 0, .slice none 0 0, .slice none 0 0] 36] ∧
      m = n - k ∧ E = [(0, .int .i64 n), (2, .pointer (some ⟨bl1, 0, none⟩)), (3, .pointer (some ⟨bl3, 0, none⟩)), (4, .int .i64 k)]) _ ⟨_, ⟨0, _, _, [], [], by omega, hS, rfl, rfl⟩, Sub.cons rfl (Sub.cons rfl (Sub.cons rfl (Sub.cons rfl (Sub.nil _))))⟩ ?_
  clear hS
  rintro m E wx ⟨k, vC, vF, vsC, vsF, hk, hS, rfl, rfl⟩
  have l1 := hS.famLen 1 rfl; have l2 := hS.famLen 3 rfl
  simp only [List.length_replicate] at l1 l2
  refine e_seq fun K hK => ?_
  refine e_seq fun K hK => ?_
  refine e_region_text rfl ?_
  refine q_move rfl rfl ?_
  refine q_move rfl rfl ?_
  refine q_lss rfl rfl rfl ?_
  refine eseq_nil ?_
  refine hK _ _ ?_; clear hK
  refine e_cond rfl (fun hc => ?_) (fun hc => ?_)
  · skip
    have hlt : k < n := by simpa using hc
    refine e_skip ?_
    refine hK _ _ ?_; clear hK
    refine e_seq fun K hK => ?_
    refine e_block ?_
    refine e_seq fun K hK => ?_
    refine e_region_text rfl ?_
    refine q_field rfl rfl ?_
    refine q_field rfl rfl ?_
    refine q_load rfl (Blk.cell (hS.blk 4 rfl) rfl) rfl ?_
    refine q_slice1 rfl rfl rfl rfl rfl rfl fun wi bi hgi hbi hBi => ?_
    replace hS := hS.famPush 1 rfl hBi (Own.oneInt hbi) (fun k hk => by cases hk; exact hgi); simp only [List.set, ← List.replicate_succ'] at hS
    refine q_slice1 rfl rfl rfl rfl rfl rfl fun w5 bl5 hg5 hb5 hB5 => ?_
    replace hS := hS.below hB5
    refine q_append1 (u := (.slice (some ⟨bi, 0, none⟩) 1 1)) rfl rfl rfl rfl (hS.own 0 rfl) rfl hb5 (⟨rfl, rfl⟩) (by omega) (Nat.zero_le _) rfl (fun h => by cases h) fun v19 w6 hw6 hgr6 hnw6 => ?_
    have hk6 := hS.keptOwn 0 rfl hgr6
    replace hS := hS.setOwn 0 rfl hw6 hgr6 hnw6; simp only [List.set] at hS
    refine q_field rfl rfl ?_
    refine q_field rfl rfl ?_
    refine q_store rfl rfl (hS.blk 4 rfl) (Nat.le_of_ble_eq_true rfl) (hS.own 0 rfl).one rfl rfl fun w7 hb7 hO7 => ?_
    have hk7 := hS.keptBlk 4 rfl hO7
    replace hS := hS.setBlk 4 rfl hb7 hO7; simp only [List.set] at hS
    refine eseq_nil ?_
    refine hK _ _ ?_; clear hK
    refine e_region_text rfl ?_
    refine q_field rfl rfl ?_
    refine q_load rfl (Blk.cell (hS.blk 4 rfl) rfl) rfl ?_
    refine q_slice1 rfl rfl rfl rfl rfl rfl fun wj bj hgj hbj hBj => ?_
    replace hS := hS.famPush 3 rfl hBj (Own.oneBool hbj) (fun k hk => by cases hk; exact hgj); simp only [List.set, ← List.replicate_succ'] at hS
    refine q_slice1 rfl rfl rfl rfl rfl rfl fun w8 bl8 hg8 hb8 hB8 => ?_
    replace hS := hS.below hB8
    refine q_append1 (u := (.slice (some ⟨bj, 0, none⟩) 1 1)) rfl rfl rfl rfl (hS.own 2 rfl) rfl hb8 (⟨rfl, rfl⟩) (by omega) (Nat.zero_le _) rfl (fun h => by cases h) fun v26 w9 hw9 hgr9 hnw9 => ?_
    have hk9 := hS.keptOwn 2 rfl hgr9
    replace hS := hS.setOwn 2 rfl hw9 hgr9 hnw9; simp only [List.set] at hS
    refine q_field rfl rfl ?_
    refine q_store rfl rfl (hS.blk 4 rfl) (Nat.le_of_ble_eq_true rfl) (hS.own 2 rfl).one rfl rfl fun w10 hb10 hO10 => ?_
    have hk10 := hS.keptBlk 4 rfl hO10
    replace hS := hS.setBlk 4 rfl hb10 hO10; simp only [List.set] at hS
    refine eseq_nil ?_
    refine hK _ _ ?_; clear hK
    refine e_region_text rfl ?_
    refine q_move rfl rfl ?_
    refine q_add rfl rfl (wr64 (by omega) (by omega)) rfl ?_
    refine q_assign rfl rfl ?_
    refine eseq_nil ?_
    exact ⟨_, _, by omega, ⟨k + 1, _, _, _, _, by omega, hS, rfl, rfl⟩, Sub.cons rfl (Sub.cons rfl (Sub.cons rfl (Sub.cons rfl (Sub.nil _))))⟩
  · skip
    have hge : k = n := by simp at hc; omega
    subst hge
    refine e_exit ?_
    clear hK
    refine hK _ _ ?_; clear hK
    refine e_seq fun K hK => ?_
    refine e_region_text rfl ?_
    refine q_loadAgg rfl (Blk.cellsAt (hS.blk 4 rfl) 0 6 rfl) rfl rfl ?_
    refine q_storeAgg rfl rfl (hS.blk 6 rfl) rfl (Nat.le_of_ble_eq_true rfl) (all_cons rfl (all_cons (hS.own 0 rfl).one (all_cons rfl (all_cons rfl (all_cons rfl (all_cons (hS.own 2 rfl).one (all_nil))))))) rfl rfl fun w11 hb11 hO11 => ?_
    simp only [setN, List.take, List.drop, List.set] at hb11
    have hk11 := hS.keptBlk 6 rfl hO11
    replace hS := hS.setBlk 6 rfl hb11 hO11; simp only [List.set] at hS
    refine eseq_nil ?_
    refine hK _ _ ?_; clear hK
    refine e_ret ?_
    refine ⟨_, resC1 rfl rfl ((hS.blk 6 rfl).cellsAt 0 6 rfl) rfl, _, vC, vF, vsC, vsF, rfl, ?_⟩
    have h1 := ((hS.erase 6 rfl).erase 4 rfl).front 4 rfl
    simp only [List.eraseIdx] at h1
    exact h1

def emptyParts (n gL : Nat) (vC vF : Value) (vsC vsF : List Value) : List HP :=
  [HP.blk gL ((List.replicate n 0).map encI) 3, HP.own Ty.raw (fun _ => False) 28 vC vsC, HP.fam Ty.int 3 vsC (List.replicate n [0]), HP.own Ty.raw (fun _ => False) 43 vF vsF, HP.fam Ty.bool 4 vsF (List.replicate n [false])]

theorem beginR25 (h : Sep F R R w w []) (n : Nat) (hn1 : 1 ≤ n) (hn : n ≤ 100) :
    Gives Try.prog 37 [.int .i64 n] w fun v w' => ∃ x, v = .pointer (some ⟨x.B, 0, none⟩) ∧ (n ≤ x.capC ∧ n ≤ x.capK ∧ n ≤ x.capF) ∧ Sep F R R w w' (runParts n x (Comp.start n)) := by
  have hS := h
  refine fn_of Try.func37 rfl Try.ntmps37 (Nat.le_of_ble_eq_true rfl) ?_
  have hT := Below.refl w.heap.size w
  refine e_seq fun K hK => ?_
  refine e_region_text rfl ?_
  refine q_assign rfl rfl ?_
  refine eseq_nil ?_
  refine hK _ _ ?_; clear hK
  refine e_seq fun K hK => ?_
  refine e_region_tree mixed 7 rfl ?_
  refine a_meet (J := fun E' w' => ∃ gL vC vF vsC vsF gT, Sep F R R w w' (HP.blk gT ((List.replicate n 0).map encI) 3 :: emptyParts n gL vC vF vsC vsF) ∧ Sub [(0, .int .i64 n), (6, .agg #[.slice (some ⟨gL, 0, none⟩) n n, vC, .slice none 0 0, .slice none 0 0, .slice none 0 0, vF]), (8, .slice (some ⟨gT, 0, none⟩) n n)] E') 3 #[true, true, true, true, false, false, false] ?_ ?_
  · rintro E' w' ⟨gL, vC, vF, vsC, vsF, gT, hS, hsub⟩
    refine eany_sub hsub ?_
    simp only [emptyParts] at hS
    refine a_one rfl 4 (by kernel_rfl) rfl ?_; refine q_build (Parts.cons rfl rfl (Parts.cons rfl rfl Parts.nil)) rfl rfl ?_; refine eseq_nil ?_
    refine a_one rfl 5 (by kernel_rfl) rfl ?_; refine q_boxB rfl rfl rfl fun wb B hgb hbb hBb => ?_
    replace hbb : Blk wb B [.slice (some ⟨gL, 0, none⟩) n n, vC, .slice none 0 0, .slice none 0 0, .slice none 0 0, vF, .slice (some ⟨gT, 0, none⟩) n n, .slice none 0 0] 78 := hbb
    replace hS := hS.newBlk hBb hgb hbb
    refine eseq_nil ?_
    refine a_one rfl 6 (by kernel_rfl) rfl ?_; refine q_assign rfl rfl ?_; refine eseq_nil ?_; refine a_done (by kernel_rfl) ?_
    refine hK _ _ ?_; clear hK
    refine e_seq fun K hK => ?_
    refine e_seq fun K hK => ?_
    refine e_region_text rfl ?_
    refine q_assign rfl rfl ?_
    refine eseq_nil ?_
    refine hK _ _ ?_; clear hK
    refine e_block ?_
    replace hS := (hS.nilFam Ty.int 3).nilOwn0 Ty.raw 28
    refine e_loop (fun m E wx => ∃ (k : Nat) (vK : Value) (vsK : List Value), k ≤ n ∧ Sep F R R w wx (HP.own Ty.raw (fun _ => False) 28 vK vsK :: HP.fam Ty.int 3 vsK (List.replicate k [0]) ::
        HP.blk B [.slice (some ⟨gL, 0, none⟩) n n, vC, .slice none 0 0, vK, .slice none 0 0, vF, .slice (some ⟨gT, 0, none⟩) n n, .slice none 0 0] 78 :: HP.blk gT ((List.replicate n 0).map encI) 3 :: emptyParts n gL vC vF vsC vsF) ∧
        m = n - k ∧ E = [(0, .int .i64 n), (3, .pointer (some ⟨B, 0, none⟩)), (4, .int .i64 k)]) _ ⟨_, ⟨0, _, [], by omega, hS, rfl, rfl⟩, Sub.cons rfl (Sub.cons rfl (Sub.cons rfl (Sub.nil _)))⟩ ?_
    clear hS
    rintro m E wx ⟨k, vK, vsK, hk, hS, rfl, rfl⟩
    simp only [emptyParts] at hS
    have l1 := hS.famLen 1 rfl; have l2 := hS.famLen 6 rfl; have l3 := hS.famLen 8 rfl
    simp only [List.length_replicate] at l1 l2 l3
    refine e_seq fun K hK => ?_
    refine e_seq fun K hK => ?_
    refine e_region_text rfl ?_
    refine q_move rfl rfl ?_
    refine q_move rfl rfl ?_
    refine q_lss rfl rfl rfl ?_
    refine eseq_nil ?_
    refine hK _ _ ?_; clear hK
    refine e_cond rfl (fun hc => ?_) (fun hc => ?_)
    · skip
      have hlt : k < n := by simpa using hc
      refine e_skip ?_
      refine hK _ _ ?_; clear hK
      refine e_seq fun K hK => ?_
      refine e_block ?_
      refine e_region_text rfl ?_
      refine q_move rfl rfl ?_
      refine q_move rfl rfl ?_
      refine q_nilCheck rfl rfl ?_
      refine q_field rfl rfl ?_
      refine q_field rfl rfl ?_
      refine q_load rfl (Blk.cell (hS.blk 2 rfl) rfl) rfl ?_
      refine q_slice1 rfl rfl rfl rfl rfl rfl fun wi bi hgi hbi hBi => ?_
      replace hS := hS.famPush 1 rfl hBi (Own.oneInt hbi) (fun k hk => by cases hk; exact hgi); simp only [List.set, ← List.replicate_succ'] at hS
      refine q_slice1 rfl rfl rfl rfl rfl rfl fun w1 bl1 hg1 hb1 hB1 => ?_
      replace hS := hS.below hB1
      refine q_append1 (u := (.slice (some ⟨bi, 0, none⟩) 1 1)) rfl rfl rfl rfl (hS.own 0 rfl) rfl hb1 (⟨rfl, rfl⟩) (by omega) (Nat.zero_le _) rfl (fun h => by cases h) fun v24 w2 hw2 hgr2 hnw2 => ?_
      have hk2 := hS.keptOwn 0 rfl hgr2
      replace hS := hS.setOwn 0 rfl hw2 hgr2 hnw2; simp only [List.set] at hS
      refine q_nilCheck rfl rfl ?_
      refine q_field rfl rfl ?_
      refine q_field rfl rfl ?_
      refine q_store rfl rfl (hS.blk 2 rfl) (Nat.le_of_ble_eq_true rfl) (hS.own 0 rfl).one rfl rfl fun w3 hb3 hO3 => ?_
      have hk3 := hS.keptBlk 2 rfl hO3
      replace hS := hS.setBlk 2 rfl hb3 hO3; simp only [List.set] at hS
      refine eseq_nil ?_
      refine hK _ _ ?_; clear hK
      refine e_region_text rfl ?_
      refine q_move rfl rfl ?_
      refine q_add rfl rfl (wr64 (by omega) (by omega)) rfl ?_
      refine q_assign rfl rfl ?_
      refine eseq_nil ?_
      exact ⟨_, _, by omega, ⟨k + 1, _, _, by omega, hS, rfl, rfl⟩, Sub.cons rfl (Sub.cons rfl (Sub.cons rfl (Sub.nil _)))⟩
    · skip
      have hge : k = n := by simp at hc; omega
      subst hge
      refine e_exit ?_
      clear hK
      refine hK _ _ ?_; clear hK
      refine e_seq fun K hK => ?_
      refine e_region_text rfl ?_
      refine q_move rfl rfl ?_
      refine q_assign rfl rfl ?_
      refine eseq_nil ?_
      refine hK _ _ ?_; clear hK
      refine e_ret ?_
      obtain ⟨gK, capK, jK, rfl, hcK, hS1⟩ := hS.rawBlk 0 rfl (by omega)
      obtain ⟨gC, capC, jC, rfl, hcC, hS2⟩ := hS1.rawBlk 5 rfl (by omega)
      obtain ⟨gF, capF, jF, rfl, hcF, hS3⟩ := hS2.rawBlk 7 rfl (by omega)
      have hS4 := (hS3.nilOwn0 arcTy 46).nilOwn0 letterTy 98
      refine ⟨_, res1 rfl rfl, ⟨B, gL, gC, gK, gF, gT, capC, capK, capF, vsC, vsK, vsF, jC, jK, jF, .slice none 0 0, .slice none 0 0⟩, rfl, ⟨by simp; omega, by simp; omega, by simp; omega⟩, ?_⟩
      simp only [runParts, Comp.start]
      rw [l1, l2, l3] at hS4
      simp only [List.set] at hS4
      have hS5 := hS4.order [4, 6, 7, 8, 1, 2, 3, 9, 10, 5, 0] 11 rfl (by decide)
      simp only [List.map_cons, List.map_nil, List.getD_cons_zero, List.getD_cons_succ] at hS5
      exact hS5
  · intro key
    refine a_two rfl 0 2 (by kernel_rfl) rfl rfl ?_ ?_
    · refine q_move rfl rfl ?_; refine eseq_nil ?_
      refine a_two rfl 1 2 (by kernel_rfl) rfl rfl ?_ ?_
      · refine q_call rfl (emptyR25 (Sep.enter (As := []) hS) n hn) rfl ?_; rintro _ wc ⟨gL, vC, vF, vsC, vsF, rfl, hC⟩; refine ⟨(fun h => by cases h), ?_⟩; replace hS := Sep.leave (As := []) hS hC; refine eseq_nil ?_
        refine a_one rfl 2 (by kernel_rfl) rfl ?_; refine q_move rfl rfl ?_; refine eseq_nil ?_
        refine a_one rfl 3 (by kernel_rfl) rfl ?_; refine q_make (z := [.int .i64 0]) (sz := 1) (n := n) rfl rfl rfl rfl (by omega) rfl fun wm gT hgm hbm hBm => ?_; rw [replicate_ints] at hbm; replace hS := hS.newBlk hBm hgm hbm; refine eseq_nil ?_
        exact key _ _ ⟨gL, vC, vF, vsC, vsF, gT, hS, Sub.cons rfl (Sub.cons rfl (Sub.cons rfl (Sub.nil _)))⟩
      · refine q_move rfl rfl ?_; refine eseq_nil ?_
        refine a_two rfl 1 3 (by kernel_rfl) rfl rfl ?_ ?_
        · refine q_call rfl (emptyR25 (Sep.enter (As := []) hS) n hn) rfl ?_; rintro _ wc ⟨gL, vC, vF, vsC, vsF, rfl, hC⟩; refine ⟨(fun h => by cases h), ?_⟩; replace hS := Sep.leave (As := []) hS hC; refine eseq_nil ?_
          refine a_one rfl 3 (by kernel_rfl) rfl ?_; refine q_make (z := [.int .i64 0]) (sz := 1) (n := n) rfl rfl rfl rfl (by omega) rfl fun wm gT hgm hbm hBm => ?_; rw [replicate_ints] at hbm; replace hS := hS.newBlk hBm hgm hbm; refine eseq_nil ?_
          exact key _ _ ⟨gL, vC, vF, vsC, vsF, gT, hS, Sub.cons rfl (Sub.cons rfl (Sub.cons rfl (Sub.nil _)))⟩
        · refine q_make (z := [.int .i64 0]) (sz := 1) (n := n) rfl rfl rfl rfl (by omega) rfl fun wm gT hgm hbm hBm => ?_; rw [replicate_ints] at hbm; replace hS := hS.newBlk hBm hgm hbm; refine eseq_nil ?_
          refine a_one rfl 1 (by kernel_rfl) rfl ?_; refine q_call rfl (emptyR25 (Sep.enter (As := []) hS) n hn) rfl ?_; rintro _ wc ⟨gL, vC, vF, vsC, vsF, rfl, hC⟩; refine ⟨(fun h => by cases h), ?_⟩; replace hS := Sep.leave (As := []) hS hC; refine eseq_nil ?_
          exact key _ _ ⟨gL, vC, vF, vsC, vsF, gT, hS.front 5 rfl, Sub.cons rfl (Sub.cons rfl (Sub.cons rfl (Sub.nil _)))⟩
    · refine q_move rfl rfl ?_; refine eseq_nil ?_
      refine a_two rfl 0 3 (by kernel_rfl) rfl rfl ?_ ?_
      · refine q_move rfl rfl ?_; refine eseq_nil ?_
        refine a_two rfl 1 3 (by kernel_rfl) rfl rfl ?_ ?_
        · refine q_call rfl (emptyR25 (Sep.enter (As := []) hS) n hn) rfl ?_; rintro _ wc ⟨gL, vC, vF, vsC, vsF, rfl, hC⟩; refine ⟨(fun h => by cases h), ?_⟩; replace hS := Sep.leave (As := []) hS hC; refine eseq_nil ?_
          refine a_one rfl 3 (by kernel_rfl) rfl ?_; refine q_make (z := [.int .i64 0]) (sz := 1) (n := n) rfl rfl rfl rfl (by omega) rfl fun wm gT hgm hbm hBm => ?_; rw [replicate_ints] at hbm; replace hS := hS.newBlk hBm hgm hbm; refine eseq_nil ?_
          exact key _ _ ⟨gL, vC, vF, vsC, vsF, gT, hS, Sub.cons rfl (Sub.cons rfl (Sub.cons rfl (Sub.nil _)))⟩
        · refine q_make (z := [.int .i64 0]) (sz := 1) (n := n) rfl rfl rfl rfl (by omega) rfl fun wm gT hgm hbm hBm => ?_; rw [replicate_ints] at hbm; replace hS := hS.newBlk hBm hgm hbm; refine eseq_nil ?_
          refine a_one rfl 1 (by kernel_rfl) rfl ?_; refine q_call rfl (emptyR25 (Sep.enter (As := []) hS) n hn) rfl ?_; rintro _ wc ⟨gL, vC, vF, vsC, vsF, rfl, hC⟩; refine ⟨(fun h => by cases h), ?_⟩; replace hS := Sep.leave (As := []) hS hC; refine eseq_nil ?_
          exact key _ _ ⟨gL, vC, vF, vsC, vsF, gT, hS.front 5 rfl, Sub.cons rfl (Sub.cons rfl (Sub.cons rfl (Sub.nil _)))⟩
      · refine q_make (z := [.int .i64 0]) (sz := 1) (n := n) rfl rfl rfl rfl (by omega) rfl fun wm gT hgm hbm hBm => ?_; rw [replicate_ints] at hbm; replace hS := hS.newBlk hBm hgm hbm; refine eseq_nil ?_
        refine a_one rfl 0 (by kernel_rfl) rfl ?_; refine q_move rfl rfl ?_; refine eseq_nil ?_
        refine a_one rfl 1 (by kernel_rfl) rfl ?_; refine q_call rfl (emptyR25 (Sep.enter (As := []) hS) n hn) rfl ?_; rintro _ wc ⟨gL, vC, vF, vsC, vsF, rfl, hC⟩; refine ⟨(fun h => by cases h), ?_⟩; replace hS := Sep.leave (As := []) hS hC; refine eseq_nil ?_
        exact key _ _ ⟨gL, vC, vF, vsC, vsF, gT, hS.front 5 rfl, Sub.cons rfl (Sub.cons rfl (Sub.cons rfl (Sub.nil _)))⟩
end Go.Proofs.Ytdpleaifhdlciaa
