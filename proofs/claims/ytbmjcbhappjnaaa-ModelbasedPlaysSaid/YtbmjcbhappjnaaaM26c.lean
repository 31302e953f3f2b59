/- The sending of the computation of chapter 26. -/
import Derived.Test.YtbmjcbhappjnaaaM26b
set_option linter.unusedSimpArgs false
set_option linter.unusedVariables false
namespace Go.Proofs.Ytbmjcbhappjnaaa
open Go.RowKit Go.Mine
attribute [local irreducible] eseq ewp nth
variable {w : World} {F R : Nat → Prop} {n r m : Nat} {rule : Int} {x : CN} {c : C26}

theorem send26 (h : Sep F R R w w (compParts n rule x c)) (hH : Held w R n x c) (hi : c.Inv n r m) (hm : m ≤ 100000) (hn : n ≤ 100) (fr to : Int) :
    Gives Try.prog 44 [.pointer (some ⟨x.B, 0, none⟩), .int .i64 fr, .int .i64 to] w fun v w' => v = .tuple #[] ∧ CompTo F R n rule x w w' (c.send fr to) := by
  have hS := h
  simp only [compParts] at hS
  refine fn_of Try.func44 rfl Try.ntmps44 (Nat.le_of_ble_eq_true rfl) ?_
  have hT := Below.refl w.heap.size w
  refine e_seq fun K hK => ?_
  refine e_seq fun K hK => ?_
  refine e_region_text rfl ?_
  refine q_move rfl rfl ?_
  refine q_move rfl rfl ?_
  refine q_call rfl (process26 (x := x) (c := c) (Sep.enter (As := compParts n rule x c) (Ds := []) hS) hn fr) rfl ?_
  rintro _ w1 ⟨rfl, hB1⟩; refine ⟨fun _ => .of_below hB1, ?_⟩
  replace hH := hH.ext hB1
  replace hS := hS.below hB1
  refine q_not rfl rfl ?_
  refine q_move rfl rfl ?_
  refine g_or 4 rfl trivial rfl rfl ?_; apply Exists.intro; refine ⟨fun hg => ?_, fun hg => ?_, fun wm2 hBm2 => ?_⟩
  · have hg0 := hg
    refine g_skip rfl rfl rfl ?_
    refine g_skip rfl rfl rfl ?_
    refine g_skip rfl rfl rfl ?_
    refine g_skip rfl rfl rfl ?_
    exact eseq_nil ⟨rfl, Sub.set rfl (Sub.set rfl (Sub.set rfl (Sub.set rfl (Sub.bool true rfl hg0))))⟩
  · have hg0 := hg
    have hTm2 := Below.refl (World.heap w1).size w1
    try simp at hg
    refine g_run rfl ?_; refine q_move rfl rfl ?_
    refine g_run rfl ?_; refine q_move rfl rfl ?_
    refine g_run rfl ?_; refine q_call rfl (process26 (x := x) (c := c) (Sep.enter (As := compParts n rule x c) (Ds := []) hS) hn to) rfl ?_
    rintro _ w3 ⟨rfl, hB3⟩; refine ⟨fun _ => .of_below hB3, ?_⟩
    replace hH := hH.ext hB3
    replace hS := hS.below hB3
    replace hTm2 := hTm2.trans (Below.mono hB3 hTm2.size)
    refine g_run rfl ?_; refine q_not rfl rfl ?_
    exact eseq_nil ⟨hTm2, Sub.set rfl (Sub.set rfl (Sub.set rfl (Sub.set rfl (Sub.bool false rfl hg0)))), rfl⟩
  replace hH := hH.ext hBm2
  replace hS := hS.below hBm2
  refine q_move rfl rfl ?_
  refine g_or 3 rfl trivial rfl rfl ?_; apply Exists.intro; refine ⟨fun hg => ?_, fun hg => ?_, fun wm4 hBm4 => ?_⟩
  · have hg0 := hg
    refine g_skip rfl rfl rfl ?_
    refine g_skip rfl rfl rfl ?_
    refine g_skip rfl rfl rfl ?_
    exact eseq_nil ⟨rfl, Sub.set rfl (Sub.set rfl (Sub.set rfl (Sub.bool true rfl hg0)))⟩
  · have hg0 := hg
    have hTm4 := Below.refl (World.heap wm2).size wm2
    try simp at hg
    refine g_run rfl ?_; refine q_move rfl rfl ?_
    refine g_run rfl ?_; refine q_move rfl rfl ?_
    refine g_run rfl ?_; refine q_eql rfl rfl rfl ?_
    exact eseq_nil ⟨hTm4, Sub.set rfl (Sub.set rfl (Sub.set rfl (Sub.bool false rfl hg0))), rfl⟩
  replace hH := hH.ext hBm4
  replace hS := hS.below hBm4
  refine q_move rfl rfl ?_
  refine g_or 3 rfl trivial rfl rfl ?_; apply Exists.intro; refine ⟨fun hg => ?_, fun hg => ?_, fun wm5 hBm5 => ?_⟩
  · have hg0 := hg
    refine g_skip rfl rfl rfl ?_
    refine g_skip rfl rfl rfl ?_
    refine g_skip rfl rfl rfl ?_
    exact eseq_nil ⟨rfl, Sub.set rfl (Sub.set rfl (Sub.set rfl (Sub.bool true rfl hg0)))⟩
  · have hg0 := hg
    have hTm5 := Below.refl (World.heap wm4).size wm4
    try simp at hg
    have hpn : 0 ≤ fr ∧ fr < n := by simp_all
    refine g_run rfl ?_; refine q_move rfl rfl ?_
    refine g_run rfl ?_; refine q_move rfl rfl ?_
    refine g_run rfl ?_; refine q_call rfl (full26 (x := x) (c := c) (Sep.enter (As := compParts n rule x c) (Ds := []) hS) hi hn fr hpn) rfl ?_
    rintro _ w6 ⟨rfl, hB6⟩; refine ⟨fun _ => .of_below hB6, ?_⟩
    replace hH := hH.ext hB6
    replace hS := hS.below hB6
    replace hTm5 := hTm5.trans (Below.mono hB6 hTm5.size)
    exact eseq_nil ⟨hTm5, Sub.set rfl (Sub.set rfl (Sub.set rfl (Sub.bool false rfl hg0))), rfl⟩
  replace hH := hH.ext hBm5
  replace hS := hS.below hBm5
  refine eseq_nil ?_
  refine hK _ _ ?_; clear hK
  refine e_cond rfl (fun hcond => ?_) (fun hcond => ?_)
  · skip
    refine e_ret ?_
    refine ⟨_, res0 rfl, rfl, R, x, rfl, rfl, ?_⟩
    have e : c.send fr to = c := by
      rw [C26.send, if_pos]
      rw [hi.act]; exact hcond
    rw [e]
    exact ⟨hS, hH⟩
  have hc1 : (0 ≤ fr ∧ fr < n) ∧ (0 ≤ to ∧ to < n) ∧ fr ≠ to ∧ ¬ 64 ≤ nth c.lens fr.toNat := by
    simp only [Bool.or_eq_false_iff, Bool.not_eq_false', Bool.and_eq_true, decide_eq_true_eq, decide_eq_false_iff_not, beq_eq_false_iff_ne] at hcond
    exact ⟨hcond.1.1.1, hcond.1.1.2, hcond.1.2, hcond.2⟩
  obtain ⟨q, rfl⟩ := Int.eq_ofNat_of_zero_le hc1.1.1
  have hq : q < n := by omega
  rw [Int.toNat_natCast] at hc1
  have hsend : c.send q to = { c with lens := c.lens.set q (nth c.lens q + 1), act := c.act.set q true, sent := c.sent.set q true, fly := c.fly ++ [⟨c.arcs.length, nth c.now q⟩], arcs := c.arcs ++ [⟨q, nth c.lens q + 1, to, 0⟩] } := by
    rw [C26.send, if_neg]
    · simp only [Int.toNat_natCast]
    · rw [hi.act, Int.toNat_natCast]
      simp only [Bool.or_eq_true, Bool.not_eq_true', Bool.and_eq_false_iff, decide_eq_false_iff_not, beq_iff_eq, decide_eq_true_eq]
      omega
  clear hcond
  refine e_skip ?_
  refine hK _ _ ?_; clear hK
  refine e_seq fun K hK => ?_
  refine e_region_text rfl ?_
  refine q_move rfl rfl ?_
  refine q_nilCheck rfl rfl ?_
  refine q_field rfl rfl ?_
  refine q_field rfl rfl ?_
  refine q_assign rfl rfl ?_
  refine eseq_nil ?_
  refine hK _ _ ?_; clear hK
  refine e_seq fun K hK => ?_
  refine e_region_text rfl ?_
  refine q_move rfl rfl ?_
  refine q_move rfl rfl ?_
  refine q_move rfl rfl ?_
  have hS3 : Sep F R R w _ (compParts n rule x c ++ []) := hS
  refine q_call rfl (event26 (x := x) (c := c) (Sep.enter hS3) hH hi hn q hq) rfl ?_
  clear hH
  rintro _ we ⟨rfl, hC, hH, -⟩; refine ⟨(fun h => by cases h), ?_⟩
  replace hS := Sep.leave hS3 hC
  obtain ⟨ac1, hac1⟩ : ∃ l, l = x.ac.set q { nth x.ac q with act := true } := ⟨_, rfl⟩
  rw [← hac1] at hS hH
  have ga := Nat.le_of_eq hH.alen.symm
  replace ga : n ≤ ac1.length := ga
  have hvq : IsSlice Ty.int we R (nth ac1 q).vec.v (nth c.now q) := hH.vec q hq
  have hvl := (hi.vec q hq).1
  have hal := hi.arcs; have hfl := hi.fly; have hfl2 := Nat.le_of_eq hH.flen
  replace hfl2 : x.fl.length ≤ c.fly.length := hfl2
  simp only [compParts, List.cons_append, List.nil_append] at hS
  refine q_move rfl rfl ?_
  refine q_build (Parts.cons rfl rfl (Parts.cons rfl rfl (Parts.cons rfl rfl Parts.nil))) rfl rfl ?_
  refine q_allocB rfl fun w7 bl7 hg7 hb7 hB7 => ?_
  replace hH := hH.ext hB7
  replace hvq := hvq.ext hB7
  replace hS := hS.newBlk hB7 hg7 hb7
  refine q_storeAgg rfl rfl (hS.blk 0 rfl) rfl (Nat.le_of_ble_eq_true rfl) (all_cons rfl (all_cons rfl (all_cons rfl (all_cons rfl (all_nil))))) rfl rfl fun w8 hb8 hO8 => ?_
  simp only [setN, List.take, List.drop, List.set] at hb8
  have hk8 := hS.keptBlk 0 rfl hO8
  replace hH := hH.kept hk8
  replace hvq := hvq.kept hk8
  replace hS := hS.setBlk 0 rfl hb8 hO8; simp only [List.set] at hS
  refine eseq_nil ?_
  refine hK _ _ ?_; clear hK
  refine e_seq fun K hK => ?_
  refine e_region_text rfl ?_
  refine q_move rfl rfl ?_
  refine q_nilCheck rfl rfl ?_
  refine q_field rfl rfl ?_
  refine q_load rfl (Blk.cell (hS.blk 1 rfl) rfl) rfl ?_
  refine q_move rfl rfl ?_
  first | refine q_indexn rfl rfl (by omega) rfl ?_ | refine q_index rfl rfl ⟨by omega, by omega⟩ rfl ?_
  refine q_field rfl rfl ?_
  refine q_storeOwn rfl rfl (hS.own 10 rfl) (by first | omega | (simp; omega)) rfl rfl rfl (fun _ h => h.elim) ({ nth ac1 q with sent := true }) rfl fun w9 hw9 hO9 => ?_
  have hk9 := hS.keptOwnO 10 rfl hO9
  replace hH := hH.kept hk9
  replace hvq := hvq.kept hk9
  replace hS := hS.putOwn 10 rfl hw9 hO9; simp only [List.set] at hS
  refine eseq_nil ?_
  refine hK _ _ ?_; clear hK
  refine e_seq fun K hK => ?_
  refine e_region_draw mixed (fun _ => False) [0, 0, 2, 6, 14, 0, 32, 96, 224, 480, 0, 1024, 3072, 7168, 0, 31744, 64512, 130048, 261120, 524256, 1048544, 2097150, 4194303, 8388607, 16777215] [18, 20] [0, 1, 2, 3, 4, 5, 6, 7, 8, 9, 10, 11, 12, 13, 14, 15, 16, 17, 18, 19, 20, 21, 22, 23, 24] (by kernel_rfl) ?_
  refine q_move rfl rfl ?_
  refine q_move rfl rfl ?_
  refine q_nilCheck rfl rfl ?_
  refine q_field rfl rfl ?_
  refine q_load rfl (Blk.cell (hS.blk 1 rfl) rfl) rfl ?_
  refine q_move rfl rfl ?_
  refine q_nilCheck rfl rfl ?_
  refine q_field rfl rfl ?_
  refine q_load rfl (Blk.cell (hS.blk 1 rfl) rfl) rfl ?_
  refine q_lenS rfl (hS.isl 5 rfl) rfl ?_
  refine q_move rfl rfl ?_
  refine q_nilCheck rfl rfl ?_
  refine q_field rfl rfl ?_
  refine q_load rfl (Blk.cell (hS.blk 1 rfl) rfl) rfl ?_
  refine q_move rfl rfl ?_
  first | refine q_indexn rfl rfl (by omega) rfl ?_ | refine q_index rfl rfl ⟨by omega, by omega⟩ rfl ?_
  refine q_field rfl rfl ?_
  refine q_load rfl (Own.cellAt (hS.own 10 rfl) _ 0 (by first | omega | (simp; omega)) rfl) rfl ?_
  have e1 : nth (ac1.set q { nth ac1 q with sent := true }) q = { nth ac1 q with sent := true } := by rw [nth_setC (by omega), if_pos rfl]
  rw [e1]
  refine q_call rfl (clone26 (Sep.enter (As := []) hS) hvq (by omega)) rfl ?_
  rintro v63 wc hC2; refine ⟨fun _ => .of_below (feet_nil hC2.step), ?_⟩
  have hkc := hC2.keptR (Sep.offFeet (As := []) hS)
  replace hH := hH.kept hkc
  replace hvq := hvq.kept hkc
  replace hS := Sep.leave (As := []) hS hC2
  simp only [List.cons_append, List.nil_append] at hS
  have ho := hS.own 0 rfl
  obtain ⟨R1, hS, hm1, hf1⟩ := hS.freezeO 0 rfl; simp only [List.eraseIdx] at hS
  replace hH := hH.mono fun k hk _ => hm1 k hk
  replace hvq := hvq.mono fun k hk _ => hm1 k hk
  have hw1 : IsSlice Ty.int wc R1 v63 (nth c.now q) := (Own.reads ho).mono fun k hk _ => hk.elim (fun h => h.elim) (fun h => hf1 k h)
  refine q_build (Parts.cons rfl rfl (Parts.cons rfl (cells_one hw1.one) Parts.nil)) rfl rfl ?_
  refine q_slice1 rfl rfl rfl rfl rfl rfl fun w10 bl10 hg10 hb10 hB10 => ?_
  replace hH := hH.ext hB10
  replace hvq := hvq.ext hB10
  replace hw1 := hw1.ext hB10
  replace hS := hS.below hB10
  refine q_append1 (u := (⟨c.arcs.length, ⟨v63, hw1.one⟩⟩ : NoteC)) rfl rfl rfl rfl (hS.own 11 rfl) rfl hb10 (noteR.2 rfl) (by omega) (Nat.zero_le _) rfl (fun h => by cases h) fun v66 w11 hw11 hgr11 hnw11 => ?_
  have hk11 := hS.keptOwn 11 rfl hgr11
  replace hH := hH.kept hk11
  replace hvq := hvq.kept hk11
  replace hw1 := hw1.kept hk11
  replace hS := hS.setOwn 11 rfl hw11 hgr11 hnw11; simp only [List.set] at hS
  refine q_nilCheck rfl rfl ?_
  refine q_field rfl rfl ?_
  refine q_store rfl rfl (hS.blk 1 rfl) (Nat.le_of_ble_eq_true rfl) (hS.own 11 rfl).one rfl rfl fun w12 hb12 hO12 => ?_
  have hk12 := hS.keptBlk 1 rfl hO12
  replace hH := hH.kept hk12
  replace hvq := hvq.kept hk12
  replace hw1 := hw1.kept hk12
  replace hS := hS.setBlk 1 rfl hb12 hO12; simp only [List.set] at hS
  refine eseq_nil ?_
  refine hK _ _ ?_; clear hK
  refine e_region_draw mixed (fun _ => False) [0, 0, 2, 6, 14, 0, 32, 126, 255, 511, 1023] [6] [0, 1, 2, 3, 4, 5, 6, 7, 8, 9, 10] (by kernel_rfl) ?_
  refine q_move rfl rfl ?_
  refine q_move rfl rfl ?_
  refine q_nilCheck rfl rfl ?_
  refine q_field rfl rfl ?_
  refine q_load rfl (Blk.cell (hS.blk 1 rfl) rfl) rfl ?_
  refine q_loadAgg rfl (Blk.cellsAt (hS.blk 0 rfl) 0 4 rfl) rfl rfl ?_
  refine q_slice1 rfl rfl rfl rfl rfl rfl fun w13 bl13 hg13 hb13 hB13 => ?_
  replace hH := hH.ext hB13
  replace hvq := hvq.ext hB13
  replace hw1 := hw1.ext hB13
  replace hS := hS.below hB13
  refine q_append1 (u := (⟨q, nth c.lens q + 1, to, 0⟩ : Arc)) rfl rfl rfl rfl (hS.own 5 rfl) rfl hb13 (arcR.2 rfl) (by omega) (Nat.zero_le _) rfl (fun h => by cases h) fun v76 w14 hw14 hgr14 hnw14 => ?_
  have hk14 := hS.keptOwn 5 rfl hgr14
  replace hH := hH.kept hk14
  replace hvq := hvq.kept hk14
  replace hw1 := hw1.kept hk14
  replace hS := hS.setOwn 5 rfl hw14 hgr14 hnw14; simp only [List.set] at hS
  refine q_nilCheck rfl rfl ?_
  refine q_field rfl rfl ?_
  refine q_store rfl rfl (hS.blk 1 rfl) (Nat.le_of_ble_eq_true rfl) (hS.own 5 rfl).one rfl rfl fun w15 hb15 hO15 => ?_
  have hk15 := hS.keptBlk 1 rfl hO15
  replace hH := hH.kept hk15
  replace hvq := hvq.kept hk15
  replace hw1 := hw1.kept hk15
  replace hS := hS.setBlk 1 rfl hb15 hO15; simp only [List.set] at hS
  refine eseq_nil ?_
  have hS9 := hS.tail
  rw [hsend]
  refine ⟨_, res0 rfl, rfl, R1, { x with ac := ac1.set q { nth ac1 q with sent := true }, vA := v76, vG := v66, fl := x.fl ++ [⟨c.arcs.length, ⟨v63, hw1.one⟩⟩] }, rfl, rfl, hS9, ?_⟩
  exact {
    caps := hH.caps
    vlen := hH.vlen
    vecs := hH.vecs
    alen := by simpa using hH.alen
    vec := fun i hi2 => by
      have := hH.vec i hi2
      simp only at this ⊢
      rw [nth_setC (by omega)]
      split
      · subst i; exact this
      · exact this
    sent := fun i hi2 => by
      have := hH.sent i hi2
      have g6 := Nat.le_of_eq hi.sent.symm
      simp only at this ⊢
      rw [nth_setC (by omega), nth_setC (by omega)]
      split
      · rfl
      · exact this
    act := fun i hi2 => by
      have := hH.act i hi2
      simp only at this ⊢
      rw [nth_setC (l := ac1) (by omega)]
      split
      · subst i; exact this
      · exact this
    flen := by have := hH.flen; simp only at this; simp [this]
    arc := fun i hi2 => by
      have h0 := hH.flen
      have := hH.arc i
      simp only at this h0 ⊢
      simp at hi2
      rw [nth_snocC, nth_snocC, h0]
      split
      · rfl
      · exact this (by omega)
    note := fun i hi2 => by
      have h0 := hH.flen
      have := hH.note i
      simp only at this h0 ⊢
      simp at hi2
      rw [nth_snocC, nth_snocC, h0]
      split
      · exact hw1
      · exact this (by omega) }
end Go.Proofs.Ytbmjcbhappjnaaa
