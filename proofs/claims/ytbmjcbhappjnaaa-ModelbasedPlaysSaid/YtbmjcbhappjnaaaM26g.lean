/- Play of chapter 26. -/
import Derived.Test.YtbmjcbhappjnaaaM26f
import Derived.Test.YtbmjcbhappjnaaaHist
set_option linter.unusedSimpArgs false
set_option linter.unusedVariables false
namespace Go.Mine
open Go.RowKit
def C26.hist (c : C26) : HistV := ⟨c.lens, c.ckpts, c.arcs, [], c.vecs, c.forced⟩
def play26E (n rule : Int) (l : List Deed) : HistV × Int :=
  if (decide (n < 1) || decide (5 < n) || decide (rule < 1) || decide (4 < rule)) = true then (.none, 3) else if 200 < l.length then (.none, 4) else ((C26.run n.toNat rule l).hist, 0)
theorem IsSlice.deep2 {w : World} {S R : Nat → Prop} {v : Value} {cs : List (List Cell)} {xs : List (List (List Int))} (hs : IsSlice Ty.cell.slice w S v cs) (hl : cs.length = xs.length) (h : ∀ q, q < cs.length → Vecs w R (nth cs q) (nth xs q)) : IsSlice Ty.int.slice.slice w (fun k => S k ∨ R k) v xs := by
  obtain ⟨ad, cap, h1, h2, h3, h4, h5⟩ := hs
  refine ⟨ad, cap, by rw [← hl]; exact h1, by omega, h3, fun a ha hne => h4 a ha (by intro he; subst he; exact hne (by simpa using hl.symm)), fun i hi => ?_⟩
  obtain ⟨b, off, he, hm, hlt, c, hc, u, hu, hI⟩ := h5 i (by omega)
  refine ⟨b, off, he, .inl hm, hlt, c, hc, u, hu, ?_⟩
  have h6 := h i (by omega)
  rw [nth_eq (by omega), nth_eq hi] at h6
  exact hI.deep h6
end Go.Mine
namespace Go.Proofs.Ytbmjcbhappjnaaa
open Go.RowKit Go.Mine
attribute [local irreducible] eseq ewp nth
variable {w : World}

theorem play26 {S : Nat → Prop} {vD : Value} {l : List Deed} (n rule : Int) (hD : IsSlice deedTy w S vD l) (hll : l.length ≤ 1000000000) :
    Gives Try.prog 14 [.int .i64 n, .int .i64 rule, vD] w fun v w' => ∃ vL vC vA vK vV vF, v = .tuple #[.agg #[vL, vC, vA, vK, vV, vF], .int .i64 (play26E n rule l).2] ∧ HistAt w' (fun k => w.heap.size ≤ k) vL vC vA vK vV vF (play26E n rule l).1 ∧ Below w.heap.size w w' := by
  replace hD := hD.old
  have hD0 := hD
  have hS := Sep.start0 w
  refine fn_of Try.func14 rfl Try.ntmps14 (Nat.le_of_ble_eq_true rfl) ?_
  have hT := Below.refl w.heap.size w
  refine e_seq fun K hK => ?_
  refine e_region_text rfl ?_
  refine q_allocB rfl fun w1 bl1 hg1 hb1 hB1 => ?_
  replace hS := hS.newBlk hB1 hg1 hb1
  refine q_assign rfl rfl ?_
  refine eseq_nil ?_
  refine hK _ _ ?_; clear hK
  refine e_seq fun K hK => ?_
  refine e_seq fun K hK => ?_
  refine e_region_text rfl ?_
  refine q_move rfl rfl ?_
  refine q_lss rfl rfl rfl ?_
  refine q_move rfl rfl ?_
  refine g_or 2 rfl trivial rfl rfl ?_; apply Exists.intro; refine ⟨fun hg => ?_, fun hg => ?_, fun wm2 hBm2 => ?_⟩
  · have hg0 := hg
    refine g_skip rfl rfl rfl ?_
    refine g_skip rfl rfl rfl ?_
    exact eseq_nil ⟨rfl, Sub.set rfl (Sub.set rfl (Sub.bool true rfl hg0))⟩
  · have hg0 := hg
    have hTm2 := Below.refl (World.heap w1).size w1
    try simp at hg
    refine g_run rfl ?_; refine q_move rfl rfl ?_
    refine g_run rfl ?_; refine q_gtr rfl rfl rfl ?_
    exact eseq_nil ⟨hTm2, Sub.set rfl (Sub.set rfl (Sub.bool false rfl hg0)), rfl⟩
  replace hS := hS.below hBm2
  refine q_move rfl rfl ?_
  refine g_or 2 rfl trivial rfl rfl ?_; apply Exists.intro; refine ⟨fun hg => ?_, fun hg => ?_, fun wm3 hBm3 => ?_⟩
  · have hg0 := hg
    refine g_skip rfl rfl rfl ?_
    refine g_skip rfl rfl rfl ?_
    exact eseq_nil ⟨rfl, Sub.set rfl (Sub.set rfl (Sub.bool true rfl hg0))⟩
  · have hg0 := hg
    have hTm3 := Below.refl (World.heap wm2).size wm2
    try simp at hg
    refine g_run rfl ?_; refine q_move rfl rfl ?_
    refine g_run rfl ?_; refine q_lss rfl rfl rfl ?_
    exact eseq_nil ⟨hTm3, Sub.set rfl (Sub.set rfl (Sub.bool false rfl hg0)), rfl⟩
  replace hS := hS.below hBm3
  refine q_move rfl rfl ?_
  refine g_or 2 rfl trivial rfl rfl ?_; apply Exists.intro; refine ⟨fun hg => ?_, fun hg => ?_, fun wm4 hBm4 => ?_⟩
  · have hg0 := hg
    refine g_skip rfl rfl rfl ?_
    refine g_skip rfl rfl rfl ?_
    exact eseq_nil ⟨rfl, Sub.set rfl (Sub.set rfl (Sub.bool true rfl hg0))⟩
  · have hg0 := hg
    have hTm4 := Below.refl (World.heap wm3).size wm3
    try simp at hg
    refine g_run rfl ?_; refine q_move rfl rfl ?_
    refine g_run rfl ?_; refine q_gtr rfl rfl rfl ?_
    exact eseq_nil ⟨hTm4, Sub.set rfl (Sub.set rfl (Sub.bool false rfl hg0)), rfl⟩
  replace hS := hS.below hBm4
  refine eseq_nil ?_
  refine hK _ _ ?_; clear hK
  refine e_cond rfl (fun hc1 => ?_) (fun hc1 => ?_)
  · skip
    refine e_seq fun K hK => ?_
    refine e_region_text rfl ?_
    refine q_build Parts.nil rfl rfl ?_
    refine q_storeAgg rfl rfl (hS.blk 0 rfl) rfl (Nat.le_of_ble_eq_true rfl) (all_cons rfl (all_cons rfl (all_cons rfl (all_cons rfl (all_cons rfl (all_cons rfl (all_nil))))))) rfl rfl fun w5 hb5 hO5 => ?_
    simp only [setN, List.take, List.drop, List.set] at hb5
    have hk5 := hS.keptBlk 0 rfl hO5
    replace hS := hS.setBlk 0 rfl hb5 hO5; simp only [List.set] at hS
    refine q_assign rfl rfl ?_
    refine eseq_nil ?_
    refine hK _ _ ?_; clear hK
    refine e_ret ?_
    have e1 : play26E n rule l = (.none, 3) := by rw [play26E, if_pos hc1]
    rw [e1]
    exact ⟨_, resC2 rfl rfl ((hS.blk 0 rfl).cellsAt 0 6 rfl) rfl rfl, _, _, _, _, _, _, rfl, ⟨.nil _ _ _, .nil _ _ _, .nil _ _ _, .nil _ _ _, .nil _ _ _, .nil _ _ _⟩, hS.step.below⟩
  have hn : 1 ≤ n ∧ n ≤ 5 := by simp at hc1; omega
  replace hD := hD0.ext hS.step.below
  refine e_skip ?_
  refine hK _ _ ?_; clear hK
  refine e_seq fun K hK => ?_
  refine e_seq fun K hK => ?_
  refine e_region_text rfl ?_
  refine q_move rfl rfl ?_
  refine q_lenS rfl hD rfl ?_
  refine q_gtr rfl rfl rfl ?_
  refine eseq_nil ?_
  refine hK _ _ ?_; clear hK
  refine e_cond rfl (fun hc2 => ?_) (fun hc2 => ?_)
  · skip
    refine e_seq fun K hK => ?_
    refine e_region_text rfl ?_
    refine q_build Parts.nil rfl rfl ?_
    refine q_storeAgg rfl rfl (hS.blk 0 rfl) rfl (Nat.le_of_ble_eq_true rfl) (all_cons rfl (all_cons rfl (all_cons rfl (all_cons rfl (all_cons rfl (all_cons rfl (all_nil))))))) rfl rfl fun w6 hb6 hO6 => ?_
    simp only [setN, List.take, List.drop, List.set] at hb6
    have hk6 := hS.keptBlk 0 rfl hO6
    replace hS := hS.setBlk 0 rfl hb6 hO6; simp only [List.set] at hS
    refine q_assign rfl rfl ?_
    refine eseq_nil ?_
    refine hK _ _ ?_; clear hK
    refine e_ret ?_
    have e1 : play26E n rule l = (.none, 4) := by rw [play26E, if_neg (by rw [hc1]; simp), if_pos (by simp at hc2; omega)]
    rw [e1]
    exact ⟨_, resC2 rfl rfl ((hS.blk 0 rfl).cellsAt 0 6 rfl) rfl rfl, _, _, _, _, _, _, rfl, ⟨.nil _ _ _, .nil _ _ _, .nil _ _ _, .nil _ _ _, .nil _ _ _, .nil _ _ _⟩, hS.step.below⟩
  have hl2 : l.length ≤ 200 := by simp at hc2; omega
  obtain ⟨nn, rfl⟩ := Int.eq_ofNat_of_zero_le (show 0 ≤ n by omega)
  have hplay : play26E nn rule l = ((C26.run nn rule l).hist, 0) := by rw [play26E, if_neg (by rw [hc1]; simp), if_neg (by omega)]; simp
  refine e_skip ?_
  refine hK _ _ ?_; clear hK
  refine e_seq fun K hK => ?_
  refine e_region_text rfl ?_
  refine q_move rfl rfl ?_
  refine q_move rfl rfl ?_
  refine q_call rfl (begin26 (Sep.enter (As := []) hS) nn (by omega) (by omega) rule) rfl ?_
  rintro _ wb ⟨R0, x0, rfl, hC0, hH0⟩; refine ⟨(fun h => by cases h), ?_⟩
  have hS1 := Sep.leave (As := []) hS hC0
  obtain ⟨B, hBx⟩ : ∃ B, B = x0.B := ⟨_, rfl⟩
  rw [← hBx]
  clear hS hD
  have hD := hD0.ext hS1.step.below
  refine q_assign rfl rfl ?_
  refine eseq_nil ?_
  refine hK _ _ ?_; clear hK
  refine e_seq fun K hK => ?_
  refine e_seq fun K hK => ?_
  refine e_region_text rfl ?_
  refine q_move rfl rfl ?_
  refine q_lenS rfl hD rfl ?_
  refine q_move rfl rfl ?_
  refine eseq_nil ?_
  refine hK _ _ ?_; clear hK
  refine e_block ?_
  refine e_loop (fun m E wx => ∃ (k : Nat) (R1 : Nat → Prop) (x : CN), k ≤ l.length ∧ x.B = B ∧ Sep (fun _ => False) (fun _ => False) R1 w wx (compParts nn rule x (C26.run nn rule (l.take k)) ++ [HP.blk bl1 [.slice none 0 0, .slice none 0 0, .slice none 0 0, .slice none 0 0, .slice none 0 0, .slice none 0 0] 35]) ∧ Held wx R1 nn x (C26.run nn rule (l.take k)) ∧
    m = l.length - k ∧ E = [(6, .pointer (some ⟨bl1, 0, none⟩)), (8, .pointer (some ⟨B, 0, none⟩)), (33, vD), (34, .int .i64 l.length), (35, .int .i64 k)]) _ ⟨_, ⟨0, R0, x0, by omega, hBx.symm, hS1, hH0, rfl, rfl⟩, Sub.cons rfl (Sub.cons rfl (Sub.cons rfl (Sub.cons rfl (Sub.cons rfl (Sub.nil _)))))⟩ ?_
  clear hS1 hC0 hBx hH0 hD
  rintro m E wx ⟨k, R1, x, hk, hB, hS, hH, rfl, rfl⟩
  subst hB
  have hD := hD0.ext hS.step.below
  simp only [compParts, List.cons_append, List.nil_append] at hS
  have hinv := C26.Inv.run (n := nn) (rule := rule) (l := l.take k)
  have hlk : (l.take k).length ≤ 200 := by simp; omega
  refine e_seq fun K hK => ?_
  refine e_region_text rfl ?_
  refine q_lss rfl rfl rfl ?_
  refine eseq_nil ?_
  refine hK _ _ ?_; clear hK
  refine e_seq fun K hK => ?_
  refine e_cond rfl (fun hif => ?_) (fun hif => ?_)
  · skip
    have hlt : k < l.length := by simpa using hif
    have hrun : C26.run nn rule (l.take (k + 1)) = (C26.run nn rule (l.take k)).deed rule (nth l k) := by rw [nth_eq hlt]; exact foldl_take hlt
    generalize C26.run nn rule (l.take k) = c at hS hH hinv hrun
    have ga := Nat.le_of_eq hH.alen.symm
    refine e_skip ?_
    refine hK _ _ ?_; clear hK
    refine e_seq fun K hK => ?_
    refine e_block ?_
    refine e_seq fun K hK => ?_
    refine e_region_text rfl ?_
    first | refine q_indexSn (by infer_instance) rfl hD rfl (by first | omega | decide) rfl fun b37 o37 f37 => ?_ | refine q_indexS (by infer_instance) rfl hD rfl (by first | omega | decide) (by first | omega | decide) rfl fun b37 o37 f37 => ?_
    refine q_loadAgg rfl (ActL f37) rfl rfl ?_
    refine q_allocB rfl fun w7 bl7 hg7 hb7 hB7 => ?_
    replace hH := hH.ext hB7
    replace hS := hS.newBlk hB7 hg7 hb7
    refine q_storeAgg rfl rfl (hS.blk 0 rfl) rfl (Nat.le_of_ble_eq_true rfl) (all_cons rfl (all_cons rfl (all_cons rfl (all_nil)))) rfl rfl fun w8 hb8 hO8 => ?_
    simp only [setN, List.take, List.drop, List.set] at hb8
    have hk8 := hS.keptBlk 0 rfl hO8
    replace hH := hH.kept hk8
    replace hS := hS.setBlk 0 rfl hb8 hO8; simp only [List.set] at hS
    refine eseq_nil ?_
    refine hK _ _ ?_; clear hK
    refine e_seq fun K hK => ?_
    refine e_region_text rfl ?_
    refine q_field rfl rfl ?_
    refine q_load rfl (Blk.cell (hS.blk 0 rfl) rfl) rfl ?_
    refine eseq_nil ?_
    refine hK _ _ ?_; clear hK
    refine e_block ?_
    refine e_seq fun K hK => ?_
    refine e_region_text rfl ?_
    refine q_eql rfl rfl rfl ?_
    refine q_assign rfl rfl ?_
    refine eseq_nil ?_
    refine hK _ _ ?_; clear hK
    refine e_cond rfl (fun hk1 => ?_) (fun hk1 => ?_)
    · skip
      have hk1 : (nth l k).kind = 1 := by simpa using hk1
      have hdeed : c.deed rule (nth l k) = c.send (nth l k).proc (nth l k).other := by rw [C26.deed, if_pos hk1]
      refine e_region_text rfl ?_
      refine q_move rfl rfl ?_
      refine q_field rfl rfl ?_
      refine q_load rfl (Blk.cell (hS.blk 0 rfl) rfl) rfl ?_
      refine q_field rfl rfl ?_
      refine q_load rfl (Blk.cell (hS.blk 0 rfl) rfl) rfl ?_
      have hS2 := hS.order [1, 2, 3, 4, 5, 6, 7, 8, 9, 10, 11, 12, 0] 13 rfl (by decide)
      simp only [List.map_cons, List.map_nil, List.getD_cons_zero, List.getD_cons_succ] at hS2
      have hS3 : Sep (fun _ => False) (fun _ => False) R1 w _ (compParts nn rule x c ++ [_, _]) := hS2
      refine q_call rfl (send26 (Sep.enter hS3) hH hinv (by omega) (by omega) (nth l k).proc (nth l k).other) rfl ?_
      rintro _ wy ⟨rfl, Ry, x', hB', hP', hC, hHy⟩; refine ⟨(fun h => by cases h), ?_⟩
      have hS4 := (Sep.leave hS3 hC).erase 12 rfl
      simp only [compParts, List.cons_append, List.nil_append, List.eraseIdx] at hS4
      refine eseq_nil ?_
      refine hK _ _ ?_; clear hK
      refine e_region_text rfl ?_
      refine q_add rfl rfl (wr64 (by omega) (by omega)) rfl ?_
      refine q_move rfl rfl ?_
      refine eseq_nil ?_
      refine ⟨l.length - (k + 1), _, by omega, ⟨k + 1, Ry, x', by omega, hB', ?_, ?_, rfl, rfl⟩, Sub.cons rfl (Sub.cons rfl (Sub.cons rfl (Sub.cons rfl (Sub.cons rfl (Sub.nil _)))))⟩
      · rw [hrun, hdeed]; exact hS4
      · rw [hrun, hdeed]; exact hHy
    have hk1 : ¬ (nth l k).kind = 1 := by simpa using hk1
    refine e_seq fun K hK => ?_
    refine e_region_text rfl ?_
    refine q_eql rfl rfl rfl ?_
    refine q_assign rfl rfl ?_
    refine eseq_nil ?_
    refine hK _ _ ?_; clear hK
    refine e_cond rfl (fun hk2 => ?_) (fun hk2 => ?_)
    · skip
      have hk2 : (nth l k).kind = 2 := by simpa using hk2
      have hdeed : c.deed rule (nth l k) = c.receive rule (nth l k).other := by rw [C26.deed, if_neg hk1, if_pos hk2]
      refine e_region_text rfl ?_
      refine q_move rfl rfl ?_
      refine q_field rfl rfl ?_
      refine q_load rfl (Blk.cell (hS.blk 0 rfl) rfl) rfl ?_
      have hS2 := hS.order [1, 2, 3, 4, 5, 6, 7, 8, 9, 10, 11, 12, 0] 13 rfl (by decide)
      simp only [List.map_cons, List.map_nil, List.getD_cons_zero, List.getD_cons_succ] at hS2
      have hS3 : Sep (fun _ => False) (fun _ => False) R1 w _ (compParts nn rule x c ++ [_, _]) := hS2
      refine q_call rfl (receive26 (Sep.enter hS3) hH hinv (by omega) (by omega) (by omega) (nth l k).other) rfl ?_
      rintro _ wy ⟨rfl, Ry, x', hB', hP', hC, hHy⟩; refine ⟨(fun h => by cases h), ?_⟩
      have hS4 := (Sep.leave hS3 hC).erase 12 rfl
      simp only [compParts, List.cons_append, List.nil_append, List.eraseIdx] at hS4
      refine eseq_nil ?_
      refine hK _ _ ?_; clear hK
      refine e_region_text rfl ?_
      refine q_add rfl rfl (wr64 (by omega) (by omega)) rfl ?_
      refine q_move rfl rfl ?_
      refine eseq_nil ?_
      refine ⟨l.length - (k + 1), _, by omega, ⟨k + 1, Ry, x', by omega, hB', ?_, ?_, rfl, rfl⟩, Sub.cons rfl (Sub.cons rfl (Sub.cons rfl (Sub.cons rfl (Sub.cons rfl (Sub.nil _)))))⟩
      · rw [hrun, hdeed]; exact hS4
      · rw [hrun, hdeed]; exact hHy
    have hk2 : ¬ (nth l k).kind = 2 := by simpa using hk2
    refine e_seq fun K hK => ?_
    refine e_region_text rfl ?_
    refine q_eql rfl rfl rfl ?_
    refine q_assign rfl rfl ?_
    refine eseq_nil ?_
    refine hK _ _ ?_; clear hK
    refine e_cond rfl (fun hk3 => ?_) (fun hk3 => ?_)
    · skip
      have hk3 : (nth l k).kind = 3 := by simpa using hk3
      have hd0 : c.deed rule (nth l k) = c.tick (nth l k).proc := by rw [C26.deed, if_neg hk1, if_neg hk2, if_pos hk3]
      refine e_seq fun K hK => ?_
      refine e_region_draw mixed (fun _ => False) [0, 0, 2, 7, 15, 31, 63, 127, 255, 31, 543, 2047, 4095, 8191, 16383] [] [0, 1, 2, 3, 4, 5, 6, 7, 8, 9, 10, 11, 12, 13, 14] (by kernel_rfl) ?_
      refine q_move rfl rfl ?_
      refine q_field rfl rfl ?_
      refine q_load rfl (Blk.cell (hS.blk 0 rfl) rfl) rfl ?_
      refine q_call rfl (process26 (x := x) (c := c) (Sep.enter (As := compParts nn rule x c) (Ds := [_, _]) (hS.order [1, 2, 3, 4, 5, 6, 7, 8, 9, 10, 11, 12, 0] 13 rfl (by decide))) (by omega) (nth l k).proc) rfl ?_
      rintro _ w9 ⟨rfl, hB9⟩; refine ⟨fun _ => .of_below hB9, ?_⟩
      replace hH := hH.ext hB9
      replace hS := hS.below hB9
      refine q_move rfl rfl ?_
      refine g_and 9 rfl trivial rfl rfl ?_; apply Exists.intro; refine ⟨fun hg => ?_, fun hg => ?_, fun wm10 hBm10 => ?_⟩
      · have hg0 := hg
        have hTm10 := Below.refl (World.heap w9).size w9
        try simp at hg
        have hpn : 0 ≤ (nth l k).proc ∧ (nth l k).proc < nn := by simp_all
        refine g_run rfl ?_; refine q_move rfl rfl ?_
        refine g_run rfl ?_; refine q_nilCheck rfl rfl ?_
        refine g_run rfl ?_; refine q_field rfl rfl ?_
        refine g_run rfl ?_; refine q_load rfl (Blk.cell (hS.blk 1 rfl) rfl) rfl ?_
        refine g_run rfl ?_; refine q_field rfl rfl ?_
        refine g_run rfl ?_; refine q_load rfl (Blk.cell (hS.blk 0 rfl) rfl) rfl ?_
        refine g_run rfl ?_; first | refine q_indexn rfl rfl (by omega) rfl ?_ | refine q_index rfl rfl ⟨by omega, by omega⟩ rfl ?_
        refine g_run rfl ?_; refine q_field rfl rfl ?_
        refine g_run rfl ?_; refine q_load rfl (Own.cellAt (hS.own 10 rfl) _ 2 (by first | omega | (simp; omega)) rfl) rfl ?_
        exact eseq_nil ⟨hTm10, Sub.set rfl (Sub.set rfl (Sub.set rfl (Sub.set rfl (Sub.set rfl (Sub.set rfl (Sub.set rfl (Sub.set rfl (Sub.set rfl (Sub.bool true rfl hg0))))))))), rfl⟩
      · have hg0 := hg
        refine g_skip rfl rfl rfl ?_
        refine g_skip rfl rfl rfl ?_
        refine g_skip rfl rfl rfl ?_
        refine g_skip rfl rfl rfl ?_
        refine g_skip rfl rfl rfl ?_
        refine g_skip rfl rfl rfl ?_
        refine g_skip rfl rfl rfl ?_
        refine g_skip rfl rfl rfl ?_
        refine g_skip rfl rfl rfl ?_
        exact eseq_nil ⟨rfl, Sub.set rfl (Sub.set rfl (Sub.set rfl (Sub.set rfl (Sub.set rfl (Sub.set rfl (Sub.set rfl (Sub.set rfl (Sub.set rfl (Sub.bool false rfl hg0)))))))))⟩
      replace hH := hH.ext hBm10
      replace hS := hS.below hBm10
      refine eseq_nil ?_
      refine hK _ _ ?_; clear hK
      refine e_cond rfl (fun hp => ?_) (fun hp => ?_)
      · skip
        have hpn : (0 ≤ (nth l k).proc ∧ (nth l k).proc < nn) ∧ (nth x.ac (nth l k).proc.toNat).act = true := by simpa using hp
        obtain ⟨q, hqq⟩ := Int.eq_ofNat_of_zero_le hpn.1.1
        have hq : q < nn := by omega
        have hdeed : c.deed rule (nth l k) = c.checkpoint q false := by
          rw [hd0, C26.tick, if_pos]
          · rw [hqq, Int.toNat_natCast]
          · have h9 := hpn.2
            rw [hqq, Int.toNat_natCast] at h9 ⊢
            rw [hH.act q hq] at h9
            rw [hinv.act, h9]; simp; omega
        refine e_region_text rfl ?_
        refine q_move rfl rfl ?_
        refine q_field rfl rfl ?_
        refine q_load rfl (Blk.cell (hS.blk 0 rfl) rfl) rfl ?_
        rw [hqq]
        have hS2 := hS.order [1, 2, 3, 4, 5, 6, 7, 8, 9, 10, 11, 12, 0] 13 rfl (by decide)
        simp only [List.map_cons, List.map_nil, List.getD_cons_zero, List.getD_cons_succ] at hS2
        have hS3 : Sep (fun _ => False) (fun _ => False) R1 w _ (compParts nn rule x c ++ [_, _]) := hS2
        refine q_call rfl (checkpoint26 (Sep.enter hS3) hH hinv (by omega) (by omega) (by omega) q hq false) rfl ?_
        rintro _ wy ⟨rfl, Ry, x', hB', hP', hC, hHy⟩; refine ⟨(fun h => by cases h), ?_⟩
        have hS4 := (Sep.leave hS3 hC).erase 12 rfl
        simp only [compParts, List.cons_append, List.nil_append, List.eraseIdx] at hS4
        refine eseq_nil ?_
        refine hK _ _ ?_; clear hK
        refine e_region_text rfl ?_
        refine q_add rfl rfl (wr64 (by omega) (by omega)) rfl ?_
        refine q_move rfl rfl ?_
        refine eseq_nil ?_
        refine ⟨l.length - (k + 1), _, by omega, ⟨k + 1, Ry, x', by omega, hB', ?_, ?_, rfl, rfl⟩, Sub.cons rfl (Sub.cons rfl (Sub.cons rfl (Sub.cons rfl (Sub.cons rfl (Sub.nil _)))))⟩
        · rw [hrun, hdeed]; exact hS4
        · rw [hrun, hdeed]; exact hHy
      · skip
        have hdeed : c.deed rule (nth l k) = c := by
          rw [hd0, C26.tick, if_neg]
          rw [hinv.act]
          intro h9
          simp only [Bool.and_eq_true, decide_eq_true_eq] at h9
          have h8 := hH.act (nth l k).proc.toNat (by omega)
          rw [h9.2] at h8
          simp [h9.1.1, h9.1.2, h8] at hp
        refine e_skip ?_
        refine hK _ _ ?_; clear hK
        refine e_region_text rfl ?_
        refine q_add rfl rfl (wr64 (by omega) (by omega)) rfl ?_
        refine q_move rfl rfl ?_
        refine eseq_nil ?_
        have hS4 := hS.tail
        refine ⟨l.length - (k + 1), _, by omega, ⟨k + 1, R1, x, by omega, rfl, ?_, ?_, rfl, rfl⟩, Sub.cons rfl (Sub.cons rfl (Sub.cons rfl (Sub.cons rfl (Sub.cons rfl (Sub.nil _)))))⟩
        · rw [hrun, hdeed]; exact hS4
        · rw [hrun, hdeed]; exact hH
    have hk3 : ¬ (nth l k).kind = 3 := by simpa using hk3
    have hdeed : c.deed rule (nth l k) = c := by rw [C26.deed, if_neg hk1, if_neg hk2, if_neg hk3]
    refine e_skip ?_
    refine hK _ _ ?_; clear hK
    refine e_region_text rfl ?_
    refine q_add rfl rfl (wr64 (by omega) (by omega)) rfl ?_
    refine q_move rfl rfl ?_
    refine eseq_nil ?_
    have hS4 := hS.tail
    refine ⟨l.length - (k + 1), _, by omega, ⟨k + 1, R1, x, by omega, rfl, ?_, ?_, rfl, rfl⟩, Sub.cons rfl (Sub.cons rfl (Sub.cons rfl (Sub.cons rfl (Sub.cons rfl (Sub.nil _)))))⟩
    · rw [hrun, hdeed]; exact hS4
    · rw [hrun, hdeed]; exact hH
  · skip
    have hge : k = l.length := by simp at hif; omega
    rw [hge, List.take_length] at hS hinv hH
    generalize C26.run nn rule l = c at hS hinv hplay hH
    have g1 := hinv.lens; have g2 := hinv.ckpts; have g3 := hinv.vecs; have g4 := hinv.forced
    refine e_exit ?_
    clear hK
    refine hK _ _ ?_; clear hK
    refine e_seq fun K hK => ?_
    refine e_region_text rfl ?_
    refine q_move rfl rfl ?_
    refine q_nilCheck rfl rfl ?_
    refine q_field rfl rfl ?_
    refine q_loadAgg rfl (Blk.cellsAt (hS.blk 0 rfl) 0 6 rfl) rfl rfl ?_
    refine q_storeAgg rfl rfl (hS.blk 11 rfl) rfl (Nat.le_of_ble_eq_true rfl) (all_cons rfl (all_cons rfl (all_cons (hS.own 4 rfl).one (all_cons rfl (all_cons rfl (all_cons rfl (all_nil))))))) rfl rfl fun w11 hb11 hO11 => ?_
    simp only [setN, List.take, List.drop, List.set] at hb11
    have hk11 := hS.keptBlk 11 rfl hO11
    replace hH := hH.kept hk11
    replace hS := hS.setBlk 11 rfl hb11 hO11; simp only [List.set] at hS
    refine q_assign rfl rfl ?_
    refine eseq_nil ?_
    refine hK _ _ ?_; clear hK
    refine e_ret ?_
    rw [hplay]
    have hnew := hS.new0
    refine ⟨_, resC2 rfl rfl ((hS.blk 11 rfl).cellsAt 0 6 rfl) rfl rfl, _, _, _, _, _, _, rfl, ⟨?_, ?_, ?_, .nil _ _ _, ?_, ?_⟩, hS.step.below⟩
    · have := Blk.ints (S := fun k => w.heap.size ≤ k) (c := c.lens.length) (hS.blk 1 rfl) (hS.fresh 1 rfl _ rfl) (Nat.le_refl _)
      rw [g1] at this; exact this
    · exact (hS.rowsSlice 2 3 rfl rfl g2.symm hH.caps.1).mono fun k hk _ => hk.elim (fun hk => hk.elim (fun h => hS.fresh 2 rfl _ h) (fun h => hS.fresh 3 rfl _ h)) (fun h => h.elim)
    · exact (Own.reads (hS.own 4 rfl)).mono fun k hk _ => hk.elim (fun h => h.elim) (fun h => hS.fresh 4 rfl _ h)
    · exact (IsSlice.deep2 (hS.rowsSlice 5 6 rfl rfl hH.vlen.symm hH.caps.2.1) (by rw [hH.vlen]; exact g3.symm) (fun q hq => hH.vecs q (by rw [← hH.vlen]; exact hq))).mono fun k hk _ => hk.elim (fun hk => hk.elim (fun hk => hk.elim (fun h => hS.fresh 5 rfl _ h) (fun h => hS.fresh 6 rfl _ h)) (fun h => h.elim)) (hnew k)
    · exact (hS.rowsSlice 7 8 rfl rfl g4.symm hH.caps.2.2).mono fun k hk _ => hk.elim (fun hk => hk.elim (fun h => hS.fresh 7 rfl _ h) (fun h => hS.fresh 8 rfl _ h)) (fun h => h.elim)
end Go.Proofs.Ytbmjcbhappjnaaa
