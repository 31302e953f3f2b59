/- The walk of IndexedRenames. -/
import Derived.Test.YtdpleaifhdlciaaW25l
import Derived.Test.YtdpleaifhdlciaaP25r
set_option linter.unusedVariables false
namespace Go.Mine
theorem per_add (n : Nat) (k : Nat) : Per (fun q => (q + k) % n) n := by
  refine ⟨fun q hq => Nat.mod_lt _ (by omega), fun q r hq hr he => ?_⟩
  have he' : (q + k) % n = (r + k) % n := he
  have h1 := Nat.div_add_mod (q + k) n
  have h2 := Nat.div_add_mod (r + k) n
  have hn : 0 < n := by omega
  rw [he'] at h1
  -- the two sums differ by a multiple of n, and by less than n
  rcases Nat.lt_trichotomy ((q + k) / n) ((r + k) / n) with h3 | h3 | h3
  · have : n * ((q + k) / n) + n ≤ n * ((r + k) / n) := by
      have := Nat.mul_le_mul_left n (show (q + k) / n + 1 ≤ (r + k) / n from h3)
      rw [Nat.mul_add, Nat.mul_one] at this; exact this
    omega
  · rw [h3] at h1; omega
  · have : n * ((r + k) / n) + n ≤ n * ((q + k) / n) := by
      have := Nat.mul_le_mul_left n (show (r + k) / n + 1 ≤ (q + k) / n from h3)
      rw [Nat.mul_add, Nat.mul_one] at this; exact this
    omega
end Go.Mine
namespace Go.Proofs.Ytdpleaifhdlciaa
open Go.RowKit Go.Mine
attribute [local irreducible] eseq ewp
variable {w : World} {S : Nat → Prop}

theorem indexedRenames_walk {v : Value} {l : List Int} (hl : IsSlice Ty.u8 w S v l) (hm : l.length ≤ 9223372036854775807) (hu : ∀ c ∈ l, U8 c) (by_ : Int) (hby : I64 by_) :
    Gives Try.prog 8 [v, .int .i64 by_] w fun v w' => v = .bool true ∧ Below w.heap.size w w' := by
  have hS := Sep.start w
  replace hl := hl.old
  obtain ⟨n, hn, hn2, hn4, hplay⟩ := play_draw l
  have hdl := draw25_len l
  have hk0 := Int.emod_nonneg by_ (show (n : Int) ≠ 0 by omega)
  have hk1 := Int.emod_lt_of_pos by_ (show (0 : Int) < n by omega)
  obtain ⟨k, hk⟩ := Int.eq_ofNat_of_zero_le hk0
  have hsd := Comp.sound (n := n) (l := (draw25 l).2) (by omega) (by omega)
  have hren := Ren.run (per_add n k) (k : Int) (fun q hq => by simp) (draw25 l).2
  have hml : ((draw25 l).2.map (renD n k)).length ≤ 60 := by simpa using hdl
  have hsq := Comp.sound (n := n) (l := (draw25 l).2.map (renD n k)) (by omega) (by omega)
  have hplayq : playE (draw25 l).1 ((draw25 l).2.map (renD n k)) = ((Comp.run n ((draw25 l).2.map (renD n k))).hist, 0) := by
    have h1 := draw25_n l
    rw [playE, if_neg (by simp; omega), if_neg (by omega), hn]; simp
  generalize Comp.run n (draw25 l).2 = c at hplay hsd hren
  generalize Comp.run n ((draw25 l).2.map (renD n k)) = d at hplayq hsq hren
  refine fn_of Try.func8 rfl Try.ntmps8 (Nat.le_of_ble_eq_true rfl) ?_
  have hT := Below.refl w.heap.size w
  refine e_seq fun K hK => ?_
  refine e_region_text rfl ?_
  refine q_assign rfl rfl ?_
  refine eseq_nil ?_
  refine hK _ _ ?_; clear hK
  refine e_seq fun K hK => ?_
  refine e_seq fun K hK => ?_
  refine e_region_text rfl ?_
  refine q_call rfl (awake25) rfl ?_
  rintro _ w1 ⟨rfl, hB1⟩; refine ⟨fun _ => .of_below hB1, ?_⟩
  replace hl := hl.ext hB1
  replace hS := hS.below hB1
  refine q_not rfl rfl ?_
  refine eseq_nil ?_
  refine hK _ _ ?_; clear hK
  refine e_cond rfl (fun hc => ?_) (fun hc => ?_)
  · skip
    cases hc
  refine e_skip ?_
  refine hK _ _ ?_; clear hK
  refine e_seq fun K hK => ?_
  refine e_region_text rfl ?_
  refine q_move rfl rfl ?_
  refine q_call rfl (drawW25 (Sep.enter (As := []) hS) hl hm hu) rfl ?_
  rintro _ w2 ⟨va, R2, rfl, hC2, f8⟩
  refine ⟨(fun h => by cases h), ?_⟩
  have hk2 := hC2.keptR (Sep.offFeet (As := []) hS)
  replace hl := hl.kept hk2
  replace hl := hl.mono fun k hk _ => hC2.ro0 k hk
  replace hS := Sep.leave (As := []) hS hC2; simp only [List.nil_append] at hS
  rw [hn]
  clear hl
  refine q_move rfl rfl ?_
  refine q_extract rfl rfl rfl ?_
  refine q_extract rfl rfl rfl ?_
  refine q_assign rfl rfl ?_
  refine q_assign rfl rfl ?_
  refine eseq_nil ?_
  refine hK _ _ ?_; clear hK
  refine e_seq fun K hK => ?_
  refine e_region_text rfl ?_
  refine q_move rfl rfl ?_
  refine q_move rfl rfl ?_
  refine q_call rfl (modm by_ n hby (by omega) (by omega)) rfl ?_
  rintro _ w3 ⟨rfl, hB3⟩; refine ⟨fun _ => .of_below hB3, ?_⟩
  replace f8 := f8.ext hB3
  replace hS := hS.below hB3
  rw [hk]
  refine q_assign rfl rfl ?_
  refine eseq_nil ?_
  refine hK _ _ ?_; clear hK
  refine e_seq fun K hK => ?_
  refine e_region_text rfl ?_
  refine q_assign rfl rfl ?_
  refine eseq_nil ?_
  refine hK _ _ ?_; clear hK
  refine e_seq fun K hK => ?_
  refine e_seq fun K hK => ?_
  refine e_region_text rfl ?_
  refine q_assign rfl rfl ?_
  refine eseq_nil ?_
  refine hK _ _ ?_; clear hK
  refine e_block ?_
  replace hS := hS.nilOwn deedTy 49
  refine e_loop (fun m E wx => ∃ (j : Nat) (v : Value), j ≤ (draw25 l).2.length ∧ Sep _ _ _ w wx [HP.own deedTy _ 49 v (((draw25 l).2.take j).map (renD n k))] ∧ IsSlice deedTy wx _ va (draw25 l).2 ∧ m = (draw25 l).2.length - j ∧ E = [(5, .int .i64 n), (6, va), (7, .int .i64 k), (8, v), (9, .int .i64 j)]) _
    ⟨_, ⟨0, _, by omega, hS, f8, rfl, rfl⟩, Sub.cons rfl (Sub.cons rfl (Sub.cons rfl (Sub.cons rfl (Sub.cons rfl (Sub.nil _)))))⟩ ?_
  clear hS f8
  rintro m E wx ⟨j, v, hj, hS, f8, rfl, rfl⟩
  have hjl : (((draw25 l).2.take j).map (renD n k)).length ≤ j := by simp; omega
  refine e_seq fun K hK => ?_
  refine e_seq fun K hK => ?_
  refine e_region_text rfl ?_
  refine q_move rfl rfl ?_
  refine q_move rfl rfl ?_
  refine q_lenS rfl f8 rfl ?_
  refine q_lss rfl rfl rfl ?_
  refine eseq_nil ?_
  refine hK _ _ ?_; clear hK
  refine e_cond rfl (fun hif => ?_) (fun hif => ?_)
  · skip
    have hlt : j < (draw25 l).2.length := by simpa using hif
    have hft : ((draw25 l).2.take (j + 1)).map (renD n k) = ((draw25 l).2.take j).map (renD n k) ++ [renD n k (nth (draw25 l).2 j)] := by rw [take_nth hlt]; simp
    refine e_skip ?_
    refine hK _ _ ?_; clear hK
    refine e_seq fun K hK => ?_
    refine e_block ?_
    refine e_seq fun K hK => ?_
    refine e_region_text rfl ?_
    refine q_move rfl rfl ?_
    refine q_move rfl rfl ?_
    first | refine q_indexSn (by infer_instance) rfl f8 rfl (by first | omega | decide) rfl fun b35 o35 f35 => ?_ | refine q_indexS (by infer_instance) rfl f8 rfl (by first | omega | decide) (by first | omega | decide) rfl fun b35 o35 f35 => ?_
    refine q_loadAgg rfl (ActL f35) rfl rfl ?_
    refine q_allocB rfl fun w4 bl4 hg4 hb4 hB4 => ?_
    replace f8 := f8.ext hB4
    replace f35 := f35.ext hB4
    replace hS := hS.newBlk hB4 hg4 hb4
    refine q_storeAgg rfl rfl (hS.blk 0 rfl) rfl (Nat.le_of_ble_eq_true rfl) (all_cons rfl (all_cons rfl (all_cons rfl (all_nil)))) rfl rfl fun w5 hb5 hO5 => ?_
    simp only [setN] at hb5
    have hk5 := hS.keptBlk 0 rfl hO5
    replace f8 := f8.kept hk5
    replace f35 := f35.kept hk5
    replace hS := hS.setBlk 0 rfl hb5 hO5; simp only [List.set] at hS
    refine eseq_nil ?_
    refine hK _ _ ?_; clear hK
    refine e_seq fun K hK => ?_
    refine e_seq fun K hK => ?_
    refine e_region_text rfl ?_
    refine q_field rfl rfl ?_
    refine q_load rfl (Blk.cell (hS.blk 0 rfl) rfl) rfl ?_
    refine q_neq rfl rfl rfl ?_
    refine q_move rfl rfl ?_
    refine g_and 3 rfl trivial rfl rfl ?_; apply Exists.intro; refine ⟨fun hg => ?_, fun hg => ?_, fun wm6 hBm6 => ?_⟩
    · have hg0 := hg
      have hTm6 := Below.refl (World.heap w5).size w5
      try simp at hg
      refine g_run rfl ?_; refine q_field rfl rfl ?_
      refine g_run rfl ?_; refine q_load rfl (Blk.cell (hS.blk 0 rfl) rfl) rfl ?_
      refine g_run rfl ?_; refine q_geq rfl rfl rfl ?_
      exact eseq_nil ⟨hTm6, Sub.set rfl (Sub.set rfl (Sub.set rfl (Sub.bool true rfl hg0))), rfl⟩
    · have hg0 := hg
      refine g_skip rfl rfl rfl ?_
      refine g_skip rfl rfl rfl ?_
      refine g_skip rfl rfl rfl ?_
      exact eseq_nil ⟨rfl, Sub.set rfl (Sub.set rfl (Sub.set rfl (Sub.bool false rfl hg0)))⟩
    replace f8 := f8.ext hBm6
    replace f35 := f35.ext hBm6
    replace hS := hS.below hBm6
    refine q_move rfl rfl ?_
    refine g_and 4 rfl trivial rfl rfl ?_; apply Exists.intro; refine ⟨fun hg => ?_, fun hg => ?_, fun wm7 hBm7 => ?_⟩
    · have hg0 := hg
      have hTm7 := Below.refl (World.heap wm6).size wm6
      try simp at hg
      refine g_run rfl ?_; refine q_field rfl rfl ?_
      refine g_run rfl ?_; refine q_load rfl (Blk.cell (hS.blk 0 rfl) rfl) rfl ?_
      refine g_run rfl ?_; refine q_move rfl rfl ?_
      refine g_run rfl ?_; refine q_lss rfl rfl rfl ?_
      exact eseq_nil ⟨hTm7, Sub.set rfl (Sub.set rfl (Sub.set rfl (Sub.set rfl (Sub.bool true rfl hg0)))), rfl⟩
    · have hg0 := hg
      refine g_skip rfl rfl rfl ?_
      refine g_skip rfl rfl rfl ?_
      refine g_skip rfl rfl rfl ?_
      refine g_skip rfl rfl rfl ?_
      exact eseq_nil ⟨rfl, Sub.set rfl (Sub.set rfl (Sub.set rfl (Sub.set rfl (Sub.bool false rfl hg0))))⟩
    replace f8 := f8.ext hBm7
    replace f35 := f35.ext hBm7
    replace hS := hS.below hBm7
    refine eseq_nil ?_
    refine hK _ _ ?_; clear hK
    refine e_cond rfl (fun hp => ?_) (fun hp => ?_)
    · skip
      have hp1 : (¬ (nth (draw25 l).2 j).kind = 2 ∧ 0 ≤ (nth (draw25 l).2 j).proc) ∧ (nth (draw25 l).2 j).proc < n := by simpa using hp
      refine e_region_text rfl ?_
      refine q_field rfl rfl ?_
      refine q_load rfl (Blk.cell (hS.blk 0 rfl) rfl) rfl ?_
      refine q_move rfl rfl ?_
      refine q_add rfl rfl (wr64 (by omega) (by omega)) rfl ?_
      refine q_move rfl rfl ?_
      refine q_rem rfl rfl (by omega) rfl ?_
      refine q_field rfl rfl ?_
      refine q_store rfl rfl (hS.blk 0 rfl) (Nat.le_of_ble_eq_true rfl) rfl rfl rfl fun w8 hb8 hO8 => ?_
      have hk8 := hS.keptBlk 0 rfl hO8
      replace f8 := f8.kept hk8
      replace f35 := f35.kept hk8
      replace hS := hS.setBlk 0 rfl hb8 hO8; simp only [List.set] at hS
      refine eseq_nil ?_
      refine hK _ _ ?_; clear hK
      refine e_seq fun K hK => ?_
      refine e_seq fun K hK => ?_
      refine e_region_text rfl ?_
      refine q_field rfl rfl ?_
      refine q_load rfl (Blk.cell (hS.blk 0 rfl) rfl) rfl ?_
      refine q_eql rfl rfl rfl ?_
      refine q_move rfl rfl ?_
      refine g_and 3 rfl trivial rfl rfl ?_; apply Exists.intro; refine ⟨fun hg => ?_, fun hg => ?_, fun wm9 hBm9 => ?_⟩
      · have hg0 := hg
        have hTm9 := Below.refl (World.heap w8).size w8
        try simp at hg
        refine g_run rfl ?_; refine q_field rfl rfl ?_
        refine g_run rfl ?_; refine q_load rfl (Blk.cell (hS.blk 0 rfl) rfl) rfl ?_
        refine g_run rfl ?_; refine q_geq rfl rfl rfl ?_
        exact eseq_nil ⟨hTm9, Sub.set rfl (Sub.set rfl (Sub.set rfl (Sub.bool true rfl hg0))), rfl⟩
      · have hg0 := hg
        refine g_skip rfl rfl rfl ?_
        refine g_skip rfl rfl rfl ?_
        refine g_skip rfl rfl rfl ?_
        exact eseq_nil ⟨rfl, Sub.set rfl (Sub.set rfl (Sub.set rfl (Sub.bool false rfl hg0)))⟩
      replace f8 := f8.ext hBm9
      replace f35 := f35.ext hBm9
      replace hS := hS.below hBm9
      refine q_move rfl rfl ?_
      refine g_and 4 rfl trivial rfl rfl ?_; apply Exists.intro; refine ⟨fun hg => ?_, fun hg => ?_, fun wm10 hBm10 => ?_⟩
      · have hg0 := hg
        have hTm10 := Below.refl (World.heap wm9).size wm9
        try simp at hg
        refine g_run rfl ?_; refine q_field rfl rfl ?_
        refine g_run rfl ?_; refine q_load rfl (Blk.cell (hS.blk 0 rfl) rfl) rfl ?_
        refine g_run rfl ?_; refine q_move rfl rfl ?_
        refine g_run rfl ?_; refine q_lss rfl rfl rfl ?_
        exact eseq_nil ⟨hTm10, Sub.set rfl (Sub.set rfl (Sub.set rfl (Sub.set rfl (Sub.bool true rfl hg0)))), rfl⟩
      · have hg0 := hg
        refine g_skip rfl rfl rfl ?_
        refine g_skip rfl rfl rfl ?_
        refine g_skip rfl rfl rfl ?_
        refine g_skip rfl rfl rfl ?_
        exact eseq_nil ⟨rfl, Sub.set rfl (Sub.set rfl (Sub.set rfl (Sub.set rfl (Sub.bool false rfl hg0))))⟩
      replace f8 := f8.ext hBm10
      replace f35 := f35.ext hBm10
      replace hS := hS.below hBm10
      refine eseq_nil ?_
      refine hK _ _ ?_; clear hK
      refine e_cond rfl (fun ho => ?_) (fun ho => ?_)
      · skip
        have ho1 : ((nth (draw25 l).2 j).kind = 1 ∧ 0 ≤ (nth (draw25 l).2 j).other) ∧ (nth (draw25 l).2 j).other < n := by simpa using ho
        refine e_region_text rfl ?_
        refine q_field rfl rfl ?_
        refine q_load rfl (Blk.cell (hS.blk 0 rfl) rfl) rfl ?_
        refine q_move rfl rfl ?_
        refine q_add rfl rfl (wr64 (by omega) (by omega)) rfl ?_
        refine q_move rfl rfl ?_
        refine q_rem rfl rfl (by omega) rfl ?_
        refine q_field rfl rfl ?_
        refine q_store rfl rfl (hS.blk 0 rfl) (Nat.le_of_ble_eq_true rfl) rfl rfl rfl fun w11 hb11 hO11 => ?_
        have hk11 := hS.keptBlk 0 rfl hO11
        replace f8 := f8.kept hk11
        replace f35 := f35.kept hk11
        replace hS := hS.setBlk 0 rfl hb11 hO11; simp only [List.set] at hS
        refine eseq_nil ?_
        refine hK _ _ ?_; clear hK
        refine e_region_text rfl ?_
        refine q_move rfl rfl ?_
        refine q_loadAgg rfl (Blk.cellsAt (hS.blk 0 rfl) 0 3 rfl) rfl rfl ?_
        refine q_slice1 rfl rfl rfl rfl rfl rfl fun w12 bl12 hg12 hb12 hB12 => ?_
        replace f8 := f8.ext hB12
        replace f35 := f35.ext hB12
        replace hS := hS.below hB12
        refine q_append1 (u := (⟨(nth (draw25 l).2 j).kind, ((nth (draw25 l).2 j).proc + k).tmod n, ((nth (draw25 l).2 j).other + k).tmod n⟩ : Deed)) rfl rfl rfl rfl (hS.own 1 rfl) rfl hb12 (deedR.2 rfl) (by omega) (Nat.zero_le _) rfl (fun h => by cases h) fun v82 w13 hw13 hgr13 hnw13 => ?_
        have hk13 := hS.keptOwn 1 rfl hgr13
        replace f8 := f8.kept hk13
        replace f35 := f35.kept hk13
        replace hS := hS.setOwn 1 rfl hw13 hgr13 hnw13; simp only [List.set] at hS
        refine q_assign rfl rfl ?_
        refine eseq_nil ?_
        refine hK _ _ ?_; clear hK
        refine e_region_text rfl ?_
        refine q_move rfl rfl ?_
        refine q_add rfl rfl (wr64 (by omega) (by omega)) rfl ?_
        refine q_assign rfl rfl ?_
        refine eseq_nil ?_
        replace hS := hS.erase 0 rfl; simp only [List.eraseIdx] at hS
        rw [show (⟨(nth (draw25 l).2 j).kind, ((nth (draw25 l).2 j).proc + k).tmod n, ((nth (draw25 l).2 j).other + k).tmod n⟩ : Deed) = renD n k (nth (draw25 l).2 j) by
          rw [renD, renQ, renQ, if_pos hp1.1.1, if_pos ⟨hp1.1.2, hp1.2⟩, if_pos ho1.1.1, if_pos ⟨ho1.1.2, ho1.2⟩, Int.tmod_eq_emod_of_nonneg (by omega), Int.tmod_eq_emod_of_nonneg (by omega)], ← hft] at hS
        exact ⟨(draw25 l).2.length - (j + 1), _, by omega, ⟨j + 1, _, by omega, hS, f8, rfl, rfl⟩, Sub.cons rfl (Sub.cons rfl (Sub.cons rfl (Sub.cons rfl (Sub.cons rfl (Sub.nil _)))))⟩
      · skip
        have ho1 : ¬ ((nth (draw25 l).2 j).kind = 1 ∧ 0 ≤ (nth (draw25 l).2 j).other ∧ (nth (draw25 l).2 j).other < n) := by simpa using ho
        refine e_skip ?_
        refine hK _ _ ?_; clear hK
        refine e_region_text rfl ?_
        refine q_move rfl rfl ?_
        refine q_loadAgg rfl (Blk.cellsAt (hS.blk 0 rfl) 0 3 rfl) rfl rfl ?_
        refine q_slice1 rfl rfl rfl rfl rfl rfl fun w14 bl14 hg14 hb14 hB14 => ?_
        replace f8 := f8.ext hB14
        replace f35 := f35.ext hB14
        replace hS := hS.below hB14
        refine q_append1 (u := (⟨(nth (draw25 l).2 j).kind, ((nth (draw25 l).2 j).proc + k).tmod n, (nth (draw25 l).2 j).other⟩ : Deed)) rfl rfl rfl rfl (hS.own 1 rfl) rfl hb14 (deedR.2 rfl) (by omega) (Nat.zero_le _) rfl (fun h => by cases h) fun v82 w15 hw15 hgr15 hnw15 => ?_
        have hk15 := hS.keptOwn 1 rfl hgr15
        replace f8 := f8.kept hk15
        replace f35 := f35.kept hk15
        replace hS := hS.setOwn 1 rfl hw15 hgr15 hnw15; simp only [List.set] at hS
        refine q_assign rfl rfl ?_
        refine eseq_nil ?_
        refine hK _ _ ?_; clear hK
        refine e_region_text rfl ?_
        refine q_move rfl rfl ?_
        refine q_add rfl rfl (wr64 (by omega) (by omega)) rfl ?_
        refine q_assign rfl rfl ?_
        refine eseq_nil ?_
        replace hS := hS.erase 0 rfl; simp only [List.eraseIdx] at hS
        rw [show (⟨(nth (draw25 l).2 j).kind, ((nth (draw25 l).2 j).proc + k).tmod n, (nth (draw25 l).2 j).other⟩ : Deed) = renD n k (nth (draw25 l).2 j) by
          rw [renD, renQ, renQ, if_pos hp1.1.1, if_pos ⟨hp1.1.2, hp1.2⟩, Int.tmod_eq_emod_of_nonneg (by omega)]
          by_cases hq1 : (nth (draw25 l).2 j).kind = 1
          · rw [if_pos hq1, if_neg (fun hh => ho1 ⟨hq1, hh.1, hh.2⟩)]
          · rw [if_neg hq1], ← hft] at hS
        exact ⟨(draw25 l).2.length - (j + 1), _, by omega, ⟨j + 1, _, by omega, hS, f8, rfl, rfl⟩, Sub.cons rfl (Sub.cons rfl (Sub.cons rfl (Sub.cons rfl (Sub.cons rfl (Sub.nil _)))))⟩
    · skip
      have hp1 : ¬ (¬ (nth (draw25 l).2 j).kind = 2 ∧ 0 ≤ (nth (draw25 l).2 j).proc ∧ (nth (draw25 l).2 j).proc < n) := by simpa using hp
      have hpe : (if (nth (draw25 l).2 j).kind ≠ 2 then renQ n k (nth (draw25 l).2 j).proc else (nth (draw25 l).2 j).proc) = (nth (draw25 l).2 j).proc := by
        by_cases hq1 : (nth (draw25 l).2 j).kind = 2
        · rw [if_neg (fun hh => hh hq1)]
        · rw [if_pos hq1, renQ, if_neg (fun hh => hp1 ⟨hq1, hh.1, hh.2⟩)]
      refine e_skip ?_
      refine hK _ _ ?_; clear hK
      refine e_seq fun K hK => ?_
      refine e_seq fun K hK => ?_
      refine e_region_text rfl ?_
      refine q_field rfl rfl ?_
      refine q_load rfl (Blk.cell (hS.blk 0 rfl) rfl) rfl ?_
      refine q_eql rfl rfl rfl ?_
      refine q_move rfl rfl ?_
      refine g_and 3 rfl trivial rfl rfl ?_; apply Exists.intro; refine ⟨fun hg => ?_, fun hg => ?_, fun wm16 hBm16 => ?_⟩
      · have hg0 := hg
        have hTm16 := Below.refl (World.heap wm7).size wm7
        try simp at hg
        refine g_run rfl ?_; refine q_field rfl rfl ?_
        refine g_run rfl ?_; refine q_load rfl (Blk.cell (hS.blk 0 rfl) rfl) rfl ?_
        refine g_run rfl ?_; refine q_geq rfl rfl rfl ?_
        exact eseq_nil ⟨hTm16, Sub.set rfl (Sub.set rfl (Sub.set rfl (Sub.bool true rfl hg0))), rfl⟩
      · have hg0 := hg
        refine g_skip rfl rfl rfl ?_
        refine g_skip rfl rfl rfl ?_
        refine g_skip rfl rfl rfl ?_
        exact eseq_nil ⟨rfl, Sub.set rfl (Sub.set rfl (Sub.set rfl (Sub.bool false rfl hg0)))⟩
      replace f8 := f8.ext hBm16
      replace f35 := f35.ext hBm16
      replace hS := hS.below hBm16
      refine q_move rfl rfl ?_
      refine g_and 4 rfl trivial rfl rfl ?_; apply Exists.intro; refine ⟨fun hg => ?_, fun hg => ?_, fun wm17 hBm17 => ?_⟩
      · have hg0 := hg
        have hTm17 := Below.refl (World.heap wm16).size wm16
        try simp at hg
        refine g_run rfl ?_; refine q_field rfl rfl ?_
        refine g_run rfl ?_; refine q_load rfl (Blk.cell (hS.blk 0 rfl) rfl) rfl ?_
        refine g_run rfl ?_; refine q_move rfl rfl ?_
        refine g_run rfl ?_; refine q_lss rfl rfl rfl ?_
        exact eseq_nil ⟨hTm17, Sub.set rfl (Sub.set rfl (Sub.set rfl (Sub.set rfl (Sub.bool true rfl hg0)))), rfl⟩
      · have hg0 := hg
        refine g_skip rfl rfl rfl ?_
        refine g_skip rfl rfl rfl ?_
        refine g_skip rfl rfl rfl ?_
        refine g_skip rfl rfl rfl ?_
        exact eseq_nil ⟨rfl, Sub.set rfl (Sub.set rfl (Sub.set rfl (Sub.set rfl (Sub.bool false rfl hg0))))⟩
      replace f8 := f8.ext hBm17
      replace f35 := f35.ext hBm17
      replace hS := hS.below hBm17
      refine eseq_nil ?_
      refine hK _ _ ?_; clear hK
      refine e_cond rfl (fun ho => ?_) (fun ho => ?_)
      · skip
        have ho1 : ((nth (draw25 l).2 j).kind = 1 ∧ 0 ≤ (nth (draw25 l).2 j).other) ∧ (nth (draw25 l).2 j).other < n := by simpa using ho
        refine e_region_text rfl ?_
        refine q_field rfl rfl ?_
        refine q_load rfl (Blk.cell (hS.blk 0 rfl) rfl) rfl ?_
        refine q_move rfl rfl ?_
        refine q_add rfl rfl (wr64 (by omega) (by omega)) rfl ?_
        refine q_move rfl rfl ?_
        refine q_rem rfl rfl (by omega) rfl ?_
        refine q_field rfl rfl ?_
        refine q_store rfl rfl (hS.blk 0 rfl) (Nat.le_of_ble_eq_true rfl) rfl rfl rfl fun w18 hb18 hO18 => ?_
        have hk18 := hS.keptBlk 0 rfl hO18
        replace f8 := f8.kept hk18
        replace f35 := f35.kept hk18
        replace hS := hS.setBlk 0 rfl hb18 hO18; simp only [List.set] at hS
        refine eseq_nil ?_
        refine hK _ _ ?_; clear hK
        refine e_region_text rfl ?_
        refine q_move rfl rfl ?_
        refine q_loadAgg rfl (Blk.cellsAt (hS.blk 0 rfl) 0 3 rfl) rfl rfl ?_
        refine q_slice1 rfl rfl rfl rfl rfl rfl fun w19 bl19 hg19 hb19 hB19 => ?_
        replace f8 := f8.ext hB19
        replace f35 := f35.ext hB19
        replace hS := hS.below hB19
        refine q_append1 (u := (⟨(nth (draw25 l).2 j).kind, (nth (draw25 l).2 j).proc, ((nth (draw25 l).2 j).other + k).tmod n⟩ : Deed)) rfl rfl rfl rfl (hS.own 1 rfl) rfl hb19 (deedR.2 rfl) (by omega) (Nat.zero_le _) rfl (fun h => by cases h) fun v82 w20 hw20 hgr20 hnw20 => ?_
        have hk20 := hS.keptOwn 1 rfl hgr20
        replace f8 := f8.kept hk20
        replace f35 := f35.kept hk20
        replace hS := hS.setOwn 1 rfl hw20 hgr20 hnw20; simp only [List.set] at hS
        refine q_assign rfl rfl ?_
        refine eseq_nil ?_
        refine hK _ _ ?_; clear hK
        refine e_region_text rfl ?_
        refine q_move rfl rfl ?_
        refine q_add rfl rfl (wr64 (by omega) (by omega)) rfl ?_
        refine q_assign rfl rfl ?_
        refine eseq_nil ?_
        replace hS := hS.erase 0 rfl; simp only [List.eraseIdx] at hS
        rw [show (⟨(nth (draw25 l).2 j).kind, (nth (draw25 l).2 j).proc, ((nth (draw25 l).2 j).other + k).tmod n⟩ : Deed) = renD n k (nth (draw25 l).2 j) by
          rw [renD, hpe, renQ, if_pos ho1.1.1, if_pos ⟨ho1.1.2, ho1.2⟩, Int.tmod_eq_emod_of_nonneg (by omega)], ← hft] at hS
        exact ⟨(draw25 l).2.length - (j + 1), _, by omega, ⟨j + 1, _, by omega, hS, f8, rfl, rfl⟩, Sub.cons rfl (Sub.cons rfl (Sub.cons rfl (Sub.cons rfl (Sub.cons rfl (Sub.nil _)))))⟩
      · skip
        have ho1 : ¬ ((nth (draw25 l).2 j).kind = 1 ∧ 0 ≤ (nth (draw25 l).2 j).other ∧ (nth (draw25 l).2 j).other < n) := by simpa using ho
        refine e_skip ?_
        refine hK _ _ ?_; clear hK
        refine e_region_text rfl ?_
        refine q_move rfl rfl ?_
        refine q_loadAgg rfl (Blk.cellsAt (hS.blk 0 rfl) 0 3 rfl) rfl rfl ?_
        refine q_slice1 rfl rfl rfl rfl rfl rfl fun w21 bl21 hg21 hb21 hB21 => ?_
        replace f8 := f8.ext hB21
        replace f35 := f35.ext hB21
        replace hS := hS.below hB21
        refine q_append1 (u := (⟨(nth (draw25 l).2 j).kind, (nth (draw25 l).2 j).proc, (nth (draw25 l).2 j).other⟩ : Deed)) rfl rfl rfl rfl (hS.own 1 rfl) rfl hb21 (deedR.2 rfl) (by omega) (Nat.zero_le _) rfl (fun h => by cases h) fun v82 w22 hw22 hgr22 hnw22 => ?_
        have hk22 := hS.keptOwn 1 rfl hgr22
        replace f8 := f8.kept hk22
        replace f35 := f35.kept hk22
        replace hS := hS.setOwn 1 rfl hw22 hgr22 hnw22; simp only [List.set] at hS
        refine q_assign rfl rfl ?_
        refine eseq_nil ?_
        refine hK _ _ ?_; clear hK
        refine e_region_text rfl ?_
        refine q_move rfl rfl ?_
        refine q_add rfl rfl (wr64 (by omega) (by omega)) rfl ?_
        refine q_assign rfl rfl ?_
        refine eseq_nil ?_
        replace hS := hS.erase 0 rfl; simp only [List.eraseIdx] at hS
        rw [show (⟨(nth (draw25 l).2 j).kind, (nth (draw25 l).2 j).proc, (nth (draw25 l).2 j).other⟩ : Deed) = renD n k (nth (draw25 l).2 j) by
          rw [renD, hpe, renQ]
          by_cases hq1 : (nth (draw25 l).2 j).kind = 1
          · rw [if_pos hq1, if_neg (fun hh => ho1 ⟨hq1, hh.1, hh.2⟩)]
          · rw [if_neg hq1], ← hft] at hS
        exact ⟨(draw25 l).2.length - (j + 1), _, by omega, ⟨j + 1, _, by omega, hS, f8, rfl, rfl⟩, Sub.cons rfl (Sub.cons rfl (Sub.cons rfl (Sub.cons rfl (Sub.cons rfl (Sub.nil _)))))⟩
  · skip
    have hge : j = (draw25 l).2.length := by simp at hif; omega
    rw [hge, List.take_length] at hS
    clear hjl hif
    have f5 := hS.isl 0 rfl
    obtain ⟨R5, hS5, hm5, hn5⟩ := hS.freezeO 0 rfl
    replace f5 := f5.mono (S' := R5) fun k hk _ => hk.elim (hm5 k) (hn5 k)
    replace f8 := f8.mono (S' := R5) fun k hk _ => hm5 k hk
    clear hS
    have hS := hS5
    simp only [List.eraseIdx] at hS
    rw [hn] at hplay hplayq
    refine e_exit ?_
    clear hK
    refine hK _ _ ?_; clear hK
    refine e_seq fun K hK => ?_
    refine e_region_text rfl ?_
    refine q_move rfl rfl ?_
    refine q_move rfl rfl ?_
    refine q_call rfl (play25 n f8 (by omega)) rfl ?_
    rintro _ w23 ⟨vL, vC, vA, vK, vV, vF, rfl, ⟨hL, hC, hA, hK1, hV, hF⟩, hB23⟩; refine ⟨(fun h => by cases h), ?_⟩
    replace f8 := f8.ext hB23
    replace f5 := f5.ext hB23
    obtain ⟨R23, hS, hm23, hn23⟩ := hS.growO hB23
    replace f8 := f8.mono fun k hk _ => hm23 k hk
    replace f5 := f5.mono fun k hk _ => hm23 k hk
    replace hL := hL.mono fun k hk hlt => hn23 k hk hlt
    replace hC := hC.mono fun k hk hlt => hn23 k hk hlt
    replace hA := hA.mono fun k hk hlt => hn23 k hk hlt
    replace hK1 := hK1.mono fun k hk hlt => hn23 k hk hlt
    replace hV := hV.mono fun k hk hlt => hn23 k hk hlt
    replace hF := hF.mono fun k hk hlt => hn23 k hk hlt
    rw [hplay] at hL hC hA hK1 hV hF ⊢
    simp only [Comp.hist] at hL hC hA hK1 hV hF ⊢
    refine q_move rfl rfl ?_
    refine q_extract rfl rfl rfl ?_
    refine q_extract rfl rfl rfl ?_
    refine q_allocB rfl fun w24 bl24 hg24 hb24 hB24 => ?_
    replace f8 := f8.ext hB24
    replace f5 := f5.ext hB24
    replace hL := hL.ext hB24
    replace hC := hC.ext hB24
    replace hA := hA.ext hB24
    replace hK1 := hK1.ext hB24
    replace hV := hV.ext hB24
    replace hF := hF.ext hB24
    replace hS := hS.newBlk hB24 hg24 hb24
    refine q_storeAgg rfl rfl (hS.blk 0 rfl) rfl (Nat.le_of_ble_eq_true rfl) (all_cons hL.one (all_cons hC.one (all_cons hA.one (all_cons hK1.one (all_cons hV.one (all_cons hF.one (all_nil))))))) rfl rfl fun w25 hb25 hO25 => ?_
    simp only [setN] at hb25
    have hk25 := hS.keptBlk 0 rfl hO25
    replace f8 := f8.kept hk25
    replace f5 := f5.kept hk25
    replace hL := hL.kept hk25
    replace hC := hC.kept hk25
    replace hA := hA.kept hk25
    replace hK1 := hK1.kept hk25
    replace hV := hV.kept hk25
    replace hF := hF.kept hk25
    replace hS := hS.setBlk 0 rfl hb25 hO25; simp only [List.set] at hS
    refine q_assign rfl rfl ?_
    refine eseq_nil ?_
    refine hK _ _ ?_; clear hK
    refine e_seq fun K hK => ?_
    refine e_region_text rfl ?_
    refine q_move rfl rfl ?_
    refine q_move rfl rfl ?_
    refine q_call rfl (play25 n f5 (by omega)) rfl ?_
    rintro _ w26 ⟨uL, uC, uA, uK, uV, uF, rfl, ⟨gL, gC, gA, gK1, gV, gF⟩, hB26⟩; refine ⟨(fun h => by cases h), ?_⟩
    replace f8 := f8.ext hB26
    replace f5 := f5.ext hB26
    replace hL := hL.ext hB26
    replace hC := hC.ext hB26
    replace hA := hA.ext hB26
    replace hK1 := hK1.ext hB26
    replace hV := hV.ext hB26
    replace hF := hF.ext hB26
    obtain ⟨R26, hS, hm26, hn26⟩ := hS.growO hB26
    replace f8 := f8.mono fun k hk _ => hm26 k hk
    replace f5 := f5.mono fun k hk _ => hm26 k hk
    replace hL := hL.mono fun k hk _ => hm26 k hk
    replace hC := hC.mono fun k hk _ => hm26 k hk
    replace hA := hA.mono fun k hk _ => hm26 k hk
    replace hK1 := hK1.mono fun k hk _ => hm26 k hk
    replace hV := hV.mono fun k hk _ => hm26 k hk
    replace hF := hF.mono fun k hk _ => hm26 k hk
    replace gL := gL.mono fun k hk hlt => hn26 k hk hlt
    replace gC := gC.mono fun k hk hlt => hn26 k hk hlt
    replace gA := gA.mono fun k hk hlt => hn26 k hk hlt
    replace gK1 := gK1.mono fun k hk hlt => hn26 k hk hlt
    replace gV := gV.mono fun k hk hlt => hn26 k hk hlt
    replace gF := gF.mono fun k hk hlt => hn26 k hk hlt
    rw [hplayq] at gL gC gA gK1 gV gF ⊢
    simp only [Comp.hist] at gL gC gA gK1 gV gF ⊢
    have hal : d.arcs.length = c.arcs.length := by rw [hren.arcs]; simp
    refine q_move rfl rfl ?_
    refine q_extract rfl rfl rfl ?_
    refine q_extract rfl rfl rfl ?_
    refine q_allocB rfl fun w27 bl27 hg27 hb27 hB27 => ?_
    replace f8 := f8.ext hB27
    replace f5 := f5.ext hB27
    replace hL := hL.ext hB27
    replace hC := hC.ext hB27
    replace hA := hA.ext hB27
    replace hK1 := hK1.ext hB27
    replace hV := hV.ext hB27
    replace hF := hF.ext hB27
    replace gL := gL.ext hB27
    replace gC := gC.ext hB27
    replace gA := gA.ext hB27
    replace gK1 := gK1.ext hB27
    replace gV := gV.ext hB27
    replace gF := gF.ext hB27
    replace hS := hS.newBlk hB27 hg27 hb27
    refine q_storeAgg rfl rfl (hS.blk 0 rfl) rfl (Nat.le_of_ble_eq_true rfl) (all_cons gL.one (all_cons gC.one (all_cons gA.one (all_cons gK1.one (all_cons gV.one (all_cons gF.one (all_nil))))))) rfl rfl fun w28 hb28 hO28 => ?_
    simp only [setN] at hb28
    have hk28 := hS.keptBlk 0 rfl hO28
    replace f8 := f8.kept hk28
    replace f5 := f5.kept hk28
    replace hL := hL.kept hk28
    replace hC := hC.kept hk28
    replace hA := hA.kept hk28
    replace hK1 := hK1.kept hk28
    replace hV := hV.kept hk28
    replace hF := hF.kept hk28
    replace gL := gL.kept hk28
    replace gC := gC.kept hk28
    replace gA := gA.kept hk28
    replace gK1 := gK1.kept hk28
    replace gV := gV.kept hk28
    replace gF := gF.kept hk28
    replace hS := hS.setBlk 0 rfl hb28 hO28; simp only [List.set] at hS
    refine q_assign rfl rfl ?_
    refine eseq_nil ?_
    refine hK _ _ ?_; clear hK
    refine e_seq fun K hK => ?_
    refine e_seq fun K hK => ?_
    refine e_region_text rfl ?_
    refine q_move rfl rfl ?_
    refine q_neq rfl rfl rfl ?_
    refine q_move rfl rfl ?_
    refine g_or 2 rfl trivial rfl rfl ?_; apply Exists.intro; refine ⟨fun hg => ?_, fun hg => ?_, fun wm29 hBm29 => ?_⟩
    · have hg0 := hg
      refine g_skip rfl rfl rfl ?_
      refine g_skip rfl rfl rfl ?_
      exact eseq_nil ⟨rfl, Sub.set rfl (Sub.set rfl (Sub.bool true rfl hg0))⟩
    · have hg0 := hg
      have hTm29 := Below.refl (World.heap w28).size w28
      try simp at hg
      refine g_run rfl ?_; refine q_move rfl rfl ?_
      refine g_run rfl ?_; refine q_neq rfl rfl rfl ?_
      exact eseq_nil ⟨hTm29, Sub.set rfl (Sub.set rfl (Sub.bool false rfl hg0)), rfl⟩
    replace f8 := f8.ext hBm29
    replace f5 := f5.ext hBm29
    replace hL := hL.ext hBm29
    replace hC := hC.ext hBm29
    replace hA := hA.ext hBm29
    replace hK1 := hK1.ext hBm29
    replace hV := hV.ext hBm29
    replace hF := hF.ext hBm29
    replace gL := gL.ext hBm29
    replace gC := gC.ext hBm29
    replace gA := gA.ext hBm29
    replace gK1 := gK1.ext hBm29
    replace gV := gV.ext hBm29
    replace gF := gF.ext hBm29
    replace hS := hS.below hBm29
    refine q_move rfl rfl ?_
    refine g_or 4 rfl trivial rfl rfl ?_; apply Exists.intro; refine ⟨fun hg => ?_, fun hg => ?_, fun wm30 hBm30 => ?_⟩
    · have hg0 := hg
      refine g_skip rfl rfl rfl ?_
      refine g_skip rfl rfl rfl ?_
      refine g_skip rfl rfl rfl ?_
      refine g_skip rfl rfl rfl ?_
      exact eseq_nil ⟨rfl, Sub.set rfl (Sub.set rfl (Sub.set rfl (Sub.set rfl (Sub.bool true rfl hg0))))⟩
    · have hg0 := hg
      have hTm30 := Below.refl (World.heap wm29).size wm29
      try simp at hg
      refine g_run rfl ?_; refine q_loadAgg rfl (Blk.cellsAt (hS.blk 1 rfl) 0 6 rfl) rfl rfl ?_
      refine g_run rfl ?_; refine q_move rfl rfl ?_
      refine g_run rfl ?_; refine q_call rfl (sound25 n ⟨hL, hC, hA, hK1, hV, hF⟩ hsd) rfl ?_
      rintro _ w31 ⟨rfl, hB31⟩; refine ⟨fun _ => .of_below hB31, ?_⟩
      replace f8 := f8.ext hB31
      replace f5 := f5.ext hB31
      replace hL := hL.ext hB31
      replace hC := hC.ext hB31
      replace hA := hA.ext hB31
      replace hK1 := hK1.ext hB31
      replace hV := hV.ext hB31
      replace hF := hF.ext hB31
      replace gL := gL.ext hB31
      replace gC := gC.ext hB31
      replace gA := gA.ext hB31
      replace gK1 := gK1.ext hB31
      replace gV := gV.ext hB31
      replace gF := gF.ext hB31
      replace hS := hS.below hB31
      replace hTm30 := hTm30.trans (Below.mono hB31 hTm30.size)
      refine g_run rfl ?_; refine q_not rfl rfl ?_
      exact eseq_nil ⟨hTm30, Sub.set rfl (Sub.set rfl (Sub.set rfl (Sub.set rfl (Sub.bool false rfl hg0)))), rfl⟩
    replace f8 := f8.ext hBm30
    replace f5 := f5.ext hBm30
    replace hL := hL.ext hBm30
    replace hC := hC.ext hBm30
    replace hA := hA.ext hBm30
    replace hK1 := hK1.ext hBm30
    replace hV := hV.ext hBm30
    replace hF := hF.ext hBm30
    replace gL := gL.ext hBm30
    replace gC := gC.ext hBm30
    replace gA := gA.ext hBm30
    replace gK1 := gK1.ext hBm30
    replace gV := gV.ext hBm30
    replace gF := gF.ext hBm30
    replace hS := hS.below hBm30
    refine q_move rfl rfl ?_
    refine g_or 4 rfl trivial rfl rfl ?_; apply Exists.intro; refine ⟨fun hg => ?_, fun hg => ?_, fun wm32 hBm32 => ?_⟩
    · have hg0 := hg
      refine g_skip rfl rfl rfl ?_
      refine g_skip rfl rfl rfl ?_
      refine g_skip rfl rfl rfl ?_
      refine g_skip rfl rfl rfl ?_
      exact eseq_nil ⟨rfl, Sub.set rfl (Sub.set rfl (Sub.set rfl (Sub.set rfl (Sub.bool true rfl hg0))))⟩
    · have hg0 := hg
      have hTm32 := Below.refl (World.heap wm30).size wm30
      try simp at hg
      refine g_run rfl ?_; refine q_loadAgg rfl (Blk.cellsAt (hS.blk 0 rfl) 0 6 rfl) rfl rfl ?_
      refine g_run rfl ?_; refine q_move rfl rfl ?_
      refine g_run rfl ?_; refine q_call rfl (sound25 n ⟨gL, gC, gA, gK1, gV, gF⟩ hsq) rfl ?_
      rintro _ w33 ⟨rfl, hB33⟩; refine ⟨fun _ => .of_below hB33, ?_⟩
      replace f8 := f8.ext hB33
      replace f5 := f5.ext hB33
      replace hL := hL.ext hB33
      replace hC := hC.ext hB33
      replace hA := hA.ext hB33
      replace hK1 := hK1.ext hB33
      replace hV := hV.ext hB33
      replace hF := hF.ext hB33
      replace gL := gL.ext hB33
      replace gC := gC.ext hB33
      replace gA := gA.ext hB33
      replace gK1 := gK1.ext hB33
      replace gV := gV.ext hB33
      replace gF := gF.ext hB33
      replace hS := hS.below hB33
      replace hTm32 := hTm32.trans (Below.mono hB33 hTm32.size)
      refine g_run rfl ?_; refine q_not rfl rfl ?_
      exact eseq_nil ⟨hTm32, Sub.set rfl (Sub.set rfl (Sub.set rfl (Sub.set rfl (Sub.bool false rfl hg0)))), rfl⟩
    replace f8 := f8.ext hBm32
    replace f5 := f5.ext hBm32
    replace hL := hL.ext hBm32
    replace hC := hC.ext hBm32
    replace hA := hA.ext hBm32
    replace hK1 := hK1.ext hBm32
    replace hV := hV.ext hBm32
    replace hF := hF.ext hBm32
    replace gL := gL.ext hBm32
    replace gC := gC.ext hBm32
    replace gA := gA.ext hBm32
    replace gK1 := gK1.ext hBm32
    replace gV := gV.ext hBm32
    replace gF := gF.ext hBm32
    replace hS := hS.below hBm32
    refine q_move rfl rfl ?_
    refine g_or 9 rfl trivial rfl rfl ?_; apply Exists.intro; refine ⟨fun hg => ?_, fun hg => ?_, fun wm34 hBm34 => ?_⟩
    · have hg0 := hg
      refine g_skip rfl rfl rfl ?_
      refine g_skip rfl rfl rfl ?_
      refine g_skip rfl rfl rfl ?_
      refine g_skip rfl rfl rfl ?_
      refine g_skip rfl rfl rfl ?_
      refine g_skip rfl rfl rfl ?_
      refine g_skip rfl rfl rfl ?_
      refine g_skip rfl rfl rfl ?_
      refine g_skip rfl rfl rfl ?_
      exact eseq_nil ⟨rfl, Sub.set rfl (Sub.set rfl (Sub.set rfl (Sub.set rfl (Sub.set rfl (Sub.set rfl (Sub.set rfl (Sub.set rfl (Sub.set rfl (Sub.bool true rfl hg0)))))))))⟩
    · have hg0 := hg
      have hTm34 := Below.refl (World.heap wm32).size wm32
      try simp at hg
      refine g_run rfl ?_; refine q_field rfl rfl ?_
      refine g_run rfl ?_; refine q_field rfl rfl ?_
      refine g_run rfl ?_; refine q_load rfl (Blk.cell (hS.blk 1 rfl) rfl) rfl ?_
      refine g_run rfl ?_; refine q_lenS rfl hA rfl ?_
      refine g_run rfl ?_; refine q_field rfl rfl ?_
      refine g_run rfl ?_; refine q_field rfl rfl ?_
      refine g_run rfl ?_; refine q_load rfl (Blk.cell (hS.blk 0 rfl) rfl) rfl ?_
      refine g_run rfl ?_; refine q_lenS rfl gA rfl ?_
      refine g_run rfl ?_; refine q_neq rfl rfl rfl ?_
      exact eseq_nil ⟨hTm34, Sub.set rfl (Sub.set rfl (Sub.set rfl (Sub.set rfl (Sub.set rfl (Sub.set rfl (Sub.set rfl (Sub.set rfl (Sub.set rfl (Sub.bool false rfl hg0))))))))), rfl⟩
    replace f8 := f8.ext hBm34
    replace f5 := f5.ext hBm34
    replace hL := hL.ext hBm34
    replace hC := hC.ext hBm34
    replace hA := hA.ext hBm34
    replace hK1 := hK1.ext hBm34
    replace hV := hV.ext hBm34
    replace hF := hF.ext hBm34
    replace gL := gL.ext hBm34
    replace gC := gC.ext hBm34
    replace gA := gA.ext hBm34
    replace gK1 := gK1.ext hBm34
    replace gV := gV.ext hBm34
    replace gF := gF.ext hBm34
    replace hS := hS.below hBm34
    refine eseq_nil ?_
    refine hK _ _ ?_; clear hK
    refine e_cond rfl (fun hc5 => ?_) (fun hc5 => ?_)
    · skip
      simp [hal] at hc5
    have q1 := hren.lens.len; have q2 := hren.ckpts.len; have q3 := hren.clocks.len; have q4 := hren.forced.len
    have r1 := hren.lens.len'; have r2 := hren.ckpts.len'; have r3 := hren.clocks.len'; have r4 := hren.forced.len'
    have hck : ∀ q, q < n → (nth c.ckpts q).length ≤ 1000000000 ∧ (nth c.clocks q).length ≤ 1000000000 ∧ (nth c.forced q).length ≤ 1000000000 := fun q hq => by
      have h1 := hsd.ok.short q (by rw [show c.hist.pat.lens = c.lens from rfl, q1]; exact hq)
      have h2 := hsd.rows q hq
      change (nth c.ckpts q).length ≤ 1000000000 at h1
      change (nth c.clocks q).length = (nth c.ckpts q).length ∧ (nth c.forced q).length = (nth c.ckpts q).length at h2
      omega
    refine e_skip ?_
    refine hK _ _ ?_; clear hK
    refine e_seq fun K hK => ?_
    refine e_seq fun K hK => ?_
    refine e_region_text rfl ?_
    refine q_assign rfl rfl ?_
    refine eseq_nil ?_
    refine hK _ _ ?_; clear hK
    refine e_block ?_
    refine e_loop (fun mm E wfor => ∃ q : Nat, (q ≤ n) ∧ mm = n - q ∧ Below (World.heap wm34).size wm34 wfor ∧ E = [(5, .int .i64 n), (7, .int .i64 k), (11, .pointer (some ⟨bl24, 0, none⟩)), (13, .pointer (some ⟨bl27, 0, none⟩)), (15, .int .i64 q)]) _ ⟨_, ⟨0, by omega, rfl, Below.refl _ _, rfl⟩, Sub.cons rfl (Sub.cons rfl (Sub.cons rfl (Sub.cons rfl (Sub.cons rfl (Sub.nil _)))))⟩ ?_
    rintro mm E wl35 ⟨q, hk35, rfl, hTl35, rfl⟩
    replace f8 := f8.ext hTl35
    replace f5 := f5.ext hTl35
    replace hL := hL.ext hTl35
    replace hC := hC.ext hTl35
    replace hA := hA.ext hTl35
    replace hK1 := hK1.ext hTl35
    replace hV := hV.ext hTl35
    replace hF := hF.ext hTl35
    replace gL := gL.ext hTl35
    replace gC := gC.ext hTl35
    replace gA := gA.ext hTl35
    replace gK1 := gK1.ext hTl35
    replace gV := gV.ext hTl35
    replace gF := gF.ext hTl35
    replace hS := hS.below hTl35
    refine e_seq fun K hK => ?_
    refine e_seq fun K hK => ?_
    refine e_region_text rfl ?_
    refine q_move rfl rfl ?_
    refine q_move rfl rfl ?_
    refine q_lss rfl rfl rfl ?_
    refine eseq_nil ?_
    refine hK _ _ ?_; clear hK
    refine e_cond rfl (fun hq => ?_) (fun hq => ?_)
    · skip
      have hlt : q < n := by simpa using hq
      have hr : (((q : Int) + k).tmod n) = (((q + k) % n : Nat) : Int) := by rw [Int.tmod_eq_emod_of_nonneg (by omega)]; simp
      have hrn := (per_add n k).lt q hlt
      change (q + k) % n < n at hrn
      have e1 := hren.lens.at_ q hlt; have e2 := hren.ckpts.at_ q hlt; have e3 := hren.clocks.at_ q hlt; have e4 := hren.forced.at_ q hlt
      have hcq := hck q hlt
      refine e_skip ?_
      refine hK _ _ ?_; clear hK
      refine e_seq fun K hK => ?_
      refine e_block ?_
      refine e_seq fun K hK => ?_
      refine e_region_text rfl ?_
      refine q_move rfl rfl ?_
      refine q_move rfl rfl ?_
      refine q_add rfl rfl (wr64 (by omega) (by omega)) rfl ?_
      refine q_move rfl rfl ?_
      refine q_rem rfl rfl (by omega) rfl ?_
      rw [hr]
      refine q_assign rfl rfl ?_
      refine eseq_nil ?_
      refine hK _ _ ?_; clear hK
      refine e_seq fun K hK => ?_
      refine e_region_draw mixed (fun _ => False) [0, 1, 3, 0, 15, 31, 0, 64, 192, 0, 960, 1984, 4095, 8191, 16383, 32767, 65535, 16383, 262143, 524287, 16383, 1064959, 3162111, 16383, 15745023, 32522239, 67108863, 134217727, 268435455, 536870911, 1073741823, 2147483647, 1073741823, 8589934591, 17179869183, 1073741823, 35433480191, 1073741823, 241591910399, 516469817343, 1099511627775, 2199023255551, 4398046511103, 8796093022207, 17592186044415, 35184372088831, 17592186044415, 140737488355327, 281474976710655, 17592186044415, 580542139465727, 17592186044415, 3958241859993599, 8461841487364095, 18014398509481983, 36028797018963967, 72057594037927935] [] [0, 1, 2, 3, 4, 5, 6, 7, 8, 9, 10, 11, 12, 13, 14, 15, 16, 17, 18, 19, 20, 21, 22, 23, 24, 25, 26, 27, 28, 29, 30, 31, 32, 33, 34, 35, 36, 37, 38, 39, 40, 41, 42, 43, 44, 45, 46, 47, 48, 49, 50, 51, 52, 53, 54, 55, 56] (by kernel_rfl) ?_
      refine q_field rfl rfl ?_
      refine q_field rfl rfl ?_
      refine q_load rfl (Blk.cell (hS.blk 1 rfl) rfl) rfl ?_
      refine q_move rfl rfl ?_
      first | refine q_indexSn (by infer_instance) rfl hL rfl (by first | omega | decide) rfl fun b138 o138 f138 => ?_ | refine q_indexS (by infer_instance) rfl hL rfl (by first | omega | decide) (by first | omega | decide) rfl fun b138 o138 f138 => ?_
      refine q_load rfl (El.intCell f138) rfl ?_
      refine q_field rfl rfl ?_
      refine q_field rfl rfl ?_
      refine q_load rfl (Blk.cell (hS.blk 0 rfl) rfl) rfl ?_
      refine q_move rfl rfl ?_
      first | refine q_indexSn (by infer_instance) rfl gL rfl (by first | omega | decide) rfl fun b144 o144 f144 => ?_ | refine q_indexS (by infer_instance) rfl gL rfl (by first | omega | decide) (by first | omega | decide) rfl fun b144 o144 f144 => ?_
      refine q_load rfl (El.intCell f144) rfl ?_
      refine q_neq rfl rfl rfl ?_
      refine q_move rfl rfl ?_
      refine g_or 14 rfl trivial rfl rfl ?_; apply Exists.intro; refine ⟨fun hg => ?_, fun hg => ?_, fun wm36 hBm36 => ?_⟩
      · have hg0 := hg
        refine g_skip rfl rfl rfl ?_
        refine g_skip rfl rfl rfl ?_
        refine g_skip rfl rfl rfl ?_
        refine g_skip rfl rfl rfl ?_
        refine g_skip rfl rfl rfl ?_
        refine g_skip rfl rfl rfl ?_
        refine g_skip rfl rfl rfl ?_
        refine g_skip rfl rfl rfl ?_
        refine g_skip rfl rfl rfl ?_
        refine g_skip rfl rfl rfl ?_
        refine g_skip rfl rfl rfl ?_
        refine g_skip rfl rfl rfl ?_
        refine g_skip rfl rfl rfl ?_
        refine g_skip rfl rfl rfl ?_
        exact eseq_nil ⟨rfl, Sub.set rfl (Sub.set rfl (Sub.set rfl (Sub.set rfl (Sub.set rfl (Sub.set rfl (Sub.set rfl (Sub.set rfl (Sub.set rfl (Sub.set rfl (Sub.set rfl (Sub.set rfl (Sub.set rfl (Sub.set rfl (Sub.bool true rfl hg0))))))))))))))⟩
      · have hg0 := hg
        have hTm36 := Below.refl (World.heap wl35).size wl35
        try simp at hg
        refine g_run rfl ?_; refine q_field rfl rfl ?_
        refine g_run rfl ?_; refine q_field rfl rfl ?_
        refine g_run rfl ?_; refine q_load rfl (Blk.cell (hS.blk 1 rfl) rfl) rfl ?_
        refine g_run rfl ?_; refine q_move rfl rfl ?_
        refine g_run rfl ?_; first | refine q_indexSn (by infer_instance) rfl hC rfl (by first | omega | decide) rfl fun b152 o152 f152 => ?_ | refine q_indexS (by infer_instance) rfl hC rfl (by first | omega | decide) (by first | omega | decide) rfl fun b152 o152 f152 => ?_
        refine g_run rfl ?_; refine q_loadS rfl f152 rfl fun v153 f153 => ?_
        refine g_run rfl ?_; refine q_field rfl rfl ?_
        refine g_run rfl ?_; refine q_field rfl rfl ?_
        refine g_run rfl ?_; refine q_load rfl (Blk.cell (hS.blk 0 rfl) rfl) rfl ?_
        refine g_run rfl ?_; refine q_move rfl rfl ?_
        refine g_run rfl ?_; first | refine q_indexSn (by infer_instance) rfl gC rfl (by first | omega | decide) rfl fun b158 o158 f158 => ?_ | refine q_indexS (by infer_instance) rfl gC rfl (by first | omega | decide) (by first | omega | decide) rfl fun b158 o158 f158 => ?_
        refine g_run rfl ?_; refine q_loadS rfl f158 rfl fun v159 f159 => ?_
        refine g_run rfl ?_; refine q_call rfl (sameInts f153 f159 hcq.1) rfl ?_
        rintro _ w37 ⟨rfl, hB37⟩; refine ⟨fun _ => .of_below hB37, ?_⟩
        replace f8 := f8.ext hB37
        replace f5 := f5.ext hB37
        replace hL := hL.ext hB37
        replace hC := hC.ext hB37
        replace hA := hA.ext hB37
        replace hK1 := hK1.ext hB37
        replace hV := hV.ext hB37
        replace hF := hF.ext hB37
        replace gL := gL.ext hB37
        replace gC := gC.ext hB37
        replace gA := gA.ext hB37
        replace gK1 := gK1.ext hB37
        replace gV := gV.ext hB37
        replace gF := gF.ext hB37
        replace f138 := f138.ext hB37
        replace f144 := f144.ext hB37
        replace f152 := f152.ext hB37
        replace f153 := f153.ext hB37
        replace f158 := f158.ext hB37
        replace f159 := f159.ext hB37
        replace hS := hS.below hB37
        replace hTl35 := hTl35.trans (Below.mono hB37 hTl35.size)
        replace hTm36 := hTm36.trans (Below.mono hB37 hTm36.size)
        refine g_run rfl ?_; refine q_not rfl rfl ?_
        exact eseq_nil ⟨hTm36, Sub.set rfl (Sub.set rfl (Sub.set rfl (Sub.set rfl (Sub.set rfl (Sub.set rfl (Sub.set rfl (Sub.set rfl (Sub.set rfl (Sub.set rfl (Sub.set rfl (Sub.set rfl (Sub.set rfl (Sub.set rfl (Sub.bool false rfl hg0)))))))))))))), rfl⟩
      replace f8 := f8.ext hBm36
      replace f5 := f5.ext hBm36
      replace hL := hL.ext hBm36
      replace hC := hC.ext hBm36
      replace hA := hA.ext hBm36
      replace hK1 := hK1.ext hBm36
      replace hV := hV.ext hBm36
      replace hF := hF.ext hBm36
      replace gL := gL.ext hBm36
      replace gC := gC.ext hBm36
      replace gA := gA.ext hBm36
      replace gK1 := gK1.ext hBm36
      replace gV := gV.ext hBm36
      replace gF := gF.ext hBm36
      replace f138 := f138.ext hBm36
      replace f144 := f144.ext hBm36
      replace hS := hS.below hBm36
      replace hTl35 := hTl35.trans (Below.mono hBm36 hTl35.size)
      refine q_move rfl rfl ?_
      refine g_or 12 rfl trivial rfl rfl ?_; apply Exists.intro; refine ⟨fun hg => ?_, fun hg => ?_, fun wm38 hBm38 => ?_⟩
      · have hg0 := hg
        refine g_skip rfl rfl rfl ?_
        refine g_skip rfl rfl rfl ?_
        refine g_skip rfl rfl rfl ?_
        refine g_skip rfl rfl rfl ?_
        refine g_skip rfl rfl rfl ?_
        refine g_skip rfl rfl rfl ?_
        refine g_skip rfl rfl rfl ?_
        refine g_skip rfl rfl rfl ?_
        refine g_skip rfl rfl rfl ?_
        refine g_skip rfl rfl rfl ?_
        refine g_skip rfl rfl rfl ?_
        refine g_skip rfl rfl rfl ?_
        exact eseq_nil ⟨rfl, Sub.set rfl (Sub.set rfl (Sub.set rfl (Sub.set rfl (Sub.set rfl (Sub.set rfl (Sub.set rfl (Sub.set rfl (Sub.set rfl (Sub.set rfl (Sub.set rfl (Sub.set rfl (Sub.bool true rfl hg0))))))))))))⟩
      · have hg0 := hg
        have hTm38 := Below.refl (World.heap wm36).size wm36
        try simp at hg
        refine g_run rfl ?_; refine q_field rfl rfl ?_
        refine g_run rfl ?_; refine q_load rfl (Blk.cell (hS.blk 1 rfl) rfl) rfl ?_
        refine g_run rfl ?_; refine q_move rfl rfl ?_
        refine g_run rfl ?_; first | refine q_indexSn (by infer_instance) rfl hK1 rfl (by first | omega | decide) rfl fun b167 o167 f167 => ?_ | refine q_indexS (by infer_instance) rfl hK1 rfl (by first | omega | decide) (by first | omega | decide) rfl fun b167 o167 f167 => ?_
        refine g_run rfl ?_; refine q_loadS rfl f167 rfl fun v168 f168 => ?_
        refine g_run rfl ?_; refine q_field rfl rfl ?_
        refine g_run rfl ?_; refine q_load rfl (Blk.cell (hS.blk 0 rfl) rfl) rfl ?_
        refine g_run rfl ?_; refine q_move rfl rfl ?_
        refine g_run rfl ?_; first | refine q_indexSn (by infer_instance) rfl gK1 rfl (by first | omega | decide) rfl fun b172 o172 f172 => ?_ | refine q_indexS (by infer_instance) rfl gK1 rfl (by first | omega | decide) (by first | omega | decide) rfl fun b172 o172 f172 => ?_
        refine g_run rfl ?_; refine q_loadS rfl f172 rfl fun v173 f173 => ?_
        refine g_run rfl ?_; refine q_call rfl (sameInts f168 f173 hcq.2.1) rfl ?_
        rintro _ w39 ⟨rfl, hB39⟩; refine ⟨fun _ => .of_below hB39, ?_⟩
        replace f8 := f8.ext hB39
        replace f5 := f5.ext hB39
        replace hL := hL.ext hB39
        replace hC := hC.ext hB39
        replace hA := hA.ext hB39
        replace hK1 := hK1.ext hB39
        replace hV := hV.ext hB39
        replace hF := hF.ext hB39
        replace gL := gL.ext hB39
        replace gC := gC.ext hB39
        replace gA := gA.ext hB39
        replace gK1 := gK1.ext hB39
        replace gV := gV.ext hB39
        replace gF := gF.ext hB39
        replace f138 := f138.ext hB39
        replace f144 := f144.ext hB39
        replace f167 := f167.ext hB39
        replace f168 := f168.ext hB39
        replace f172 := f172.ext hB39
        replace f173 := f173.ext hB39
        replace hS := hS.below hB39
        replace hTl35 := hTl35.trans (Below.mono hB39 hTl35.size)
        replace hTm38 := hTm38.trans (Below.mono hB39 hTm38.size)
        refine g_run rfl ?_; refine q_not rfl rfl ?_
        exact eseq_nil ⟨hTm38, Sub.set rfl (Sub.set rfl (Sub.set rfl (Sub.set rfl (Sub.set rfl (Sub.set rfl (Sub.set rfl (Sub.set rfl (Sub.set rfl (Sub.set rfl (Sub.set rfl (Sub.set rfl (Sub.bool false rfl hg0)))))))))))), rfl⟩
      replace f8 := f8.ext hBm38
      replace f5 := f5.ext hBm38
      replace hL := hL.ext hBm38
      replace hC := hC.ext hBm38
      replace hA := hA.ext hBm38
      replace hK1 := hK1.ext hBm38
      replace hV := hV.ext hBm38
      replace hF := hF.ext hBm38
      replace gL := gL.ext hBm38
      replace gC := gC.ext hBm38
      replace gA := gA.ext hBm38
      replace gK1 := gK1.ext hBm38
      replace gV := gV.ext hBm38
      replace gF := gF.ext hBm38
      replace f138 := f138.ext hBm38
      replace f144 := f144.ext hBm38
      replace hS := hS.below hBm38
      replace hTl35 := hTl35.trans (Below.mono hBm38 hTl35.size)
      refine q_move rfl rfl ?_
      refine g_or 12 rfl trivial rfl rfl ?_; apply Exists.intro; refine ⟨fun hg => ?_, fun hg => ?_, fun wm40 hBm40 => ?_⟩
      · have hg0 := hg
        refine g_skip rfl rfl rfl ?_
        refine g_skip rfl rfl rfl ?_
        refine g_skip rfl rfl rfl ?_
        refine g_skip rfl rfl rfl ?_
        refine g_skip rfl rfl rfl ?_
        refine g_skip rfl rfl rfl ?_
        refine g_skip rfl rfl rfl ?_
        refine g_skip rfl rfl rfl ?_
        refine g_skip rfl rfl rfl ?_
        refine g_skip rfl rfl rfl ?_
        refine g_skip rfl rfl rfl ?_
        refine g_skip rfl rfl rfl ?_
        exact eseq_nil ⟨rfl, Sub.set rfl (Sub.set rfl (Sub.set rfl (Sub.set rfl (Sub.set rfl (Sub.set rfl (Sub.set rfl (Sub.set rfl (Sub.set rfl (Sub.set rfl (Sub.set rfl (Sub.set rfl (Sub.bool true rfl hg0))))))))))))⟩
      · have hg0 := hg
        have hTm40 := Below.refl (World.heap wm38).size wm38
        try simp at hg
        refine g_run rfl ?_; refine q_field rfl rfl ?_
        refine g_run rfl ?_; refine q_load rfl (Blk.cell (hS.blk 1 rfl) rfl) rfl ?_
        refine g_run rfl ?_; refine q_move rfl rfl ?_
        refine g_run rfl ?_; first | refine q_indexSn (by infer_instance) rfl hF rfl (by first | omega | decide) rfl fun b181 o181 f181 => ?_ | refine q_indexS (by infer_instance) rfl hF rfl (by first | omega | decide) (by first | omega | decide) rfl fun b181 o181 f181 => ?_
        refine g_run rfl ?_; refine q_loadS rfl f181 rfl fun v182 f182 => ?_
        refine g_run rfl ?_; refine q_field rfl rfl ?_
        refine g_run rfl ?_; refine q_load rfl (Blk.cell (hS.blk 0 rfl) rfl) rfl ?_
        refine g_run rfl ?_; refine q_move rfl rfl ?_
        refine g_run rfl ?_; first | refine q_indexSn (by infer_instance) rfl gF rfl (by first | omega | decide) rfl fun b186 o186 f186 => ?_ | refine q_indexS (by infer_instance) rfl gF rfl (by first | omega | decide) (by first | omega | decide) rfl fun b186 o186 f186 => ?_
        refine g_run rfl ?_; refine q_loadS rfl f186 rfl fun v187 f187 => ?_
        refine g_run rfl ?_; refine q_call rfl (sameBools f182 f187 hcq.2.2) rfl ?_
        rintro _ w41 ⟨rfl, hB41⟩; refine ⟨fun _ => .of_below hB41, ?_⟩
        replace f8 := f8.ext hB41
        replace f5 := f5.ext hB41
        replace hL := hL.ext hB41
        replace hC := hC.ext hB41
        replace hA := hA.ext hB41
        replace hK1 := hK1.ext hB41
        replace hV := hV.ext hB41
        replace hF := hF.ext hB41
        replace gL := gL.ext hB41
        replace gC := gC.ext hB41
        replace gA := gA.ext hB41
        replace gK1 := gK1.ext hB41
        replace gV := gV.ext hB41
        replace gF := gF.ext hB41
        replace f138 := f138.ext hB41
        replace f144 := f144.ext hB41
        replace f181 := f181.ext hB41
        replace f182 := f182.ext hB41
        replace f186 := f186.ext hB41
        replace f187 := f187.ext hB41
        replace hS := hS.below hB41
        replace hTl35 := hTl35.trans (Below.mono hB41 hTl35.size)
        replace hTm40 := hTm40.trans (Below.mono hB41 hTm40.size)
        refine g_run rfl ?_; refine q_not rfl rfl ?_
        exact eseq_nil ⟨hTm40, Sub.set rfl (Sub.set rfl (Sub.set rfl (Sub.set rfl (Sub.set rfl (Sub.set rfl (Sub.set rfl (Sub.set rfl (Sub.set rfl (Sub.set rfl (Sub.set rfl (Sub.set rfl (Sub.bool false rfl hg0)))))))))))), rfl⟩
      replace f8 := f8.ext hBm40
      replace f5 := f5.ext hBm40
      replace hL := hL.ext hBm40
      replace hC := hC.ext hBm40
      replace hA := hA.ext hBm40
      replace hK1 := hK1.ext hBm40
      replace hV := hV.ext hBm40
      replace hF := hF.ext hBm40
      replace gL := gL.ext hBm40
      replace gC := gC.ext hBm40
      replace gA := gA.ext hBm40
      replace gK1 := gK1.ext hBm40
      replace gV := gV.ext hBm40
      replace gF := gF.ext hBm40
      replace f138 := f138.ext hBm40
      replace f144 := f144.ext hBm40
      replace hS := hS.below hBm40
      replace hTl35 := hTl35.trans (Below.mono hBm40 hTl35.size)
      refine eseq_nil ?_
      refine hK _ _ ?_; clear hK
      refine e_cond rfl (fun hbad => ?_) (fun hbad => ?_)
      · skip
        rw [e1, e2, e3, e4] at hbad
        simp at hbad
      · skip
        refine e_skip ?_
        refine hK _ _ ?_; clear hK
        refine e_region_text rfl ?_
        refine q_move rfl rfl ?_
        refine q_add rfl rfl (wr64 (by omega) (by omega)) rfl ?_
        refine q_assign rfl rfl ?_
        refine eseq_nil ?_
        refine ⟨n - (q + 1), _, by omega, ⟨q + 1, by omega, rfl, hTl35, rfl⟩, Sub.cons rfl (Sub.cons rfl (Sub.cons rfl (Sub.cons rfl (Sub.cons rfl (Sub.nil _)))))⟩
    · skip
      refine e_exit ?_
      clear hK
      refine hK _ _ ?_; clear hK
      refine e_seq fun K hK => ?_
      refine e_region_text rfl ?_
      refine q_assign rfl rfl ?_
      refine eseq_nil ?_
      refine hK _ _ ?_; clear hK
      refine e_ret ?_
      exact ⟨_, res1 rfl rfl, rfl, hS.step.below⟩
end Go.Proofs.Ytdpleaifhdlciaa
