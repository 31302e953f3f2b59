/- The walks of the laws of chapter 25: Ascends, Rises. -/
import Derived.Test.YtdpleaifhdlciaaW25h
import Derived.Test.YtdpleaifhdlciaaW25i
import Derived.Test.YtdpleaifhdlciaaP25
set_option linter.unusedSimpArgs false
set_option linter.unusedVariables false
namespace Go.Mine
theorem play_draw (l : List Int) : ∃ n : Nat, (draw25 l).1 = n ∧ 2 ≤ n ∧ n ≤ 4 ∧ playE (draw25 l).1 (draw25 l).2 = ((Comp.run n (draw25 l).2).hist, 0) := by
  have h1 := draw25_n l
  have h2 := draw25_len l
  obtain ⟨n, hn⟩ := Int.eq_ofNat_of_zero_le (show 0 ≤ (draw25 l).1 by omega)
  refine ⟨n, hn, by omega, by omega, ?_⟩
  rw [playE, if_neg (by simp; omega), if_neg (by omega), hn]; simp
end Go.Mine
namespace Go.Proofs.Ytdpleaifhdlciaa
open Go.RowKit Go.Mine
attribute [local irreducible] eseq ewp
variable {w : World} {S : Nat → Prop}

theorem indexedAscends_walk {v : Value} {l : List Int} (hl : IsSlice Ty.u8 w S v l) (hm : l.length ≤ 9223372036854775807) (hu : ∀ c ∈ l, U8 c) :
    Gives Try.prog 5 [v] w fun v w' => v = .bool true ∧ Below w.heap.size w w' := by
  have hS := Sep.start w
  replace hl := hl.old
  obtain ⟨n, hn, hn2, hn4, hplay⟩ := play_draw l
  have hdl := draw25_len l
  have hsd := Comp.sound (n := n) (l := (draw25 l).2) (by omega) (by omega)
  have hwf := Comp.Wf.run (n := n) (draw25 l).2
  generalize Comp.run n (draw25 l).2 = c at hplay hsd hwf
  refine fn_of Try.func5 rfl Try.ntmps5 (Nat.le_of_ble_eq_true rfl) ?_
  have hT := Below.refl w.heap.size w
  refine e_seq fun K hK => ?_
  refine e_region_text rfl ?_
  refine q_assign rfl rfl ?_
  refine eseq_nil ?_
  refine hK _ _ ?_; clear hK
  refine e_seq fun K hK => ?_
  refine e_seq fun K hK => ?_
  refine e_region_text rfl ?_
  refine q_call rfl (awake25) rfl ?_
  rintro _ w1 ⟨rfl, hB1⟩; refine ⟨fun _ => .of_below hB1, ?_⟩
  replace hl := hl.ext hB1
  replace hS := hS.below hB1
  refine q_not rfl rfl ?_
  refine eseq_nil ?_
  refine hK _ _ ?_; clear hK
  refine e_cond rfl (fun hc => ?_) (fun hc => ?_)
  · skip
    cases hc
  refine e_skip ?_
  refine hK _ _ ?_; clear hK
  refine e_seq fun K hK => ?_
  refine e_region_text rfl ?_
  refine q_move rfl rfl ?_
  refine q_call rfl (drawW25 (Sep.enter (As := []) hS) hl hm hu) rfl ?_
  rintro _ w2 ⟨va, R2, rfl, hC2, f8⟩
  refine ⟨(fun h => by cases h), ?_⟩
  have hk2 := hC2.keptR (Sep.offFeet (As := []) hS)
  replace hl := hl.kept hk2
  replace hl := hl.mono fun k hk _ => hC2.ro0 k hk
  replace hS := Sep.leave (As := []) hS hC2; simp only [List.nil_append] at hS
  refine q_move rfl rfl ?_
  refine q_extract rfl rfl rfl ?_
  refine q_extract rfl rfl rfl ?_
  refine q_assign rfl rfl ?_
  refine q_assign rfl rfl ?_
  refine eseq_nil ?_
  refine hK _ _ ?_; clear hK
  refine e_seq fun K hK => ?_
  refine e_region_text rfl ?_
  refine q_move rfl rfl ?_
  refine q_move rfl rfl ?_
  refine q_call rfl (play25 (draw25 l).1 f8 (by omega)) rfl ?_
  rintro _ w3 ⟨vL, vC, vA, vK, vV, vF, rfl, ⟨hL, hC, hA, hK1, hV, hF⟩, hB3⟩; refine ⟨(fun h => by cases h), ?_⟩
  replace hl := hl.ext hB3
  replace f8 := f8.ext hB3
  obtain ⟨R3, hS, hm3, hn3⟩ := hS.growO hB3
  replace hl := hl.mono fun k hk _ => hm3 k hk
  replace f8 := f8.mono fun k hk _ => hm3 k hk
  replace hL := hL.mono fun k hk hlt => hn3 k hk hlt
  replace hC := hC.mono fun k hk hlt => hn3 k hk hlt
  replace hA := hA.mono fun k hk hlt => hn3 k hk hlt
  replace hK1 := hK1.mono fun k hk hlt => hn3 k hk hlt
  replace hV := hV.mono fun k hk hlt => hn3 k hk hlt
  replace hF := hF.mono fun k hk hlt => hn3 k hk hlt
  rw [hplay] at hL hC hA hK1 hV hF ⊢
  rw [hn]
  simp only [Comp.hist] at hL hC hA hK1 hV hF ⊢
  refine q_move rfl rfl ?_
  refine q_extract rfl rfl rfl ?_
  refine q_extract rfl rfl rfl ?_
  refine q_allocB rfl fun w4 bl4 hg4 hb4 hB4 => ?_
  replace hl := hl.ext hB4
  replace f8 := f8.ext hB4
  replace hL := hL.ext hB4
  replace hC := hC.ext hB4
  replace hA := hA.ext hB4
  replace hK1 := hK1.ext hB4
  replace hV := hV.ext hB4
  replace hF := hF.ext hB4
  replace hS := hS.newBlk hB4 hg4 hb4
  refine q_storeAgg rfl rfl (hS.blk 0 rfl) rfl (Nat.le_of_ble_eq_true rfl) (all_cons hL.one (all_cons hC.one (all_cons hA.one (all_cons hK1.one (all_cons hV.one (all_cons hF.one (all_nil))))))) rfl rfl fun w5 hb5 hO5 => ?_
  simp only [setN, List.take, List.drop, List.set] at hb5
  have hk5 := hS.keptBlk 0 rfl hO5
  replace hl := hl.kept hk5
  replace f8 := f8.kept hk5
  replace hL := hL.kept hk5
  replace hC := hC.kept hk5
  replace hA := hA.kept hk5
  replace hK1 := hK1.kept hk5
  replace hV := hV.kept hk5
  replace hF := hF.kept hk5
  replace hS := hS.setBlk 0 rfl hb5 hO5; simp only [List.set] at hS
  refine q_assign rfl rfl ?_
  refine eseq_nil ?_
  refine hK _ _ ?_; clear hK
  refine e_seq fun K hK => ?_
  refine e_seq fun K hK => ?_
  refine e_region_text rfl ?_
  refine q_move rfl rfl ?_
  refine q_neq rfl rfl rfl ?_
  refine q_move rfl rfl ?_
  refine g_or 4 rfl trivial rfl rfl ?_; apply Exists.intro; refine ⟨fun hg => ?_, fun hg => ?_, fun wm6 hBm6 => ?_⟩
  · have hg0 := hg
    refine g_skip rfl rfl rfl ?_
    refine g_skip rfl rfl rfl ?_
    refine g_skip rfl rfl rfl ?_
    refine g_skip rfl rfl rfl ?_
    exact eseq_nil ⟨rfl, Sub.set rfl (Sub.set rfl (Sub.set rfl (Sub.set rfl (Sub.bool true rfl hg0))))⟩
  · have hg0 := hg
    have hTm6 := Below.refl (World.heap w5).size w5
    try simp at hg
    refine g_run rfl ?_; refine q_loadAgg rfl (Blk.cellsAt (hS.blk 0 rfl) 0 6 rfl) rfl rfl ?_
    refine g_run rfl ?_; refine q_move rfl rfl ?_
    refine g_run rfl ?_; refine q_call rfl (sound25 n ⟨hL, hC, hA, hK1, hV, hF⟩ hsd) rfl ?_
    rintro _ w7 ⟨rfl, hB7⟩; refine ⟨fun _ => .of_below hB7, ?_⟩
    replace hl := hl.ext hB7
    replace f8 := f8.ext hB7
    replace hL := hL.ext hB7
    replace hC := hC.ext hB7
    replace hA := hA.ext hB7
    replace hK1 := hK1.ext hB7
    replace hV := hV.ext hB7
    replace hF := hF.ext hB7
    replace hS := hS.below hB7
    replace hTm6 := hTm6.trans (Below.mono hB7 hTm6.size)
    refine g_run rfl ?_; refine q_not rfl rfl ?_
    exact eseq_nil ⟨hTm6, Sub.set rfl (Sub.set rfl (Sub.set rfl (Sub.set rfl (Sub.bool false rfl hg0)))), rfl⟩
  replace hl := hl.ext hBm6
  replace f8 := f8.ext hBm6
  replace hL := hL.ext hBm6
  replace hC := hC.ext hBm6
  replace hA := hA.ext hBm6
  replace hK1 := hK1.ext hBm6
  replace hV := hV.ext hBm6
  replace hF := hF.ext hBm6
  replace hS := hS.below hBm6
  refine eseq_nil ?_
  refine hK _ _ ?_; clear hK
  refine e_cond rfl (fun hc5 => ?_) (fun hc5 => ?_)
  · skip
    simp at hc5
  have hcl := hwf.clocks; have hfl := hwf.forced
  refine e_skip ?_
  refine hK _ _ ?_; clear hK
  refine e_seq fun K hK => ?_
  refine e_seq fun K hK => ?_
  refine e_region_text rfl ?_
  refine q_assign rfl rfl ?_
  refine eseq_nil ?_
  refine hK _ _ ?_; clear hK
  refine e_block ?_
  refine e_loop (fun mm E wfor => ∃ q : Nat, (q ≤ n) ∧ mm = n - q ∧ Below (World.heap wm6).size wm6 wfor ∧ E = [(3, .int .i64 n), (5, .pointer (some ⟨bl4, 0, none⟩)), (7, .int .i64 q)]) _ ⟨_, ⟨0, by omega, rfl, Below.refl _ _, rfl⟩, Sub.cons rfl (Sub.cons rfl (Sub.cons rfl (Sub.nil _)))⟩ ?_
  rintro mm E wl8 ⟨q, hk8, rfl, hTl8, rfl⟩
  replace hl := hl.ext hTl8
  replace f8 := f8.ext hTl8
  replace hL := hL.ext hTl8
  replace hC := hC.ext hTl8
  replace hA := hA.ext hTl8
  replace hK1 := hK1.ext hTl8
  replace hV := hV.ext hTl8
  replace hF := hF.ext hTl8
  replace hS := hS.below hTl8
  refine e_seq fun K hK => ?_
  refine e_seq fun K hK => ?_
  refine e_region_text rfl ?_
  refine q_move rfl rfl ?_
  refine q_move rfl rfl ?_
  refine q_lss rfl rfl rfl ?_
  refine eseq_nil ?_
  refine hK _ _ ?_; clear hK
  refine e_cond rfl (fun hq => ?_) (fun hq => ?_)
  · skip
    have hlt : q < n := by simpa using hq
    have hpo := hwf.pok hlt
    obtain ⟨ck', a, cl', hs1, hs2, hs3, hs4⟩ := hpo.snoc
    have hfo : (nth c.forced q).length = (nth c.clocks q).length := by rw [hs4, hs2]; simp [hs3]
    have hcb := (hsd.ok.short q (by rw [show c.hist.pat.lens = c.lens from rfl, hwf.lens]; exact hlt))
    have hcb2 : (nth c.clocks q).length ≤ 1000000000 := by
      have : (nth c.ckpts q).length = (nth c.clocks q).length := by rw [hs1, hs2]; simp [hs3]
      rw [← this]; exact hcb
    refine e_skip ?_
    refine hK _ _ ?_; clear hK
    refine e_seq fun K hK => ?_
    refine e_block ?_
    refine e_seq fun K hK => ?_
    refine e_region_text rfl ?_
    refine q_assign rfl rfl ?_
    refine eseq_nil ?_
    refine hK _ _ ?_; clear hK
    refine e_block ?_
    refine e_loop (fun mm E wfor => ∃ j : Nat, (j ≤ (nth c.clocks q).length) ∧ mm = (nth c.clocks q).length - j ∧ Below (World.heap wl8).size wl8 wfor ∧ E = [(3, .int .i64 n), (5, .pointer (some ⟨bl4, 0, none⟩)), (7, .int .i64 q), (8, .int .i64 j)]) _ ⟨_, ⟨0, by omega, rfl, Below.refl _ _, rfl⟩, Sub.cons rfl (Sub.cons rfl (Sub.cons rfl (Sub.cons rfl (Sub.nil _))))⟩ ?_
    rintro mm E wl9 ⟨j, hk9, rfl, hTl9, rfl⟩
    replace hl := hl.ext hTl9
    replace f8 := f8.ext hTl9
    replace hL := hL.ext hTl9
    replace hC := hC.ext hTl9
    replace hA := hA.ext hTl9
    replace hK1 := hK1.ext hTl9
    replace hV := hV.ext hTl9
    replace hF := hF.ext hTl9
    replace hS := hS.below hTl9
    replace hTl8 := hTl8.trans (Below.mono hTl9 hTl8.size)
    refine e_seq fun K hK => ?_
    refine e_seq fun K hK => ?_
    refine e_region_text rfl ?_
    refine q_move rfl rfl ?_
    refine q_field rfl rfl ?_
    refine q_load rfl (Blk.cell (hS.blk 0 rfl) rfl) rfl ?_
    refine q_move rfl rfl ?_
    first | refine q_indexSn (by infer_instance) rfl hK1 rfl (by first | omega | decide) rfl fun b39 o39 f39 => ?_ | refine q_indexS (by infer_instance) rfl hK1 rfl (by first | omega | decide) (by first | omega | decide) rfl fun b39 o39 f39 => ?_
    refine q_loadS rfl f39 rfl fun v40 f40 => ?_
    refine q_lenS rfl f40 rfl ?_
    refine q_lss rfl rfl rfl ?_
    refine eseq_nil ?_
    refine hK _ _ ?_; clear hK
    refine e_cond rfl (fun hj => ?_) (fun hj => ?_)
    · skip
      have hjlt : j < (nth c.clocks q).length := by simpa using hj
      have hri := hpo.rise j hjlt
      refine e_skip ?_
      refine hK _ _ ?_; clear hK
      refine e_seq fun K hK => ?_
      refine e_block ?_
      refine e_seq fun K hK => ?_
      refine e_region_draw mixed (fun _ => False) [0, 1, 0, 7, 15, 0, 63, 127, 0, 511, 1023, 2047, 4095, 8191, 16383, 32767, 16383, 131071, 262143, 16383, 1048575, 2097151, 16383, 4210687, 16383, 29376511, 62930943, 16383, 134234111, 532692991, 1069563903, 2147483647, 4294967295, 8589934591, 17179869183, 34359738367, 68719476735, 137438953471, 274877906943, 549755813887, 274877906943, 2199023255551, 4398046511103, 274877906943, 17592186044415, 35184372088831, 70368744177663, 140737488355327] [] [0, 1, 2, 3, 4, 5, 6, 7, 8, 9, 10, 11, 12, 13, 14, 15, 16, 17, 18, 19, 20, 21, 22, 23, 24, 25, 26, 27, 28, 29, 30, 31, 32, 33, 34, 35, 36, 37, 38, 39, 40, 41, 42, 43, 44, 45, 46, 47] (by kernel_rfl) ?_
      refine q_field rfl rfl ?_
      refine q_load rfl (Blk.cell (hS.blk 0 rfl) rfl) rfl ?_
      refine q_move rfl rfl ?_
      first | refine q_indexSn (by infer_instance) rfl hK1 rfl (by first | omega | decide) rfl fun b48 o48 f48 => ?_ | refine q_indexS (by infer_instance) rfl hK1 rfl (by first | omega | decide) (by first | omega | decide) rfl fun b48 o48 f48 => ?_
      refine q_loadS rfl f48 rfl fun v49 f49 => ?_
      refine q_move rfl rfl ?_
      first | refine q_indexSn (by infer_instance) rfl f49 rfl (by first | omega | decide) rfl fun b51 o51 f51 => ?_ | refine q_indexS (by infer_instance) rfl f49 rfl (by first | omega | decide) (by first | omega | decide) rfl fun b51 o51 f51 => ?_
      refine q_load rfl (El.intCell f51) rfl ?_
      refine q_move rfl rfl ?_
      refine q_lss rfl rfl rfl ?_
      refine q_move rfl rfl ?_
      refine g_or 22 rfl trivial rfl rfl ?_; apply Exists.intro; refine ⟨fun hg => ?_, fun hg => ?_, fun wm10 hBm10 => ?_⟩
      · have hg0 := hg
        refine g_skip rfl rfl rfl ?_
        refine g_skip rfl rfl rfl ?_
        refine g_skip rfl rfl rfl ?_
        refine g_skipU rfl rfl ?_
        refine g_skipU rfl rfl ?_
        refine g_skipU rfl rfl ?_
        refine g_skipU rfl rfl ?_
        refine g_skipU rfl rfl ?_
        refine g_skipU rfl rfl ?_
        refine g_skipU rfl rfl ?_
        refine g_skipU rfl rfl ?_
        refine g_skipU rfl rfl ?_
        refine g_skipU rfl rfl ?_
        refine g_skipU rfl rfl ?_
        refine g_skipU rfl rfl ?_
        refine g_skipU rfl rfl ?_
        refine g_skipU rfl rfl ?_
        refine g_skipU rfl rfl ?_
        refine g_skipU rfl rfl ?_
        refine g_skipU rfl rfl ?_
        refine g_skipU rfl rfl ?_
        refine g_skip rfl rfl rfl ?_
        exact eseq_nil ⟨rfl, Sub.set rfl (Sub.set rfl (Sub.set rfl (Sub.set rfl (Sub.set rfl (Sub.set rfl (Sub.set rfl (Sub.set rfl (Sub.set rfl (Sub.set rfl (Sub.set rfl (Sub.set rfl (Sub.set rfl (Sub.set rfl (Sub.set rfl (Sub.set rfl (Sub.set rfl (Sub.set rfl (Sub.set rfl (Sub.set rfl (Sub.set rfl (Sub.set rfl (Sub.bool true rfl hg0))))))))))))))))))))))⟩
      · have hg0 := hg
        have hTm10 := Below.refl (World.heap wl9).size wl9
        try simp at hg
        refine g_run rfl ?_; refine q_move rfl rfl ?_
        refine g_run rfl ?_; refine q_gtr rfl rfl rfl ?_
        refine g_run rfl ?_; refine q_move rfl rfl ?_
        refine g_and 18 rfl rfl rfl rfl ?_; apply Exists.intro; refine ⟨fun hg => ?_, fun hg => ?_, fun wm11 hBm11 => ?_⟩
        · have hg0 := hg
          have hTm11 := Below.refl (World.heap wl9).size wl9
          try simp at hg
          have hj0 : 0 < j := by simp at hg0; omega
          refine g_run rfl ?_; refine q_field rfl rfl ?_
          refine g_run rfl ?_; refine q_load rfl (Blk.cell (hS.blk 0 rfl) rfl) rfl ?_
          refine g_run rfl ?_; refine q_move rfl rfl ?_
          refine g_run rfl ?_; first | refine q_indexSn (by infer_instance) rfl hK1 rfl (by first | omega | decide) rfl fun b62 o62 f62 => ?_ | refine q_indexS (by infer_instance) rfl hK1 rfl (by first | omega | decide) (by first | omega | decide) rfl fun b62 o62 f62 => ?_
          refine g_run rfl ?_; refine q_loadS rfl f62 rfl fun v63 f63 => ?_
          refine g_run rfl ?_; refine q_move rfl rfl ?_
          refine g_run rfl ?_; first | refine q_indexSn (by infer_instance) rfl f63 rfl (by first | omega | decide) rfl fun b65 o65 f65 => ?_ | refine q_indexS (by infer_instance) rfl f63 rfl (by first | omega | decide) (by first | omega | decide) rfl fun b65 o65 f65 => ?_
          refine g_run rfl ?_; refine q_load rfl (El.intCell f65) rfl ?_
          refine g_run rfl ?_; refine q_field rfl rfl ?_
          refine g_run rfl ?_; refine q_load rfl (Blk.cell (hS.blk 0 rfl) rfl) rfl ?_
          refine g_run rfl ?_; refine q_move rfl rfl ?_
          refine g_run rfl ?_; first | refine q_indexSn (by infer_instance) rfl hK1 rfl (by first | omega | decide) rfl fun b70 o70 f70 => ?_ | refine q_indexS (by infer_instance) rfl hK1 rfl (by first | omega | decide) (by first | omega | decide) rfl fun b70 o70 f70 => ?_
          refine g_run rfl ?_; refine q_loadS rfl f70 rfl fun v71 f71 => ?_
          refine g_run rfl ?_; refine q_move rfl rfl ?_
          refine g_run rfl ?_; refine q_sub rfl rfl (wr64 (by omega) (by omega)) rfl ?_
          refine g_run rfl ?_; first | refine q_indexSn (by infer_instance) rfl f71 rfl (by first | omega | decide) rfl fun b74 o74 f74 => ?_ | refine q_indexS (by infer_instance) rfl f71 rfl (by first | omega | decide) (by first | omega | decide) rfl fun b74 o74 f74 => ?_
          refine g_run rfl ?_; refine q_load rfl (El.intCell f74) rfl ?_
          refine g_run rfl ?_; refine q_leq rfl rfl rfl ?_
          exact eseq_nil ⟨hTm11, Sub.set rfl (Sub.set rfl (Sub.set rfl (Sub.set rfl (Sub.set rfl (Sub.set rfl (Sub.set rfl (Sub.set rfl (Sub.set rfl (Sub.set rfl (Sub.set rfl (Sub.set rfl (Sub.set rfl (Sub.set rfl (Sub.set rfl (Sub.set rfl (Sub.set rfl (Sub.set rfl (Sub.bool true rfl hg0)))))))))))))))))), rfl⟩
        · have hg0 := hg
          refine g_skip rfl rfl rfl ?_
          refine g_skip rfl rfl rfl ?_
          refine g_skip rfl rfl rfl ?_
          refine g_skip rfl rfl rfl ?_
          refine g_skip rfl rfl rfl ?_
          refine g_skip rfl rfl rfl ?_
          refine g_skip rfl rfl rfl ?_
          refine g_skip rfl rfl rfl ?_
          refine g_skip rfl rfl rfl ?_
          refine g_skip rfl rfl rfl ?_
          refine g_skip rfl rfl rfl ?_
          refine g_skip rfl rfl rfl ?_
          refine g_skip rfl rfl rfl ?_
          refine g_skip rfl rfl rfl ?_
          refine g_skip rfl rfl rfl ?_
          refine g_skip rfl rfl rfl ?_
          refine g_skip rfl rfl rfl ?_
          refine g_skip rfl rfl rfl ?_
          exact eseq_nil ⟨rfl, Sub.set rfl (Sub.set rfl (Sub.set rfl (Sub.set rfl (Sub.set rfl (Sub.set rfl (Sub.set rfl (Sub.set rfl (Sub.set rfl (Sub.set rfl (Sub.set rfl (Sub.set rfl (Sub.set rfl (Sub.set rfl (Sub.set rfl (Sub.set rfl (Sub.set rfl (Sub.set rfl (Sub.bool false rfl hg0))))))))))))))))))⟩
        replace hl := hl.ext hBm11
        replace f8 := f8.ext hBm11
        replace hL := hL.ext hBm11
        replace hC := hC.ext hBm11
        replace hA := hA.ext hBm11
        replace hK1 := hK1.ext hBm11
        replace hV := hV.ext hBm11
        replace hF := hF.ext hBm11
        replace f39 := f39.ext hBm11
        replace f40 := f40.ext hBm11
        replace f48 := f48.ext hBm11
        replace f49 := f49.ext hBm11
        replace f51 := f51.ext hBm11
        replace hS := hS.below hBm11
        replace hTl8 := hTl8.trans (Below.mono hBm11 hTl8.size)
        replace hTl9 := hTl9.trans (Below.mono hBm11 hTl9.size)
        replace hTm10 := hTm10.trans (Below.mono hBm11 hTm10.size)
        exact eseq_nil ⟨hTm10, Sub.set rfl (Sub.set rfl (Sub.set rfl (Sub.set rfl (Sub.bool false rfl hg0)))), rfl⟩
      replace hl := hl.ext hBm10
      replace f8 := f8.ext hBm10
      replace hL := hL.ext hBm10
      replace hC := hC.ext hBm10
      replace hA := hA.ext hBm10
      replace hK1 := hK1.ext hBm10
      replace hV := hV.ext hBm10
      replace hF := hF.ext hBm10
      replace f39 := f39.ext hBm10
      replace f40 := f40.ext hBm10
      replace f48 := f48.ext hBm10
      replace f49 := f49.ext hBm10
      replace f51 := f51.ext hBm10
      replace hS := hS.below hBm10
      replace hTl8 := hTl8.trans (Below.mono hBm10 hTl8.size)
      replace hTl9 := hTl9.trans (Below.mono hBm10 hTl9.size)
      refine q_move rfl rfl ?_
      refine g_or 12 rfl trivial rfl rfl ?_; apply Exists.intro; refine ⟨fun hg => ?_, fun hg => ?_, fun wm12 hBm12 => ?_⟩
      · have hg0 := hg
        refine g_skip rfl rfl rfl ?_
        refine g_skip rfl rfl rfl ?_
        refine g_skip rfl rfl rfl ?_
        refine g_skipU rfl rfl ?_
        refine g_skipU rfl rfl ?_
        refine g_skipU rfl rfl ?_
        refine g_skipU rfl rfl ?_
        refine g_skipU rfl rfl ?_
        refine g_skipU rfl rfl ?_
        refine g_skipU rfl rfl ?_
        refine g_skipU rfl rfl ?_
        refine g_skip rfl rfl rfl ?_
        exact eseq_nil ⟨rfl, Sub.set rfl (Sub.set rfl (Sub.set rfl (Sub.set rfl (Sub.set rfl (Sub.set rfl (Sub.set rfl (Sub.set rfl (Sub.set rfl (Sub.set rfl (Sub.set rfl (Sub.set rfl (Sub.bool true rfl hg0))))))))))))⟩
      · have hg0 := hg
        have hTm12 := Below.refl (World.heap wm10).size wm10
        try simp at hg
        refine g_run rfl ?_; refine q_move rfl rfl ?_
        refine g_run rfl ?_; refine q_eql rfl rfl rfl ?_
        refine g_run rfl ?_; refine q_move rfl rfl ?_
        refine g_and 8 rfl rfl rfl rfl ?_; apply Exists.intro; refine ⟨fun hg => ?_, fun hg => ?_, fun wm13 hBm13 => ?_⟩
        · have hg0 := hg
          have hTm13 := Below.refl (World.heap wm10).size wm10
          try simp at hg
          refine g_run rfl ?_; refine q_field rfl rfl ?_
          refine g_run rfl ?_; refine q_load rfl (Blk.cell (hS.blk 0 rfl) rfl) rfl ?_
          refine g_run rfl ?_; refine q_move rfl rfl ?_
          refine g_run rfl ?_; first | refine q_indexSn (by infer_instance) rfl hF rfl (by first | omega | decide) rfl fun b86 o86 f86 => ?_ | refine q_indexS (by infer_instance) rfl hF rfl (by first | omega | decide) (by first | omega | decide) rfl fun b86 o86 f86 => ?_
          refine g_run rfl ?_; refine q_loadS rfl f86 rfl fun v87 f87 => ?_
          refine g_run rfl ?_; refine q_move rfl rfl ?_
          refine g_run rfl ?_; first | refine q_indexSn (by infer_instance) rfl f87 rfl (by first | omega | decide) rfl fun b89 o89 f89 => ?_ | refine q_indexS (by infer_instance) rfl f87 rfl (by first | omega | decide) (by first | omega | decide) rfl fun b89 o89 f89 => ?_
          refine g_run rfl ?_; refine q_load rfl (El.boolCell f89) rfl ?_
          exact eseq_nil ⟨hTm13, Sub.set rfl (Sub.set rfl (Sub.set rfl (Sub.set rfl (Sub.set rfl (Sub.set rfl (Sub.set rfl (Sub.set rfl (Sub.bool true rfl hg0)))))))), rfl⟩
        · have hg0 := hg
          refine g_skip rfl rfl rfl ?_
          refine g_skip rfl rfl rfl ?_
          refine g_skip rfl rfl rfl ?_
          refine g_skip rfl rfl rfl ?_
          refine g_skip rfl rfl rfl ?_
          refine g_skip rfl rfl rfl ?_
          refine g_skip rfl rfl rfl ?_
          refine g_skip rfl rfl rfl ?_
          exact eseq_nil ⟨rfl, Sub.set rfl (Sub.set rfl (Sub.set rfl (Sub.set rfl (Sub.set rfl (Sub.set rfl (Sub.set rfl (Sub.set rfl (Sub.bool false rfl hg0))))))))⟩
        replace hl := hl.ext hBm13
        replace f8 := f8.ext hBm13
        replace hL := hL.ext hBm13
        replace hC := hC.ext hBm13
        replace hA := hA.ext hBm13
        replace hK1 := hK1.ext hBm13
        replace hV := hV.ext hBm13
        replace hF := hF.ext hBm13
        replace f39 := f39.ext hBm13
        replace f40 := f40.ext hBm13
        replace f48 := f48.ext hBm13
        replace f49 := f49.ext hBm13
        replace f51 := f51.ext hBm13
        replace hS := hS.below hBm13
        replace hTl8 := hTl8.trans (Below.mono hBm13 hTl8.size)
        replace hTl9 := hTl9.trans (Below.mono hBm13 hTl9.size)
        replace hTm12 := hTm12.trans (Below.mono hBm13 hTm12.size)
        exact eseq_nil ⟨hTm12, Sub.set rfl (Sub.set rfl (Sub.set rfl (Sub.set rfl (Sub.bool false rfl hg0)))), rfl⟩
      replace hl := hl.ext hBm12
      replace f8 := f8.ext hBm12
      replace hL := hL.ext hBm12
      replace hC := hC.ext hBm12
      replace hA := hA.ext hBm12
      replace hK1 := hK1.ext hBm12
      replace hV := hV.ext hBm12
      replace hF := hF.ext hBm12
      replace f39 := f39.ext hBm12
      replace f40 := f40.ext hBm12
      replace f48 := f48.ext hBm12
      replace f49 := f49.ext hBm12
      replace f51 := f51.ext hBm12
      replace hS := hS.below hBm12
      replace hTl8 := hTl8.trans (Below.mono hBm12 hTl8.size)
      replace hTl9 := hTl9.trans (Below.mono hBm12 hTl9.size)
      refine eseq_nil ?_
      refine hK _ _ ?_; clear hK
      refine e_cond rfl (fun hbad => ?_) (fun hbad => ?_)
      · skip
        have ej : ((j : Int) - 1).toNat = j - 1 := by omega
        have hmk := hpo.mark
        rw [ej] at hbad
        rcases Nat.eq_zero_or_pos j with h0 | h0
        · subst h0
          simp at hbad
          rcases hbad with h1 | h1
          · omega
          · rw [hmk] at h1; cases h1
        · have h2 := hri.2 h0
          simp at hbad
          omega
      · skip
        refine e_skip ?_
        refine hK _ _ ?_; clear hK
        refine e_region_text rfl ?_
        refine q_move rfl rfl ?_
        refine q_add rfl rfl (wr64 (by omega) (by omega)) rfl ?_
        refine q_assign rfl rfl ?_
        refine eseq_nil ?_
        refine ⟨(nth c.clocks q).length - (j + 1), _, by omega, ⟨j + 1, by omega, rfl, hTl9, rfl⟩, Sub.cons rfl (Sub.cons rfl (Sub.cons rfl (Sub.cons rfl (Sub.nil _))))⟩
    · skip
      refine e_exit ?_
      clear hK
      refine hK _ _ ?_; clear hK
      refine e_region_text rfl ?_
      refine q_move rfl rfl ?_
      refine q_add rfl rfl (wr64 (by omega) (by omega)) rfl ?_
      refine q_assign rfl rfl ?_
      refine eseq_nil ?_
      refine ⟨n - (q + 1), _, by omega, ⟨q + 1, by omega, rfl, hTl8, rfl⟩, Sub.cons rfl (Sub.cons rfl (Sub.cons rfl (Sub.nil _)))⟩
  · skip
    refine e_exit ?_
    clear hK
    refine hK _ _ ?_; clear hK
    refine e_seq fun K hK => ?_
    refine e_region_text rfl ?_
    refine q_assign rfl rfl ?_
    refine eseq_nil ?_
    refine hK _ _ ?_; clear hK
    refine e_ret ?_
    exact ⟨_, res1 rfl rfl, rfl, hS.step.below⟩

theorem before25 {vL vC vA vK vV vF : Value} {h : Hist} {n : Nat} (hh : HistAt w S vL vC vA vK vV vF h) (q : Nat) (hq : q < h.clocks.length) (hq2 : q < h.ckpts.length) (hr : (nth h.clocks q).length = (nth h.ckpts q).length) (hb : (nth h.clocks q).length ≤ 1000000000) (ix : Int) :
    Gives Try.prog 18 [.agg #[vL, vC, vA, vK, vV, vF], .int .i64 q, .int .i64 ix] w fun v w' => v = .int .i64 (befL (nth h.ckpts q) (nth h.clocks q) ix) ∧ Below w.heap.size w w' := by
  have hL := hh.lens.old; have hC := hh.ckpts.old; have hA := hh.arcs.old; have hK1 := hh.clocks.old; have hV := hh.vecs.old; have hF := hh.forced.old
  have hS := Sep.start w
  refine fn_of Try.func18 rfl Try.ntmps18 (Nat.le_of_ble_eq_true rfl) ?_
  have hT := Below.refl w.heap.size w
  refine e_seq fun K hK => ?_
  refine e_region_text rfl ?_
  refine q_boxB rfl rfl rfl fun w1 bl1 hg1 hb1 hB1 => ?_
  replace hL := hL.ext hB1
  replace hC := hC.ext hB1
  replace hA := hA.ext hB1
  replace hK1 := hK1.ext hB1
  replace hV := hV.ext hB1
  replace hF := hF.ext hB1
  replace hS := hS.newBlk hB1 hg1 hb1
  refine q_assign rfl rfl ?_
  refine eseq_nil ?_
  refine hK _ _ ?_; clear hK
  refine e_seq fun K hK => ?_
  refine e_region_text rfl ?_
  refine q_assign rfl rfl ?_
  refine eseq_nil ?_
  refine hK _ _ ?_; clear hK
  refine e_seq fun K hK => ?_
  refine e_seq fun K hK => ?_
  refine e_region_text rfl ?_
  refine q_assign rfl rfl ?_
  refine eseq_nil ?_
  refine hK _ _ ?_; clear hK
  refine e_block ?_
  refine e_loop (fun mm E wfor => ∃ j : Nat, (j ≤ (nth h.clocks q).length) ∧ mm = (nth h.clocks q).length - j ∧ Below (World.heap w1).size w1 wfor ∧ E = [(1, .int .i64 q), (2, .int .i64 ix), (3, .pointer (some ⟨bl1, 0, none⟩)), (7, .int .i64 (befL ((nth h.ckpts q).take j) ((nth h.clocks q).take j) ix)), (8, .int .i64 j)]) _ ⟨_, ⟨0, by omega, rfl, Below.refl _ _, rfl⟩, Sub.cons rfl (Sub.cons rfl (Sub.cons rfl (Sub.cons rfl (Sub.cons rfl (Sub.nil _)))))⟩ ?_
  rintro mm E wl2 ⟨j, hk2, rfl, hTl2, rfl⟩
  replace hL := hL.ext hTl2
  replace hC := hC.ext hTl2
  replace hA := hA.ext hTl2
  replace hK1 := hK1.ext hTl2
  replace hV := hV.ext hTl2
  replace hF := hF.ext hTl2
  replace hS := hS.below hTl2
  refine e_seq fun K hK => ?_
  refine e_seq fun K hK => ?_
  refine e_region_text rfl ?_
  refine q_move rfl rfl ?_
  refine q_field rfl rfl ?_
  refine q_load rfl (Blk.cell (hS.blk 0 rfl) rfl) rfl ?_
  refine q_move rfl rfl ?_
  first | refine q_indexSn (by infer_instance) rfl hK1 rfl (by first | omega | decide) rfl fun b13 o13 f13 => ?_ | refine q_indexS (by infer_instance) rfl hK1 rfl (by first | omega | decide) (by first | omega | decide) rfl fun b13 o13 f13 => ?_
  refine q_loadS rfl f13 rfl fun v14 f14 => ?_
  refine q_lenS rfl f14 rfl ?_
  refine q_lss rfl rfl rfl ?_
  refine eseq_nil ?_
  refine hK _ _ ?_; clear hK
  refine e_cond rfl (fun hj => ?_) (fun hj => ?_)
  · skip
    have hjlt : j < (nth h.clocks q).length := by simpa using hj
    have hst : befL ((nth h.ckpts q).take (j + 1)) ((nth h.clocks q).take (j + 1)) ix = if nth (nth h.ckpts q) j < ix then nth (nth h.clocks q) j else befL ((nth h.ckpts q).take j) ((nth h.clocks q).take j) ix := by
      rw [take_nth (by omega), take_nth hjlt, befL_snoc (by simp; omega)]
    refine e_skip ?_
    refine hK _ _ ?_; clear hK
    refine e_seq fun K hK => ?_
    refine e_block ?_
    refine e_seq fun K hK => ?_
    refine e_region_text rfl ?_
    refine q_field rfl rfl ?_
    refine q_field rfl rfl ?_
    refine q_load rfl (Blk.cell (hS.blk 0 rfl) rfl) rfl ?_
    refine q_move rfl rfl ?_
    first | refine q_indexSn (by infer_instance) rfl hC rfl (by first | omega | decide) rfl fun b23 o23 f23 => ?_ | refine q_indexS (by infer_instance) rfl hC rfl (by first | omega | decide) (by first | omega | decide) rfl fun b23 o23 f23 => ?_
    refine q_loadS rfl f23 rfl fun v24 f24 => ?_
    refine q_move rfl rfl ?_
    first | refine q_indexSn (by infer_instance) rfl f24 rfl (by first | omega | decide) rfl fun b26 o26 f26 => ?_ | refine q_indexS (by infer_instance) rfl f24 rfl (by first | omega | decide) (by first | omega | decide) rfl fun b26 o26 f26 => ?_
    refine q_load rfl (El.intCell f26) rfl ?_
    refine q_move rfl rfl ?_
    refine q_lss rfl rfl rfl ?_
    refine eseq_nil ?_
    refine hK _ _ ?_; clear hK
    refine e_cond rfl (fun hb1 => ?_) (fun hb1 => ?_)
    · skip
      rw [if_pos (by simpa using hb1)] at hst
      refine e_region_text rfl ?_
      refine q_field rfl rfl ?_
      refine q_load rfl (Blk.cell (hS.blk 0 rfl) rfl) rfl ?_
      refine q_move rfl rfl ?_
      first | refine q_indexSn (by infer_instance) rfl hK1 rfl (by first | omega | decide) rfl fun b33 o33 f33 => ?_ | refine q_indexS (by infer_instance) rfl hK1 rfl (by first | omega | decide) (by first | omega | decide) rfl fun b33 o33 f33 => ?_
      refine q_loadS rfl f33 rfl fun v34 f34 => ?_
      refine q_move rfl rfl ?_
      first | refine q_indexSn (by infer_instance) rfl f34 rfl (by first | omega | decide) rfl fun b36 o36 f36 => ?_ | refine q_indexS (by infer_instance) rfl f34 rfl (by first | omega | decide) (by first | omega | decide) rfl fun b36 o36 f36 => ?_
      refine q_load rfl (El.intCell f36) rfl ?_
      refine q_assign rfl rfl ?_
      refine eseq_nil ?_
      refine hK _ _ ?_; clear hK
      refine e_region_text rfl ?_
      refine q_move rfl rfl ?_
      refine q_add rfl rfl (wr64 (by omega) (by omega)) rfl ?_
      refine q_assign rfl rfl ?_
      refine eseq_nil ?_
      rw [← hst]
      refine ⟨(nth h.clocks q).length - (j + 1), _, by omega, ⟨j + 1, by omega, rfl, hTl2, rfl⟩, Sub.cons rfl (Sub.cons rfl (Sub.cons rfl (Sub.cons rfl (Sub.cons rfl (Sub.nil _)))))⟩
    · skip
      rw [if_neg (by simpa using hb1)] at hst
      refine e_skip ?_
      refine hK _ _ ?_; clear hK
      refine e_region_text rfl ?_
      refine q_move rfl rfl ?_
      refine q_add rfl rfl (wr64 (by omega) (by omega)) rfl ?_
      refine q_assign rfl rfl ?_
      refine eseq_nil ?_
      rw [← hst]
      refine ⟨(nth h.clocks q).length - (j + 1), _, by omega, ⟨j + 1, by omega, rfl, hTl2, rfl⟩, Sub.cons rfl (Sub.cons rfl (Sub.cons rfl (Sub.cons rfl (Sub.cons rfl (Sub.nil _)))))⟩
  · skip
    have hge : j = (nth h.clocks q).length := by simp at hj; omega
    refine e_exit ?_
    clear hK
    refine hK _ _ ?_; clear hK
    refine e_seq fun K hK => ?_
    refine e_region_text rfl ?_
    refine q_move rfl rfl ?_
    refine q_assign rfl rfl ?_
    refine eseq_nil ?_
    refine hK _ _ ?_; clear hK
    refine e_ret ?_
    refine ⟨_, res1 rfl rfl, ?_, hS.step.below⟩
    rw [List.take_of_length_le (by omega), List.take_of_length_le (by omega)]

theorem before25i {vL vC vA vK vV vF : Value} {h : Hist} (hh : HistAt w S vL vC vA vK vV vF h) {qi : Int} (q : Nat) (hqi : qi = q) (hq : q < h.clocks.length) (hq2 : q < h.ckpts.length) (hr : (nth h.clocks q).length = (nth h.ckpts q).length) (hb : (nth h.clocks q).length ≤ 1000000000) (ix : Int) :
    Gives Try.prog 18 [.agg #[vL, vC, vA, vK, vV, vF], .int .i64 qi, .int .i64 ix] w fun v w' => v = .int .i64 (befL (nth h.ckpts q) (nth h.clocks q) ix) ∧ Below w.heap.size w w' := by
  subst hqi; exact before25 (n := 0) hh q hq hq2 hr hb ix

theorem indexedRises_walk {v : Value} {l : List Int} (hl : IsSlice Ty.u8 w S v l) (hm : l.length ≤ 9223372036854775807) (hu : ∀ c ∈ l, U8 c) :
    Gives Try.prog 6 [v] w fun v w' => v = .bool true ∧ Below w.heap.size w w' := by
  have hS := Sep.start w
  replace hl := hl.old
  obtain ⟨n, hn, hn2, hn4, hplay⟩ := play_draw l
  have hdl := draw25_len l
  have hsd := Comp.sound (n := n) (l := (draw25 l).2) (by omega) (by omega)
  have hwf := Comp.Wf.run (n := n) (draw25 l).2
  generalize Comp.run n (draw25 l).2 = c at hplay hsd hwf
  refine fn_of Try.func6 rfl Try.ntmps6 (Nat.le_of_ble_eq_true rfl) ?_
  have hT := Below.refl w.heap.size w
  refine e_seq fun K hK => ?_
  refine e_region_text rfl ?_
  refine q_assign rfl rfl ?_
  refine eseq_nil ?_
  refine hK _ _ ?_; clear hK
  refine e_seq fun K hK => ?_
  refine e_seq fun K hK => ?_
  refine e_region_text rfl ?_
  refine q_call rfl (awake25) rfl ?_
  rintro _ w1 ⟨rfl, hB1⟩; refine ⟨fun _ => .of_below hB1, ?_⟩
  replace hl := hl.ext hB1
  replace hS := hS.below hB1
  refine q_not rfl rfl ?_
  refine eseq_nil ?_
  refine hK _ _ ?_; clear hK
  refine e_cond rfl (fun hc => ?_) (fun hc => ?_)
  · skip
    cases hc
  refine e_skip ?_
  refine hK _ _ ?_; clear hK
  refine e_seq fun K hK => ?_
  refine e_region_text rfl ?_
  refine q_move rfl rfl ?_
  refine q_call rfl (drawW25 (Sep.enter (As := []) hS) hl hm hu) rfl ?_
  rintro _ w2 ⟨va, R2, rfl, hC2, f8⟩
  refine ⟨(fun h => by cases h), ?_⟩
  have hk2 := hC2.keptR (Sep.offFeet (As := []) hS)
  replace hl := hl.kept hk2
  replace hl := hl.mono fun k hk _ => hC2.ro0 k hk
  replace hS := Sep.leave (As := []) hS hC2; simp only [List.nil_append] at hS
  refine q_move rfl rfl ?_
  refine q_extract rfl rfl rfl ?_
  refine q_extract rfl rfl rfl ?_
  refine q_assign rfl rfl ?_
  refine q_assign rfl rfl ?_
  refine eseq_nil ?_
  refine hK _ _ ?_; clear hK
  refine e_seq fun K hK => ?_
  refine e_region_text rfl ?_
  refine q_move rfl rfl ?_
  refine q_move rfl rfl ?_
  refine q_call rfl (play25 (draw25 l).1 f8 (by omega)) rfl ?_
  rintro _ w3 ⟨vL, vC, vA, vK, vV, vF, rfl, ⟨hL, hC, hA, hK1, hV, hF⟩, hB3⟩; refine ⟨(fun h => by cases h), ?_⟩
  replace hl := hl.ext hB3
  replace f8 := f8.ext hB3
  obtain ⟨R3, hS, hm3, hn3⟩ := hS.growO hB3
  replace hl := hl.mono fun k hk _ => hm3 k hk
  replace f8 := f8.mono fun k hk _ => hm3 k hk
  replace hL := hL.mono fun k hk hlt => hn3 k hk hlt
  replace hC := hC.mono fun k hk hlt => hn3 k hk hlt
  replace hA := hA.mono fun k hk hlt => hn3 k hk hlt
  replace hK1 := hK1.mono fun k hk hlt => hn3 k hk hlt
  replace hV := hV.mono fun k hk hlt => hn3 k hk hlt
  replace hF := hF.mono fun k hk hlt => hn3 k hk hlt
  rw [hplay] at hL hC hA hK1 hV hF ⊢
  rw [hn]
  refine q_move rfl rfl ?_
  refine q_extract rfl rfl rfl ?_
  refine q_extract rfl rfl rfl ?_
  refine q_allocB rfl fun w4 bl4 hg4 hb4 hB4 => ?_
  replace hl := hl.ext hB4
  replace f8 := f8.ext hB4
  replace hL := hL.ext hB4
  replace hC := hC.ext hB4
  replace hA := hA.ext hB4
  replace hK1 := hK1.ext hB4
  replace hV := hV.ext hB4
  replace hF := hF.ext hB4
  replace hS := hS.newBlk hB4 hg4 hb4
  refine q_storeAgg rfl rfl (hS.blk 0 rfl) rfl (Nat.le_of_ble_eq_true rfl) (all_cons hL.one (all_cons hC.one (all_cons hA.one (all_cons hK1.one (all_cons hV.one (all_cons hF.one (all_nil))))))) rfl rfl fun w5 hb5 hO5 => ?_
  simp only [setN, List.take, List.drop, List.set] at hb5
  have hk5 := hS.keptBlk 0 rfl hO5
  replace hl := hl.kept hk5
  replace f8 := f8.kept hk5
  replace hL := hL.kept hk5
  replace hC := hC.kept hk5
  replace hA := hA.kept hk5
  replace hK1 := hK1.kept hk5
  replace hV := hV.kept hk5
  replace hF := hF.kept hk5
  replace hS := hS.setBlk 0 rfl hb5 hO5; simp only [List.set] at hS
  refine q_assign rfl rfl ?_
  refine eseq_nil ?_
  refine hK _ _ ?_; clear hK
  refine e_seq fun K hK => ?_
  refine e_seq fun K hK => ?_
  refine e_region_text rfl ?_
  refine q_move rfl rfl ?_
  refine q_neq rfl rfl rfl ?_
  refine q_move rfl rfl ?_
  refine g_or 4 rfl trivial rfl rfl ?_; apply Exists.intro; refine ⟨fun hg => ?_, fun hg => ?_, fun wm6 hBm6 => ?_⟩
  · have hg0 := hg
    refine g_skip rfl rfl rfl ?_
    refine g_skip rfl rfl rfl ?_
    refine g_skip rfl rfl rfl ?_
    refine g_skip rfl rfl rfl ?_
    exact eseq_nil ⟨rfl, Sub.set rfl (Sub.set rfl (Sub.set rfl (Sub.set rfl (Sub.bool true rfl hg0))))⟩
  · have hg0 := hg
    have hTm6 := Below.refl (World.heap w5).size w5
    try simp at hg
    refine g_run rfl ?_; refine q_loadAgg rfl (Blk.cellsAt (hS.blk 0 rfl) 0 6 rfl) rfl rfl ?_
    refine g_run rfl ?_; refine q_move rfl rfl ?_
    refine g_run rfl ?_; refine q_call rfl (sound25 n ⟨hL, hC, hA, hK1, hV, hF⟩ hsd) rfl ?_
    rintro _ w7 ⟨rfl, hB7⟩; refine ⟨fun _ => .of_below hB7, ?_⟩
    replace hl := hl.ext hB7
    replace f8 := f8.ext hB7
    replace hL := hL.ext hB7
    replace hC := hC.ext hB7
    replace hA := hA.ext hB7
    replace hK1 := hK1.ext hB7
    replace hV := hV.ext hB7
    replace hF := hF.ext hB7
    replace hS := hS.below hB7
    replace hTm6 := hTm6.trans (Below.mono hB7 hTm6.size)
    refine g_run rfl ?_; refine q_not rfl rfl ?_
    exact eseq_nil ⟨hTm6, Sub.set rfl (Sub.set rfl (Sub.set rfl (Sub.set rfl (Sub.bool false rfl hg0)))), rfl⟩
  replace hl := hl.ext hBm6
  replace f8 := f8.ext hBm6
  replace hL := hL.ext hBm6
  replace hC := hC.ext hBm6
  replace hA := hA.ext hBm6
  replace hK1 := hK1.ext hBm6
  replace hV := hV.ext hBm6
  replace hF := hF.ext hBm6
  replace hS := hS.below hBm6
  refine eseq_nil ?_
  refine hK _ _ ?_; clear hK
  refine e_cond rfl (fun hc5 => ?_) (fun hc5 => ?_)
  · skip
    simp at hc5
  have hal : c.hist.arcs.length ≤ 256 := hsd.ok.arcs
  have hcl := hsd.clocks; have hck := hsd.ckpts
  have hshort : ∀ r, r < n → (nth c.hist.clocks r).length = (nth c.hist.ckpts r).length ∧ (nth c.hist.clocks r).length ≤ 1000000000 := fun r hr => by
    have h1 := (hsd.rows r hr).1
    have h2 := hsd.ok.short r (by rw [show c.hist.pat.lens = c.lens from rfl, hwf.lens]; exact hr)
    exact ⟨h1, by rw [h1]; exact h2⟩
  refine e_skip ?_
  refine hK _ _ ?_; clear hK
  refine e_seq fun K hK => ?_
  refine e_seq fun K hK => ?_
  refine e_region_text rfl ?_
  refine q_assign rfl rfl ?_
  refine eseq_nil ?_
  refine hK _ _ ?_; clear hK
  refine e_block ?_
  refine e_loop (fun mm E wfor => ∃ i : Nat, (i ≤ c.hist.arcs.length) ∧ mm = c.hist.arcs.length - i ∧ Below (World.heap wm6).size wm6 wfor ∧ E = [(5, .pointer (some ⟨bl4, 0, none⟩)), (7, .int .i64 i)]) _ ⟨_, ⟨0, by omega, rfl, Below.refl _ _, rfl⟩, Sub.cons rfl (Sub.cons rfl (Sub.nil _))⟩ ?_
  rintro mm E wl8 ⟨i, hk8, rfl, hTl8, rfl⟩
  replace hl := hl.ext hTl8
  replace f8 := f8.ext hTl8
  replace hL := hL.ext hTl8
  replace hC := hC.ext hTl8
  replace hA := hA.ext hTl8
  replace hK1 := hK1.ext hTl8
  replace hV := hV.ext hTl8
  replace hF := hF.ext hTl8
  replace hS := hS.below hTl8
  refine e_seq fun K hK => ?_
  refine e_seq fun K hK => ?_
  refine e_region_text rfl ?_
  refine q_move rfl rfl ?_
  refine q_field rfl rfl ?_
  refine q_field rfl rfl ?_
  refine q_load rfl (Blk.cell (hS.blk 0 rfl) rfl) rfl ?_
  refine q_lenS rfl hA rfl ?_
  refine q_lss rfl rfl rfl ?_
  refine eseq_nil ?_
  refine hK _ _ ?_; clear hK
  refine e_cond rfl (fun hi => ?_) (fun hi => ?_)
  · skip
    have hilt : i < c.hist.arcs.length := by simpa using hi
    obtain ⟨fr, to, g1, g2, g5, g6, g7, g8, g9, g10, g11⟩ := hwf.arc i hilt
    have hrise := hwf.rise i hilt
    change (nth c.hist.arcs i).fr = fr at g1
    change (nth c.hist.arcs i).to = to at g2
    have hf1 := hshort fr g5; have ht1 := hshort to g6
    refine e_skip ?_
    refine hK _ _ ?_; clear hK
    refine e_seq fun K hK => ?_
    refine e_block ?_
    refine e_seq fun K hK => ?_
    refine e_region_text rfl ?_
    refine q_field rfl rfl ?_
    refine q_field rfl rfl ?_
    refine q_load rfl (Blk.cell (hS.blk 0 rfl) rfl) rfl ?_
    refine q_move rfl rfl ?_
    first | refine q_indexSn (by infer_instance) rfl hA rfl (by first | omega | decide) rfl fun b42 o42 f42 => ?_ | refine q_indexS (by infer_instance) rfl hA rfl (by first | omega | decide) (by first | omega | decide) rfl fun b42 o42 f42 => ?_
    refine q_loadAgg rfl (ArcL f42) rfl rfl ?_
    refine q_allocB rfl fun w9 bl9 hg9 hb9 hB9 => ?_
    replace hl := hl.ext hB9
    replace f8 := f8.ext hB9
    replace hL := hL.ext hB9
    replace hC := hC.ext hB9
    replace hA := hA.ext hB9
    replace hK1 := hK1.ext hB9
    replace hV := hV.ext hB9
    replace hF := hF.ext hB9
    replace f42 := f42.ext hB9
    have hz9hTl8 := Nat.le_trans hTl8.size hg9
    replace hTl8 := hTl8.trans (Below.mono hB9 hTl8.size)
    replace hS := hS.newBlk hB9 hg9 hb9
    refine q_storeAgg rfl rfl (hS.blk 0 rfl) rfl (Nat.le_of_ble_eq_true rfl) (all_cons rfl (all_cons rfl (all_cons rfl (all_cons rfl (all_nil))))) rfl rfl fun w10 hb10 hO10 => ?_
    simp only [setN, List.take, List.drop, List.set] at hb10
    replace hTl8 := Below.onlyB hTl8 hO10 (hS.blk 0 rfl).lt (by omega)
    have hk10 := hS.keptBlk 0 rfl hO10
    replace hl := hl.kept hk10
    replace f8 := f8.kept hk10
    replace hL := hL.kept hk10
    replace hC := hC.kept hk10
    replace hA := hA.kept hk10
    replace hK1 := hK1.kept hk10
    replace hV := hV.kept hk10
    replace hF := hF.kept hk10
    replace f42 := f42.kept hk10
    replace hS := hS.setBlk 0 rfl hb10 hO10; simp only [List.set] at hS
    refine eseq_nil ?_
    refine hK _ _ ?_; clear hK
    refine e_seq fun K hK => ?_
    refine e_region_draw mixed (fun _ => False) [0, 1, 3, 7, 15, 15, 47, 15, 143, 511, 15, 15, 2063, 15, 8207, 32767, 65535, 131071] [9] [0, 1, 2, 3, 4, 5, 6, 7, 8, 10, 11, 12, 13, 14, 9, 15, 16, 17] (by kernel_rfl) ?_
    refine q_field rfl rfl ?_
    refine q_load rfl (Blk.cell (hS.blk 0 rfl) rfl) rfl ?_
    refine q_gtr rfl rfl rfl ?_
    refine q_move rfl rfl ?_
    refine g_and 13 rfl trivial rfl rfl ?_; apply Exists.intro; refine ⟨fun hg => ?_, fun hg => ?_, fun wm11 hBm11 => ?_⟩
    · have hg0 := hg
      have hTm11 := Below.refl (World.heap w10).size w10
      try simp at hg
      refine g_run rfl ?_; refine q_loadAgg rfl (Blk.cellsAt (hS.blk 1 rfl) 0 6 rfl) rfl rfl ?_
      refine g_run rfl ?_; refine q_field rfl rfl ?_
      refine g_run rfl ?_; refine q_load rfl (Blk.cell (hS.blk 0 rfl) rfl) rfl ?_
      refine g_run rfl ?_; refine q_field rfl rfl ?_
      refine g_run rfl ?_; refine q_load rfl (Blk.cell (hS.blk 0 rfl) rfl) rfl ?_
      refine g_run rfl ?_; refine q_loadAgg rfl (Blk.cellsAt (hS.blk 1 rfl) 0 6 rfl) rfl rfl ?_
      refine g_run rfl ?_; refine q_field rfl rfl ?_
      refine g_run rfl ?_; refine q_load rfl (Blk.cell (hS.blk 0 rfl) rfl) rfl ?_
      refine g_run rfl ?_; refine q_field rfl rfl ?_
      refine g_run rfl ?_; refine q_load rfl (Blk.cell (hS.blk 0 rfl) rfl) rfl ?_
      refine g_run rfl ?_; refine q_call rfl (before25i (h := c.hist) ⟨hL, hC, hA, hK1, hV, hF⟩ to g2 (by omega) (by omega) ht1.1 ht1.2 (nth c.hist.arcs i).rcv) rfl ?_
      rintro _ w12 ⟨rfl, hB12⟩; refine ⟨fun _ => .of_below hB12, ?_⟩
      replace hl := hl.ext hB12
      replace f8 := f8.ext hB12
      replace hL := hL.ext hB12
      replace hC := hC.ext hB12
      replace hA := hA.ext hB12
      replace hK1 := hK1.ext hB12
      replace hV := hV.ext hB12
      replace hF := hF.ext hB12
      replace f42 := f42.ext hB12
      replace hS := hS.below hB12
      replace hTl8 := hTl8.trans (Below.mono hB12 hTl8.size)
      replace hTm11 := hTm11.trans (Below.mono hB12 hTm11.size)
      refine g_run rfl ?_; refine q_call rfl (before25i (h := c.hist) ⟨hL, hC, hA, hK1, hV, hF⟩ fr g1 (by omega) (by omega) hf1.1 hf1.2 (nth c.hist.arcs i).ix) rfl ?_
      rintro _ w13 ⟨rfl, hB13⟩; refine ⟨fun _ => .of_below hB13, ?_⟩
      replace hl := hl.ext hB13
      replace f8 := f8.ext hB13
      replace hL := hL.ext hB13
      replace hC := hC.ext hB13
      replace hA := hA.ext hB13
      replace hK1 := hK1.ext hB13
      replace hV := hV.ext hB13
      replace hF := hF.ext hB13
      replace f42 := f42.ext hB13
      replace hS := hS.below hB13
      replace hTl8 := hTl8.trans (Below.mono hB13 hTl8.size)
      replace hTm11 := hTm11.trans (Below.mono hB13 hTm11.size)
      refine g_run rfl ?_; refine q_lss rfl rfl rfl ?_
      exact eseq_nil ⟨hTm11, Sub.set rfl (Sub.set rfl (Sub.set rfl (Sub.set rfl (Sub.set rfl (Sub.set rfl (Sub.set rfl (Sub.set rfl (Sub.set rfl (Sub.set rfl (Sub.set rfl (Sub.set rfl (Sub.set rfl (Sub.bool true rfl hg0))))))))))))), rfl⟩
    · have hg0 := hg
      refine g_skip rfl rfl rfl ?_
      refine g_skip rfl rfl rfl ?_
      refine g_skip rfl rfl rfl ?_
      refine g_skip rfl rfl rfl ?_
      refine g_skip rfl rfl rfl ?_
      refine g_skip rfl rfl rfl ?_
      refine g_skip rfl rfl rfl ?_
      refine g_skip rfl rfl rfl ?_
      refine g_skip rfl rfl rfl ?_
      refine g_skip rfl rfl rfl ?_
      refine g_skip rfl rfl rfl ?_
      refine g_skip rfl rfl rfl ?_
      refine g_skip rfl rfl rfl ?_
      exact eseq_nil ⟨rfl, Sub.set rfl (Sub.set rfl (Sub.set rfl (Sub.set rfl (Sub.set rfl (Sub.set rfl (Sub.set rfl (Sub.set rfl (Sub.set rfl (Sub.set rfl (Sub.set rfl (Sub.set rfl (Sub.set rfl (Sub.bool false rfl hg0)))))))))))))⟩
    replace hl := hl.ext hBm11
    replace f8 := f8.ext hBm11
    replace hL := hL.ext hBm11
    replace hC := hC.ext hBm11
    replace hA := hA.ext hBm11
    replace hK1 := hK1.ext hBm11
    replace hV := hV.ext hBm11
    replace hF := hF.ext hBm11
    replace f42 := f42.ext hBm11
    replace hS := hS.below hBm11
    replace hTl8 := hTl8.trans (Below.mono hBm11 hTl8.size)
    refine eseq_nil ?_
    refine hK _ _ ?_; clear hK
    refine e_cond rfl (fun hbad => ?_) (fun hbad => ?_)
    · skip
      rw [show (nth c.arcs i).fr = fr from g1, show (nth c.arcs i).to = to from g2] at hrise
      simp only [Int.toNat_natCast] at hrise
      simp only [Bool.and_eq_true, decide_eq_true_eq] at hbad
      exact absurd (hrise (by have := hbad.1; change 0 < (nth c.arcs i).rcv at this; omega)) (by have := hbad.2; exact Int.not_le.2 this)
    · skip
      refine e_skip ?_
      refine hK _ _ ?_; clear hK
      refine e_region_text rfl ?_
      refine q_move rfl rfl ?_
      refine q_add rfl rfl (wr64 (by omega) (by omega)) rfl ?_
      refine q_assign rfl rfl ?_
      refine eseq_nil ?_
      refine ⟨c.hist.arcs.length - (i + 1), _, by omega, ⟨i + 1, by omega, rfl, hTl8, rfl⟩, Sub.cons rfl (Sub.cons rfl (Sub.nil _))⟩
  · skip
    refine e_exit ?_
    clear hK
    refine hK _ _ ?_; clear hK
    refine e_seq fun K hK => ?_
    refine e_region_text rfl ?_
    refine q_assign rfl rfl ?_
    refine eseq_nil ?_
    refine hK _ _ ?_; clear hK
    refine e_ret ?_
    exact ⟨_, res1 rfl rfl, rfl, hS.step.below⟩
end Go.Proofs.Ytdpleaifhdlciaa
