/- The walk of IndexedQuiet. -/
import Derived.Test.YtdpleaifhdlciaaW25k
import Derived.Test.YtdpleaifhdlciaaP25q
import Derived.Test.YtdpleaifhdlciaaW16c
set_option linter.unusedVariables false
namespace Go.Mine
theorem filter_take {α : Type} [Inhabited α] {f : α → Bool} {l : List α} {j : Nat} (h : j < l.length) : (l.take (j + 1)).filter f = (l.take j).filter f ++ if f (nth l j) then [nth l j] else [] := by
  rw [take_nth h, List.filter_append]
  cases hf : f (nth l j) <;> simp [hf]
end Go.Mine
namespace Go.Proofs.Ytdpleaifhdlciaa
open Go.RowKit Go.Mine
attribute [local irreducible] eseq ewp
variable {w : World} {S : Nat → Prop}

theorem indexedQuiet_walk {v : Value} {l : List Int} (hl : IsSlice Ty.u8 w S v l) (hm : l.length ≤ 9223372036854775807) (hu : ∀ c ∈ l, U8 c) :
    Gives Try.prog 7 [v] w fun v w' => v = .bool true ∧ Below w.heap.size w w' := by
  have hS := Sep.start w
  replace hl := hl.old
  obtain ⟨n, hn, hn2, hn4, hplay⟩ := play_draw l
  have hdl := draw25_len l
  have hsd := Comp.sound (n := n) (l := (draw25 l).2) (by omega) (by omega)
  have hqr := Quiet.run (n := n) (draw25 l).2
  have hfl : ((draw25 l).2.filter fun a => a.kind != 3).length ≤ 60 := Nat.le_trans (List.length_filter_le _ _) hdl
  have hsq := Comp.sound (n := n) (l := (draw25 l).2.filter fun a => a.kind != 3) (by omega) (by omega)
  have hplayq : playE (draw25 l).1 ((draw25 l).2.filter fun a => a.kind != 3) = ((Comp.run n ((draw25 l).2.filter fun a => a.kind != 3)).hist, 0) := by
    have h1 := draw25_n l
    rw [playE, if_neg (by simp; omega), if_neg (by omega), hn]; simp
  generalize Comp.run n (draw25 l).2 = c at hplay hsd hqr
  generalize Comp.run n ((draw25 l).2.filter fun a => a.kind != 3) = d at hplayq hsq hqr
  refine fn_of Try.func7 rfl Try.ntmps7 (Nat.le_of_ble_eq_true rfl) ?_
  have hT := Below.refl w.heap.size w
  refine e_seq fun K hK => ?_
  refine e_region_text rfl ?_
  refine q_assign rfl rfl ?_
  refine eseq_nil ?_
  refine hK _ _ ?_; clear hK
  refine e_seq fun K hK => ?_
  refine e_seq fun K hK => ?_
  refine e_region_text rfl ?_
  refine q_call rfl (awake25) rfl ?_
  rintro _ w1 ⟨rfl, hB1⟩; refine ⟨fun _ => .of_below hB1, ?_⟩
  replace hl := hl.ext hB1
  replace hS := hS.below hB1
  refine q_not rfl rfl ?_
  refine eseq_nil ?_
  refine hK _ _ ?_; clear hK
  refine e_cond rfl (fun hc => ?_) (fun hc => ?_)
  · skip
    cases hc
  refine e_skip ?_
  refine hK _ _ ?_; clear hK
  refine e_seq fun K hK => ?_
  refine e_region_text rfl ?_
  refine q_move rfl rfl ?_
  refine q_call rfl (drawW25 (Sep.enter (As := []) hS) hl hm hu) rfl ?_
  rintro _ w2 ⟨va, R2, rfl, hC2, f8⟩
  refine ⟨(fun h => by cases h), ?_⟩
  have hk2 := hC2.keptR (Sep.offFeet (As := []) hS)
  replace hl := hl.kept hk2
  replace hl := hl.mono fun k hk _ => hC2.ro0 k hk
  replace hS := Sep.leave (As := []) hS hC2; simp only [List.nil_append] at hS
  refine q_move rfl rfl ?_
  refine q_extract rfl rfl rfl ?_
  refine q_extract rfl rfl rfl ?_
  refine q_assign rfl rfl ?_
  refine q_assign rfl rfl ?_
  refine eseq_nil ?_
  refine hK _ _ ?_; clear hK
  refine e_seq fun K hK => ?_
  refine e_region_text rfl ?_
  refine q_assign rfl rfl ?_
  refine eseq_nil ?_
  refine hK _ _ ?_; clear hK
  refine e_seq fun K hK => ?_
  refine e_seq fun K hK => ?_
  refine e_region_text rfl ?_
  refine q_assign rfl rfl ?_
  refine eseq_nil ?_
  refine hK _ _ ?_; clear hK
  refine e_block ?_
  clear hl
  replace hS := hS.nilOwn deedTy 49
  refine e_loop (fun m E wx => ∃ (j : Nat) (v : Value), j ≤ (draw25 l).2.length ∧ Sep _ _ _ w wx [HP.own deedTy _ 49 v (((draw25 l).2.take j).filter fun a => a.kind != 3)] ∧ IsSlice deedTy wx _ va (draw25 l).2 ∧ m = (draw25 l).2.length - j ∧ E = [(3, .int .i64 (draw25 l).1), (4, va), (5, v), (6, .int .i64 j)]) _
    ⟨_, ⟨0, _, by omega, hS, f8, rfl, rfl⟩, Sub.cons rfl (Sub.cons rfl (Sub.cons rfl (Sub.cons rfl (Sub.nil _))))⟩ ?_
  clear hS f8
  rintro m E wx ⟨j, v, hj, hS, f8, rfl, rfl⟩
  have hjl : (((draw25 l).2.take j).filter fun a => a.kind != 3).length ≤ j := Nat.le_trans (List.length_filter_le _ _) (by simp; omega)
  refine e_seq fun K hK => ?_
  refine e_seq fun K hK => ?_
  refine e_region_text rfl ?_
  refine q_move rfl rfl ?_
  refine q_move rfl rfl ?_
  refine q_lenS rfl f8 rfl ?_
  refine q_lss rfl rfl rfl ?_
  refine eseq_nil ?_
  refine hK _ _ ?_; clear hK
  refine e_cond rfl (fun hif => ?_) (fun hif => ?_)
  · skip
    have hlt : j < (draw25 l).2.length := by simpa using hif
    have hft := filter_take (f := fun a : Deed => a.kind != 3) hlt
    refine e_skip ?_
    refine hK _ _ ?_; clear hK
    refine e_seq fun K hK => ?_
    refine e_block ?_
    refine e_seq fun K hK => ?_
    refine e_region_text rfl ?_
    refine q_move rfl rfl ?_
    refine q_move rfl rfl ?_
    first | refine q_indexSn (by infer_instance) rfl f8 rfl (by first | omega | decide) rfl fun b27 o27 f27 => ?_ | refine q_indexS (by infer_instance) rfl f8 rfl (by first | omega | decide) (by first | omega | decide) rfl fun b27 o27 f27 => ?_
    refine q_field rfl rfl ?_
    have f28 := ActF0 f27
    refine q_load rfl (El.intCell f28) rfl ?_
    refine q_neq rfl rfl rfl ?_
    refine eseq_nil ?_
    refine hK _ _ ?_; clear hK
    refine e_cond rfl (fun hk => ?_) (fun hk => ?_)
    · skip
      have hk' : (nth (draw25 l).2 j).kind != 3 := hk
      rw [if_pos hk'] at hft
      refine e_region_text rfl ?_
      refine q_move rfl rfl ?_
      refine q_move rfl rfl ?_
      refine q_move rfl rfl ?_
      first | refine q_indexSn (by infer_instance) rfl f8 rfl (by first | omega | decide) rfl fun b34 o34 f34 => ?_ | refine q_indexS (by infer_instance) rfl f8 rfl (by first | omega | decide) (by first | omega | decide) rfl fun b34 o34 f34 => ?_
      refine q_loadAgg rfl (ActL f34) rfl rfl ?_
      refine q_slice1 rfl rfl rfl rfl rfl rfl fun w3 bl3 hg3 hb3 hB3 => ?_
      replace f8 := f8.ext hB3
      replace f27 := f27.ext hB3
      replace f28 := f28.ext hB3
      replace f34 := f34.ext hB3
      replace hS := hS.below hB3
      refine q_append1 (u := (nth (draw25 l).2 j)) rfl rfl rfl rfl (hS.own 0 rfl) rfl hb3 (deedR.2 rfl) (by omega) (Nat.zero_le _) rfl (fun h => by cases h) fun v37 w4 hw4 hgr4 hnw4 => ?_
      have hk4 := hS.keptOwn 0 rfl hgr4
      replace f8 := f8.kept hk4
      replace f27 := f27.kept hk4
      replace f28 := f28.kept hk4
      replace f34 := f34.kept hk4
      replace hS := hS.setOwn 0 rfl hw4 hgr4 hnw4; simp only [List.set] at hS
      refine q_assign rfl rfl ?_
      refine eseq_nil ?_
      refine hK _ _ ?_; clear hK
      refine e_region_text rfl ?_
      refine q_move rfl rfl ?_
      refine q_add rfl rfl (wr64 (by omega) (by omega)) rfl ?_
      refine q_assign rfl rfl ?_
      refine eseq_nil ?_
      rw [← hft] at hS
      exact ⟨(draw25 l).2.length - (j + 1), _, by omega, ⟨j + 1, _, by omega, hS, f8, rfl, rfl⟩, Sub.cons rfl (Sub.cons rfl (Sub.cons rfl (Sub.cons rfl (Sub.nil _))))⟩
    · skip
      have hk' : ¬ ((nth (draw25 l).2 j).kind != 3) = true := by rw [show ((nth (draw25 l).2 j).kind != 3) = false from hk]; simp
      rw [if_neg hk', List.append_nil] at hft
      refine e_skip ?_
      refine hK _ _ ?_; clear hK
      refine e_region_text rfl ?_
      refine q_move rfl rfl ?_
      refine q_add rfl rfl (wr64 (by omega) (by omega)) rfl ?_
      refine q_assign rfl rfl ?_
      refine eseq_nil ?_
      rw [← hft] at hS
      exact ⟨(draw25 l).2.length - (j + 1), _, by omega, ⟨j + 1, _, by omega, hS, f8, rfl, rfl⟩, Sub.cons rfl (Sub.cons rfl (Sub.cons rfl (Sub.cons rfl (Sub.nil _))))⟩
  · skip
    have hge : j = (draw25 l).2.length := by simp at hif; omega
    rw [hge, List.take_length] at hS
    clear hjl hif
    have f5 := hS.isl 0 rfl
    obtain ⟨R5, hS5, hm5, hn5⟩ := hS.freezeO 0 rfl
    replace f5 := f5.mono (S' := R5) fun k hk _ => hk.elim (hm5 k) (hn5 k)
    replace f8 := f8.mono (S' := R5) fun k hk _ => hm5 k hk
    clear hS
    have hS := hS5
    simp only [List.eraseIdx] at hS
    refine e_exit ?_
    clear hK
    refine hK _ _ ?_; clear hK
    refine e_seq fun K hK => ?_
    refine e_region_text rfl ?_
    refine q_move rfl rfl ?_
    refine q_move rfl rfl ?_
    refine q_call rfl (play25 (draw25 l).1 f8 (by omega)) rfl ?_
    rintro _ w5 ⟨vL, vC, vA, vK, vV, vF, rfl, ⟨hL, hC, hA, hK1, hV, hF⟩, hB5⟩; refine ⟨(fun h => by cases h), ?_⟩
    replace f8 := f8.ext hB5
    replace f5 := f5.ext hB5
    obtain ⟨R5, hS, hm5, hn5⟩ := hS.growO hB5
    replace f8 := f8.mono fun k hk _ => hm5 k hk
    replace f5 := f5.mono fun k hk _ => hm5 k hk
    replace hL := hL.mono fun k hk hlt => hn5 k hk hlt
    replace hC := hC.mono fun k hk hlt => hn5 k hk hlt
    replace hA := hA.mono fun k hk hlt => hn5 k hk hlt
    replace hK1 := hK1.mono fun k hk hlt => hn5 k hk hlt
    replace hV := hV.mono fun k hk hlt => hn5 k hk hlt
    replace hF := hF.mono fun k hk hlt => hn5 k hk hlt
    rw [hplay] at hL hC hA hK1 hV hF ⊢
    simp only [Comp.hist] at hL hC hA hK1 hV hF ⊢
    refine q_move rfl rfl ?_
    refine q_extract rfl rfl rfl ?_
    refine q_extract rfl rfl rfl ?_
    refine q_allocB rfl fun w6 bl6 hg6 hb6 hB6 => ?_
    replace f8 := f8.ext hB6
    replace f5 := f5.ext hB6
    replace hL := hL.ext hB6
    replace hC := hC.ext hB6
    replace hA := hA.ext hB6
    replace hK1 := hK1.ext hB6
    replace hV := hV.ext hB6
    replace hF := hF.ext hB6
    replace hS := hS.newBlk hB6 hg6 hb6
    refine q_storeAgg rfl rfl (hS.blk 0 rfl) rfl (Nat.le_of_ble_eq_true rfl) (all_cons hL.one (all_cons hC.one (all_cons hA.one (all_cons hK1.one (all_cons hV.one (all_cons hF.one (all_nil))))))) rfl rfl fun w7 hb7 hO7 => ?_
    simp only [setN] at hb7
    have hk7 := hS.keptBlk 0 rfl hO7
    replace f8 := f8.kept hk7
    replace f5 := f5.kept hk7
    replace hL := hL.kept hk7
    replace hC := hC.kept hk7
    replace hA := hA.kept hk7
    replace hK1 := hK1.kept hk7
    replace hV := hV.kept hk7
    replace hF := hF.kept hk7
    replace hS := hS.setBlk 0 rfl hb7 hO7; simp only [List.set] at hS
    refine q_assign rfl rfl ?_
    refine eseq_nil ?_
    refine hK _ _ ?_; clear hK
    refine e_seq fun K hK => ?_
    refine e_region_text rfl ?_
    refine q_move rfl rfl ?_
    refine q_move rfl rfl ?_
    refine q_call rfl (play25 (draw25 l).1 f5 (by omega)) rfl ?_
    rintro _ w8 ⟨uL, uC, uA, uK, uV, uF, rfl, ⟨gL, gC, gA, gK1, gV, gF⟩, hB8⟩; refine ⟨(fun h => by cases h), ?_⟩
    replace f8 := f8.ext hB8
    replace f5 := f5.ext hB8
    replace hL := hL.ext hB8
    replace hC := hC.ext hB8
    replace hA := hA.ext hB8
    replace hK1 := hK1.ext hB8
    replace hV := hV.ext hB8
    replace hF := hF.ext hB8
    obtain ⟨R8, hS, hm8, hn8⟩ := hS.growO hB8
    replace f8 := f8.mono fun k hk _ => hm8 k hk
    replace f5 := f5.mono fun k hk _ => hm8 k hk
    replace hL := hL.mono fun k hk _ => hm8 k hk
    replace hC := hC.mono fun k hk _ => hm8 k hk
    replace hA := hA.mono fun k hk _ => hm8 k hk
    replace hK1 := hK1.mono fun k hk _ => hm8 k hk
    replace hV := hV.mono fun k hk _ => hm8 k hk
    replace hF := hF.mono fun k hk _ => hm8 k hk
    replace gL := gL.mono fun k hk hlt => hn8 k hk hlt
    replace gC := gC.mono fun k hk hlt => hn8 k hk hlt
    replace gA := gA.mono fun k hk hlt => hn8 k hk hlt
    replace gK1 := gK1.mono fun k hk hlt => hn8 k hk hlt
    replace gV := gV.mono fun k hk hlt => hn8 k hk hlt
    replace gF := gF.mono fun k hk hlt => hn8 k hk hlt
    rw [hplayq] at gL gC gA gK1 gV gF ⊢
    simp only [Comp.hist] at gL gC gA gK1 gV gF ⊢
    rw [hn]
    refine q_move rfl rfl ?_
    refine q_extract rfl rfl rfl ?_
    refine q_extract rfl rfl rfl ?_
    refine q_allocB rfl fun w9 bl9 hg9 hb9 hB9 => ?_
    replace f8 := f8.ext hB9
    replace f5 := f5.ext hB9
    replace hL := hL.ext hB9
    replace hC := hC.ext hB9
    replace hA := hA.ext hB9
    replace hK1 := hK1.ext hB9
    replace hV := hV.ext hB9
    replace hF := hF.ext hB9
    replace gL := gL.ext hB9
    replace gC := gC.ext hB9
    replace gA := gA.ext hB9
    replace gK1 := gK1.ext hB9
    replace gV := gV.ext hB9
    replace gF := gF.ext hB9
    replace hS := hS.newBlk hB9 hg9 hb9
    refine q_storeAgg rfl rfl (hS.blk 0 rfl) rfl (Nat.le_of_ble_eq_true rfl) (all_cons gL.one (all_cons gC.one (all_cons gA.one (all_cons gK1.one (all_cons gV.one (all_cons gF.one (all_nil))))))) rfl rfl fun w10 hb10 hO10 => ?_
    simp only [setN] at hb10
    have hk10 := hS.keptBlk 0 rfl hO10
    replace f8 := f8.kept hk10
    replace f5 := f5.kept hk10
    replace hL := hL.kept hk10
    replace hC := hC.kept hk10
    replace hA := hA.kept hk10
    replace hK1 := hK1.kept hk10
    replace hV := hV.kept hk10
    replace hF := hF.kept hk10
    replace gL := gL.kept hk10
    replace gC := gC.kept hk10
    replace gA := gA.kept hk10
    replace gK1 := gK1.kept hk10
    replace gV := gV.kept hk10
    replace gF := gF.kept hk10
    replace hS := hS.setBlk 0 rfl hb10 hO10; simp only [List.set] at hS
    refine q_assign rfl rfl ?_
    refine eseq_nil ?_
    refine hK _ _ ?_; clear hK
    refine e_seq fun K hK => ?_
    refine e_seq fun K hK => ?_
    refine e_region_text rfl ?_
    refine q_move rfl rfl ?_
    refine q_neq rfl rfl rfl ?_
    refine q_move rfl rfl ?_
    refine g_or 2 rfl trivial rfl rfl ?_; apply Exists.intro; refine ⟨fun hg => ?_, fun hg => ?_, fun wm11 hBm11 => ?_⟩
    · have hg0 := hg
      refine g_skip rfl rfl rfl ?_
      refine g_skip rfl rfl rfl ?_
      exact eseq_nil ⟨rfl, Sub.set rfl (Sub.set rfl (Sub.bool true rfl hg0))⟩
    · have hg0 := hg
      have hTm11 := Below.refl (World.heap w10).size w10
      try simp at hg
      refine g_run rfl ?_; refine q_move rfl rfl ?_
      refine g_run rfl ?_; refine q_neq rfl rfl rfl ?_
      exact eseq_nil ⟨hTm11, Sub.set rfl (Sub.set rfl (Sub.bool false rfl hg0)), rfl⟩
    replace f8 := f8.ext hBm11
    replace f5 := f5.ext hBm11
    replace hL := hL.ext hBm11
    replace hC := hC.ext hBm11
    replace hA := hA.ext hBm11
    replace hK1 := hK1.ext hBm11
    replace hV := hV.ext hBm11
    replace hF := hF.ext hBm11
    replace gL := gL.ext hBm11
    replace gC := gC.ext hBm11
    replace gA := gA.ext hBm11
    replace gK1 := gK1.ext hBm11
    replace gV := gV.ext hBm11
    replace gF := gF.ext hBm11
    replace hS := hS.below hBm11
    refine q_move rfl rfl ?_
    refine g_or 4 rfl trivial rfl rfl ?_; apply Exists.intro; refine ⟨fun hg => ?_, fun hg => ?_, fun wm12 hBm12 => ?_⟩
    · have hg0 := hg
      refine g_skip rfl rfl rfl ?_
      refine g_skip rfl rfl rfl ?_
      refine g_skip rfl rfl rfl ?_
      refine g_skip rfl rfl rfl ?_
      exact eseq_nil ⟨rfl, Sub.set rfl (Sub.set rfl (Sub.set rfl (Sub.set rfl (Sub.bool true rfl hg0))))⟩
    · have hg0 := hg
      have hTm12 := Below.refl (World.heap wm11).size wm11
      try simp at hg
      refine g_run rfl ?_; refine q_loadAgg rfl (Blk.cellsAt (hS.blk 1 rfl) 0 6 rfl) rfl rfl ?_
      refine g_run rfl ?_; refine q_move rfl rfl ?_
      refine g_run rfl ?_; refine q_call rfl (sound25 n ⟨hL, hC, hA, hK1, hV, hF⟩ hsd) rfl ?_
      rintro _ w13 ⟨rfl, hB13⟩; refine ⟨fun _ => .of_below hB13, ?_⟩
      replace f8 := f8.ext hB13
      replace f5 := f5.ext hB13
      replace hL := hL.ext hB13
      replace hC := hC.ext hB13
      replace hA := hA.ext hB13
      replace hK1 := hK1.ext hB13
      replace hV := hV.ext hB13
      replace hF := hF.ext hB13
      replace gL := gL.ext hB13
      replace gC := gC.ext hB13
      replace gA := gA.ext hB13
      replace gK1 := gK1.ext hB13
      replace gV := gV.ext hB13
      replace gF := gF.ext hB13
      replace hS := hS.below hB13
      replace hTm12 := hTm12.trans (Below.mono hB13 hTm12.size)
      refine g_run rfl ?_; refine q_not rfl rfl ?_
      exact eseq_nil ⟨hTm12, Sub.set rfl (Sub.set rfl (Sub.set rfl (Sub.set rfl (Sub.bool false rfl hg0)))), rfl⟩
    replace f8 := f8.ext hBm12
    replace f5 := f5.ext hBm12
    replace hL := hL.ext hBm12
    replace hC := hC.ext hBm12
    replace hA := hA.ext hBm12
    replace hK1 := hK1.ext hBm12
    replace hV := hV.ext hBm12
    replace hF := hF.ext hBm12
    replace gL := gL.ext hBm12
    replace gC := gC.ext hBm12
    replace gA := gA.ext hBm12
    replace gK1 := gK1.ext hBm12
    replace gV := gV.ext hBm12
    replace gF := gF.ext hBm12
    replace hS := hS.below hBm12
    refine q_move rfl rfl ?_
    refine g_or 4 rfl trivial rfl rfl ?_; apply Exists.intro; refine ⟨fun hg => ?_, fun hg => ?_, fun wm14 hBm14 => ?_⟩
    · have hg0 := hg
      refine g_skip rfl rfl rfl ?_
      refine g_skip rfl rfl rfl ?_
      refine g_skip rfl rfl rfl ?_
      refine g_skip rfl rfl rfl ?_
      exact eseq_nil ⟨rfl, Sub.set rfl (Sub.set rfl (Sub.set rfl (Sub.set rfl (Sub.bool true rfl hg0))))⟩
    · have hg0 := hg
      have hTm14 := Below.refl (World.heap wm12).size wm12
      try simp at hg
      refine g_run rfl ?_; refine q_loadAgg rfl (Blk.cellsAt (hS.blk 0 rfl) 0 6 rfl) rfl rfl ?_
      refine g_run rfl ?_; refine q_move rfl rfl ?_
      refine g_run rfl ?_; refine q_call rfl (sound25 n ⟨gL, gC, gA, gK1, gV, gF⟩ hsq) rfl ?_
      rintro _ w15 ⟨rfl, hB15⟩; refine ⟨fun _ => .of_below hB15, ?_⟩
      replace f8 := f8.ext hB15
      replace f5 := f5.ext hB15
      replace hL := hL.ext hB15
      replace hC := hC.ext hB15
      replace hA := hA.ext hB15
      replace hK1 := hK1.ext hB15
      replace hV := hV.ext hB15
      replace hF := hF.ext hB15
      replace gL := gL.ext hB15
      replace gC := gC.ext hB15
      replace gA := gA.ext hB15
      replace gK1 := gK1.ext hB15
      replace gV := gV.ext hB15
      replace gF := gF.ext hB15
      replace hS := hS.below hB15
      replace hTm14 := hTm14.trans (Below.mono hB15 hTm14.size)
      refine g_run rfl ?_; refine q_not rfl rfl ?_
      exact eseq_nil ⟨hTm14, Sub.set rfl (Sub.set rfl (Sub.set rfl (Sub.set rfl (Sub.bool false rfl hg0)))), rfl⟩
    replace f8 := f8.ext hBm14
    replace f5 := f5.ext hBm14
    replace hL := hL.ext hBm14
    replace hC := hC.ext hBm14
    replace hA := hA.ext hBm14
    replace hK1 := hK1.ext hBm14
    replace hV := hV.ext hBm14
    replace hF := hF.ext hBm14
    replace gL := gL.ext hBm14
    replace gC := gC.ext hBm14
    replace gA := gA.ext hBm14
    replace gK1 := gK1.ext hBm14
    replace gV := gV.ext hBm14
    replace gF := gF.ext hBm14
    replace hS := hS.below hBm14
    refine eseq_nil ?_
    refine hK _ _ ?_; clear hK
    refine e_cond rfl (fun hc5 => ?_) (fun hc5 => ?_)
    · skip
      simp at hc5
    have hcl : d.ckpts.length = n := by rw [hqr.ckpts]; simp
    refine e_skip ?_
    refine hK _ _ ?_; clear hK
    refine e_seq fun K hK => ?_
    refine e_seq fun K hK => ?_
    refine e_region_text rfl ?_
    refine q_assign rfl rfl ?_
    refine eseq_nil ?_
    refine hK _ _ ?_; clear hK
    refine e_block ?_
    refine e_loop (fun mm E wfor => ∃ q : Nat, (q ≤ n) ∧ mm = n - q ∧ Below (World.heap wm14).size wm14 wfor ∧ E = [(3, .int .i64 n), (7, .pointer (some ⟨bl6, 0, none⟩)), (9, .pointer (some ⟨bl9, 0, none⟩)), (11, .int .i64 q)]) _ ⟨_, ⟨0, by omega, rfl, Below.refl _ _, rfl⟩, Sub.cons rfl (Sub.cons rfl (Sub.cons rfl (Sub.cons rfl (Sub.nil _))))⟩ ?_
    rintro mm E wl16 ⟨q, hk16, rfl, hTl16, rfl⟩
    replace f8 := f8.ext hTl16
    replace f5 := f5.ext hTl16
    replace hL := hL.ext hTl16
    replace hC := hC.ext hTl16
    replace hA := hA.ext hTl16
    replace hK1 := hK1.ext hTl16
    replace hV := hV.ext hTl16
    replace hF := hF.ext hTl16
    replace gL := gL.ext hTl16
    replace gC := gC.ext hTl16
    replace gA := gA.ext hTl16
    replace gK1 := gK1.ext hTl16
    replace gV := gV.ext hTl16
    replace gF := gF.ext hTl16
    replace hS := hS.below hTl16
    refine e_seq fun K hK => ?_
    refine e_seq fun K hK => ?_
    refine e_region_text rfl ?_
    refine q_move rfl rfl ?_
    refine q_move rfl rfl ?_
    refine q_lss rfl rfl rfl ?_
    refine eseq_nil ?_
    refine hK _ _ ?_; clear hK
    refine e_cond rfl (fun hq => ?_) (fun hq => ?_)
    · skip
      have hlt : q < n := by simpa using hq
      have hrow : nth d.ckpts q = [0] := by rw [hqr.ckpts]; simp [nth, hlt]
      refine e_skip ?_
      refine hK _ _ ?_; clear hK
      refine e_seq fun K hK => ?_
      refine e_block ?_
      refine e_seq fun K hK => ?_
      refine e_region_text rfl ?_
      refine q_field rfl rfl ?_
      refine q_field rfl rfl ?_
      refine q_load rfl (Blk.cell (hS.blk 0 rfl) rfl) rfl ?_
      refine q_move rfl rfl ?_
      first | refine q_indexSn (by infer_instance) rfl gC rfl (by first | omega | decide) rfl fun b77 o77 f77 => ?_ | refine q_indexS (by infer_instance) rfl gC rfl (by first | omega | decide) (by first | omega | decide) rfl fun b77 o77 f77 => ?_
      refine q_loadS rfl f77 rfl fun v78 f78 => ?_
      refine q_lenS rfl f78 rfl ?_
      refine q_neq rfl rfl rfl ?_
      refine eseq_nil ?_
      refine hK _ _ ?_; clear hK
      refine e_cond rfl (fun hbad => ?_) (fun hbad => ?_)
      · skip
        rw [hrow] at hbad; cases hbad
      · skip
        refine e_skip ?_
        refine hK _ _ ?_; clear hK
        refine e_region_text rfl ?_
        refine q_move rfl rfl ?_
        refine q_add rfl rfl (wr64 (by omega) (by omega)) rfl ?_
        refine q_assign rfl rfl ?_
        refine eseq_nil ?_
        refine ⟨n - (q + 1), _, by omega, ⟨q + 1, by omega, rfl, hTl16, rfl⟩, Sub.cons rfl (Sub.cons rfl (Sub.cons rfl (Sub.cons rfl (Sub.nil _))))⟩
    · skip
      have hfit : d.hist.pat.Fits := ⟨by have := hsq.ok.procs; omega, by have := hsq.ok.rows; have := hsq.ok.procs; omega, by have := hsq.ok.arcs; omega, fun x hx => by
        obtain ⟨i, hi, rfl⟩ := List.getElem_of_mem hx
        have h1 := hsq.ok.rows
        have := hsq.ok.short i (by omega)
        rwa [nth_eq hi] at this⟩
      rw [← hqr.lens] at hL
      rw [← hqr.arcs] at hA
      refine e_exit ?_
      clear hK
      refine hK _ _ ?_; clear hK
      refine e_seq fun K hK => ?_
      refine e_region_text rfl ?_
      refine q_field rfl rfl ?_
      refine q_field rfl rfl ?_
      refine q_load rfl (Blk.cell (hS.blk 0 rfl) rfl) rfl ?_
      refine q_field rfl rfl ?_
      refine q_field rfl rfl ?_
      refine q_store rfl rfl (hS.blk 1 rfl) (Nat.le_of_ble_eq_true rfl) gC.one rfl rfl fun w17 hb17 hO17 => ?_
      have hk17 := hS.keptBlk 1 rfl hO17
      replace f8 := f8.kept hk17
      replace f5 := f5.kept hk17
      replace hL := hL.kept hk17
      replace hC := hC.kept hk17
      replace hA := hA.kept hk17
      replace hK1 := hK1.kept hk17
      replace hV := hV.kept hk17
      replace hF := hF.kept hk17
      replace gL := gL.kept hk17
      replace gC := gC.kept hk17
      replace gA := gA.kept hk17
      replace gK1 := gK1.kept hk17
      replace gV := gV.kept hk17
      replace gF := gF.kept hk17
      replace hS := hS.setBlk 1 rfl hb17 hO17; simp only [List.set] at hS
      refine eseq_nil ?_
      refine hK _ _ ?_; clear hK
      refine e_seq fun K hK => ?_
      refine e_region_text rfl ?_
      refine q_field rfl rfl ?_
      refine q_loadAgg rfl (Blk.cellsAt (hS.blk 1 rfl) 0 3 rfl) rfl rfl ?_
      refine q_field rfl rfl ?_
      refine q_loadAgg rfl (Blk.cellsAt (hS.blk 0 rfl) 0 3 rfl) rfl rfl ?_
      refine q_call rfl (same16 (p := d.hist.pat) hL gC hA gL gC gA hfit) rfl ?_
      rintro _ w18 ⟨rfl, hB18⟩; refine ⟨fun _ => .of_below hB18, ?_⟩
      replace f8 := f8.ext hB18
      replace f5 := f5.ext hB18
      replace hL := hL.ext hB18
      replace hC := hC.ext hB18
      replace hA := hA.ext hB18
      replace hK1 := hK1.ext hB18
      replace hV := hV.ext hB18
      replace hF := hF.ext hB18
      replace gL := gL.ext hB18
      replace gC := gC.ext hB18
      replace gA := gA.ext hB18
      replace gK1 := gK1.ext hB18
      replace gV := gV.ext hB18
      replace gF := gF.ext hB18
      replace hS := hS.below hB18
      refine q_assign rfl rfl ?_
      refine eseq_nil ?_
      refine hK _ _ ?_; clear hK
      refine e_ret ?_
      exact ⟨_, res1 rfl rfl, rfl, hS.step.below⟩
end Go.Proofs.Ytdpleaifhdlciaa
