/- The walk of IndexedPlays. -/
import Derived.Test.YtdpleaifhdlciaaW25k
import Derived.Test.YtdpleaifhdlciaaR25d
import Derived.Test.YtdpleaifhdlciaaR25e
set_option linter.unusedSimpArgs false
set_option linter.unusedVariables false
namespace Go.Mine
theorem playE_fits (n : Int) (l : List Deed) : (playE n l).1.Fits := by
  unfold playE
  split
  · exact ⟨⟨by simp [Hist.none], by simp [Hist.none], by simp [Hist.none], by simp [Hist.none]⟩, by simp [Hist.none], by simp [Hist.none], rfl, by simp [Hist.none], by simp [Hist.none]⟩
  · rename_i h1
    split
    · exact ⟨⟨by simp [Hist.none], by simp [Hist.none], by simp [Hist.none], by simp [Hist.none]⟩, by simp [Hist.none], by simp [Hist.none], rfl, by simp [Hist.none], by simp [Hist.none]⟩
    · rename_i h2
      have hn : n.toNat ≤ 5 := by simp at h1; omega
      have hi := Comp.Inv.run (n := n.toNat) (l := l) (by omega)
      have hs := Comp.sound (n := n.toNat) (l := l) hn (by omega)
      generalize Comp.run n.toNat l = c at hi hs
      have hg := hi.good
      have g1 := hg.lens; have g2 := hg.ckpts; have g3 := hg.clocks; have g4 := hg.forced
      have ha := hi.arcs
      refine ⟨⟨by show c.lens.length ≤ _; omega, by show c.ckpts.length ≤ _; omega, by show c.arcs.length ≤ _; omega, fun x hx => ?_⟩, by show c.clocks.length ≤ _; omega, fun x hx => ?_, rfl, by show c.forced.length ≤ _; omega, fun x hx => ?_⟩
      · obtain ⟨i, hii, rfl⟩ := List.getElem_of_mem hx
        have hii' : i < c.ckpts.length := hii
        have := hg.rows i (by omega)
        rw [nth_eq hii'] at this
        show (c.ckpts[i]'hii').length ≤ 1000000000
        omega
      · obtain ⟨i, hii, rfl⟩ := List.getElem_of_mem hx
        have hii' : i < c.clocks.length := hii
        have := hg.rows i (by omega)
        rw [nth_eq hii'] at this
        show (c.clocks[i]'hii').length ≤ 1000000000
        omega
      · obtain ⟨i, hii, rfl⟩ := List.getElem_of_mem hx
        have hii' : i < c.forced.length := hii
        have := hg.rows i (by omega)
        rw [nth_eq hii'] at this
        show (c.forced[i]'hii').length ≤ 1000000000
        omega
end Go.Mine
namespace Go.Proofs.Ytdpleaifhdlciaa
open Go.RowKit Go.Mine
attribute [local irreducible] eseq ewp
variable {w : World} {S S2 : Nat → Prop}

theorem indexedPlays_walk {v vD : Value} {l : List Int} {ac : List Deed} (n : Int) (hD : IsSlice deedTy w S2 vD ac) (hal : ac.length ≤ 9223372036854775807) (hl : IsSlice Ty.u8 w S v l) (hm : l.length ≤ 9223372036854775807) (hu : ∀ c ∈ l, U8 c) :
    Gives Try.prog 4 [.int .i64 n, vD, v] w fun v w' => v = .bool true ∧ Below w.heap.size w w' := by
  have hS := Sep.start w
  replace hl := hl.old
  replace hD := hD.old
  have hdl := draw25_len l
  refine fn_of Try.func4 rfl Try.ntmps4 (Nat.le_of_ble_eq_true rfl) ?_
  have hT := Below.refl w.heap.size w
  refine e_seq fun K hK => ?_
  refine e_region_text rfl ?_
  refine q_assign rfl rfl ?_
  refine eseq_nil ?_
  refine hK _ _ ?_; clear hK
  refine e_seq fun K hK => ?_
  refine e_seq fun K hK => ?_
  refine e_region_text rfl ?_
  refine q_call rfl (awake25) rfl ?_
  rintro _ w1 ⟨rfl, hB1⟩; refine ⟨fun _ => .of_below hB1, ?_⟩
  replace hD := hD.ext hB1
  replace hl := hl.ext hB1
  replace hS := hS.below hB1
  refine q_not rfl rfl ?_
  refine q_move rfl rfl ?_
  refine g_or 3 rfl trivial rfl rfl ?_; apply Exists.intro; refine ⟨fun hg => ?_, fun hg => ?_, fun wm2 hBm2 => ?_⟩
  · have hg0 := hg
    refine g_skip rfl rfl rfl ?_
    refine g_skip rfl rfl rfl ?_
    refine g_skip rfl rfl rfl ?_
    exact eseq_nil ⟨rfl, Sub.set rfl (Sub.set rfl (Sub.set rfl (Sub.bool true rfl hg0)))⟩
  · have hg0 := hg
    have hTm2 := Below.refl (World.heap w1).size w1
    try simp at hg
    refine g_run rfl ?_; refine q_move rfl rfl ?_
    refine g_run rfl ?_; refine q_lenS rfl hD rfl ?_
    refine g_run rfl ?_; refine q_gtr rfl rfl rfl ?_
    exact eseq_nil ⟨hTm2, Sub.set rfl (Sub.set rfl (Sub.set rfl (Sub.bool false rfl hg0))), rfl⟩
  replace hD := hD.ext hBm2
  replace hl := hl.ext hBm2
  replace hS := hS.below hBm2
  refine eseq_nil ?_
  refine hK _ _ ?_; clear hK
  refine e_cond rfl (fun hc => ?_) (fun hc => ?_)
  · skip
    refine e_seq fun K hK => ?_
    refine e_region_text rfl ?_
    refine q_move rfl rfl ?_
    refine q_lenS rfl hD rfl ?_
    refine q_gtr rfl rfl rfl ?_
    refine q_assign rfl rfl ?_
    refine eseq_nil ?_
    refine hK _ _ ?_; clear hK
    refine e_ret ?_
    exact ⟨_, res1 rfl rfl, by simpa using hc, hS.step.below⟩
  have hlen : ac.length ≤ 300 := by simp at hc; omega
  refine e_skip ?_
  refine hK _ _ ?_; clear hK
  refine e_seq fun K hK => ?_
  refine e_region_text rfl ?_
  refine q_move rfl rfl ?_
  refine q_call rfl (drawW25 (Sep.enter (As := []) hS) hl hm hu) rfl ?_
  rintro _ w3 ⟨va, R3, rfl, hC3, f8⟩
  refine ⟨(fun h => by cases h), ?_⟩
  have hk3 := hC3.keptR (Sep.offFeet (As := []) hS)
  replace hD := hD.kept hk3
  replace hl := hl.kept hk3
  replace hD := hD.mono fun k hk _ => hC3.ro0 k hk
  replace hl := hl.mono fun k hk _ => hC3.ro0 k hk
  replace hS := Sep.leave (As := []) hS hC3; simp only [List.nil_append] at hS
  refine q_move rfl rfl ?_
  refine q_extract rfl rfl rfl ?_
  refine q_extract rfl rfl rfl ?_
  refine q_assign rfl rfl ?_
  refine q_assign rfl rfl ?_
  refine eseq_nil ?_
  refine hK _ _ ?_; clear hK
  refine e_seq fun K hK => ?_
  refine e_region_text rfl ?_
  refine q_move rfl rfl ?_
  refine q_move rfl rfl ?_
  refine q_call rfl (play25 n hD (by omega)) rfl ?_
  rintro _ w4 ⟨vL, vC, vA, vK, vV, vF, rfl, ⟨hL, hC, hA, hK1, hV, hF⟩, hB4⟩; refine ⟨(fun h => by cases h), ?_⟩
  replace hD := hD.ext hB4
  replace hl := hl.ext hB4
  replace f8 := f8.ext hB4
  obtain ⟨R4, hS, hm4, hn4⟩ := hS.growO hB4
  replace hD := hD.mono fun k hk _ => hm4 k hk
  replace hl := hl.mono fun k hk _ => hm4 k hk
  replace f8 := f8.mono fun k hk _ => hm4 k hk
  replace hL := hL.mono fun k hk hlt => hn4 k hk hlt
  replace hC := hC.mono fun k hk hlt => hn4 k hk hlt
  replace hA := hA.mono fun k hk hlt => hn4 k hk hlt
  replace hK1 := hK1.mono fun k hk hlt => hn4 k hk hlt
  replace hV := hV.mono fun k hk hlt => hn4 k hk hlt
  replace hF := hF.mono fun k hk hlt => hn4 k hk hlt
  refine q_move rfl rfl ?_
  refine q_extract rfl rfl rfl ?_
  refine q_extract rfl rfl rfl ?_
  refine q_allocB rfl fun w5 bl5 hg5 hb5 hB5 => ?_
  replace hD := hD.ext hB5
  replace hl := hl.ext hB5
  replace f8 := f8.ext hB5
  replace hL := hL.ext hB5
  replace hC := hC.ext hB5
  replace hA := hA.ext hB5
  replace hK1 := hK1.ext hB5
  replace hV := hV.ext hB5
  replace hF := hF.ext hB5
  replace hS := hS.newBlk hB5 hg5 hb5
  refine q_storeAgg rfl rfl (hS.blk 0 rfl) rfl (Nat.le_of_ble_eq_true rfl) (all_cons hL.one (all_cons hC.one (all_cons hA.one (all_cons hK1.one (all_cons hV.one (all_cons hF.one (all_nil))))))) rfl rfl fun w6 hb6 hO6 => ?_
  simp only [setN, List.take, List.drop, List.set] at hb6
  have hk6 := hS.keptBlk 0 rfl hO6
  replace hD := hD.kept hk6
  replace hl := hl.kept hk6
  replace f8 := f8.kept hk6
  replace hL := hL.kept hk6
  replace hC := hC.kept hk6
  replace hA := hA.kept hk6
  replace hK1 := hK1.kept hk6
  replace hV := hV.kept hk6
  replace hF := hF.kept hk6
  replace hS := hS.setBlk 0 rfl hb6 hO6; simp only [List.set] at hS
  refine q_assign rfl rfl ?_
  refine eseq_nil ?_
  refine hK _ _ ?_; clear hK
  refine e_seq fun K hK => ?_
  refine e_region_text rfl ?_
  refine q_move rfl rfl ?_
  refine q_move rfl rfl ?_
  refine q_call rfl (playR25 n hD (by omega)) rfl ?_
  rintro _ w7 ⟨uL, uC, uA, uK, uV, uF, rfl, ⟨gL, gC, gA, gK1, gV, gF⟩, hB7⟩; refine ⟨(fun h => by cases h), ?_⟩
  replace hD := hD.ext hB7
  replace hl := hl.ext hB7
  replace f8 := f8.ext hB7
  replace hL := hL.ext hB7
  replace hC := hC.ext hB7
  replace hA := hA.ext hB7
  replace hK1 := hK1.ext hB7
  replace hV := hV.ext hB7
  replace hF := hF.ext hB7
  obtain ⟨R7, hS, hm7, hn7⟩ := hS.growO hB7
  replace hD := hD.mono fun k hk _ => hm7 k hk
  replace hl := hl.mono fun k hk _ => hm7 k hk
  replace f8 := f8.mono fun k hk _ => hm7 k hk
  replace hL := hL.mono fun k hk _ => hm7 k hk
  replace hC := hC.mono fun k hk _ => hm7 k hk
  replace hA := hA.mono fun k hk _ => hm7 k hk
  replace hK1 := hK1.mono fun k hk _ => hm7 k hk
  replace hV := hV.mono fun k hk _ => hm7 k hk
  replace hF := hF.mono fun k hk _ => hm7 k hk
  replace gL := gL.mono fun k hk hlt => hn7 k hk hlt
  replace gC := gC.mono fun k hk hlt => hn7 k hk hlt
  replace gA := gA.mono fun k hk hlt => hn7 k hk hlt
  replace gK1 := gK1.mono fun k hk hlt => hn7 k hk hlt
  replace gV := gV.mono fun k hk hlt => hn7 k hk hlt
  replace gF := gF.mono fun k hk hlt => hn7 k hk hlt
  refine q_move rfl rfl ?_
  refine q_extract rfl rfl rfl ?_
  refine q_extract rfl rfl rfl ?_
  refine q_allocB rfl fun w8 bl8 hg8 hb8 hB8 => ?_
  replace hD := hD.ext hB8
  replace hl := hl.ext hB8
  replace f8 := f8.ext hB8
  replace hL := hL.ext hB8
  replace hC := hC.ext hB8
  replace hA := hA.ext hB8
  replace hK1 := hK1.ext hB8
  replace hV := hV.ext hB8
  replace hF := hF.ext hB8
  replace gL := gL.ext hB8
  replace gC := gC.ext hB8
  replace gA := gA.ext hB8
  replace gK1 := gK1.ext hB8
  replace gV := gV.ext hB8
  replace gF := gF.ext hB8
  replace hS := hS.newBlk hB8 hg8 hb8
  refine q_storeAgg rfl rfl (hS.blk 0 rfl) rfl (Nat.le_of_ble_eq_true rfl) (all_cons gL.one (all_cons gC.one (all_cons gA.one (all_cons gK1.one (all_cons gV.one (all_cons gF.one (all_nil))))))) rfl rfl fun w9 hb9 hO9 => ?_
  simp only [setN, List.take, List.drop, List.set] at hb9
  have hk9 := hS.keptBlk 0 rfl hO9
  replace hD := hD.kept hk9
  replace hl := hl.kept hk9
  replace f8 := f8.kept hk9
  replace hL := hL.kept hk9
  replace hC := hC.kept hk9
  replace hA := hA.kept hk9
  replace hK1 := hK1.kept hk9
  replace hV := hV.kept hk9
  replace hF := hF.kept hk9
  replace gL := gL.kept hk9
  replace gC := gC.kept hk9
  replace gA := gA.kept hk9
  replace gK1 := gK1.kept hk9
  replace gV := gV.kept hk9
  replace gF := gF.kept hk9
  replace hS := hS.setBlk 0 rfl hb9 hO9; simp only [List.set] at hS
  refine q_assign rfl rfl ?_
  refine eseq_nil ?_
  refine hK _ _ ?_; clear hK
  refine e_seq fun K hK => ?_
  refine e_region_text rfl ?_
  refine q_move rfl rfl ?_
  refine q_move rfl rfl ?_
  refine q_call rfl (play25 (draw25 l).1 f8 (by omega)) rfl ?_
  rintro _ w10 ⟨sL, sC, sA, sK, sV, sF, rfl, ⟨iL, iC, iA, iK1, iV, iF⟩, hB10⟩; refine ⟨(fun h => by cases h), ?_⟩
  replace hD := hD.ext hB10
  replace hl := hl.ext hB10
  replace f8 := f8.ext hB10
  replace hL := hL.ext hB10
  replace hC := hC.ext hB10
  replace hA := hA.ext hB10
  replace hK1 := hK1.ext hB10
  replace hV := hV.ext hB10
  replace hF := hF.ext hB10
  replace gL := gL.ext hB10
  replace gC := gC.ext hB10
  replace gA := gA.ext hB10
  replace gK1 := gK1.ext hB10
  replace gV := gV.ext hB10
  replace gF := gF.ext hB10
  obtain ⟨R10, hS, hm10, hn10⟩ := hS.growO hB10
  replace hD := hD.mono fun k hk _ => hm10 k hk
  replace hl := hl.mono fun k hk _ => hm10 k hk
  replace f8 := f8.mono fun k hk _ => hm10 k hk
  replace hL := hL.mono fun k hk _ => hm10 k hk
  replace hC := hC.mono fun k hk _ => hm10 k hk
  replace hA := hA.mono fun k hk _ => hm10 k hk
  replace hK1 := hK1.mono fun k hk _ => hm10 k hk
  replace hV := hV.mono fun k hk _ => hm10 k hk
  replace hF := hF.mono fun k hk _ => hm10 k hk
  replace gL := gL.mono fun k hk _ => hm10 k hk
  replace gC := gC.mono fun k hk _ => hm10 k hk
  replace gA := gA.mono fun k hk _ => hm10 k hk
  replace gK1 := gK1.mono fun k hk _ => hm10 k hk
  replace gV := gV.mono fun k hk _ => hm10 k hk
  replace gF := gF.mono fun k hk _ => hm10 k hk
  replace iL := iL.mono fun k hk hlt => hn10 k hk hlt
  replace iC := iC.mono fun k hk hlt => hn10 k hk hlt
  replace iA := iA.mono fun k hk hlt => hn10 k hk hlt
  replace iK1 := iK1.mono fun k hk hlt => hn10 k hk hlt
  replace iV := iV.mono fun k hk hlt => hn10 k hk hlt
  replace iF := iF.mono fun k hk hlt => hn10 k hk hlt
  refine q_move rfl rfl ?_
  refine q_extract rfl rfl rfl ?_
  refine q_extract rfl rfl rfl ?_
  refine q_allocB rfl fun w11 bl11 hg11 hb11 hB11 => ?_
  replace hD := hD.ext hB11
  replace hl := hl.ext hB11
  replace f8 := f8.ext hB11
  replace hL := hL.ext hB11
  replace hC := hC.ext hB11
  replace hA := hA.ext hB11
  replace hK1 := hK1.ext hB11
  replace hV := hV.ext hB11
  replace hF := hF.ext hB11
  replace gL := gL.ext hB11
  replace gC := gC.ext hB11
  replace gA := gA.ext hB11
  replace gK1 := gK1.ext hB11
  replace gV := gV.ext hB11
  replace gF := gF.ext hB11
  replace iL := iL.ext hB11
  replace iC := iC.ext hB11
  replace iA := iA.ext hB11
  replace iK1 := iK1.ext hB11
  replace iV := iV.ext hB11
  replace iF := iF.ext hB11
  replace hS := hS.newBlk hB11 hg11 hb11
  refine q_storeAgg rfl rfl (hS.blk 0 rfl) rfl (Nat.le_of_ble_eq_true rfl) (all_cons iL.one (all_cons iC.one (all_cons iA.one (all_cons iK1.one (all_cons iV.one (all_cons iF.one (all_nil))))))) rfl rfl fun w12 hb12 hO12 => ?_
  simp only [setN, List.take, List.drop, List.set] at hb12
  have hk12 := hS.keptBlk 0 rfl hO12
  replace hD := hD.kept hk12
  replace hl := hl.kept hk12
  replace f8 := f8.kept hk12
  replace hL := hL.kept hk12
  replace hC := hC.kept hk12
  replace hA := hA.kept hk12
  replace hK1 := hK1.kept hk12
  replace hV := hV.kept hk12
  replace hF := hF.kept hk12
  replace gL := gL.kept hk12
  replace gC := gC.kept hk12
  replace gA := gA.kept hk12
  replace gK1 := gK1.kept hk12
  replace gV := gV.kept hk12
  replace gF := gF.kept hk12
  replace iL := iL.kept hk12
  replace iC := iC.kept hk12
  replace iA := iA.kept hk12
  replace iK1 := iK1.kept hk12
  replace iV := iV.kept hk12
  replace iF := iF.kept hk12
  replace hS := hS.setBlk 0 rfl hb12 hO12; simp only [List.set] at hS
  refine q_assign rfl rfl ?_
  refine eseq_nil ?_
  refine hK _ _ ?_; clear hK
  refine e_seq fun K hK => ?_
  refine e_region_text rfl ?_
  refine q_move rfl rfl ?_
  refine q_move rfl rfl ?_
  refine q_call rfl (playR25 (draw25 l).1 f8 (by omega)) rfl ?_
  rintro _ w13 ⟨tL, tC, tA, tK, tV, tF, rfl, ⟨jL, jC, jA, jK1, jV, jF⟩, hB13⟩; refine ⟨(fun h => by cases h), ?_⟩
  replace hD := hD.ext hB13
  replace hl := hl.ext hB13
  replace f8 := f8.ext hB13
  replace hL := hL.ext hB13
  replace hC := hC.ext hB13
  replace hA := hA.ext hB13
  replace hK1 := hK1.ext hB13
  replace hV := hV.ext hB13
  replace hF := hF.ext hB13
  replace gL := gL.ext hB13
  replace gC := gC.ext hB13
  replace gA := gA.ext hB13
  replace gK1 := gK1.ext hB13
  replace gV := gV.ext hB13
  replace gF := gF.ext hB13
  replace iL := iL.ext hB13
  replace iC := iC.ext hB13
  replace iA := iA.ext hB13
  replace iK1 := iK1.ext hB13
  replace iV := iV.ext hB13
  replace iF := iF.ext hB13
  obtain ⟨R13, hS, hm13, hn13⟩ := hS.growO hB13
  replace hD := hD.mono fun k hk _ => hm13 k hk
  replace hl := hl.mono fun k hk _ => hm13 k hk
  replace f8 := f8.mono fun k hk _ => hm13 k hk
  replace hL := hL.mono fun k hk _ => hm13 k hk
  replace hC := hC.mono fun k hk _ => hm13 k hk
  replace hA := hA.mono fun k hk _ => hm13 k hk
  replace hK1 := hK1.mono fun k hk _ => hm13 k hk
  replace hV := hV.mono fun k hk _ => hm13 k hk
  replace hF := hF.mono fun k hk _ => hm13 k hk
  replace gL := gL.mono fun k hk _ => hm13 k hk
  replace gC := gC.mono fun k hk _ => hm13 k hk
  replace gA := gA.mono fun k hk _ => hm13 k hk
  replace gK1 := gK1.mono fun k hk _ => hm13 k hk
  replace gV := gV.mono fun k hk _ => hm13 k hk
  replace gF := gF.mono fun k hk _ => hm13 k hk
  replace iL := iL.mono fun k hk _ => hm13 k hk
  replace iC := iC.mono fun k hk _ => hm13 k hk
  replace iA := iA.mono fun k hk _ => hm13 k hk
  replace iK1 := iK1.mono fun k hk _ => hm13 k hk
  replace iV := iV.mono fun k hk _ => hm13 k hk
  replace iF := iF.mono fun k hk _ => hm13 k hk
  replace jL := jL.mono fun k hk hlt => hn13 k hk hlt
  replace jC := jC.mono fun k hk hlt => hn13 k hk hlt
  replace jA := jA.mono fun k hk hlt => hn13 k hk hlt
  replace jK1 := jK1.mono fun k hk hlt => hn13 k hk hlt
  replace jV := jV.mono fun k hk hlt => hn13 k hk hlt
  replace jF := jF.mono fun k hk hlt => hn13 k hk hlt
  refine q_move rfl rfl ?_
  refine q_extract rfl rfl rfl ?_
  refine q_extract rfl rfl rfl ?_
  refine q_allocB rfl fun w14 bl14 hg14 hb14 hB14 => ?_
  replace hD := hD.ext hB14
  replace hl := hl.ext hB14
  replace f8 := f8.ext hB14
  replace hL := hL.ext hB14
  replace hC := hC.ext hB14
  replace hA := hA.ext hB14
  replace hK1 := hK1.ext hB14
  replace hV := hV.ext hB14
  replace hF := hF.ext hB14
  replace gL := gL.ext hB14
  replace gC := gC.ext hB14
  replace gA := gA.ext hB14
  replace gK1 := gK1.ext hB14
  replace gV := gV.ext hB14
  replace gF := gF.ext hB14
  replace iL := iL.ext hB14
  replace iC := iC.ext hB14
  replace iA := iA.ext hB14
  replace iK1 := iK1.ext hB14
  replace iV := iV.ext hB14
  replace iF := iF.ext hB14
  replace jL := jL.ext hB14
  replace jC := jC.ext hB14
  replace jA := jA.ext hB14
  replace jK1 := jK1.ext hB14
  replace jV := jV.ext hB14
  replace jF := jF.ext hB14
  replace hS := hS.newBlk hB14 hg14 hb14
  refine q_storeAgg rfl rfl (hS.blk 0 rfl) rfl (Nat.le_of_ble_eq_true rfl) (all_cons jL.one (all_cons jC.one (all_cons jA.one (all_cons jK1.one (all_cons jV.one (all_cons jF.one (all_nil))))))) rfl rfl fun w15 hb15 hO15 => ?_
  simp only [setN, List.take, List.drop, List.set] at hb15
  have hk15 := hS.keptBlk 0 rfl hO15
  replace hD := hD.kept hk15
  replace hl := hl.kept hk15
  replace f8 := f8.kept hk15
  replace hL := hL.kept hk15
  replace hC := hC.kept hk15
  replace hA := hA.kept hk15
  replace hK1 := hK1.kept hk15
  replace hV := hV.kept hk15
  replace hF := hF.kept hk15
  replace gL := gL.kept hk15
  replace gC := gC.kept hk15
  replace gA := gA.kept hk15
  replace gK1 := gK1.kept hk15
  replace gV := gV.kept hk15
  replace gF := gF.kept hk15
  replace iL := iL.kept hk15
  replace iC := iC.kept hk15
  replace iA := iA.kept hk15
  replace iK1 := iK1.kept hk15
  replace iV := iV.kept hk15
  replace iF := iF.kept hk15
  replace jL := jL.kept hk15
  replace jC := jC.kept hk15
  replace jA := jA.kept hk15
  replace jK1 := jK1.kept hk15
  replace jV := jV.kept hk15
  replace jF := jF.kept hk15
  replace hS := hS.setBlk 0 rfl hb15 hO15; simp only [List.set] at hS
  refine q_assign rfl rfl ?_
  refine eseq_nil ?_
  refine hK _ _ ?_; clear hK
  refine e_seq fun K hK => ?_
  refine e_region_text rfl ?_
  refine q_move rfl rfl ?_
  refine q_move rfl rfl ?_
  refine q_eql rfl rfl rfl ?_
  refine q_move rfl rfl ?_
  refine g_and 3 rfl trivial rfl rfl ?_; apply Exists.intro; refine ⟨fun hg => ?_, fun hg => ?_, fun wm16 hBm16 => ?_⟩
  · have hg0 := hg
    have hTm16 := Below.refl (World.heap w15).size w15
    try simp at hg
    refine g_run rfl ?_; refine q_move rfl rfl ?_
    refine g_run rfl ?_; refine q_move rfl rfl ?_
    refine g_run rfl ?_; refine q_eql rfl rfl rfl ?_
    exact eseq_nil ⟨hTm16, Sub.set rfl (Sub.set rfl (Sub.set rfl (Sub.bool true rfl hg0))), rfl⟩
  · have hg0 := hg
    refine g_skip rfl rfl rfl ?_
    refine g_skip rfl rfl rfl ?_
    refine g_skip rfl rfl rfl ?_
    exact eseq_nil ⟨rfl, Sub.set rfl (Sub.set rfl (Sub.set rfl (Sub.bool false rfl hg0)))⟩
  replace hD := hD.ext hBm16
  replace hl := hl.ext hBm16
  replace f8 := f8.ext hBm16
  replace hL := hL.ext hBm16
  replace hC := hC.ext hBm16
  replace hA := hA.ext hBm16
  replace hK1 := hK1.ext hBm16
  replace hV := hV.ext hBm16
  replace hF := hF.ext hBm16
  replace gL := gL.ext hBm16
  replace gC := gC.ext hBm16
  replace gA := gA.ext hBm16
  replace gK1 := gK1.ext hBm16
  replace gV := gV.ext hBm16
  replace gF := gF.ext hBm16
  replace iL := iL.ext hBm16
  replace iC := iC.ext hBm16
  replace iA := iA.ext hBm16
  replace iK1 := iK1.ext hBm16
  replace iV := iV.ext hBm16
  replace iF := iF.ext hBm16
  replace jL := jL.ext hBm16
  replace jC := jC.ext hBm16
  replace jA := jA.ext hBm16
  replace jK1 := jK1.ext hBm16
  replace jV := jV.ext hBm16
  replace jF := jF.ext hBm16
  replace hS := hS.below hBm16
  refine q_move rfl rfl ?_
  refine g_and 3 rfl trivial rfl rfl ?_; apply Exists.intro; refine ⟨fun hg => ?_, fun hg => ?_, fun wm17 hBm17 => ?_⟩
  · have hg0 := hg
    have hTm17 := Below.refl (World.heap wm16).size wm16
    try simp at hg
    refine g_run rfl ?_; refine q_loadAgg rfl (Blk.cellsAt (hS.blk 3 rfl) 0 6 rfl) rfl rfl ?_
    refine g_run rfl ?_; refine q_loadAgg rfl (Blk.cellsAt (hS.blk 2 rfl) 0 6 rfl) rfl rfl ?_
    refine g_run rfl ?_; refine q_call rfl (sameR25 ⟨hL, hC, hA, hK1, hV, hF⟩ ⟨gL, gC, gA, gK1, gV, gF⟩ (playE_fits _ _)) rfl ?_
    rintro _ w18 ⟨rfl, hB18⟩; refine ⟨fun _ => .of_below hB18, ?_⟩
    replace hD := hD.ext hB18
    replace hl := hl.ext hB18
    replace f8 := f8.ext hB18
    replace hL := hL.ext hB18
    replace hC := hC.ext hB18
    replace hA := hA.ext hB18
    replace hK1 := hK1.ext hB18
    replace hV := hV.ext hB18
    replace hF := hF.ext hB18
    replace gL := gL.ext hB18
    replace gC := gC.ext hB18
    replace gA := gA.ext hB18
    replace gK1 := gK1.ext hB18
    replace gV := gV.ext hB18
    replace gF := gF.ext hB18
    replace iL := iL.ext hB18
    replace iC := iC.ext hB18
    replace iA := iA.ext hB18
    replace iK1 := iK1.ext hB18
    replace iV := iV.ext hB18
    replace iF := iF.ext hB18
    replace jL := jL.ext hB18
    replace jC := jC.ext hB18
    replace jA := jA.ext hB18
    replace jK1 := jK1.ext hB18
    replace jV := jV.ext hB18
    replace jF := jF.ext hB18
    replace hS := hS.below hB18
    replace hTm17 := hTm17.trans (Below.mono hB18 hTm17.size)
    exact eseq_nil ⟨hTm17, Sub.set rfl (Sub.set rfl (Sub.set rfl (Sub.bool true rfl hg0))), rfl⟩
  · have hg0 := hg
    refine g_skip rfl rfl rfl ?_
    refine g_skip rfl rfl rfl ?_
    refine g_skip rfl rfl rfl ?_
    exact eseq_nil ⟨rfl, Sub.set rfl (Sub.set rfl (Sub.set rfl (Sub.bool false rfl hg0)))⟩
  replace hD := hD.ext hBm17
  replace hl := hl.ext hBm17
  replace f8 := f8.ext hBm17
  replace hL := hL.ext hBm17
  replace hC := hC.ext hBm17
  replace hA := hA.ext hBm17
  replace hK1 := hK1.ext hBm17
  replace hV := hV.ext hBm17
  replace hF := hF.ext hBm17
  replace gL := gL.ext hBm17
  replace gC := gC.ext hBm17
  replace gA := gA.ext hBm17
  replace gK1 := gK1.ext hBm17
  replace gV := gV.ext hBm17
  replace gF := gF.ext hBm17
  replace iL := iL.ext hBm17
  replace iC := iC.ext hBm17
  replace iA := iA.ext hBm17
  replace iK1 := iK1.ext hBm17
  replace iV := iV.ext hBm17
  replace iF := iF.ext hBm17
  replace jL := jL.ext hBm17
  replace jC := jC.ext hBm17
  replace jA := jA.ext hBm17
  replace jK1 := jK1.ext hBm17
  replace jV := jV.ext hBm17
  replace jF := jF.ext hBm17
  replace hS := hS.below hBm17
  refine q_move rfl rfl ?_
  refine g_and 3 rfl trivial rfl rfl ?_; apply Exists.intro; refine ⟨fun hg => ?_, fun hg => ?_, fun wm19 hBm19 => ?_⟩
  · have hg0 := hg
    have hTm19 := Below.refl (World.heap wm17).size wm17
    try simp at hg
    refine g_run rfl ?_; refine q_loadAgg rfl (Blk.cellsAt (hS.blk 1 rfl) 0 6 rfl) rfl rfl ?_
    refine g_run rfl ?_; refine q_loadAgg rfl (Blk.cellsAt (hS.blk 0 rfl) 0 6 rfl) rfl rfl ?_
    refine g_run rfl ?_; refine q_call rfl (sameR25 ⟨iL, iC, iA, iK1, iV, iF⟩ ⟨jL, jC, jA, jK1, jV, jF⟩ (playE_fits _ _)) rfl ?_
    rintro _ w20 ⟨rfl, hB20⟩; refine ⟨fun _ => .of_below hB20, ?_⟩
    replace hD := hD.ext hB20
    replace hl := hl.ext hB20
    replace f8 := f8.ext hB20
    replace hL := hL.ext hB20
    replace hC := hC.ext hB20
    replace hA := hA.ext hB20
    replace hK1 := hK1.ext hB20
    replace hV := hV.ext hB20
    replace hF := hF.ext hB20
    replace gL := gL.ext hB20
    replace gC := gC.ext hB20
    replace gA := gA.ext hB20
    replace gK1 := gK1.ext hB20
    replace gV := gV.ext hB20
    replace gF := gF.ext hB20
    replace iL := iL.ext hB20
    replace iC := iC.ext hB20
    replace iA := iA.ext hB20
    replace iK1 := iK1.ext hB20
    replace iV := iV.ext hB20
    replace iF := iF.ext hB20
    replace jL := jL.ext hB20
    replace jC := jC.ext hB20
    replace jA := jA.ext hB20
    replace jK1 := jK1.ext hB20
    replace jV := jV.ext hB20
    replace jF := jF.ext hB20
    replace hS := hS.below hB20
    replace hTm19 := hTm19.trans (Below.mono hB20 hTm19.size)
    exact eseq_nil ⟨hTm19, Sub.set rfl (Sub.set rfl (Sub.set rfl (Sub.bool true rfl hg0))), rfl⟩
  · have hg0 := hg
    refine g_skip rfl rfl rfl ?_
    refine g_skip rfl rfl rfl ?_
    refine g_skip rfl rfl rfl ?_
    exact eseq_nil ⟨rfl, Sub.set rfl (Sub.set rfl (Sub.set rfl (Sub.bool false rfl hg0)))⟩
  replace hD := hD.ext hBm19
  replace hl := hl.ext hBm19
  replace f8 := f8.ext hBm19
  replace hL := hL.ext hBm19
  replace hC := hC.ext hBm19
  replace hA := hA.ext hBm19
  replace hK1 := hK1.ext hBm19
  replace hV := hV.ext hBm19
  replace hF := hF.ext hBm19
  replace gL := gL.ext hBm19
  replace gC := gC.ext hBm19
  replace gA := gA.ext hBm19
  replace gK1 := gK1.ext hBm19
  replace gV := gV.ext hBm19
  replace gF := gF.ext hBm19
  replace iL := iL.ext hBm19
  replace iC := iC.ext hBm19
  replace iA := iA.ext hBm19
  replace iK1 := iK1.ext hBm19
  replace iV := iV.ext hBm19
  replace iF := iF.ext hBm19
  replace jL := jL.ext hBm19
  replace jC := jC.ext hBm19
  replace jA := jA.ext hBm19
  replace jK1 := jK1.ext hBm19
  replace jV := jV.ext hBm19
  replace jF := jF.ext hBm19
  replace hS := hS.below hBm19
  refine q_assign rfl rfl ?_
  refine eseq_nil ?_
  refine hK _ _ ?_; clear hK
  refine e_ret ?_
  exact ⟨_, res1 rfl rfl, by simp, hS.step.below⟩
end Go.Proofs.Ytdpleaifhdlciaa
