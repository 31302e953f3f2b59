/- The sanity check of chapter 26. -/
import Derived.Test.YthbnbkgijdkcbaaM26g
import Derived.Test.YthbnbkgijdkcbaaSame
set_option linter.unusedSimpArgs false
set_option linter.unusedVariables false
namespace Go.Proofs.Ythbnbkgijdkcbaa
open Go.RowKit Go.Mine
attribute [local irreducible] eseq ewp
variable {w : World}

theorem awake26 : Gives Try.prog 11 [] w fun v w' => v = .bool true ∧ Below w.heap.size w w' := by
  refine fn_of Try.func11 rfl Try.ntmps11 (Nat.le_of_ble_eq_true rfl) ?_
  have hT := Below.refl w.heap.size w
  refine e_seq fun K hK => ?_
  refine e_region_text rfl ?_
  refine q_assign rfl rfl ?_
  refine eseq_nil ?_
  refine hK _ _ ?_; clear hK
  refine e_seq fun K hK => ?_
  refine e_region_text rfl ?_
  refine q_build (Parts.cons rfl rfl (Parts.cons rfl rfl (Parts.cons rfl rfl Parts.nil))) rfl rfl ?_
  refine q_build (Parts.cons rfl rfl (Parts.cons rfl rfl (Parts.cons rfl rfl Parts.nil))) rfl rfl ?_
  refine q_build (Parts.cons rfl rfl (Parts.cons rfl rfl Parts.nil)) rfl rfl ?_
  refine q_sliceN (Parts.cons rfl rfl (Parts.cons rfl rfl (Parts.cons rfl rfl Parts.nil))) rfl rfl rfl rfl rfl fun w1 bl1 hg1 hb1 hB1 => ?_
  have hz1hT := Nat.le_trans hT.size hg1
  replace hT := hT.trans (Below.mono hB1 hT.size)
  have f9 := Blk.lits deedR' hb1 [⟨1, 0, 1⟩, ⟨1, 1, 0⟩, ⟨2, 0, 0⟩] rfl (by decide)
  refine q_call rfl (play26 2 4 f9 (by decide)) rfl ?_
  rintro _ wp ⟨vL, vC, vA, vK, vV, vF, rfl, hh, hBp⟩; refine ⟨fun _ => .of_below hBp, ?_⟩
  have e2 : play26E 2 4 [⟨1, 0, 1⟩, ⟨1, 1, 0⟩, ⟨2, 0, 0⟩] = (⟨[1, 2], [[0], [0, 1]], [⟨0, 1, 1, 2⟩, ⟨1, 1, 0, 0⟩], [], [[[0, 0]], [[0, 0], [0, 1]]], [[false], [false, true]]⟩, 0) := by decide
  rw [e2] at hh ⊢
  obtain ⟨hL, hC, hA, hK2, hV, hF⟩ := hh
  simp only at hL hC hA hK2 hV hF ⊢
  clear hb1
  replace hL := hL.old; replace hC := hC.old; replace hA := hA.old; replace hK2 := hK2.old; replace hV := hV.old; replace hF := hF.old
  replace hT := hT.trans (Below.mono hBp hT.size)
  refine q_move rfl rfl ?_
  refine q_extract rfl rfl rfl ?_
  refine q_extract rfl rfl rfl ?_
  refine q_allocB rfl fun w2 bl2 hg2 hb2 hB2 => ?_
  have hz2hT := Nat.le_trans hT.size hg2
  replace hL := hL.ext hB2
  replace hC := hC.ext hB2
  replace hA := hA.ext hB2
  replace hK2 := hK2.ext hB2
  replace hV := hV.ext hB2
  replace hF := hF.ext hB2
  replace hT := hT.trans (Below.mono hB2 hT.size)
  refine q_storeAgg rfl rfl hb2 rfl (Nat.le_of_ble_eq_true rfl) (by first | exact all_cons hL.one (all_cons hC.one (all_cons hA.one (all_cons hK2.one (all_cons hV.one (all_cons hF.one (all_nil)))))) | (simp [oneV, hL.one, hC.one, hA.one, hK2.one, hV.one, hF.one]; done) | simp [oneV, setN, hL.one, hC.one, hA.one, hK2.one, hV.one, hF.one]) rfl rfl fun w3 hb3 hO3 => ?_
  simp only [setN, List.set] at hb3
  replace hL := hL.kept (.of_only hO3 (fun k (hk : k < _) => by omega))
  replace hC := hC.kept (.of_only hO3 (fun k (hk : k < _) => by omega))
  replace hA := hA.kept (.of_only hO3 (fun k (hk : k < _) => by omega))
  replace hK2 := hK2.kept (.of_only hO3 (fun k (hk : k < _) => by omega))
  replace hV := hV.kept (.of_only hO3 (fun k (hk : k < _) => by omega))
  replace hF := hF.kept (.of_only hO3 (fun k (hk : k < _) => by omega))
  replace hT := Below.onlyB hT hO3 hb2.lt (by omega)
  refine q_assign rfl rfl ?_
  refine eseq_nil ?_
  refine hK _ _ ?_; clear hK
  refine e_seq fun K hK => ?_
  refine e_region_text rfl ?_
  refine q_move rfl rfl ?_
  refine q_eql rfl rfl rfl ?_
  refine q_move rfl rfl ?_
  refine g_and 7 rfl trivial rfl rfl ?_; apply Exists.intro; refine ⟨fun hg => ?_, fun hg => ?_, fun wm4 hBm4 => ?_⟩
  · have hg0 := hg
    have hTm4 := Below.refl (World.heap w3).size w3
    try simp at hg
    refine g_run rfl ?_; refine q_field rfl rfl ?_
    refine g_run rfl ?_; refine q_field rfl rfl ?_
    refine g_run rfl ?_; refine q_load rfl (Blk.cell hb3 rfl) rfl ?_
    refine g_run rfl ?_; refine q_slice1 rfl rfl rfl rfl rfl rfl fun w5 bl5 hg5 hb5 hB5 => ?_
    have hz5hT := Nat.le_trans hT.size hg5
    have hz5hTm4 := Nat.le_trans hTm4.size hg5
    replace hL := hL.ext hB5
    replace hC := hC.ext hB5
    replace hA := hA.ext hB5
    replace hK2 := hK2.ext hB5
    replace hV := hV.ext hB5
    replace hF := hF.ext hB5
    replace hb3 := hb3.ext hB5
    replace hT := hT.trans (Below.mono hB5 hT.size)
    replace hTm4 := hTm4.trans (Below.mono hB5 hTm4.size)
    refine g_run rfl ?_; refine q_sliceN (Parts.cons rfl rfl (Parts.cons rfl rfl Parts.nil)) rfl rfl rfl rfl rfl fun w6 bl6 hg6 hb6 hB6 => ?_
    have hz6hT := Nat.le_trans hT.size hg6
    have hz6hTm4 := Nat.le_trans hTm4.size hg6
    replace hL := hL.ext hB6
    replace hC := hC.ext hB6
    replace hA := hA.ext hB6
    replace hK2 := hK2.ext hB6
    replace hV := hV.ext hB6
    replace hF := hF.ext hB6
    replace hb3 := hb3.ext hB6
    replace hb5 := hb5.ext hB6
    replace hT := hT.trans (Below.mono hB6 hT.size)
    replace hTm4 := hTm4.trans (Below.mono hB6 hTm4.size)
    refine g_run rfl ?_; refine q_sliceN (Parts.cons rfl rfl (Parts.cons rfl rfl Parts.nil)) rfl rfl rfl rfl rfl fun w7 bl7 hg7 hb7 hB7 => ?_
    have hz7hT := Nat.le_trans hT.size hg7
    have hz7hTm4 := Nat.le_trans hTm4.size hg7
    replace hL := hL.ext hB7
    replace hC := hC.ext hB7
    replace hA := hA.ext hB7
    replace hK2 := hK2.ext hB7
    replace hV := hV.ext hB7
    replace hF := hF.ext hB7
    replace hb3 := hb3.ext hB7
    replace hb5 := hb5.ext hB7
    replace hb6 := hb6.ext hB7
    replace hT := hT.trans (Below.mono hB7 hT.size)
    replace hTm4 := hTm4.trans (Below.mono hB7 hTm4.size)
    refine g_run rfl ?_; refine q_call rfl (sameLists hC (Blk.rows2 hb7 (Blk.lits intR' hb5 [0] rfl (by decide)) (Blk.lits intR' hb6 [0, 1] rfl (by decide))) (by decide) (by decide)) rfl ?_
    rintro _ w8 ⟨rfl, hB8⟩; refine ⟨fun _ => .of_below hB8, ?_⟩
    replace hL := hL.ext hB8
    replace hC := hC.ext hB8
    replace hA := hA.ext hB8
    replace hK2 := hK2.ext hB8
    replace hV := hV.ext hB8
    replace hF := hF.ext hB8
    replace hb3 := hb3.ext hB8
    replace hb5 := hb5.ext hB8
    replace hb6 := hb6.ext hB8
    replace hb7 := hb7.ext hB8
    replace hT := hT.trans (Below.mono hB8 hT.size)
    replace hTm4 := hTm4.trans (Below.mono hB8 hTm4.size)
    exact eseq_nil ⟨hTm4, Sub.set rfl (Sub.set rfl (Sub.set rfl (Sub.set rfl (Sub.set rfl (Sub.set rfl (Sub.set rfl (Sub.bool true rfl hg0))))))), rfl⟩
  · have hg0 := hg
    refine g_skip rfl rfl rfl ?_
    refine g_skip rfl rfl rfl ?_
    refine g_skip rfl rfl rfl ?_
    refine g_skip rfl rfl rfl ?_
    refine g_skip rfl rfl rfl ?_
    refine g_skip rfl rfl rfl ?_
    refine g_skip rfl rfl rfl ?_
    exact eseq_nil ⟨rfl, Sub.set rfl (Sub.set rfl (Sub.set rfl (Sub.set rfl (Sub.set rfl (Sub.set rfl (Sub.set rfl (Sub.bool false rfl hg0)))))))⟩
  replace hL := hL.ext hBm4
  replace hC := hC.ext hBm4
  replace hA := hA.ext hBm4
  replace hK2 := hK2.ext hBm4
  replace hV := hV.ext hBm4
  replace hF := hF.ext hBm4
  replace hb3 := hb3.ext hBm4
  replace hT := hT.trans (Below.mono hBm4 hT.size)
  refine q_move rfl rfl ?_
  refine g_and 4 rfl trivial rfl rfl ?_; apply Exists.intro; refine ⟨fun hg => ?_, fun hg => ?_, fun wm9 hBm9 => ?_⟩
  · have hg0 := hg
    have hTm9 := Below.refl (World.heap wm4).size wm4
    try simp at hg
    refine g_run rfl ?_; refine q_field rfl rfl ?_
    refine g_run rfl ?_; refine q_load rfl (Blk.cell hb3 rfl) rfl ?_
    refine g_run rfl ?_; refine q_lenS rfl hV rfl ?_
    refine g_run rfl ?_; refine q_eql rfl rfl rfl ?_
    exact eseq_nil ⟨hTm9, Sub.set rfl (Sub.set rfl (Sub.set rfl (Sub.set rfl (Sub.bool true rfl hg0)))), rfl⟩
  · have hg0 := hg
    refine g_skip rfl rfl rfl ?_
    refine g_skip rfl rfl rfl ?_
    refine g_skip rfl rfl rfl ?_
    refine g_skip rfl rfl rfl ?_
    exact eseq_nil ⟨rfl, Sub.set rfl (Sub.set rfl (Sub.set rfl (Sub.set rfl (Sub.bool false rfl hg0))))⟩
  replace hL := hL.ext hBm9
  replace hC := hC.ext hBm9
  replace hA := hA.ext hBm9
  replace hK2 := hK2.ext hBm9
  replace hV := hV.ext hBm9
  replace hF := hF.ext hBm9
  replace hb3 := hb3.ext hBm9
  replace hT := hT.trans (Below.mono hBm9 hT.size)
  refine q_move rfl rfl ?_
  refine g_and 8 rfl trivial rfl rfl ?_; apply Exists.intro; refine ⟨fun hg => ?_, fun hg => ?_, fun wm10 hBm10 => ?_⟩
  · have hg0 := hg
    have hTm10 := Below.refl (World.heap wm9).size wm9
    try simp at hg
    refine g_run rfl ?_; refine q_field rfl rfl ?_
    refine g_run rfl ?_; refine q_load rfl (Blk.cell hb3 rfl) rfl ?_
    refine g_run rfl ?_; first | refine q_indexSn (by infer_instance) rfl hV rfl (by first | omega | decide) rfl fun b31 o31 f31 => ?_ | refine q_indexS (by infer_instance) rfl hV rfl (by first | omega | decide) (by first | omega | decide) rfl fun b31 o31 f31 => ?_
    refine g_run rfl ?_; refine q_loadS rfl f31 rfl fun v32 f32 => ?_
    refine g_run rfl ?_; refine q_sliceN (Parts.cons rfl rfl (Parts.cons rfl rfl Parts.nil)) rfl rfl rfl rfl rfl fun w11 bl11 hg11 hb11 hB11 => ?_
    have hz11hT := Nat.le_trans hT.size hg11
    have hz11hTm10 := Nat.le_trans hTm10.size hg11
    replace hL := hL.ext hB11
    replace hC := hC.ext hB11
    replace hA := hA.ext hB11
    replace hK2 := hK2.ext hB11
    replace hV := hV.ext hB11
    replace hF := hF.ext hB11
    replace hb3 := hb3.ext hB11
    replace f31 := f31.ext hB11
    replace f32 := f32.ext hB11
    replace hT := hT.trans (Below.mono hB11 hT.size)
    replace hTm10 := hTm10.trans (Below.mono hB11 hTm10.size)
    refine g_run rfl ?_; refine q_sliceN (Parts.cons rfl rfl (Parts.cons rfl rfl Parts.nil)) rfl rfl rfl rfl rfl fun w12 bl12 hg12 hb12 hB12 => ?_
    have hz12hT := Nat.le_trans hT.size hg12
    have hz12hTm10 := Nat.le_trans hTm10.size hg12
    replace hL := hL.ext hB12
    replace hC := hC.ext hB12
    replace hA := hA.ext hB12
    replace hK2 := hK2.ext hB12
    replace hV := hV.ext hB12
    replace hF := hF.ext hB12
    replace hb3 := hb3.ext hB12
    replace f31 := f31.ext hB12
    replace f32 := f32.ext hB12
    replace hb11 := hb11.ext hB12
    replace hT := hT.trans (Below.mono hB12 hT.size)
    replace hTm10 := hTm10.trans (Below.mono hB12 hTm10.size)
    refine g_run rfl ?_; refine q_sliceN (Parts.cons rfl rfl (Parts.cons rfl rfl Parts.nil)) rfl rfl rfl rfl rfl fun w13 bl13 hg13 hb13 hB13 => ?_
    have hz13hT := Nat.le_trans hT.size hg13
    have hz13hTm10 := Nat.le_trans hTm10.size hg13
    replace hL := hL.ext hB13
    replace hC := hC.ext hB13
    replace hA := hA.ext hB13
    replace hK2 := hK2.ext hB13
    replace hV := hV.ext hB13
    replace hF := hF.ext hB13
    replace hb3 := hb3.ext hB13
    replace f31 := f31.ext hB13
    replace f32 := f32.ext hB13
    replace hb11 := hb11.ext hB13
    replace hb12 := hb12.ext hB13
    replace hT := hT.trans (Below.mono hB13 hT.size)
    replace hTm10 := hTm10.trans (Below.mono hB13 hTm10.size)
    refine g_run rfl ?_; refine q_call rfl (sameLists f32 (Blk.rows2 hb13 (Blk.lits intR' hb11 [0, 0] rfl (by decide)) (Blk.lits intR' hb12 [0, 1] rfl (by decide))) (by decide) (by decide)) rfl ?_
    rintro _ w14 ⟨rfl, hB14⟩; refine ⟨fun _ => .of_below hB14, ?_⟩
    replace hL := hL.ext hB14
    replace hC := hC.ext hB14
    replace hA := hA.ext hB14
    replace hK2 := hK2.ext hB14
    replace hV := hV.ext hB14
    replace hF := hF.ext hB14
    replace hb3 := hb3.ext hB14
    replace f31 := f31.ext hB14
    replace f32 := f32.ext hB14
    replace hb11 := hb11.ext hB14
    replace hb12 := hb12.ext hB14
    replace hb13 := hb13.ext hB14
    replace hT := hT.trans (Below.mono hB14 hT.size)
    replace hTm10 := hTm10.trans (Below.mono hB14 hTm10.size)
    exact eseq_nil ⟨hTm10, Sub.set rfl (Sub.set rfl (Sub.set rfl (Sub.set rfl (Sub.set rfl (Sub.set rfl (Sub.set rfl (Sub.set rfl (Sub.bool true rfl hg0)))))))), rfl⟩
  · have hg0 := hg
    refine g_skip rfl rfl rfl ?_
    refine g_skip rfl rfl rfl ?_
    refine g_skip rfl rfl rfl ?_
    refine g_skip rfl rfl rfl ?_
    refine g_skip rfl rfl rfl ?_
    refine g_skip rfl rfl rfl ?_
    refine g_skip rfl rfl rfl ?_
    refine g_skip rfl rfl rfl ?_
    exact eseq_nil ⟨rfl, Sub.set rfl (Sub.set rfl (Sub.set rfl (Sub.set rfl (Sub.set rfl (Sub.set rfl (Sub.set rfl (Sub.set rfl (Sub.bool false rfl hg0))))))))⟩
  replace hL := hL.ext hBm10
  replace hC := hC.ext hBm10
  replace hA := hA.ext hBm10
  replace hK2 := hK2.ext hBm10
  replace hV := hV.ext hBm10
  replace hF := hF.ext hBm10
  replace hb3 := hb3.ext hBm10
  replace hT := hT.trans (Below.mono hBm10 hT.size)
  refine q_assign rfl rfl ?_
  refine eseq_nil ?_
  refine hK _ _ ?_; clear hK
  refine e_ret ?_
  exact ⟨_, res1 rfl rfl, by simp [nth], hT⟩
end Go.Proofs.Ythbnbkgijdkcbaa
