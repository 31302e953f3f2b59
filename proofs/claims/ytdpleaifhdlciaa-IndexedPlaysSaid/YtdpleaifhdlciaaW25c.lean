/- A send of the indexed computation. -/
import Derived.Test.YtdpleaifhdlciaaW25b
set_option linter.unusedSimpArgs false
namespace Go.Proofs.Ytdpleaifhdlciaa
open Go.RowKit Go.Mine
attribute [local irreducible] eseq ewp
variable {w : World} {B lo : Nat} {own : Nat → Nat} {T0 eG : TypeId} {c : Comp} {vL vC vA vK vF vT vG : Value}

theorem send25 {n : Nat} (h : CompAt w B lo own T0 94 c vL vC vA vK vF vT vG) (hgood : c.Good n) (fr to : Int) (hlr : ∀ q, q < n → 0 ≤ nth c.lens q ∧ nth c.lens q ≤ 1000) (har : c.arcs.length ≤ 100000) (hfl : c.fly.length ≤ 100000) :
    Gives Try.prog 33 [.pointer (some ⟨B, 0, none⟩), .int .i64 fr, .int .i64 to] w fun v w' => v = .tuple #[] ∧ CompTo w w' B lo own T0 94 (c.send fr to) ∧ Below lo w w' := by
  have hgl := hgood.lens; have hgn := hgood.now
  have hb := h.blk
  have hlow := CompAt.low_le h
  refine fn_of Try.func33 rfl Try.ntmps33 (Nat.le_of_ble_eq_true rfl) ?_
  have hT := Below.refl w.heap.size w
  refine e_seq fun K hK => ?_
  refine e_seq fun K hK => ?_
  refine e_region_text rfl ?_
  refine q_move rfl rfl ?_
  refine q_move rfl rfl ?_
  refine q_call rfl (process25 h fr) rfl ?_
  rintro _ w1 ⟨rfl, hB1⟩; refine ⟨fun _ => .of_below hB1, ?_⟩
  replace hb := hb.ext hB1
  replace hT := hT.trans (Below.mono hB1 hT.size)
  refine q_not rfl rfl ?_
  refine q_move rfl rfl ?_
  refine g_or 4 rfl trivial rfl rfl ?_; apply Exists.intro; refine ⟨fun hg => ?_, fun hg => ?_, fun wm2 hBm2 => ?_⟩
  · have hg0 := hg
    refine g_skip rfl rfl rfl ?_
    refine g_skip rfl rfl rfl ?_
    refine g_skip rfl rfl rfl ?_
    refine g_skip rfl rfl rfl ?_
    exact eseq_nil ⟨rfl, Sub.set rfl (Sub.set rfl (Sub.set rfl (Sub.set rfl (Sub.bool true rfl hg0))))⟩
  · have hg0 := hg
    have hTm2 := Below.refl (World.heap w1).size w1
    try simp at hg
    refine g_run rfl ?_; refine q_move rfl rfl ?_
    refine g_run rfl ?_; refine q_move rfl rfl ?_
    refine g_run rfl ?_; refine q_call rfl (process25 (CompAt.ext h hT) to) rfl ?_
    rintro _ w3 ⟨rfl, hB3⟩; refine ⟨fun _ => .of_below hB3, ?_⟩
    replace hb := hb.ext hB3
    replace hT := hT.trans (Below.mono hB3 hT.size)
    replace hTm2 := hTm2.trans (Below.mono hB3 hTm2.size)
    refine g_run rfl ?_; refine q_not rfl rfl ?_
    exact eseq_nil ⟨hTm2, Sub.set rfl (Sub.set rfl (Sub.set rfl (Sub.set rfl (Sub.bool false rfl hg0)))), rfl⟩
  replace hb := hb.ext hBm2
  replace hT := hT.trans (Below.mono hBm2 hT.size)
  refine q_move rfl rfl ?_
  refine g_or 3 rfl trivial rfl rfl ?_; apply Exists.intro; refine ⟨fun hg => ?_, fun hg => ?_, fun wm4 hBm4 => ?_⟩
  · have hg0 := hg
    refine g_skip rfl rfl rfl ?_
    refine g_skip rfl rfl rfl ?_
    refine g_skip rfl rfl rfl ?_
    exact eseq_nil ⟨rfl, Sub.set rfl (Sub.set rfl (Sub.set rfl (Sub.bool true rfl hg0)))⟩
  · have hg0 := hg
    have hTm4 := Below.refl (World.heap wm2).size wm2
    try simp at hg
    refine g_run rfl ?_; refine q_move rfl rfl ?_
    refine g_run rfl ?_; refine q_move rfl rfl ?_
    refine g_run rfl ?_; refine q_eql rfl rfl rfl ?_
    exact eseq_nil ⟨hTm4, Sub.set rfl (Sub.set rfl (Sub.set rfl (Sub.bool false rfl hg0))), rfl⟩
  replace hb := hb.ext hBm4
  replace hT := hT.trans (Below.mono hBm4 hT.size)
  refine q_move rfl rfl ?_
  refine g_or 3 rfl trivial rfl rfl ?_; apply Exists.intro; refine ⟨fun hg => ?_, fun hg => ?_, fun wm5 hBm5 => ?_⟩
  · have hg0 := hg
    refine g_skip rfl rfl rfl ?_
    refine g_skip rfl rfl rfl ?_
    refine g_skip rfl rfl rfl ?_
    exact eseq_nil ⟨rfl, Sub.set rfl (Sub.set rfl (Sub.set rfl (Sub.bool true rfl hg0)))⟩
  · have hg0 := hg
    have hTm5 := Below.refl (World.heap wm4).size wm4
    try simp at hg
    have hfr : 0 ≤ fr ∧ fr < c.lens.length := by omega
    refine g_run rfl ?_; refine q_move rfl rfl ?_
    refine g_run rfl ?_; refine q_move rfl rfl ?_
    refine g_run rfl ?_; refine q_call rfl (full25 (CompAt.ext h hT) fr (by omega) (by omega)) rfl ?_
    rintro _ w6 ⟨rfl, hB6⟩; refine ⟨fun _ => .of_below hB6, ?_⟩
    replace hb := hb.ext hB6
    replace hT := hT.trans (Below.mono hB6 hT.size)
    replace hTm5 := hTm5.trans (Below.mono hB6 hTm5.size)
    exact eseq_nil ⟨hTm5, Sub.set rfl (Sub.set rfl (Sub.set rfl (Sub.bool false rfl hg0))), rfl⟩
  replace hb := hb.ext hBm5
  replace hT := hT.trans (Below.mono hBm5 hT.size)
  refine eseq_nil ?_
  refine hK _ _ ?_; clear hK
  refine e_cond rfl (fun hb1 => ?_) (fun hb1 => ?_)
  · skip
    refine e_ret ?_
    refine ⟨_, res0 rfl, rfl, ?_, hT.mono hlow⟩
    rw [Comp.send, if_pos (by simpa using hb1)]
    exact ⟨own, _, _, _, _, _, _, _, CompAt.ext h hT, .of_below hT⟩
  have hc : (!(decide (0 ≤ fr) && decide (fr < c.now.length)) || !(decide (0 ≤ to) && decide (to < c.now.length)) || fr == to || decide (64 ≤ nth c.lens fr.toNat)) = false := by simpa using hb1
  have hfr : 0 ≤ fr ∧ fr < n := by simp at hc; omega
  have hr := hlr fr.toNat (by omega)
  have h1 := CompAt.ext h hT
  refine e_skip ?_
  refine hK _ _ ?_; clear hK
  refine e_seq fun K hK => ?_
  refine e_region_text rfl ?_
  refine q_move rfl rfl ?_
  refine q_nilCheck rfl rfl ?_
  refine q_field rfl rfl ?_
  refine q_field rfl rfl ?_
  refine q_assign rfl rfl ?_
  refine eseq_nil ?_
  refine hK _ _ ?_; clear hK
  refine e_seq fun K hK => ?_
  refine e_region_text rfl ?_
  refine q_move rfl rfl ?_
  refine q_move rfl rfl ?_
  refine q_move rfl rfl ?_
  refine q_call rfl (event25 h1 fr (by omega) (by omega) ⟨by omega, by omega⟩) rfl ?_
  rintro _ we ⟨rfl, h2, hXe, hTe⟩; refine ⟨(fun h => by cases h), ?_⟩
  have hbe := h2.blk
  have hBlt := h2.blk.lt
  have hA : IsSlice arcTy we _ vA c.arcs := h2.arcs.isSlice.old
  have hN : IsSlice Ty.int we _ vT c.now := h2.now.isSlice.old
  have hX := Below.refl we.heap.size we
  refine q_move rfl rfl ?_
  refine q_build (Parts.cons rfl rfl (Parts.cons rfl rfl (Parts.cons rfl rfl Parts.nil))) rfl rfl ?_
  refine q_allocB rfl fun w7 bl7 hg7 hb7 hB7 => ?_
  have hz7hX := Nat.le_trans hX.size hg7
  replace hA := hA.ext hB7
  replace hN := hN.ext hB7
  replace hbe := hbe.ext hB7
  replace hX := hX.trans (Below.mono hB7 hX.size)
  refine q_storeAgg rfl rfl hb7 rfl (Nat.le_of_ble_eq_true rfl) (by first | exact all_cons rfl (all_cons rfl (all_cons rfl (all_cons rfl (all_nil)))) | (simp [oneV]; done) | simp [oneV, setN]) rfl rfl fun w8 hb8 hO8 => ?_
  simp only [setN, List.set] at hb8
  replace hA := hA.kept (.of_only hO8 (fun k (hk : k < _) => by omega))
  replace hN := hN.kept (.of_only hO8 (fun k (hk : k < _) => by omega))
  replace hbe := hbe.only hO8 (by omega)
  replace hX := Below.onlyB hX hO8 hb7.lt (by omega)
  refine eseq_nil ?_
  refine hK _ _ ?_; clear hK
  refine e_seq fun K hK => ?_
  refine e_region_draw mixed (fun _ => False) [0, 0, 2, 6, 14, 0, 32, 96, 224, 480, 0, 1024, 3072, 7168, 0, 31744, 64512, 131040, 262112, 524286, 1048575, 2097151, 4194303] [18] [0, 1, 2, 3, 4, 5, 6, 7, 8, 9, 10, 11, 12, 13, 14, 15, 16, 17, 18, 19, 20, 21, 22] (by kernel_rfl) ?_
  refine q_move rfl rfl ?_
  refine q_move rfl rfl ?_
  refine q_nilCheck rfl rfl ?_
  refine q_field rfl rfl ?_
  refine q_load rfl (Blk.cell hbe rfl) rfl ?_
  refine q_move rfl rfl ?_
  refine q_nilCheck rfl rfl ?_
  refine q_field rfl rfl ?_
  refine q_load rfl (Blk.cell hbe rfl) rfl ?_
  refine q_lenS rfl hA rfl ?_
  refine q_move rfl rfl ?_
  refine q_nilCheck rfl rfl ?_
  refine q_field rfl rfl ?_
  refine q_load rfl (Blk.cell hbe rfl) rfl ?_
  refine q_move rfl rfl ?_
  first | refine q_indexSn (by infer_instance) rfl hN rfl (by first | omega | decide) rfl fun b53 o53 f53 => ?_ | refine q_indexS (by infer_instance) rfl hN rfl (by first | omega | decide) (by first | omega | decide) rfl fun b53 o53 f53 => ?_
  refine q_load rfl (El.intCell f53) rfl ?_
  refine q_build (Parts.cons rfl rfl (Parts.cons rfl rfl Parts.nil)) rfl rfl ?_
  have h3 := CompAt.ext h2 hX
  have hoG := h3.fly
  have hxB : some B ≠ vG.ownBlock := fun e => by have e1 := hoG.2 B e.symm; have e2 := h3.tag; omega
  have hx7 : some bl7 ≠ vG.ownBlock := fun e => by have e1 := (h2.fly.1.lt bl7 e.symm).2; omega
  refine q_slice1 rfl rfl rfl rfl rfl rfl fun wa ba hga hba hBa => ?_
  refine q_append1 (u := (⟨c.arcs.length, nth c.now fr.toNat⟩ : Letter)) rfl rfl rfl rfl (hoG.1.ext hBa) rfl hba (letterR.2 rfl) (by have := hfl; show c.fly.length + 1 ≤ _; omega) (Nat.zero_le _) rfl (fun h => by cases h) fun vG' wb hown hgr hnw => ?_
  have hbB := (h3.blk.ext hBa).grown hgr hxB
  refine q_nilCheck rfl rfl ?_
  refine q_field rfl rfl ?_
  refine q_store rfl rfl hbB (Nat.le_of_ble_eq_true rfl) hown.one rfl rfl fun w9 hb9 hO9 => ?_
  simp only [List.set] at hb9
  obtain ⟨h4, hS4, hT4⟩ := CompAt.setFly h3 hBa hgr hown hnw.blk hO9 hb9
  have hne7 : bl7 ≠ B := by omega
  replace hb8 := ((hb8.ext hBa).grown hgr hx7).only hO9 hne7
  have hbe := h4.blk
  have hA := h4.arcs
  have hxB2 : some B ≠ vA.ownBlock := fun e => by have e1 := hA.2 B e.symm; have e2 := h4.tag; omega
  refine eseq_nil ?_
  refine hK _ _ ?_; clear hK
  refine e_region_draw mixed (fun _ => False) [0, 0, 2, 6, 14, 0, 32, 126, 255, 511, 1023] [6] [0, 1, 2, 3, 4, 5, 6, 7, 8, 9, 10] (by kernel_rfl) ?_
  refine q_move rfl rfl ?_
  refine q_move rfl rfl ?_
  refine q_nilCheck rfl rfl ?_
  refine q_field rfl rfl ?_
  refine q_load rfl (Blk.cell hbe rfl) rfl ?_
  refine q_loadAgg rfl (Blk.cellsAt hb8 0 4 rfl) rfl rfl ?_
  refine q_slice1 rfl rfl rfl rfl rfl rfl fun wc bc hgc hbc hBc => ?_
  refine q_append1 (u := (⟨fr, nth c.lens fr.toNat + 1, to, 0⟩ : Arc)) rfl rfl rfl rfl (hA.1.ext hBc) rfl hbc (arcR.2 rfl) (by show c.arcs.length + 1 ≤ _; omega) (Nat.zero_le _) rfl (fun h => by cases h) fun vA' wd hown2 hgr2 hnw2 => ?_
  have hbB2 := (h4.blk.ext hBc).grown hgr2 hxB2
  refine q_nilCheck rfl rfl ?_
  refine q_field rfl rfl ?_
  refine q_store rfl rfl hbB2 (Nat.le_of_ble_eq_true rfl) hown2.one rfl rfl fun w10 hb10 hO10 => ?_
  simp only [List.set] at hb10
  obtain ⟨h5, hS5, hT5⟩ := CompAt.setArcs h4 hBc hgr2 hown2 hnw2.blk hO10 hb10
  refine eseq_nil ?_
  refine ⟨_, res0 rfl, rfl, ?_, ?_⟩
  · rw [Comp.send, if_neg (by rw [hc]; simp)]
    have hSe : Spares own own wm5 we (fun y => y = 0) := ⟨hXe.size, fun _ _ => rfl, fun k hk hy => hXe.block k hk (by omega)⟩
    exact ⟨_, _, _, _, _, _, _, _, h5, (((Spares.of_below hT).trans0 hSe).trans0 (.of_below hX)).trans0 (hS4.trans0 hS5)⟩
  · have hl10 := CompAt.low_le h2
    exact (((hT.mono hlow).trans hTe).trans (hX.mono hl10)).trans (hT4.trans hT5)
end Go.Proofs.Ytdpleaifhdlciaa
