/- A receive of the indexed computation. -/
import Derived.Test.YtdpleaifhdlciaaW25c
import Derived.Test.YtdpleaifhdlciaaW25d
set_option linter.unusedSimpArgs false
namespace Go.Proofs.Ytdpleaifhdlciaa
open Go.RowKit Go.Mine
attribute [local irreducible] eseq ewp
variable {w : World} {B lo : Nat} {own : Nat → Nat} {T0 : TypeId} {c : Comp} {vL vC vA vK vF vT vG : Value}

theorem forces25 (a b : Int) : Gives Try.prog 12 [.int .i64 a, .int .i64 b] w fun v w' => v = .bool (decide (a < b)) ∧ Below w.heap.size w w' := by
  refine fn_of Try.func12 rfl Try.ntmps12 (Nat.le_of_ble_eq_true rfl) ?_
  have hT := Below.refl w.heap.size w
  refine e_seq fun K hK => ?_
  refine e_region_text rfl ?_
  refine q_assign rfl rfl ?_
  refine eseq_nil ?_
  refine hK _ _ ?_; clear hK
  refine e_seq fun K hK => ?_
  refine e_region_text rfl ?_
  refine q_move rfl rfl ?_
  refine q_move rfl rfl ?_
  refine q_gtr rfl rfl rfl ?_
  refine q_assign rfl rfl ?_
  refine eseq_nil ?_
  refine hK _ _ ?_; clear hK
  refine e_ret ?_
  exact ⟨_, res1 rfl rfl, rfl, hT⟩

theorem receive25 {n : Nat} (h : CompAt w B lo own T0 94 c vL vC vA vK vF vT vG) (hgood : c.Good n) (hn50 : n ≤ 50) (place : Int) (hlr : ∀ q, q < n → 0 ≤ nth c.lens q ∧ nth c.lens q ≤ 1000) (hfl : c.fly.length ≤ 100000)
    (hck : ∀ q, q < n → (nth c.ckpts q).length ≤ 999)
    (hin : ∀ i, i < c.fly.length → 0 ≤ (nth c.fly i).arc ∧ (nth c.fly i).arc < c.arcs.length ∧ 0 ≤ (nth c.arcs (nth c.fly i).arc.toNat).to ∧ (nth c.arcs (nth c.fly i).arc.toNat).to < n) :
    Gives Try.prog 34 [.pointer (some ⟨B, 0, none⟩), .int .i64 place] w fun v w' => v = .tuple #[] ∧ CompTo w w' B lo own T0 94 (c.receive place) ∧ Below lo w w' := by
  have hgl := hgood.lens; have hgn := hgood.now
  have hb := h.blk
  have hlow := CompAt.low_le h
  have hG := h.fly.isSlice.old
  have hA := h.arcs.isSlice.old
  have hBlt := h.blk.lt
  refine fn_of Try.func34 rfl Try.ntmps34 (Nat.le_of_ble_eq_true rfl) ?_
  have hT := Below.refl w.heap.size w
  refine e_seq fun K hK => ?_
  refine e_seq fun K hK => ?_
  refine e_region_text rfl ?_
  refine q_move rfl rfl ?_
  refine q_lss rfl rfl rfl ?_
  refine q_move rfl rfl ?_
  refine g_or 7 rfl trivial rfl rfl ?_; apply Exists.intro; refine ⟨fun hg => ?_, fun hg => ?_, fun wm1 hBm1 => ?_⟩
  · have hg0 := hg
    refine g_skip rfl rfl rfl ?_
    refine g_skip rfl rfl rfl ?_
    refine g_skip rfl rfl rfl ?_
    refine g_skip rfl rfl rfl ?_
    refine g_skip rfl rfl rfl ?_
    refine g_skip rfl rfl rfl ?_
    refine g_skip rfl rfl rfl ?_
    exact eseq_nil ⟨rfl, Sub.set rfl (Sub.set rfl (Sub.set rfl (Sub.set rfl (Sub.set rfl (Sub.set rfl (Sub.set rfl (Sub.bool true rfl hg0)))))))⟩
  · have hg0 := hg
    have hTm1 := Below.refl (World.heap w).size w
    try simp at hg
    refine g_run rfl ?_; refine q_move rfl rfl ?_
    refine g_run rfl ?_; refine q_move rfl rfl ?_
    refine g_run rfl ?_; refine q_nilCheck rfl rfl ?_
    refine g_run rfl ?_; refine q_field rfl rfl ?_
    refine g_run rfl ?_; refine q_load rfl (Blk.cell hb rfl) rfl ?_
    refine g_run rfl ?_; refine q_lenS rfl hG rfl ?_
    refine g_run rfl ?_; refine q_geq rfl rfl rfl ?_
    exact eseq_nil ⟨hTm1, Sub.set rfl (Sub.set rfl (Sub.set rfl (Sub.set rfl (Sub.set rfl (Sub.set rfl (Sub.set rfl (Sub.bool false rfl hg0))))))), rfl⟩
  replace hA := hA.ext hBm1
  replace hG := hG.ext hBm1
  replace hb := hb.ext hBm1
  replace hT := hT.trans (Below.mono hBm1 hT.size)
  refine eseq_nil ?_
  refine hK _ _ ?_; clear hK
  refine e_cond rfl (fun hb1 => ?_) (fun hb1 => ?_)
  · skip
    refine e_ret ?_
    refine ⟨_, res0 rfl, rfl, ?_, hT.mono hlow⟩
    rw [Comp.receive, if_pos hb1]
    exact ⟨own, _, _, _, _, _, _, _, CompAt.ext h hT, .of_below hT⟩
  have hpl : 0 ≤ place ∧ place < c.fly.length := by simp at hb1; omega
  obtain ⟨pl, rfl⟩ := Int.eq_ofNat_of_zero_le hpl.1
  obtain ⟨hi1, hi2, hi3, hi4⟩ := hin pl (by omega)
  obtain ⟨ar, har⟩ := Int.eq_ofNat_of_zero_le hi1
  have hbl : ∀ k, w.heap.size ≤ k → own k = 0 := fun k hk => by
    rcases Nat.eq_zero_or_pos (own k) with e | e
    · exact e
    · have := (h.low k (by omega)).2; omega
  refine e_skip ?_
  refine hK _ _ ?_; clear hK
  refine e_seq fun K hK => ?_
  refine e_region_text rfl ?_
  refine q_move rfl rfl ?_
  refine q_nilCheck rfl rfl ?_
  refine q_field rfl rfl ?_
  refine q_load rfl (Blk.cell hb rfl) rfl ?_
  refine q_move rfl rfl ?_
  first | refine q_indexSn (by infer_instance) rfl hG rfl (by first | omega | decide) rfl fun b22 o22 f22 => ?_ | refine q_indexS (by infer_instance) rfl hG rfl (by first | omega | decide) (by first | omega | decide) rfl fun b22 o22 f22 => ?_
  refine q_loadAgg rfl (letterL f22) rfl rfl ?_
  refine q_allocB rfl fun w2 bl2 hg2 hb2 hB2 => ?_
  have hz2hT := Nat.le_trans hT.size hg2
  replace hA := hA.ext hB2
  replace hG := hG.ext hB2
  replace hb := hb.ext hB2
  replace f22 := f22.ext hB2
  replace hT := hT.trans (Below.mono hB2 hT.size)
  refine q_storeAgg rfl rfl hb2 rfl (Nat.le_of_ble_eq_true rfl) (by first | exact all_cons rfl (all_cons rfl (all_nil)) | (simp [oneV]; done) | simp [oneV, setN]) rfl rfl fun w3 hb3 hO3 => ?_
  simp only [setN, List.set] at hb3
  replace hA := hA.kept (.of_only hO3 (fun k (hk : k < _) => by omega))
  replace hG := hG.kept (.of_only hO3 (fun k (hk : k < _) => by omega))
  replace hb := hb.only hO3 (by omega)
  replace f22 := f22.kept (.of_only hO3 (fun k (hk : k < _) => by omega))
  replace hT := Below.onlyB hT hO3 hb2.lt (by omega)
  refine eseq_nil ?_
  refine hK _ _ ?_; clear hK
  refine e_seq fun K hK => ?_
  refine e_region_draw mixed (fun _ => False) [0, 1, 3, 7, 15, 31, 0, 64, 255, 511, 1023, 2047] [] [0, 1, 2, 3, 4, 5, 6, 7, 8, 9, 10, 11] (by kernel_rfl) ?_
  refine q_move rfl rfl ?_
  refine q_nilCheck rfl rfl ?_
  refine q_field rfl rfl ?_
  refine q_field rfl rfl ?_
  refine q_field rfl rfl ?_
  refine q_load rfl (Blk.cell hb rfl) rfl ?_
  refine q_field rfl rfl ?_
  refine q_load rfl (Blk.cell hb3 rfl) rfl ?_
  first | refine q_indexSn (by infer_instance) rfl hA rfl (by first | omega | decide) rfl fun b32 o32 f32 => ?_ | refine q_indexS (by infer_instance) rfl hA rfl (by first | omega | decide) (by first | omega | decide) rfl fun b32 o32 f32 => ?_
  refine q_field rfl rfl ?_
  have f33 := ArcF2 f32
  refine q_load rfl (El.intCell f33) rfl ?_
  refine q_assign rfl rfl ?_
  refine eseq_nil ?_
  refine hK _ _ ?_; clear hK
  refine e_seq fun K hK => ?_
  refine e_seq fun K hK => ?_
  refine e_region_text rfl ?_
  refine q_move rfl rfl ?_
  refine q_move rfl rfl ?_
  refine q_call rfl (full25 (CompAt.ext h hT) (nth c.arcs (nth c.fly pl).arc.toNat).to (by omega) (by omega)) rfl ?_
  rintro _ w4 ⟨rfl, hB4⟩; refine ⟨fun _ => .of_below hB4, ?_⟩
  replace hA := hA.ext hB4
  replace hG := hG.ext hB4
  replace hb := hb.ext hB4
  replace f22 := f22.ext hB4
  replace hb3 := hb3.ext hB4
  replace f32 := f32.ext hB4
  replace f33 := f33.ext hB4
  replace hT := hT.trans (Below.mono hB4 hT.size)
  refine eseq_nil ?_
  refine hK _ _ ?_; clear hK
  refine e_cond rfl (fun hb2f => ?_) (fun hb2f => ?_)
  · skip
    refine e_ret ?_
    refine ⟨_, res0 rfl, rfl, ?_, hT.mono hlow⟩
    have hc2 : 64 ≤ nth c.lens (nth c.arcs (nth c.fly pl).arc.toNat).to.toNat := by simpa using hb2f
    rw [receive_full hc2]
    exact ⟨own, _, _, _, _, _, _, _, CompAt.ext h hT, .of_below hT⟩
  refine e_skip ?_
  refine hK _ _ ?_; clear hK
  refine e_seq fun K hK => ?_
  refine e_region_text rfl ?_
  refine q_move rfl rfl ?_
  refine q_move rfl rfl ?_
  refine q_nilCheck rfl rfl ?_
  refine q_field rfl rfl ?_
  refine q_load rfl (Blk.cell hb rfl) rfl ?_
  refine q_move rfl rfl ?_
  refine q_move rfl rfl ?_
  refine q_add rfl rfl (wr64 (by omega) (by omega)) rfl ?_
  have h4 := CompAt.ext h hT
  have hxB : some B ≠ vG.ownBlock := fun e => by have e1 := h4.fly.2 B e.symm; have e2 := h4.tag; omega
  have hxb : some bl2 ≠ vG.ownBlock := fun e => by have e1 := h.fly.2 bl2 e.symm; have e2 := hbl bl2 (by omega); omega
  refine q_call rfl (delete25 h4.fly.1 pl (by omega) (by omega)) rfl ?_
  rintro vG5 wd ⟨hownd, hgd, hobd⟩; refine ⟨(fun h => by cases h), ?_⟩
  have hbd := hb.grown hgd hxB
  have hl5 := hb3.grown hgd hxb
  refine q_nilCheck rfl rfl ?_
  refine q_field rfl rfl ?_
  refine q_store rfl rfl hbd (Nat.le_of_ble_eq_true rfl) hownd.one rfl rfl fun w5 hb5 hO5 => ?_
  simp only [List.set] at hb5
  obtain ⟨h6, hS6, hT6⟩ := CompAt.setFly h4 (Below.refl _ _) hgd hownd (fun k hk => .inl (hobd ▸ hk)) hO5 hb5
  have hnB : bl2 ≠ B := by omega
  replace hl5 := hl5.only hO5 hnB
  obtain ⟨own6, hown6⟩ : ∃ o, o = retag own w4.heap.size wd.heap.size 5 := ⟨_, rfl⟩
  rw [← hown6] at h6 hS6
  have ho6 : own6 bl2 = 0 := by rw [hown6, retag_old hb3.lt]; exact hbl bl2 (by omega)
  have hlow6 := CompAt.low_le h6
  clear hown6
  have hc64 : ¬ 64 ≤ nth c.lens (nth c.arcs (nth c.fly pl).arc.toNat).to.toNat := by simpa using hb2f
  have hgood6 : (c.took pl).Good n := ⟨hgood.lens, hgood.ckpts, hgood.clocks, hgood.forced, hgood.now, hgood.rows⟩
  have hx6 : CompAt w5 B lo own6 T0 94 (c.took pl) vL vC vA vK vF vT vG5 := h6
  obtain ⟨q, hq⟩ := Int.eq_ofNat_of_zero_le hi3
  have hqn : q < n := by omega
  have har2 : (nth c.fly pl).arc.toNat = ar := by omega
  have hq2 : (nth c.arcs (nth c.fly pl).arc.toNat).to.toNat = q := by omega
  have harl : ar < c.arcs.length := by omega
  obtain ⟨gN, hvN, htN, hgN⟩ := id hx6.now
  replace hvN : vT = .slice (some ⟨gN, 0, none⟩) c.now.length c.now.length := hvN
  replace hgN : Blk w5 gN (c.now.map encI) _ := hgN
  subst hvN
  have hbe := hx6.blk
  have hlr6 := hlr q hqn
  refine eseq_nil ?_
  refine hK _ _ ?_; clear hK
  refine e_seq fun K hK => ?_
  have key : ∀ (wx : World) (ownx : Nat → Nat) (c2 : Comp) (uL uC uA uK uF uT uG : Value) (E : Env), CompAt wx B lo ownx T0 94 c2 uL uC uA uK uF uT uG → c2.lens = c.lens → c2.arcs = c.arcs →
      Blk wx bl2 [.int .i64 (nth c.fly pl).arc, .int .i64 (nth c.fly pl).clock] 94 → ownx bl2 = 0 → Spares own ownx w wx (fun y => y = 0) → Below lo w wx → c.receive pl = c2.got q ar →
      Mine.Sub [(0, .pointer (some ⟨B, 0, none⟩)), (4, .pointer (some ⟨bl2, 0, none⟩)), (5, .int .i64 (nth c.arcs (nth c.fly pl).arc.toNat).to)] E → K E wx := by
    intro wx ownx c2 uL uC uA uK uF uT uG E hc hcl hca hlb hol hSx hTx hrec hsub
    have hxB2 : ¬ ownx B = 2 := by have := hc.tag; omega
    have hxl2 : ¬ ownx bl2 = 2 := by omega
    obtain ⟨gA, capA, curA, hvA, hbA, hlA⟩ := hc.arcs.1.form (by rw [hca]; omega)
    subst hvA
    have hgA : ownx gA = 3 := hc.arcs.2 gA rfl
    have hbx := hc.blk
    have hal : c2.arcs.length = c.arcs.length := by rw [hca]
    refine hK _ _ (e_sub hsub ?_); clear hK
    refine e_region_draw mixed (fun k => ownx k = 2) [0, 1, 3, 7, 15, 31, 0, 64, 0, 0, 768, 2047, 4095, 8191] [10] [0, 1, 2, 3, 4, 5, 6, 7, 8, 9, 10, 11, 12, 13] (by kernel_rfl) ?_
    refine q_move rfl rfl ?_
    refine q_nilCheck rfl rfl ?_
    refine q_field rfl rfl ?_
    refine q_field rfl rfl ?_
    refine q_field rfl rfl ?_
    refine q_load rfl (Blk.cell hbx rfl) rfl ?_
    refine q_field rfl rfl ?_
    refine q_load rfl (Blk.cell hlb rfl) rfl ?_
    refine q_move rfl rfl ?_
    refine q_move rfl rfl ?_
    refine q_call rfl (event25 hc (nth c.arcs (nth c.fly pl).arc.toNat).to (by omega) (by rw [hcl]; omega) ⟨by rw [hcl, hq2]; omega, by rw [hcl, hq2]; omega⟩) rfl ?_
    rintro _ wy ⟨rfl, hy, hXy, hTy⟩; refine ⟨fun _ => hXy, ?_⟩
    have hbA2 : Blk wy gA curA 46 := by
      unfold Blk at *
      rw [hXy.block gA (Array.getElem?_eq_some_iff.1 hbA).1 (by omega)]; exact hbA
    have hpos : ix 0 (nth c.fly pl).arc.toNat 4 + 3 = ar * arcTy.sz + 3 := by rw [ix_eq, har2]; show 0 + ar * 4 + 3 = ar * 4 + 3; omega
    have hlA2 : c.arcs.length * 4 ≤ curA.length := by rw [hca] at hlA; exact hlA
    first | refine q_indexn rfl rfl (by omega) rfl ?_ | refine q_index rfl rfl ⟨by omega, by omega⟩ rfl ?_
    refine q_field rfl rfl ?_
    refine q_store rfl rfl hbA2 (by rw [ix_eq, har2]; omega) rfl rfl rfl fun wz hbz hOz => ?_
    refine eseq_nil ?_
    refine ⟨_, res0 rfl, rfl, ?_, ?_⟩
    · have hal2 : ar < c2.arcs.length := by omega
      have hset := hy.arcs.1.setPart (enc := Arc.cells) (fun _ _ _ _ => arcR) (w1 := wz) ar 3 hal2 (show 3 < 4 by omega) (.int .i64 (nth c2.lens q + 1)) { nth c2.arcs ar with rcv := nth c2.lens q + 1 } rfl (fun cs tt hcs => by obtain ⟨rfl, rfl⟩ := Blk.inj hcs hbA2; rw [← hpos, ← hq2]; exact hbz)
      have hSz : Spares ownx ownx wy wz (fun y => y ≠ 3) := ⟨hOz.size, fun _ _ => rfl, fun k hk hne => hOz.block k hk (by rintro rfl; exact hne hgA)⟩
      have hSy : Spares ownx ownx wx wy (fun y => y = 0) := ⟨hXy.size, fun _ _ => rfl, fun k hk hy0 => hXy.block k hk (by omega)⟩
      have hf := hy.few
      rw [hrec]
      refine ⟨ownx, _, _, _, _, _, _, _, ⟨hy.blk.only hOz (by rintro rfl; have := hy.tag; omega), hy.tag, fun k hk => ⟨(hy.low k hk).1, Nat.lt_of_lt_of_le (hy.low k hk).2 hOz.size⟩, ?_, ⟨hset, hy.arcs.2⟩, hy.now.step hSz (by omega), hy.fly.step hSz (by omega), hy.ckpts.step hSz (by intro i hi; omega), hy.clocks.step hSz (by intro i hi; omega), hy.forced.step hSz (by intro i hi; omega), hf⟩, (hSx.trans0 hSy).trans0 (hSz.mono (by intro y hy0; omega))⟩
      have hll := hy.lens.step hSz (by omega)
      rw [hq2] at hll; exact hll
    · exact (hTx.trans hTy).trans (Below.onlyB (Below.refl lo wy) hOz hbA2.lt (hc.low gA (by omega)).1)
  have hS05 : Spares own own6 w w5 (fun y => y = 0) := (Spares.of_below hT).trans0 hS6
  have hT05 : Below lo w w5 := (hT.mono hlow).trans hT6
  have hBN : B ≠ gN := by rintro rfl; have := hx6.tag; omega
  have hlN : bl2 ≠ gN := by rintro rfl; omega
  refine e_seq fun K hK => ?_
  refine e_region_draw mixed (fun _ => False) [0, 1, 3, 7, 0, 31, 63, 0, 128, 511] [] [0, 1, 2, 3, 4, 5, 6, 7, 8, 9] (by kernel_rfl) ?_
  refine q_move rfl rfl ?_
  refine q_nilCheck rfl rfl ?_
  refine q_field rfl rfl ?_
  refine q_load rfl (Blk.cell hbe rfl) rfl ?_
  refine q_move rfl rfl ?_
  first | refine q_indexn rfl rfl (by omega) rfl ?_ | refine q_index rfl rfl ⟨by omega, by omega⟩ rfl ?_
  refine q_load rfl (Blk.intAt hgN (by first | omega | (simp; omega))) rfl ?_
  refine q_field rfl rfl ?_
  refine q_load rfl (Blk.cell hl5 rfl) rfl ?_
  refine q_call rfl (forces25 _ _) rfl ?_
  rintro _ w6 ⟨rfl, hB6⟩; refine ⟨fun _ => .of_below hB6, ?_⟩
  replace hgN := hgN.ext hB6
  replace hbe := hbe.ext hB6
  replace hl5 := hl5.ext hB6
  refine eseq_nil ?_
  refine hK _ _ ?_; clear hK
  refine e_cond rfl (fun hf => ?_) (fun hf => ?_)
  · skip
    have hf2 : nth c.now q < (nth c.fly pl).clock := by rw [hq2] at hf; simpa using hf
    refine e_seq fun K hK => ?_
    refine e_region_draw mixed (fun _ => False) [0, 1, 3, 7, 0, 0, 32, 127, 255] [] [0, 1, 2, 3, 4, 5, 6, 7, 8] (by kernel_rfl) ?_
    refine q_move rfl rfl ?_
    refine q_nilCheck rfl rfl ?_
    refine q_field rfl rfl ?_
    refine q_load rfl (Blk.cell hbe rfl) rfl ?_
    refine q_move rfl rfl ?_
    refine q_field rfl rfl ?_
    refine q_load rfl (Blk.cell hl5 rfl) rfl ?_
    first | refine q_indexn rfl rfl (by omega) rfl ?_ | refine q_index rfl rfl ⟨by omega, by omega⟩ rfl ?_
    refine q_storeIx rfl rfl hgN (by first | omega | (simp; omega)) rfl fun w7 hb7 hO7 => ?_
    replace hbe := hbe.only hO7 (by omega)
    replace hl5 := hl5.only hO7 (by omega)
    refine eseq_nil ?_
    refine hK _ _ ?_; clear hK
    refine e_region_text rfl ?_
    refine q_move rfl rfl ?_
    refine q_move rfl rfl ?_
    have hx7 := CompAt.ext hx6 hB6
    obtain ⟨hN8, hS8⟩ := IntsAt.set (own := own6) (i := q) (x := (nth c.fly pl).clock) htN hO7 (by rw [hq2] at hb7; exact hb7)
    have hf7 := hx7.few
    have h8 : CompAt w7 B lo own6 T0 94 { c.took pl with now := c.now.set q (nth c.fly pl).clock } vL vC vA vK vF (.slice (some ⟨gN, 0, none⟩) c.now.length c.now.length) vG5 :=
      ⟨hbe, hx7.tag, fun k hk => ⟨(hx7.low k hk).1, Nat.lt_of_lt_of_le (hx7.low k hk).2 hO7.size⟩, hx7.lens.step hS8 (by omega), hx7.arcs.step hS8 (by omega), hN8, hx7.fly.step hS8 (by omega), hx7.ckpts.step hS8 (by intro i hi; omega), hx7.clocks.step hS8 (by intro i hi; omega), hx7.forced.step hS8 (by intro i hi; omega), hf7⟩
    have hgood8 : ({ c.took pl with now := c.now.set q (nth c.fly pl).clock } : Comp).Good n := ⟨hgood.lens, hgood.ckpts, hgood.clocks, hgood.forced, by simpa using hgood.now, hgood.rows⟩
    have hgl := (checkpoint_good (f := true) hgood8 hck hqn).2
    refine q_call (by first | rfl | (rw [← hq]; rfl)) (checkpoint25 h8 hgood8 hn50 q hqn true) rfl ?_
    rintro _ w9 ⟨rfl, ⟨own9, uL, uC, uA, uK, uF, uT, uG, h9, hS9⟩, hT9⟩; refine ⟨(fun h => by cases h), ?_⟩
    refine eseq_nil ?_
    have hl8 : bl2 < w7.heap.size := hl5.lt
    have hl9 : Blk w9 bl2 [.int .i64 (nth c.fly pl).arc, .int .i64 (nth c.fly pl).clock] 94 := by
      unfold Blk at *
      rw [hS9.block bl2 (Array.getElem?_eq_some_iff.1 hl5).1 ho6]; exact hl5
    refine key w9 own9 _ uL uC uA uK uF uT uG _ h9 hgl.1 hgl.2.1 hl9 ((hS9.tag bl2 hl8).trans ho6) ((((hS05.trans0 (.of_below hB6)).trans0 (hS8.mono (by intro y hy0; omega)))).trans0 hS9) (((hT05.trans (hB6.mono hlow6)).trans (Below.onlyB (Below.refl lo w6) hO7 hgN.lt (hx7.low gN (by omega)).1)).trans hT9) ?_ (Sub.cons rfl (Sub.cons rfl (Sub.cons rfl (Sub.nil _))))
    rw [receive_go (by omega) hc64, hq2, har2, Comp.raised, if_pos (show nth (c.took pl).now q < _ from hf2)]; rfl
  · skip
    have hf2 : ¬ nth c.now q < (nth c.fly pl).clock := by rw [hq2] at hf; simpa using hf
    refine e_skip ?_
    refine key w6 own6 (c.took pl) vL vC vA vK vF _ vG5 _ (CompAt.ext hx6 hB6) rfl rfl hl5 ho6 (hS05.trans0 (.of_below hB6)) (hT05.trans (hB6.mono hlow6)) ?_ (Sub.cons rfl (Sub.cons rfl (Sub.cons rfl (Sub.nil _))))
    rw [receive_go (by omega) hc64, hq2, har2, Comp.raised, if_neg (show ¬ nth (c.took pl).now q < _ from hf2)]
end Go.Proofs.Ytdpleaifhdlciaa
