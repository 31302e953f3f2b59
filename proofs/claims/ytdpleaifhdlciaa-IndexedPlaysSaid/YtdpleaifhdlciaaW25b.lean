/- The checkpoint of the indexed computation. -/
import Derived.Test.YtdpleaifhdlciaaW25a
set_option linter.unusedSimpArgs false
namespace Go.Proofs.Ytdpleaifhdlciaa
open Go.RowKit Go.Mine
attribute [local irreducible] eseq ewp
variable {w : World} {B lo : Nat} {own : Nat → Nat} {T0 eG : TypeId} {c : Comp} {vL vC vA vK vF vT vG : Value}

theorem some_at {α : Type} {l : List α} {i : Nat} (h : i < l.length) : ∃ u, l[i]? = some u := ⟨l[i], by simp [h]⟩
theorem CompAt.low_le (h : CompAt w B lo own T0 eG c vL vC vA vK vF vT vG) : lo ≤ w.heap.size := by
  have := h.low B (by have := h.tag; omega); omega
theorem retag_low {n n' t m : Nat} (hl : ∀ k, own k ≠ 0 → lo ≤ k ∧ k < n) (hn : lo ≤ n) (hnn : n ≤ n') (hm : n' ≤ m) : ∀ k, retag own n n' t k ≠ 0 → lo ≤ k ∧ k < m := by
  intro k hk
  unfold retag at hk
  split at hk
  · have := hl k hk; omega
  · split at hk
    · omega
    · exact absurd rfl hk
theorem Blk.inj {w : World} {b : Nat} {cs cs' : List Value} {t t' : TypeId} (h : Blk w b cs t) (h' : Blk w b cs' t') : cs = cs' ∧ t = t' := by
  unfold Blk at *; rw [h] at h'; simpa using h'
theorem nth_some {α : Type} [Inhabited α] {l : List α} {i : Nat} (h : i < l.length) : l[i]? = some (nth l i) := by rw [nth_eq h]; simp [h]
theorem ix1 (i : Nat) : ix 0 i 1 = i := by simp [ix]
theorem cell_row {w : World} {g q : Nat} {vs junk : List Value} {u : Value} {eo : TypeId} (hb : Blk w g (vs ++ junk) eo) (hu : vs[q]? = some u) : w.cell? ⟨g, ix 0 q 1, none⟩ = some u := by
  have e1 : ix 0 q 1 = q := by simp [ix]
  rw [e1]
  exact hb.cell (by rw [List.getElem?_append_left (List.getElem?_eq_some_iff.1 hu).1]; exact hu)

theorem checkpoint25 {n : Nat} (h : CompAt w B lo own T0 eG c vL vC vA vK vF vT vG) (hgood : c.Good n) (hn50 : n ≤ 50) (q : Nat) (hq : q < n) (f : Bool) :
    Gives Try.prog 36 [.pointer (some ⟨B, 0, none⟩), .int .i64 q, .bool f] w fun v w' => v = .tuple #[] ∧ CompTo w w' B lo own T0 eG (c.checkpoint q f) ∧ Below lo w w' := by
  have hlow := CompAt.low_le h
  obtain ⟨hq1, hq2, hq3, hq4⟩ := hgood.rows q hq
  have hgl := hgood.lens; have hgc := hgood.ckpts; have hgk := hgood.clocks; have hgf := hgood.forced; have hgn := hgood.now
  have hb := h.blk
  obtain ⟨gL, hvL, htL, hgL⟩ := id h.lens
  obtain ⟨gN, hvN, htN, hgN⟩ := id h.now
  obtain ⟨gC, capC, vsC, jC, hvC, hcC, htC, hbC, hlC, hrC⟩ := id h.ckpts
  obtain ⟨gK, capK, vsK, jK, hvK, hcK, htK, hbK, hlK, hrK⟩ := id h.clocks
  subst hvL; subst hvN; subst hvC; subst hvK
  obtain ⟨uC, huC⟩ := some_at (show q < vsC.length by omega)
  obtain ⟨uK, huK⟩ := some_at (show q < vsK.length by omega)
  have hoC := hrC q uC (nth c.ckpts q) huC (nth_some (by omega))
  have hoK := hrK q uK (nth c.clocks q) huK (nth_some (by omega))
  have hsC := hoC.isSlice
  have hcellC := cell_row hbC huC
  have hcellK := cell_row hbK huK
  obtain ⟨gr, cr, cur, hur, hbr, hcurl⟩ := hoK.1.form (by omega)
  subst hur
  have hgr : own gr = 200 + 1 + q := hoK.2 gr rfl
  refine fn_of Try.func36 rfl Try.ntmps36 (Nat.le_of_ble_eq_true rfl) ?_
  have hT := Below.refl w.heap.size w
  clear hT
  have hix : ix 0 ((((nth c.ckpts q).length : Int) - 1).toNat) 1 = (nth c.ckpts q).length - 1 := by rw [ix1]; omega
  refine e_seq fun K hK => ?_
  refine e_region_text rfl ?_
  refine q_move rfl rfl ?_
  refine q_nilCheck rfl rfl ?_
  refine q_field rfl rfl ?_
  refine q_field rfl rfl ?_
  refine q_assign rfl rfl ?_
  refine eseq_nil ?_
  refine hK _ _ ?_; clear hK
  refine e_seq fun K hK => ?_
  refine e_region_text rfl ?_
  refine q_move rfl rfl ?_
  refine q_nilCheck rfl rfl ?_
  refine q_field rfl rfl ?_
  refine q_load rfl (Blk.cell hb rfl) rfl ?_
  refine q_move rfl rfl ?_
  first | refine q_indexn rfl rfl (by omega) rfl ?_ | refine q_index rfl rfl ⟨by omega, by omega⟩ rfl ?_
  refine q_load rfl hcellC rfl ?_
  refine q_lenS rfl hsC rfl ?_
  refine q_sub rfl rfl (wr64 (by omega) (by omega)) rfl ?_
  refine q_assign rfl rfl ?_
  refine eseq_nil ?_
  refine hK _ _ ?_; clear hK
  refine e_seq fun K hK => ?_
  refine e_seq fun K hK => ?_
  refine e_region_draw mixed (fun _ => False) [0, 1, 3, 7, 0, 31, 63, 0, 255, 511, 0, 1024, 3072, 7168, 0, 31744, 64512, 131071] [] [0, 1, 2, 3, 4, 5, 6, 7, 8, 9, 10, 11, 12, 13, 14, 15, 16, 17] (by kernel_rfl) ?_
  refine q_move rfl rfl ?_
  refine q_nilCheck rfl rfl ?_
  refine q_field rfl rfl ?_
  refine q_load rfl (Blk.cell hb rfl) rfl ?_
  refine q_move rfl rfl ?_
  first | refine q_indexn rfl rfl (by omega) rfl ?_ | refine q_index rfl rfl ⟨by omega, by omega⟩ rfl ?_
  refine q_load rfl hcellC rfl ?_
  refine q_move rfl rfl ?_
  first | refine q_indexSn (by infer_instance) rfl hsC rfl (by first | omega | decide) rfl fun b29 o29 f29 => ?_ | refine q_indexS (by infer_instance) rfl hsC rfl (by first | omega | decide) (by first | omega | decide) rfl fun b29 o29 f29 => ?_
  refine q_load rfl (El.intCell f29) rfl ?_
  refine q_move rfl rfl ?_
  refine q_nilCheck rfl rfl ?_
  refine q_field rfl rfl ?_
  refine q_load rfl (Blk.cell hb rfl) rfl ?_
  refine q_move rfl rfl ?_
  first | refine q_indexn rfl rfl (by omega) rfl ?_ | refine q_index rfl rfl ⟨by omega, by omega⟩ rfl ?_
  refine q_load rfl (Blk.intAt hgL (by first | omega | (simp; omega))) rfl ?_
  refine q_eql rfl rfl rfl ?_
  refine eseq_nil ?_
  refine hK _ _ ?_; clear hK
  refine e_cond rfl (fun hb1 => ?_) (fun hb1 => ?_)
  · skip
    refine e_seq fun K hK => ?_
    refine e_region_draw mixed (fun _ => False) [0, 1, 3, 7, 15, 0, 63, 127, 0, 0, 512, 1536, 3584, 0, 15872, 32256, 65535, 131071] [] [0, 1, 2, 3, 4, 5, 6, 7, 8, 9, 10, 11, 12, 13, 14, 15, 16, 17] (by kernel_rfl) ?_
    refine q_move rfl rfl ?_
    refine q_nilCheck rfl rfl ?_
    refine q_field rfl rfl ?_
    refine q_field rfl rfl ?_
    refine q_load rfl (Blk.cell hb rfl) rfl ?_
    refine q_move rfl rfl ?_
    first | refine q_indexn rfl rfl (by omega) rfl ?_ | refine q_index rfl rfl ⟨by omega, by omega⟩ rfl ?_
    refine q_load rfl hcellK rfl ?_
    refine q_move rfl rfl ?_
    refine q_move rfl rfl ?_
    refine q_nilCheck rfl rfl ?_
    refine q_field rfl rfl ?_
    refine q_load rfl (Blk.cell hb rfl) rfl ?_
    refine q_move rfl rfl ?_
    first | refine q_indexn rfl rfl (by omega) rfl ?_ | refine q_index rfl rfl ⟨by omega, by omega⟩ rfl ?_
    refine q_load rfl (Blk.intAt hgN (by first | omega | (simp; omega))) rfl ?_
    first | refine q_indexn rfl rfl (by omega) rfl ?_ | refine q_index rfl rfl ⟨by omega, by omega⟩ rfl ?_
    refine q_store rfl rfl hbr (by rw [hix]; simp [Ty.int] at hcurl; omega) rfl rfl rfl fun w1 hb2 hO1 => ?_
    refine eseq_nil ?_
    refine hK _ _ ?_; clear hK
    refine e_ret ?_
    have hcond : nth (nth c.ckpts q) ((nth c.ckpts q).length - 1) = nth c.lens q := by
      rw [show ((((nth c.ckpts q).length : Int) - 1).toNat) = (nth c.ckpts q).length - 1 from by omega] at hb1; simpa using hb1
    rw [hix] at hb2
    obtain ⟨hR, hS⟩ := RowsAt.setCell rfl hcK htK hbK hlK hrK (by omega) huK hO1 (i := (nth c.ckpts q).length - 1) (x := nth c.now q) (fun cs tt hcs => by obtain ⟨rfl, rfl⟩ := Blk.inj hcs hbr; exact hb2)
    refine ⟨_, res0 rfl, rfl, ?_, Below.onlyB (Below.refl lo w) hO1 hbr.lt (h.low gr (by omega)).1⟩
    rw [Comp.checkpoint, if_pos hcond]
    have hne : B ≠ gr := by rintro rfl; have := h.tag; omega
    have hfew := h.few
    exact ⟨own, _, _, _, _, _, _, _, ⟨h.blk.only hO1 hne, h.tag, fun k hk => ⟨(h.low k hk).1, Nat.lt_of_lt_of_le (h.low k hk).2 hO1.size⟩, h.lens.step hS (by omega), h.arcs.step hS (by omega), h.now.step hS (by omega), h.fly.step hS (by omega), h.ckpts.step hS (by intro i hi; have := hfew.1; omega), hR, h.forced.step hS (by intro i hi; have := hfew.2.2; omega), by simpa using hfew⟩, hS.mono (by intro y hy; omega)⟩
  · skip
    have hcond : ¬ nth (nth c.ckpts q) ((nth c.ckpts q).length - 1) = nth c.lens q := by
      rw [show ((((nth c.ckpts q).length : Int) - 1).toNat) = (nth c.ckpts q).length - 1 from by omega] at hb1; simpa using hb1
    have hfew := h.few
    have hxB1 : ¬ uC.ownBlock = some B := fun e => by have e1x := hoC.2 _ e; have e2x := h.tag; omega
    have hxG1 : ¬ uC.ownBlock = some gC := fun e => by have e1x := hoC.2 _ e; omega
    have hxL1 : ¬ uC.ownBlock = some gL := fun e => by have e1x := hoC.2 _ e; have e2x := htL; omega
    have hxN1 : ¬ uC.ownBlock = some gN := fun e => by have e1x := hoC.2 _ e; have e2x := htN; omega
    have hBG1 : B ≠ gC := by rintro rfl; have e2x := h.tag; omega
    refine e_skip ?_
    refine hK _ _ ?_; clear hK
    refine e_seq fun K hK => ?_
    refine e_region_draw mixed (fun k => uC.ownBlock = some k) [0, 1, 3, 7, 0, 0, 32, 96, 224, 0, 992, 2016, 0, 4096, 12288, 28672, 0, 126976, 258048, 520192, 1048544, 2097151, 4194303] [19, 20] [0, 1, 2, 3, 4, 5, 6, 7, 8, 9, 10, 11, 12, 13, 14, 15, 16, 17, 18, 19, 20, 21, 22] (by kernel_rfl) ?_
    refine q_move rfl rfl ?_
    refine q_nilCheck rfl rfl ?_
    refine q_field rfl rfl ?_
    refine q_load rfl (Blk.cell hb rfl) rfl ?_
    refine q_move rfl rfl ?_
    refine q_move rfl rfl ?_
    refine q_nilCheck rfl rfl ?_
    refine q_field rfl rfl ?_
    refine q_load rfl (Blk.cell hb rfl) rfl ?_
    refine q_move rfl rfl ?_
    first | refine q_indexn rfl rfl (by omega) rfl ?_ | refine q_index rfl rfl ⟨by omega, by omega⟩ rfl ?_
    refine q_load rfl hcellC rfl ?_
    refine q_move rfl rfl ?_
    refine q_nilCheck rfl rfl ?_
    refine q_field rfl rfl ?_
    refine q_load rfl (Blk.cell hb rfl) rfl ?_
    refine q_move rfl rfl ?_
    first | refine q_indexn rfl rfl (by omega) rfl ?_ | refine q_index rfl rfl ⟨by omega, by omega⟩ rfl ?_
    refine q_load rfl (Blk.intAt hgL (by first | omega | (simp; omega))) rfl ?_
    refine q_slice1 rfl rfl rfl rfl rfl rfl fun wa1 ba1 hga1 hba1 hBa1 => ?_
    refine q_append1 rfl rfl rfl rfl (hoC.1.ext hBa1) rfl hba1 rfl (by omega) (Nat.zero_le _) rfl (fun _ k hk => hk) fun u1' wb1 hown1 hgr1 hnw1 => ?_
    first | refine q_indexn rfl rfl (by omega) rfl ?_ | refine q_index rfl rfl ⟨by omega, by omega⟩ rfl ?_
    refine q_store rfl rfl ((hbC.ext hBa1).grown hgr1 (fun e => hxG1 e.symm)) (by rw [ix1]; simp at hlC ⊢; omega) hown1.one rfl rfl fun w1 hst1 hO1 => ?_
    rw [ix1] at hst1
    obtain ⟨hR1, hS1⟩ := RowsAt.append (by first | rfl | simp) hcC htC hbC hlC hrC (by first | omega | (simp; omega)) huC hBa1 hgr1 hO1 (by simpa using hown1) hnw1.blk hst1
    have hlow1 : lo ≤ w.heap.size := CompAt.low_le h
    have hbw1 : B < w.heap.size := h.blk.lt
    have h1 : CompAt w1 B lo (retag own w.heap.size w1.heap.size (100 + 1 + q)) T0 eG { c with ckpts := c.ckpts.set q (nth c.ckpts q ++ [nth c.lens q]) } _ _ _ _ _ _ _ := ⟨((h.blk.ext hBa1).grown hgr1 (fun e => hxB1 e.symm)).only hO1 hBG1, (retag_old hbw1).trans h.tag, retag_low h.low hlow1 hS1.size (Nat.le_refl _), h.lens.step hS1 (by omega), h.arcs.step hS1 (by omega), h.now.step hS1 (by omega), h.fly.step hS1 (by omega), hR1, h.clocks.step hS1 (by intro i hi; have := hfew.1; have := hfew.2.1; have := hfew.2.2; (try simp at hi); omega), h.forced.step hS1 (by intro i hi; have := hfew.1; have := hfew.2.1; have := hfew.2.2; (try simp at hi); omega), by simpa using hfew⟩
    have hT1 : Below lo w w1 := by
      refine ?_
      refine Below.trans (hBa1.mono hlow1) ?_
      refine Below.trans (Below.grown (Below.refl lo wa1) hgr1 (Nat.le_trans hlow1 hBa1.size) fun k hk => (h.low k (by have h9 := hoC.2 k hk; omega)).1) ?_
      exact Below.onlyB (Below.refl lo wb1) hO1 (Nat.lt_of_lt_of_le hbC.lt (Nat.le_trans hBa1.size hgr1.size)) (h.low gC (by omega)).1
    have hb := h1.blk
    obtain ⟨gL2, hvL2, htL2, hgL2⟩ := id h1.lens
    obtain ⟨gN2, hvN2, htN2, hgN2⟩ := id h1.now
    obtain ⟨rfl⟩ : gL2 = gL := by simpa using hvL2.symm
    obtain ⟨rfl⟩ : gN2 = gN := by simpa using hvN2.symm
    obtain ⟨gK2, capK2, vsK2, jK2, hvK2, hcK2, htK2, hbK2, hlK2, hrK2⟩ := id h1.clocks
    obtain ⟨rfl, rfl⟩ : gK = gK2 ∧ capK = capK2 := by simpa using hvK2
    obtain ⟨u2, hu2⟩ := some_at (show q < vsK2.length by have e0 := hlK2; (try simp at e0); omega)
    have ho2 := hrK2 q u2 (nth c.clocks q) hu2 (show c.clocks[q]? = some (nth c.clocks q) from nth_some (by omega))
    have hcell2 := cell_row hbK2 hu2
    have hxB2 : ¬ u2.ownBlock = some B := fun e => by have e1x := ho2.2 _ e; have e2x := h1.tag; omega
    have hxG2 : ¬ u2.ownBlock = some gK := fun e => by have e1x := ho2.2 _ e; omega
    have hxL2 : ¬ u2.ownBlock = some gL := fun e => by have e1x := ho2.2 _ e; have e2x := htL2; omega
    have hxN2 : ¬ u2.ownBlock = some gN := fun e => by have e1x := ho2.2 _ e; have e2x := htN2; omega
    have hBG2 : B ≠ gK := by rintro rfl; have e2x := h1.tag; omega
    refine eseq_nil ?_
    refine hK _ _ ?_; clear hK
    refine e_seq fun K hK => ?_
    refine e_region_draw mixed (fun k => u2.ownBlock = some k) [0, 1, 3, 7, 15, 0, 0, 64, 192, 448, 960, 0, 4032, 8128, 0, 16384, 49152, 114688, 0, 507904, 1032192, 2080768, 4194240, 8388607, 16777215] [21, 22] [0, 1, 2, 3, 4, 5, 6, 7, 8, 9, 10, 11, 12, 13, 14, 15, 16, 17, 18, 19, 20, 21, 22, 23, 24] (by kernel_rfl) ?_
    refine q_move rfl rfl ?_
    refine q_nilCheck rfl rfl ?_
    refine q_field rfl rfl ?_
    refine q_field rfl rfl ?_
    refine q_load rfl (Blk.cell hb rfl) rfl ?_
    refine q_move rfl rfl ?_
    refine q_move rfl rfl ?_
    refine q_nilCheck rfl rfl ?_
    refine q_field rfl rfl ?_
    refine q_field rfl rfl ?_
    refine q_load rfl (Blk.cell hb rfl) rfl ?_
    refine q_move rfl rfl ?_
    first | refine q_indexn rfl rfl (by omega) rfl ?_ | refine q_index rfl rfl ⟨by omega, by omega⟩ rfl ?_
    refine q_load rfl hcell2 rfl ?_
    refine q_move rfl rfl ?_
    refine q_nilCheck rfl rfl ?_
    refine q_field rfl rfl ?_
    refine q_load rfl (Blk.cell hb rfl) rfl ?_
    refine q_move rfl rfl ?_
    first | refine q_indexn rfl rfl (by omega) rfl ?_ | refine q_index rfl rfl ⟨by omega, by omega⟩ rfl ?_
    refine q_load rfl (Blk.intAt hgN2 (by first | omega | (simp; omega))) rfl ?_
    refine q_slice1 rfl rfl rfl rfl rfl rfl fun wa2 ba2 hga2 hba2 hBa2 => ?_
    refine q_append1 rfl rfl rfl rfl (ho2.1.ext hBa2) rfl hba2 rfl (by omega) (Nat.zero_le _) rfl (fun _ k hk => hk) fun u2' wb2 hown2 hgr2 hnw2 => ?_
    first | refine q_indexn rfl rfl (by omega) rfl ?_ | refine q_index rfl rfl ⟨by omega, by omega⟩ rfl ?_
    refine q_store rfl rfl ((hbK2.ext hBa2).grown hgr2 (fun e => hxG2 e.symm)) (by rw [ix1]; simp at hlK2 ⊢; omega) hown2.one rfl rfl fun w2 hst2 hO2 => ?_
    rw [ix1] at hst2
    obtain ⟨hR2, hS2⟩ := RowsAt.append (by first | rfl | simp) hcK2 htK2 hbK2 hlK2 hrK2 (by first | omega | (simp; omega)) hu2 hBa2 hgr2 hO2 (by simpa using hown2) hnw2.blk hst2
    have hlow2 : lo ≤ w1.heap.size := CompAt.low_le h1
    have hbw2 : B < w1.heap.size := h1.blk.lt
    have h2 : CompAt w2 B lo (retag (retag own w.heap.size w1.heap.size (100 + 1 + q)) w1.heap.size w2.heap.size (200 + 1 + q)) T0 eG { c with ckpts := c.ckpts.set q (nth c.ckpts q ++ [nth c.lens q]), clocks := c.clocks.set q (nth c.clocks q ++ [nth c.now q]) } _ _ _ _ _ _ _ := ⟨((h1.blk.ext hBa2).grown hgr2 (fun e => hxB2 e.symm)).only hO2 hBG2, (retag_old hbw2).trans h1.tag, retag_low h1.low hlow2 hS2.size (Nat.le_refl _), h1.lens.step hS2 (by omega), h1.arcs.step hS2 (by omega), h1.now.step hS2 (by omega), h1.fly.step hS2 (by omega), h1.ckpts.step hS2 (by intro i hi; have := hfew.1; have := hfew.2.1; have := hfew.2.2; (try simp at hi); omega), hR2, h1.forced.step hS2 (by intro i hi; have := hfew.1; have := hfew.2.1; have := hfew.2.2; (try simp at hi); omega), by simpa using hfew⟩
    have hT2 : Below lo w w2 := by
      refine Below.trans hT1 ?_
      refine Below.trans (hBa2.mono hlow2) ?_
      refine Below.trans (Below.grown (Below.refl lo wa2) hgr2 (Nat.le_trans hlow2 hBa2.size) fun k hk => (h1.low k (by have h9 := ho2.2 k hk; omega)).1) ?_
      exact Below.onlyB (Below.refl lo wb2) hO2 (Nat.lt_of_lt_of_le hbK2.lt (Nat.le_trans hBa2.size hgr2.size)) (h1.low gK (by omega)).1
    have hb := h2.blk
    obtain ⟨gL3, hvL3, htL3, hgL3⟩ := id h2.lens
    obtain ⟨gN3, hvN3, htN3, hgN3⟩ := id h2.now
    obtain ⟨rfl⟩ : gL3 = gL := by simpa using hvL3.symm
    obtain ⟨rfl⟩ : gN3 = gN := by simpa using hvN3.symm
    obtain ⟨gF3, capF3, vsF3, jF3, hvF3, hcF3, htF3, hbF3, hlF3, hrF3⟩ := id h2.forced
    replace hvF3 : vF = .slice (some ⟨gF3, 0, none⟩) c.forced.length capF3 := hvF3
    subst hvF3
    obtain ⟨u3, hu3⟩ := some_at (show q < vsF3.length by have e0 := hlF3; (try simp at e0); omega)
    have ho3 := hrF3 q u3 (nth c.forced q) hu3 (show c.forced[q]? = some (nth c.forced q) from nth_some (by omega))
    have hcell3 := cell_row hbF3 hu3
    have hxB3 : ¬ u3.ownBlock = some B := fun e => by have e1x := ho3.2 _ e; have e2x := h2.tag; omega
    have hxG3 : ¬ u3.ownBlock = some gF3 := fun e => by have e1x := ho3.2 _ e; omega
    have hxL3 : ¬ u3.ownBlock = some gL := fun e => by have e1x := ho3.2 _ e; have e2x := htL3; omega
    have hxN3 : ¬ u3.ownBlock = some gN := fun e => by have e1x := ho3.2 _ e; have e2x := htN3; omega
    have hBG3 : B ≠ gF3 := by rintro rfl; have e2x := h2.tag; omega
    refine eseq_nil ?_
    refine hK _ _ ?_; clear hK
    refine e_region_draw mixed (fun k => u3.ownBlock = some k) [0, 1, 3, 7, 15, 0, 0, 64, 192, 448, 960, 0, 4032, 8128, 0, 16384, 65472, 131071, 262143] [15, 16] [0, 1, 2, 3, 4, 5, 6, 7, 8, 9, 10, 11, 12, 13, 14, 15, 16, 17, 18] (by kernel_rfl) ?_
    refine q_move rfl rfl ?_
    refine q_nilCheck rfl rfl ?_
    refine q_field rfl rfl ?_
    refine q_field rfl rfl ?_
    refine q_load rfl (Blk.cell hb rfl) rfl ?_
    refine q_move rfl rfl ?_
    refine q_move rfl rfl ?_
    refine q_nilCheck rfl rfl ?_
    refine q_field rfl rfl ?_
    refine q_field rfl rfl ?_
    refine q_load rfl (Blk.cell hb rfl) rfl ?_
    refine q_move rfl rfl ?_
    first | refine q_indexn rfl rfl (by omega) rfl ?_ | refine q_index rfl rfl ⟨by omega, by omega⟩ rfl ?_
    refine q_load rfl hcell3 rfl ?_
    refine q_move rfl rfl ?_
    refine q_slice1 rfl rfl rfl rfl rfl rfl fun wa3 ba3 hga3 hba3 hBa3 => ?_
    refine q_append1 rfl rfl rfl rfl (ho3.1.ext hBa3) rfl hba3 rfl (by omega) (Nat.zero_le _) rfl (fun _ k hk => hk) fun u3' wb3 hown3 hgr3 hnw3 => ?_
    first | refine q_indexn rfl rfl (by omega) rfl ?_ | refine q_index rfl rfl ⟨by omega, by omega⟩ rfl ?_
    refine q_store rfl rfl ((hbF3.ext hBa3).grown hgr3 (fun e => hxG3 e.symm)) (by rw [ix1]; simp at hlF3 ⊢; omega) hown3.one rfl rfl fun w3 hst3 hO3 => ?_
    rw [ix1] at hst3
    obtain ⟨hR3, hS3⟩ := RowsAt.append (by first | rfl | simp) hcF3 htF3 hbF3 hlF3 hrF3 (by first | omega | (simp; omega)) hu3 hBa3 hgr3 hO3 (by simpa using hown3) hnw3.blk hst3
    have hlow3 : lo ≤ w2.heap.size := CompAt.low_le h2
    have hbw3 : B < w2.heap.size := h2.blk.lt
    have h3 : CompAt w3 B lo (retag (retag (retag own w.heap.size w1.heap.size (100 + 1 + q)) w1.heap.size w2.heap.size (200 + 1 + q)) w2.heap.size w3.heap.size (300 + 1 + q)) T0 eG { c with ckpts := c.ckpts.set q (nth c.ckpts q ++ [nth c.lens q]), clocks := c.clocks.set q (nth c.clocks q ++ [nth c.now q]), forced := c.forced.set q (nth c.forced q ++ [f]) } _ _ _ _ _ _ _ := ⟨((h2.blk.ext hBa3).grown hgr3 (fun e => hxB3 e.symm)).only hO3 hBG3, (retag_old hbw3).trans h2.tag, retag_low h2.low hlow3 hS3.size (Nat.le_refl _), h2.lens.step hS3 (by omega), h2.arcs.step hS3 (by omega), h2.now.step hS3 (by omega), h2.fly.step hS3 (by omega), h2.ckpts.step hS3 (by intro i hi; have := hfew.1; have := hfew.2.1; have := hfew.2.2; (try simp at hi); omega), h2.clocks.step hS3 (by intro i hi; have := hfew.1; have := hfew.2.1; have := hfew.2.2; (try simp at hi); omega), hR3, by simpa using hfew⟩
    have hT3 : Below lo w w3 := by
      refine Below.trans hT2 ?_
      refine Below.trans (hBa3.mono hlow3) ?_
      refine Below.trans (Below.grown (Below.refl lo wa3) hgr3 (Nat.le_trans hlow3 hBa3.size) fun k hk => (h2.low k (by have h9 := ho3.2 k hk; omega)).1) ?_
      exact Below.onlyB (Below.refl lo wb3) hO3 (Nat.lt_of_lt_of_le hbF3.lt (Nat.le_trans hBa3.size hgr3.size)) (h2.low gF3 (by omega)).1
    refine eseq_nil ?_
    refine ⟨_, res0 rfl, rfl, ?_, hT3⟩
    rw [Comp.checkpoint, if_neg hcond]
    exact ⟨_, _, _, _, _, _, _, _, h3, ((hS1.mono (by intro y hy; omega)).trans0 (hS2.mono (by intro y hy; omega))).trans0 (hS3.mono (by intro y hy; omega))⟩
end Go.Proofs.Ytdpleaifhdlciaa
